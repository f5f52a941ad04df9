/- Requests: the program's step, place 11. -/
import Derived.Test.YtompjkkgaafllaaGreatLW9w
import Derived.Test.YtompjkkgaafllaaGreatLW9k
import Derived.Test.YtompjkkgaafllaaGreatPl
import Derived.Test.YtompjkkgaafllaaGreatLW20p4
set_option linter.unusedVariables false
set_option linter.unusedSimpArgs false
namespace Go.Proofs.YtompjkkgaafllaaGreat
open Go.Proofs.YtompjkkgaafllaaGreat.Sx Go.RowKit
set_option maxHeartbeats 16000000
set_option maxRecDepth 100000
theorem qXT (g:GW) {cs ms:List Value} {w:Wd} {m:Mach} (hw:rWo g cs w) (hM:qRB g ms m) (hsn:SnW w) (hb:BgW 1000000 w) (hsz:SmO m) (hgo:hGo w m) (h0:m.pc=11):Ok Tryz.prog qIA [.agg ⟨cs⟩,.agg ⟨ms⟩] g (HaP w m):=by
 obtain⟨hW9,hM9,hE9⟩:=q1A hgo (by omega)
 obtain⟨kW,kM,kE⟩:=ha11 h0
 rw [kW] at hW9
 rw [kM] at hM9
 rw [kE] at hE9
 clear kW kM kE
 have hs:=hgo.1
 obtain⟨v,gr,en,hS⟩:=id (suitB_iff.1 hs)
 obtain⟨oa,ca,ob,cb,oc,cc,od,cd,oe,ce,o1,t1,o2,t2,o3,t3,rfl,rfl,hw0,hM0,⟨i1,i2,i3⟩,hP,hV,hL,hC,hR,⟨a1,a2,a0,hP1⟩,⟨b1,b2,b0,hV1⟩,⟨c1,c2,c0,hL1⟩,⟨d1,d2,d0,hC1⟩,⟨e1,e2,e0,hR1⟩,hok,hop,hcf⟩:=qLE hw hM
 exact Ok.of_fn hm qRD 5 qLA (args:=[.v (.agg ⟨wQ w oa ca ob cb oc cc od cd oe ce⟩),.v (.agg ⟨mQ m o1 t1 o2 t2 o3 t3⟩)]) (by
  repeat((conv=>whnf);first|apply qza|apply qzb|apply qzc|apply qzd|apply qze|intro(_:Nat))
  conv=>whnf
  refine dT (by omega) ?_
  repeat((conv=>whnf);first|apply qza|apply qzb|apply qzc|apply qzd|apply qze|intro(_:Nat))
  conv=>whnf
  refine dF (by omega) ?_
  repeat((conv=>whnf);first|apply qza|apply qzb|apply qzc|apply qzd|apply qze|intro(_:Nat))
  conv=>whnf
  refine dF (by omega) ?_
  repeat((conv=>whnf);first|apply qza|apply qzb|apply qzc|apply qzd|apply qze|intro(_:Nat))
  conv=>whnf
  refine dF (by omega) ?_
  repeat((conv=>whnf);first|apply qza|apply qzb|apply qzc|apply qzd|apply qze|intro(_:Nat))
  conv=>whnf
  refine .inl ⟨_,qbA _ hw0 hM0 hsn hb,?_⟩
  repeat((conv=>whnf);first|apply qza|apply qzb|apply qzc|apply qzd|apply qze|intro(_:Nat))
  conv=>whnf
  refine⟨fun hx=>absurd (hs.symm.trans (nb1 hx)) (by decide),fun _=>?_⟩
  repeat((conv=>whnf);first|apply qza|apply qzb|apply qzc|apply qzd|apply qze|intro(_:Nat))
  conv=>whnf
  refine⟨fun _=>?_,fun _=>?_⟩
  case' refine_1 =>
   repeat((conv=>whnf);first|apply qza|apply qzb|apply qzc|apply qzd|apply qze|intro(_:Nat))
   conv=>whnf
   refine⟨fun hx=>absurd hx (by simp [h0]),fun _=>?_⟩
   repeat((conv=>whnf);first|apply qza|apply qzb|apply qzc|apply qzd|apply qze|intro(_:Nat))
   conv=>whnf
   refine⟨fun hx=>absurd hx (by simp [h0]),fun _=>?_⟩
   repeat((conv=>whnf);first|apply qza|apply qzb|apply qzc|apply qzd|apply qze|intro(_:Nat))
   conv=>whnf
   refine⟨fun hx=>absurd hx (by simp [h0]),fun _=>?_⟩
  all_goals (
   repeat((conv=>whnf);first|apply qza|apply qzb|apply qzc|apply qzd|apply qze|intro(_:Nat))
   conv=>whnf
   refine .inl ⟨_,q7A _,?_⟩
   repeat((conv=>whnf);first|apply qza|apply qzb|apply qzc|apply qzd|apply qze|intro(_:Nat))
   conv=>whnf
   refine⟨11,⟨h0,by decide⟩,?_⟩
   repeat((conv=>whnf);first|apply qza|apply qzb|apply qzc|apply qzd|apply qze|intro(_:Nat))
   conv=>whnf
   refine⟨fun h=>(nomatch h),fun _=>?_⟩
   repeat((conv=>whnf);first|apply qza|apply qzb|apply qzc|apply qzd|apply qze|intro(_:Nat))
   refine .inr ((qhA _ hw0 hb).mono fun v g3 hg3 hO=>?_)
   obtain⟨cs,T,rfl,hT⟩:=hO
   have hF:=qsA hT
   obtain⟨oa',ca',ob',cb',oc',cc',od',cd',oe',ce',rfl⟩:=qRA hF
   obtain⟨b1,k1,b2,k2,va,vb,vd,vn,T2,hq,hcv,hcg,htk,hE2,_,hPK⟩:=qgO hT hS.ver.2 hS.clu.2
   cases hq
   have hei:=(qhQ hF hS.ver.2 hS.clu.2 hS.end_.2).1
   obtain⟨hvi,hgi,hki⟩:=hS.idx
   obtain⟨hmV,hmG,hmE⟩:=hS.at_
   have hwu:=hok.word
   simp only [casB,hmE,evV,setE,hmV,hmG] at hW9 hM9 hE9
   by_cases hcas:(decide (en.head=m.word)&&qsC m.link)=true
   ·rw [if_pos hcas] at hW9 hE9
    rw [hcas] at hM9
    simp only [Bool.and_eq_true,decide_eq_true_eq] at hcas
    obtain⟨hc1,hc2⟩:=hcas
    have hpl:-1≤m.link∧m.link≤2147483646:=by simpa [qsC] using hc2
    obtain⟨b3,k3,nn,T3,hqn,hce,hN,hPE⟩:=qpJ hE2 hS.end_.2 (en':={en with head:=qWB m.word m.link}) (o:=0) (vs:=[.int .u64 (qWB m.word m.link)]) (by simp) (by simp [Value.oneCell']) (fun n=>rfl) rfl ⟨qNR hpl,hei.2.1⟩
    subst hqn
    obtain⟨b5,j5,bc,ty5,⟨hA,p1,p2,p3,p4⟩,_,hk5⟩:=hPK _ _ _ hPE
    repeat((conv=>whnf);first|apply qza|apply qzb|apply qzc|apply qzd|apply qze|intro(_:Nat))
    conv=>whnf
    refine⟨qvC,?_⟩
    simp only [if_true] at hM9
    repeat'((conv=>whnf);first|apply qza|apply qzb|apply qzc|apply qzd|apply qze|intro(_:Nat)|refine .inl ⟨_,qHS _ hwu hpl,?_⟩|refine⟨_,fun gp hle hin=>qCC gp (hin.cel (id:=6) rfl 13 rfl) (hin.cel (id:=6) rfl 15 rfl) (hin.cel (id:=6) rfl 16 rfl) (hin.cel (id:=5) rfl 4 rfl) hvi (hcv.mono hle) hgi (hcg.mono hle) hki,?_⟩|refine⟨_,hce 0 _ rfl,?_⟩|fail)
    refine And.intro (fun hx=>absurd hx (by simp [hc1])) (fun _=>?_)
    repeat'((conv=>whnf);first|apply qza|apply qzb|apply qzc|apply qzd|apply qze|intro(_:Nat)|refine⟨_,fun gp hle hin=>qCC gp (hin.cel (id:=6) rfl 13 rfl) (hin.cel (id:=6) rfl 15 rfl) (hin.cel (id:=6) rfl 16 rfl) (hin.cel (id:=5) rfl 4 rfl) hvi (hcv.mono hle) hgi (hcg.mono hle) hki,?_⟩|refine⟨_,hce 0 _ rfl,?_⟩|fail)
    refine And.intro (fun hx=>absurd hx (by decide)) (fun _=>?_)
    repeat'((conv=>whnf);first|apply qza|apply qzb|apply qzc|apply qzd|apply qze|intro(_:Nat)|refine⟨_,fun gp hle hin=>qCC gp (hin.cel (id:=6) rfl 13 rfl) (hin.cel (id:=6) rfl 15 rfl) (hin.cel (id:=6) rfl 16 rfl) (hin.cel (id:=5) rfl 4 rfl) hvi (hcv.mono hle) hgi (hcg.mono hle) hki,?_⟩|refine⟨_,hce 0 _ rfl,?_⟩|fail)
    conv=>whnf
    refine⟨b5,j5,bc,ty5,⟨by first|exact hA|(rw [← hA];rfl)|(rw [← hA,qpC]),p1,p2,p3,p4⟩,?_⟩
    repeat((conv=>whnf);first|apply qza|apply qzb|apply qzc|apply qzd|apply qze|intro(_:Nat))
    conv=>whnf
    refine fun g6 u6=>?_
    have hFx:=qsA (hk5 g6 u6)
    have hle6:g≤g6:=u6.le hg3 (fun h=>by have:=g.wf _ h;omega)
    have hcw:=u6.rd p2 p4
    rw [← hA] at hcw
    have hv6:=qYA (y:=({v with groups:=v.groups.set m.cluster.toNat ({gr with ends:=gr.ends.set m.end_.toNat ({en with head:=qWB m.word m.link}:EndC)}:Group)}:Version)) hS.ver.2
    have hx6:=qYA (y:=({gr with ends:=gr.ends.set m.end_.toNat ({en with head:=qWB m.word m.link}:EndC)}:Group)) hS.clu.2
    have hFv6:=qmL hFx
    obtain⟨oL6,cL6,oR6,cR6,oC6,cC6,oG6,cG6,hcv6,hsn6,hcK6,hcG6⟩:=quG hFv6 hv6
    obtain⟨ag6,rfl⟩:=qJA hcG6 hx6
    obtain⟨oE6,cE6,hcg6,_,hcE6⟩:=q0G hcG6 hx6
    have hvi6:0≤m.version∧m.version<w.versions.length:=hvi
    have hgi6:0≤m.cluster∧m.cluster<((v.groups.set m.cluster.toNat ({gr with ends:=gr.ends.set m.end_.toNat ({en with head:=qWB m.word m.link}:EndC)}:Group)).length:Nat):=by simpa only [List.length_set] using hgi
    have he6:=qYA (y:=({en with head:=qWB m.word m.link}:EndC)) hS.end_.2
    obtain⟨ae6,rfl⟩:=qJA hcE6 he6
    obtain⟨oN6,cN6,hce6,_,hcN6⟩:=q2G hcE6 he6
    have hki6:0≤m.end_∧m.end_<((gr.ends.set m.end_.toNat ({en with head:=qWB m.word m.link}:EndC)).length:Nat):=by simpa only [List.length_set] using hki
    repeat'((conv=>whnf);first|apply qza|apply qzb|apply qzc|apply qzd|apply qze|intro(_:Nat)|refine⟨_,fun gp hle hin=>qqD gp (hin.cel (id:=6) rfl 10 rfl) (hin.cel (id:=6) rfl 13 rfl) (hin.cel (id:=5) rfl 4 rfl) hvi6 (hcv6.mono hle),?_⟩|refine And.intro ?_ ?_|fail)
    all_goals (conv=>whnf)
    all_goals (first|exact Eq.refl _|(
    intro g2 hg
    refine⟨_,_,by rw [hE9]<;>rfl,by rw [hW9];exact qGA _ _ _ _ hg hFx,?_⟩
    rw [hM9]
    exact⟨_,_,_,rfl,{hok with pc:=show InR (12:Int) by decide},hop,qDA _ _ _ _ (GW.trans hle6 hg) hcf⟩))
   ·rw [if_neg hcas] at hW9 hE9
    rw [if_neg hcas] at hM9
    obtain⟨b3,k3,nn,T3,hqn,hce,hN,hPE⟩:=qpJ hE2 hS.end_.2 (en':=en) (o:=0) (vs:=[.int .u64 en.head]) (by simp) (by simp [Value.oneCell']) (fun n=>rfl) rfl ⟨hei.1,hei.2.1⟩
    subst hqn
    repeat((conv=>whnf);first|apply qza|apply qzb|apply qzc|apply qzd|apply qze|intro(_:Nat))
    conv=>whnf
    refine⟨qvC,?_⟩
    repeat'((conv=>whnf);first|apply qza|apply qzb|apply qzc|apply qzd|apply qze|intro(_:Nat)|refine .inl ⟨_,qCR _ hwu hok.link,?_⟩|refine⟨_,fun gp hle hin=>qCC gp (hin.cel (id:=6) rfl 13 rfl) (hin.cel (id:=6) rfl 15 rfl) (hin.cel (id:=6) rfl 16 rfl) (hin.cel (id:=5) rfl 4 rfl) hvi (hcv.mono hle) hgi (hcg.mono hle) hki,?_⟩|refine⟨_,hce 0 _ rfl,?_⟩|fail)
    refine And.intro (fun _=>?_) (fun z=>?_)
    ·repeat'((conv=>whnf);first|apply qza|apply qzb|apply qzc|apply qzd|apply qze|intro(_:Nat)|refine⟨_,fun gp hle hin=>qCC gp (hin.cel (id:=6) rfl 13 rfl) (hin.cel (id:=6) rfl 15 rfl) (hin.cel (id:=6) rfl 16 rfl) (hin.cel (id:=5) rfl 4 rfl) hvi (hcv.mono hle) hgi (hcg.mono hle) hki,?_⟩|refine⟨_,hce 0 _ rfl,?_⟩|refine .inl ⟨_,qvL _ hei.1,?_⟩|refine⟨_,fun gp hle hin=>qqD gp (hin.cel (id:=6) rfl 10 rfl) (hin.cel (id:=6) rfl 13 rfl) (hin.cel (id:=5) rfl 4 rfl) hvi (hcv.mono hle),?_⟩|refine And.intro ?_ ?_|fail)
     all_goals (conv=>whnf)
     all_goals (first|exact Eq.refl _|(
     intro g2 hg
     refine⟨_,_,by rw [hE9]<;>rfl,by rw [hW9];exact qGA _ _ _ _ hg hF,?_⟩
     rw [hM9]
     exact⟨_,_,_,rfl,{hok with pc:=show InR (9:Int) by decide},hop,qDA _ _ _ _ (GW.trans hg3 hg) hcf⟩))
    ·have hc1:en.head=m.word:=by simpa using z
     have hc2:qsC m.link=false:=by
      cases hpb:qsC m.link
      ·rfl
      ·exact absurd (by simp [hc1,hpb]) hcas
     repeat((conv=>whnf);first|apply qza|apply qzb|apply qzc|apply qzd|apply qze|intro(_:Nat))
     refine And.intro (fun _=>?_) (fun hx=>absurd hx (by simp [hc2]))
     repeat'((conv=>whnf);first|apply qza|apply qzb|apply qzc|apply qzd|apply qze|intro(_:Nat)|refine⟨_,fun gp hle hin=>qCC gp (hin.cel (id:=6) rfl 13 rfl) (hin.cel (id:=6) rfl 15 rfl) (hin.cel (id:=6) rfl 16 rfl) (hin.cel (id:=5) rfl 4 rfl) hvi (hcv.mono hle) hgi (hcg.mono hle) hki,?_⟩|refine⟨_,hce 0 _ rfl,?_⟩|refine .inl ⟨_,qvL _ hei.1,?_⟩|refine⟨_,fun gp hle hin=>qqD gp (hin.cel (id:=6) rfl 10 rfl) (hin.cel (id:=6) rfl 13 rfl) (hin.cel (id:=5) rfl 4 rfl) hvi (hcv.mono hle),?_⟩|refine And.intro ?_ ?_|fail)
     all_goals (conv=>whnf)
     all_goals (first|exact Eq.refl _|(
     intro g2 hg
     refine⟨_,_,by rw [hE9]<;>rfl,by rw [hW9];exact qGA _ _ _ _ hg hF,?_⟩
     rw [hM9]
     exact⟨_,_,_,rfl,{hok with pc:=show InR (9:Int) by decide},hop,qDA _ _ _ _ (GW.trans hg3 hg) hcf⟩))))
/- Requests: the program's step,place 12. -/
open Go.Proofs.YtompjkkgaafllaaGreat.Sx Go.RowKit
theorem qWT (g:GW) {cs ms:List Value} {w:Wd} {m:Mach} (hw:rWo g cs w) (hM:qRB g ms m) (hsn:SnW w) (hb:BgW 1000000 w) (hsz:SmO m) (hgo:hGo w m) (h0:m.pc=12):Ok Tryz.prog qIA [.agg ⟨cs⟩,.agg ⟨ms⟩] g (HaP w m):=by
 obtain⟨hW9,hM9,hE9⟩:=q1A hgo (by omega)
 obtain⟨kW,kM,kE⟩:=ha12 h0
 rw [kW] at hW9
 rw [kM] at hM9
 rw [kE] at hE9
 clear kW kM kE
 have hs:=hgo.1
 obtain⟨v,gr,en,hS⟩:=id (suitB_iff.1 hs)
 obtain⟨oa,ca,ob,cb,oc,cc,od,cd,oe,ce,o1,t1,o2,t2,o3,t3,rfl,rfl,hw0,hM0,⟨i1,i2,i3⟩,hP,hV,hL,hC,hR,⟨a1,a2,a0,hP1⟩,⟨b1,b2,b0,hV1⟩,⟨c1,c2,c0,hL1⟩,⟨d1,d2,d0,hC1⟩,⟨e1,e2,e0,hR1⟩,hok,hop,hcf⟩:=qLE hw hM
 exact Ok.of_fn hm qRD 5 qLA (args:=[.v (.agg ⟨wQ w oa ca ob cb oc cc od cd oe ce⟩),.v (.agg ⟨mQ m o1 t1 o2 t2 o3 t3⟩)]) (by
  repeat((conv=>whnf);first|apply qza|apply qzb|apply qzc|apply qzd|apply qze|intro(_:Nat))
  conv=>whnf
  refine dT (by omega) ?_
  repeat((conv=>whnf);first|apply qza|apply qzb|apply qzc|apply qzd|apply qze|intro(_:Nat))
  conv=>whnf
  refine dF (by omega) ?_
  repeat((conv=>whnf);first|apply qza|apply qzb|apply qzc|apply qzd|apply qze|intro(_:Nat))
  conv=>whnf
  refine dF (by omega) ?_
  repeat((conv=>whnf);first|apply qza|apply qzb|apply qzc|apply qzd|apply qze|intro(_:Nat))
  conv=>whnf
  refine dF (by omega) ?_
  repeat((conv=>whnf);first|apply qza|apply qzb|apply qzc|apply qzd|apply qze|intro(_:Nat))
  conv=>whnf
  refine .inl ⟨_,qbA _ hw0 hM0 hsn hb,?_⟩
  repeat((conv=>whnf);first|apply qza|apply qzb|apply qzc|apply qzd|apply qze|intro(_:Nat))
  conv=>whnf
  refine⟨fun hx=>absurd (hs.symm.trans (nb1 hx)) (by decide),fun _=>?_⟩
  repeat((conv=>whnf);first|apply qza|apply qzb|apply qzc|apply qzd|apply qze|intro(_:Nat))
  conv=>whnf
  refine⟨fun _=>?_,fun _=>?_⟩
  case' refine_1 =>
   repeat((conv=>whnf);first|apply qza|apply qzb|apply qzc|apply qzd|apply qze|intro(_:Nat))
   conv=>whnf
   refine⟨fun hx=>absurd hx (by simp [h0]),fun _=>?_⟩
   repeat((conv=>whnf);first|apply qza|apply qzb|apply qzc|apply qzd|apply qze|intro(_:Nat))
   conv=>whnf
   refine⟨fun hx=>absurd hx (by simp [h0]),fun _=>?_⟩
   repeat((conv=>whnf);first|apply qza|apply qzb|apply qzc|apply qzd|apply qze|intro(_:Nat))
   conv=>whnf
   refine⟨fun hx=>absurd hx (by simp [h0]),fun _=>?_⟩
  all_goals (
   repeat((conv=>whnf);first|apply qza|apply qzb|apply qzc|apply qzd|apply qze|intro(_:Nat))
   conv=>whnf
   refine .inl ⟨_,q7A _,?_⟩
   repeat((conv=>whnf);first|apply qza|apply qzb|apply qzc|apply qzd|apply qze|intro(_:Nat))
   conv=>whnf
   refine⟨12,⟨h0,by decide⟩,?_⟩
   repeat((conv=>whnf);first|apply qza|apply qzb|apply qzc|apply qzd|apply qze|intro(_:Nat))
   conv=>whnf
   refine⟨fun h=>(nomatch h),fun _=>?_⟩
   repeat((conv=>whnf);first|apply qza|apply qzb|apply qzc|apply qzd|apply qze|intro(_:Nat))
   refine .inr ((qhA _ hw0 hb).mono fun v g3 hg3 hO=>?_)
   obtain⟨cs,T,rfl,hT⟩:=hO
   have hF:=qsA hT
   obtain⟨oa',ca',ob',cb',oc',cc',od',cd',oe',ce',rfl⟩:=qRA hF
   obtain⟨b1,k1,b2,k2,va,vb,vd,vn,T2,hq,hcv,hcg,htk,hE2,_,hPK⟩:=qgO hT hS.ver.2 hS.clu.2
   cases hq
   have hei:=(qhQ hF hS.ver.2 hS.clu.2 hS.end_.2).1
   obtain⟨b3,k3,nn,T3,hqn,hce,hN,hPE⟩:=qpJ hE2 hS.end_.2 (en':={en with active:=wI (en.active+1)}) (o:=2) (vs:=[.int .i64 (wI (en.active+1))]) (by simp) (by simp [Value.oneCell']) (fun n=>rfl) rfl ⟨hei.1,qOL _⟩
   subst hqn
   obtain⟨b5,j5,bc,ty5,⟨hA,p1,p2,p3,p4⟩,_,hk5⟩:=hPK _ _ _ hPE
   obtain⟨hvi,hgi,hki⟩:=hS.idx
   obtain⟨hmV,hmG,hmE⟩:=hS.at_
   rw [hmE] at hW9 hE9
   simp only [setE,hmV,hmG] at hW9
   simp only [evV,hmV] at hE9
   repeat((conv=>whnf);first|apply qza|apply qzb|apply qzc|apply qzd|apply qze|intro(_:Nat))
   conv=>whnf
   refine⟨q8F,?_⟩
   repeat'((conv=>whnf);first|apply qza|apply qzb|apply qzc|apply qzd|apply qze|intro(_:Nat)|refine⟨_,fun gp hle hin=>qCC gp (hin.cel (id:=6) rfl 13 rfl) (hin.cel (id:=6) rfl 15 rfl) (hin.cel (id:=6) rfl 16 rfl) (hin.cel (id:=5) rfl 4 rfl) hvi (hcv.mono hle) hgi (hcg.mono hle) hki,?_⟩|refine⟨_,hce 2 _ rfl,?_⟩|fail)
   conv=>whnf
   refine⟨b5,j5,bc,ty5,⟨by first|exact hA|(rw [← hA];rfl)|(rw [← hA,qpC]),p1,p2,p3,p4⟩,?_⟩
   repeat((conv=>whnf);first|apply qza|apply qzb|apply qzc|apply qzd|apply qze|intro(_:Nat))
   conv=>whnf
   refine fun g6 u6=>?_
   have hFx:=qsA (hk5 g6 u6)
   have hle6:g≤g6:=u6.le hg3 (fun h=>by have:=g.wf _ h;omega)
   have hcw:=u6.rd p2 p4
   rw [← hA] at hcw
   have hv6:=qYA (y:=({v with groups:=v.groups.set m.cluster.toNat ({gr with ends:=gr.ends.set m.end_.toNat ({en with active:=wI (en.active+1)}:EndC)}:Group)}:Version)) hS.ver.2
   have hx6:=qYA (y:=({gr with ends:=gr.ends.set m.end_.toNat ({en with active:=wI (en.active+1)}:EndC)}:Group)) hS.clu.2
   have hFv6:=qmL hFx
   obtain⟨oL6,cL6,oR6,cR6,oC6,cC6,oG6,cG6,hcv6,hsn6,hcK6,hcG6⟩:=quG hFv6 hv6
   obtain⟨ag6,rfl⟩:=qJA hcG6 hx6
   obtain⟨oE6,cE6,hcg6,_,hcE6⟩:=q0G hcG6 hx6
   have hvi6:0≤m.version∧m.version<w.versions.length:=hvi
   have hgi6:0≤m.cluster∧m.cluster<((v.groups.set m.cluster.toNat ({gr with ends:=gr.ends.set m.end_.toNat ({en with active:=wI (en.active+1)}:EndC)}:Group)).length:Nat):=by simpa only [List.length_set] using hgi
   have he6:=qYA (y:=({en with active:=wI (en.active+1)}:EndC)) hS.end_.2
   obtain⟨ae6,rfl⟩:=qJA hcE6 he6
   obtain⟨oN6,cN6,hce6,_,hcN6⟩:=q2G hcE6 he6
   have hki6:0≤m.end_∧m.end_<((gr.ends.set m.end_.toNat ({en with active:=wI (en.active+1)}:EndC)).length:Nat):=by simpa only [List.length_set] using hki
   repeat'((conv=>whnf);first|apply qza|apply qzb|apply qzc|apply qzd|apply qze|intro(_:Nat)|refine⟨_,fun gp hle hin=>qCC gp (hin.cel (id:=6) rfl 13 rfl) (hin.cel (id:=6) rfl 15 rfl) (hin.cel (id:=6) rfl 16 rfl) (hin.cel (id:=5) rfl 4 rfl) hvi6 (hcv6.mono hle) hgi6 (hcg6.mono hle) hki6,?_⟩|refine⟨_,hce6 2 _ rfl,?_⟩|refine⟨_,fun gp hle hin=>qqD gp (hin.cel (id:=6) rfl 10 rfl) (hin.cel (id:=6) rfl 13 rfl) (hin.cel (id:=5) rfl 4 rfl) hvi6 (hcv6.mono hle),?_⟩|refine And.intro ?_ ?_|fail)
   all_goals (conv=>whnf)
   all_goals (first|exact Eq.refl _|(
   intro g2 hg
   refine⟨_,_,by rw [hE9]<;>rfl,by rw [hW9];exact qGA _ _ _ _ hg hFx,?_⟩
   rw [hM9]
   exact⟨_,_,_,rfl,{hok with pc:=show InR (20:Int) by decide,answer:=⟨z1,hok.version,hok.cluster,hok.end_,hok.slot,hok.listen,z0,qzN⟩},hop,qDA _ _ _ _ (GW.trans hle6 hg) hcf⟩))))
/- Requests: the program's step,place 20. -/
open Go.Proofs.YtompjkkgaafllaaGreat.Sx Go.RowKit
theorem qVT (g:GW) {cs ms:List Value} {w:Wd} {m:Mach} (hw:rWo g cs w) (hM:qRB g ms m) (hsn:SnW w) (hb:BgW 1000000 w) (hsz:SmO m) (hgo:hGo w m) (h0:m.pc=20):Ok Tryz.prog qIA [.agg ⟨cs⟩,.agg ⟨ms⟩] g (HaP w m):=by
 obtain⟨hW9,hM9,hE9⟩:=q1A hgo (by omega)
 obtain⟨kW,kM,kE⟩:=ha20 h0
 rw [kW] at hW9
 rw [kM] at hM9
 rw [kE] at hE9
 clear kW kM kE
 have hs:=hgo.1
 obtain⟨v,gr,en,hS⟩:=id (suitB_iff.1 hs)
 obtain⟨oa,ca,ob,cb,oc,cc,od,cd,oe,ce,o1,t1,o2,t2,o3,t3,rfl,rfl,hw0,hM0,⟨i1,i2,i3⟩,hP,hV,hL,hC,hR,⟨a1,a2,a0,hP1⟩,⟨b1,b2,b0,hV1⟩,⟨c1,c2,c0,hL1⟩,⟨d1,d2,d0,hC1⟩,⟨e1,e2,e0,hR1⟩,hok,hop,hcf⟩:=qLE hw hM
 exact Ok.of_fn hm qRD 5 qLA (args:=[.v (.agg ⟨wQ w oa ca ob cb oc cc od cd oe ce⟩),.v (.agg ⟨mQ m o1 t1 o2 t2 o3 t3⟩)]) (by
  repeat((conv=>whnf);first|apply qza|apply qzb|apply qzc|apply qzd|apply qze|intro(_:Nat))
  conv=>whnf
  refine dT (by omega) ?_
  repeat((conv=>whnf);first|apply qza|apply qzb|apply qzc|apply qzd|apply qze|intro(_:Nat))
  conv=>whnf
  refine dF (by omega) ?_
  repeat((conv=>whnf);first|apply qza|apply qzb|apply qzc|apply qzd|apply qze|intro(_:Nat))
  conv=>whnf
  refine dF (by omega) ?_
  repeat((conv=>whnf);first|apply qza|apply qzb|apply qzc|apply qzd|apply qze|intro(_:Nat))
  conv=>whnf
  refine dF (by omega) ?_
  repeat((conv=>whnf);first|apply qza|apply qzb|apply qzc|apply qzd|apply qze|intro(_:Nat))
  conv=>whnf
  refine .inl ⟨_,qbA _ hw0 hM0 hsn hb,?_⟩
  repeat((conv=>whnf);first|apply qza|apply qzb|apply qzc|apply qzd|apply qze|intro(_:Nat))
  conv=>whnf
  refine⟨fun hx=>absurd (hs.symm.trans (nb1 hx)) (by decide),fun _=>?_⟩
  repeat((conv=>whnf);first|apply qza|apply qzb|apply qzc|apply qzd|apply qze|intro(_:Nat))
  conv=>whnf
  refine⟨fun _=>?_,fun _=>?_⟩
  case' refine_1 =>
   repeat((conv=>whnf);first|apply qza|apply qzb|apply qzc|apply qzd|apply qze|intro(_:Nat))
   conv=>whnf
   refine⟨fun hx=>absurd hx (by simp [h0]),fun _=>?_⟩
   repeat((conv=>whnf);first|apply qza|apply qzb|apply qzc|apply qzd|apply qze|intro(_:Nat))
   conv=>whnf
   refine⟨fun hx=>absurd hx (by simp [h0]),fun _=>?_⟩
   repeat((conv=>whnf);first|apply qza|apply qzb|apply qzc|apply qzd|apply qze|intro(_:Nat))
   conv=>whnf
   refine⟨fun hx=>absurd hx (by simp [h0]),fun _=>?_⟩
  all_goals (
   repeat((conv=>whnf);first|apply qza|apply qzb|apply qzc|apply qzd|apply qze|intro(_:Nat))
   conv=>whnf
   refine .inl ⟨_,q7A _,?_⟩
   repeat((conv=>whnf);first|apply qza|apply qzb|apply qzc|apply qzd|apply qze|intro(_:Nat))
   conv=>whnf
   refine⟨20,⟨h0,by decide⟩,?_⟩
   repeat((conv=>whnf);first|apply qza|apply qzb|apply qzc|apply qzd|apply qze|intro(_:Nat))
   conv=>whnf
   refine⟨fun h=>(nomatch h),fun _=>?_⟩
   repeat((conv=>whnf);first|apply qza|apply qzb|apply qzc|apply qzd|apply qze|intro(_:Nat))
   refine .inr ((qhA _ hw0 hb).mono fun v g3 hg3 hO=>?_)
   obtain⟨cs,T,rfl,hT⟩:=hO
   have hF:=qsA hT
   obtain⟨oa',ca',ob',cb',oc',cc',od',cd',oe',ce',rfl⟩:=qRA hF
   repeat((conv=>whnf);first|apply qza|apply qzb|apply qzc|apply qzd|apply qze|intro(_:Nat))
   conv=>whnf
   refine⟨qkE,?_⟩
   repeat((conv=>whnf);first|apply qza|apply qzb|apply qzc|apply qzd|apply qze|intro(_:Nat))
   refine And.intro (fun z=>?_) (fun z=>?_)
   ·have z:=of_decide_eq_true z
    have hk:qmG m=0:=if_neg (by omega)
    obtain⟨row,hrow,hrl⟩:=hS.row
    obtain⟨y,hy⟩:=qBA (l:=row) (i:=(0:Int).toNat) (by omega)
    have hcn:cnt w m.thread (0:Int)=y:=by unfold cnt;rw [hrow,Option.getD_some,hy];rfl
    have hro:(w.counts[m.thread.toNat]?).getD []=row:=by rw [hrow];rfl
    rw [hk] at hW9 hE9
    simp only [addCnt,hcn,hro] at hW9
    obtain⟨b1,k1,b2,k2,hq,hcr,hcy,b5,j5,bc,ty5,⟨hA,p1,p2,p3,p4⟩,_,hk5⟩:=qpH hT hrow hy (qiQ (y+1))
    cases hq
    have hth:=hS.thread
    have hti:0≤m.thread∧m.thread<w.counts.length:=⟨hth.1,by have:=(List.getElem?_eq_some_iff.1 hrow).1;omega⟩
    have hyi:0≤(0:Int)∧(0:Int)<(row.length:Nat):=by omega
    repeat'((conv=>whnf);first|apply qza|apply qzb|apply qzc|apply qzd|apply qze|intro(_:Nat)|refine⟨_,rfl,hti,?_⟩|refine⟨_,hcr 0 _ rfl,?_⟩|refine⟨_,rfl,hyi,?_⟩|refine⟨_,hcy 0 _ rfl,?_⟩|refine And.intro ?_ ?_|fail)
    conv=>whnf
    refine⟨b5,j5,bc,ty5,⟨by first|exact hA|(rw [← hA];rfl)|(rw [← hA,qpC]),p1,p2,p3,p4⟩,?_⟩
    repeat((conv=>whnf);first|apply qza|apply qzb|apply qzc|apply qzd|apply qze|intro(_:Nat))
    conv=>whnf
    refine fun g6 u6=>?_
    have hFx:=qsA (hk5 g6 u6)
    have hle6:g≤g6:=u6.le hg3 (fun h=>by have:=g.wf _ h;omega)
    have hcw:=u6.rd p2 p4
    rw [← hA] at hcw
    repeat'((conv=>whnf);first|apply qza|apply qzb|apply qzc|apply qzd|apply qze|intro(_:Nat)|refine⟨_,fun gp hle hin=>qqA gp (hin.cel (id:=6) rfl 10 rfl),?_⟩|refine And.intro ?_ ?_|fail)
    all_goals (conv=>whnf)
    all_goals (first|exact Eq.refl _|(
    intro g2 hg
    refine⟨_,_,by rw [hE9]<;>rfl,by rw [hW9];exact qGA _ _ _ _ hg hFx,?_⟩
    rw [hM9]
    exact⟨_,_,_,rfl,{hok with pc:=show InR (21:Int) by decide},hop,qDA _ _ _ _ (GW.trans hle6 hg) hcf⟩))
   ·have z:=of_decide_eq_false z
    repeat((conv=>whnf);first|apply qza|apply qzb|apply qzc|apply qzd|apply qze|intro(_:Nat))
    refine And.intro (fun z2=>?_) (fun z2=>?_)
    ·have z2:=of_decide_eq_true z2
     have hk:qmG m=0:=if_neg (by omega)
     obtain⟨row,hrow,hrl⟩:=hS.row
     obtain⟨y,hy⟩:=qBA (l:=row) (i:=(0:Int).toNat) (by omega)
     have hcn:cnt w m.thread (0:Int)=y:=by unfold cnt;rw [hrow,Option.getD_some,hy];rfl
     have hro:(w.counts[m.thread.toNat]?).getD []=row:=by rw [hrow];rfl
     rw [hk] at hW9 hE9
     simp only [addCnt,hcn,hro] at hW9
     obtain⟨b1,k1,b2,k2,hq,hcr,hcy,b5,j5,bc,ty5,⟨hA,p1,p2,p3,p4⟩,_,hk5⟩:=qpH hT hrow hy (qiQ (y+1))
     cases hq
     have hth:=hS.thread
     have hti:0≤m.thread∧m.thread<w.counts.length:=⟨hth.1,by have:=(List.getElem?_eq_some_iff.1 hrow).1;omega⟩
     have hyi:0≤(0:Int)∧(0:Int)<(row.length:Nat):=by omega
     repeat'((conv=>whnf);first|apply qza|apply qzb|apply qzc|apply qzd|apply qze|intro(_:Nat)|refine⟨_,rfl,hti,?_⟩|refine⟨_,hcr 0 _ rfl,?_⟩|refine⟨_,rfl,hyi,?_⟩|refine⟨_,hcy 0 _ rfl,?_⟩|refine And.intro ?_ ?_|fail)
     conv=>whnf
     refine⟨b5,j5,bc,ty5,⟨by first|exact hA|(rw [← hA];rfl)|(rw [← hA,qpC]),p1,p2,p3,p4⟩,?_⟩
     repeat((conv=>whnf);first|apply qza|apply qzb|apply qzc|apply qzd|apply qze|intro(_:Nat))
     conv=>whnf
     refine fun g6 u6=>?_
     have hFx:=qsA (hk5 g6 u6)
     have hle6:g≤g6:=u6.le hg3 (fun h=>by have:=g.wf _ h;omega)
     have hcw:=u6.rd p2 p4
     rw [← hA] at hcw
     repeat'((conv=>whnf);first|apply qza|apply qzb|apply qzc|apply qzd|apply qze|intro(_:Nat)|refine⟨_,fun gp hle hin=>qqA gp (hin.cel (id:=6) rfl 10 rfl),?_⟩|refine And.intro ?_ ?_|fail)
     all_goals (conv=>whnf)
     all_goals (first|exact Eq.refl _|(
     intro g2 hg
     refine⟨_,_,by rw [hE9]<;>rfl,by rw [hW9];exact qGA _ _ _ _ hg hFx,?_⟩
     rw [hM9]
     exact⟨_,_,_,rfl,{hok with pc:=show InR (21:Int) by decide},hop,qDA _ _ _ _ (GW.trans hle6 hg) hcf⟩))
    ·have z2:=of_decide_eq_false z2
     have hk:qmG m=m.answer.kind:=if_pos (by omega)
     obtain⟨row,hrow,hrl⟩:=hS.row
     obtain⟨y,hy⟩:=qBA (l:=row) (i:=(m.answer.kind).toNat) (by omega)
     have hcn:cnt w m.thread (m.answer.kind)=y:=by unfold cnt;rw [hrow,Option.getD_some,hy];rfl
     have hro:(w.counts[m.thread.toNat]?).getD []=row:=by rw [hrow];rfl
     rw [hk] at hW9 hE9
     simp only [addCnt,hcn,hro] at hW9
     obtain⟨b1,k1,b2,k2,hq,hcr,hcy,b5,j5,bc,ty5,⟨hA,p1,p2,p3,p4⟩,_,hk5⟩:=qpH hT hrow hy (qiQ (y+1))
     cases hq
     have hth:=hS.thread
     have hti:0≤m.thread∧m.thread<w.counts.length:=⟨hth.1,by have:=(List.getElem?_eq_some_iff.1 hrow).1;omega⟩
     have hyi:0≤(m.answer.kind)∧(m.answer.kind)<(row.length:Nat):=by omega
     repeat'((conv=>whnf);first|apply qza|apply qzb|apply qzc|apply qzd|apply qze|intro(_:Nat)|refine⟨_,rfl,hti,?_⟩|refine⟨_,hcr 0 _ rfl,?_⟩|refine⟨_,rfl,hyi,?_⟩|refine⟨_,hcy 0 _ rfl,?_⟩|refine And.intro ?_ ?_|fail)
     conv=>whnf
     refine⟨b5,j5,bc,ty5,⟨by first|exact hA|(rw [← hA];rfl)|(rw [← hA,qpC]),p1,p2,p3,p4⟩,?_⟩
     repeat((conv=>whnf);first|apply qza|apply qzb|apply qzc|apply qzd|apply qze|intro(_:Nat))
     conv=>whnf
     refine fun g6 u6=>?_
     have hFx:=qsA (hk5 g6 u6)
     have hle6:g≤g6:=u6.le hg3 (fun h=>by have:=g.wf _ h;omega)
     have hcw:=u6.rd p2 p4
     rw [← hA] at hcw
     repeat'((conv=>whnf);first|apply qza|apply qzb|apply qzc|apply qzd|apply qze|intro(_:Nat)|refine⟨_,fun gp hle hin=>qqA gp (hin.cel (id:=6) rfl 10 rfl),?_⟩|refine And.intro ?_ ?_|fail)
     all_goals (conv=>whnf)
     all_goals (first|exact Eq.refl _|(
     intro g2 hg
     refine⟨_,_,by rw [hE9]<;>rfl,by rw [hW9];exact qGA _ _ _ _ hg hFx,?_⟩
     rw [hM9]
     exact⟨_,_,_,rfl,{hok with pc:=show InR (21:Int) by decide},hop,qDA _ _ _ _ (GW.trans hle6 hg) hcf⟩))))
/- Requests: the program's step,place 21. -/
open Go.Proofs.YtompjkkgaafllaaGreat.Sx Go.RowKit
theorem qUT (g:GW) {cs ms:List Value} {w:Wd} {m:Mach} (hw:rWo g cs w) (hM:qRB g ms m) (hsn:SnW w) (hb:BgW 1000000 w) (hsz:SmO m) (hgo:hGo w m) (h0:m.pc=21):Ok Tryz.prog qIA [.agg ⟨cs⟩,.agg ⟨ms⟩] g (HaP w m):=by
 obtain⟨hW9,hM9,hE9⟩:=q1A hgo (by omega)
 obtain⟨kW,kM,kE⟩:=ha21 h0
 rw [kW] at hW9
 rw [kM] at hM9
 rw [kE] at hE9
 clear kW kM kE
 have hs:=hgo.1
 obtain⟨v,gr,en,hS⟩:=id (suitB_iff.1 hs)
 obtain⟨oa,ca,ob,cb,oc,cc,od,cd,oe,ce,o1,t1,o2,t2,o3,t3,rfl,rfl,hw0,hM0,⟨i1,i2,i3⟩,hP,hV,hL,hC,hR,⟨a1,a2,a0,hP1⟩,⟨b1,b2,b0,hV1⟩,⟨c1,c2,c0,hL1⟩,⟨d1,d2,d0,hC1⟩,⟨e1,e2,e0,hR1⟩,hok,hop,hcf⟩:=qLE hw hM
 exact Ok.of_fn hm qRD 5 qLA (args:=[.v (.agg ⟨wQ w oa ca ob cb oc cc od cd oe ce⟩),.v (.agg ⟨mQ m o1 t1 o2 t2 o3 t3⟩)]) (by
  repeat((conv=>whnf);first|apply qza|apply qzb|apply qzc|apply qzd|apply qze|intro(_:Nat))
  conv=>whnf
  refine dT (by omega) ?_
  repeat((conv=>whnf);first|apply qza|apply qzb|apply qzc|apply qzd|apply qze|intro(_:Nat))
  conv=>whnf
  refine dF (by omega) ?_
  repeat((conv=>whnf);first|apply qza|apply qzb|apply qzc|apply qzd|apply qze|intro(_:Nat))
  conv=>whnf
  refine dF (by omega) ?_
  repeat((conv=>whnf);first|apply qza|apply qzb|apply qzc|apply qzd|apply qze|intro(_:Nat))
  conv=>whnf
  refine dF (by omega) ?_
  repeat((conv=>whnf);first|apply qza|apply qzb|apply qzc|apply qzd|apply qze|intro(_:Nat))
  conv=>whnf
  refine .inl ⟨_,qbA _ hw0 hM0 hsn hb,?_⟩
  repeat((conv=>whnf);first|apply qza|apply qzb|apply qzc|apply qzd|apply qze|intro(_:Nat))
  conv=>whnf
  refine⟨fun hx=>absurd (hs.symm.trans (nb1 hx)) (by decide),fun _=>?_⟩
  repeat((conv=>whnf);first|apply qza|apply qzb|apply qzc|apply qzd|apply qze|intro(_:Nat))
  conv=>whnf
  refine⟨fun _=>?_,fun _=>?_⟩
  case' refine_1 =>
   repeat((conv=>whnf);first|apply qza|apply qzb|apply qzc|apply qzd|apply qze|intro(_:Nat))
   conv=>whnf
   refine⟨fun hx=>absurd hx (by simp [h0]),fun _=>?_⟩
   repeat((conv=>whnf);first|apply qza|apply qzb|apply qzc|apply qzd|apply qze|intro(_:Nat))
   conv=>whnf
   refine⟨fun hx=>absurd hx (by simp [h0]),fun _=>?_⟩
   repeat((conv=>whnf);first|apply qza|apply qzb|apply qzc|apply qzd|apply qze|intro(_:Nat))
   conv=>whnf
   refine⟨fun hx=>absurd hx (by simp [h0]),fun _=>?_⟩
  all_goals (
   repeat((conv=>whnf);first|apply qza|apply qzb|apply qzc|apply qzd|apply qze|intro(_:Nat))
   conv=>whnf
   refine .inl ⟨_,q7A _,?_⟩
   repeat((conv=>whnf);first|apply qza|apply qzb|apply qzc|apply qzd|apply qze|intro(_:Nat))
   conv=>whnf
   refine⟨21,⟨h0,by decide⟩,?_⟩
   repeat((conv=>whnf);first|apply qza|apply qzb|apply qzc|apply qzd|apply qze|intro(_:Nat))
   conv=>whnf
   refine⟨fun h=>(nomatch h),fun _=>?_⟩
   repeat((conv=>whnf);first|apply qza|apply qzb|apply qzc|apply qzd|apply qze|intro(_:Nat))
   refine .inr ((qhA _ hw0 hb).mono fun v g3 hg3 hO=>?_)
   obtain⟨cs,T,rfl,hT⟩:=hO
   have hF:=qsA hT
   obtain⟨oa',ca',ob',cb',oc',cc',od',cd',oe',ce',rfl⟩:=qRA hF
   obtain⟨row,hrow,hrl⟩:=hS.row
   obtain⟨y,hy⟩:=qBA (l:=row) (i:=(0:Int).toNat) (by omega)
   have hcn:cnt w m.thread (0:Int)=y:=by unfold cnt;rw [hrow,Option.getD_some,hy];rfl
   have hro:(w.counts[m.thread.toNat]?).getD []=row:=by rw [hrow];rfl
   simp only [addCnt,hcn,hro] at hW9
   obtain⟨b1,k1,b2,k2,hq,hcr,hcy,b5,j5,bc,ty5,⟨hA,p1,p2,p3,p4⟩,_,hk5⟩:=qpH hT hrow hy (qiQ (y+1))
   cases hq
   have hth:=hS.thread
   have hti:0≤m.thread∧m.thread<w.counts.length:=⟨hth.1,by have:=(List.getElem?_eq_some_iff.1 hrow).1;omega⟩
   have hyi:0≤(0:Int)∧(0:Int)<(row.length:Nat):=by omega
   repeat((conv=>whnf);first|apply qza|apply qzb|apply qzc|apply qzd|apply qze|intro(_:Nat))
   conv=>whnf
   refine⟨qGF,?_⟩
   repeat'((conv=>whnf);first|apply qza|apply qzb|apply qzc|apply qzd|apply qze|intro(_:Nat)|refine⟨_,rfl,hti,?_⟩|refine⟨_,hcr 0 _ rfl,?_⟩|refine⟨_,rfl,hyi,?_⟩|refine⟨_,hcy 0 _ rfl,?_⟩|refine And.intro ?_ ?_|fail)
   conv=>whnf
   refine⟨b5,j5,bc,ty5,⟨by first|exact hA|(rw [← hA];rfl)|(rw [← hA,qpC]),p1,p2,p3,p4⟩,?_⟩
   repeat((conv=>whnf);first|apply qza|apply qzb|apply qzc|apply qzd|apply qze|intro(_:Nat))
   conv=>whnf
   refine fun g6 u6=>?_
   have hFx:=qsA (hk5 g6 u6)
   have hle6:g≤g6:=u6.le hg3 (fun h=>by have:=g.wf _ h;omega)
   have hcw:=u6.rd p2 p4
   rw [← hA] at hcw
   repeat((conv=>whnf);first|apply qza|apply qzb|apply qzc|apply qzd|apply qze|intro(_:Nat))
   refine And.intro (fun z=>?_) (fun z=>?_)
   ·have z:=beqT z
    rw [if_pos (.inl z)] at hM9
    repeat'((conv=>whnf);first|apply qza|apply qzb|apply qzc|apply qzd|apply qze|intro(_:Nat)|refine⟨_,fun gp hle hin=>qqA gp (hin.cel (id:=6) rfl 10 rfl),?_⟩|refine And.intro ?_ ?_|fail)
    all_goals (conv=>whnf)
    all_goals (first|exact Eq.refl _|(
    intro g2 hg
    refine⟨_,_,by rw [hE9]<;>rfl,by rw [hW9];exact qGA _ _ _ _ hg hFx,?_⟩
    rw [hM9]
    exact⟨_,_,_,rfl,{hok with pc:=show InR (23:Int) by decide},hop,qDA _ _ _ _ (GW.trans hle6 hg) hcf⟩))
   ·have z:=beqF z
    repeat((conv=>whnf);first|apply qza|apply qzb|apply qzc|apply qzd|apply qze|intro(_:Nat))
    refine And.intro (fun z2=>?_) (fun z2=>?_)
    ·have z2:=of_decide_eq_true z2
     rw [if_pos (.inr z2)] at hM9
     repeat'((conv=>whnf);first|apply qza|apply qzb|apply qzc|apply qzd|apply qze|intro(_:Nat)|refine⟨_,fun gp hle hin=>qqA gp (hin.cel (id:=6) rfl 10 rfl),?_⟩|refine And.intro ?_ ?_|fail)
     all_goals (conv=>whnf)
     all_goals (first|exact Eq.refl _|(
     intro g2 hg
     refine⟨_,_,by rw [hE9]<;>rfl,by rw [hW9];exact qGA _ _ _ _ hg hFx,?_⟩
     rw [hM9]
     exact⟨_,_,_,rfl,{hok with pc:=show InR (23:Int) by decide},hop,qDA _ _ _ _ (GW.trans hle6 hg) hcf⟩))
    ·have z2:=of_decide_eq_false z2
     rw [if_neg (by omega)] at hM9
     repeat'((conv=>whnf);first|apply qza|apply qzb|apply qzc|apply qzd|apply qze|intro(_:Nat)|refine⟨_,fun gp hle hin=>qqA gp (hin.cel (id:=6) rfl 10 rfl),?_⟩|refine And.intro ?_ ?_|fail)
     all_goals (conv=>whnf)
     all_goals (first|exact Eq.refl _|(
     intro g2 hg
     refine⟨_,_,by rw [hE9]<;>rfl,by rw [hW9];exact qGA _ _ _ _ hg hFx,?_⟩
     rw [hM9]
     exact⟨_,_,_,rfl,{hok with pc:=show InR (22:Int) by decide},hop,qDA _ _ _ _ (GW.trans hle6 hg) hcf⟩))))
/- Requests: the program's step,place 22. -/
open Go.Proofs.YtompjkkgaafllaaGreat.Sx Go.RowKit
theorem qTT (g:GW) {cs ms:List Value} {w:Wd} {m:Mach} (hw:rWo g cs w) (hM:qRB g ms m) (hsn:SnW w) (hb:BgW 1000000 w) (hsz:SmO m) (hgo:hGo w m) (h0:m.pc=22):Ok Tryz.prog qIA [.agg ⟨cs⟩,.agg ⟨ms⟩] g (HaP w m):=by
 obtain⟨hW9,hM9,hE9⟩:=q1A hgo (by omega)
 obtain⟨kW,kM,kE⟩:=ha22 h0
 rw [kW] at hW9
 rw [kM] at hM9
 rw [kE] at hE9
 clear kW kM kE
 have hs:=hgo.1
 obtain⟨v,gr,en,hS⟩:=id (suitB_iff.1 hs)
 obtain⟨oa,ca,ob,cb,oc,cc,od,cd,oe,ce,o1,t1,o2,t2,o3,t3,rfl,rfl,hw0,hM0,⟨i1,i2,i3⟩,hP,hV,hL,hC,hR,⟨a1,a2,a0,hP1⟩,⟨b1,b2,b0,hV1⟩,⟨c1,c2,c0,hL1⟩,⟨d1,d2,d0,hC1⟩,⟨e1,e2,e0,hR1⟩,hok,hop,hcf⟩:=qLE hw hM
 exact Ok.of_fn hm qRD 5 qLA (args:=[.v (.agg ⟨wQ w oa ca ob cb oc cc od cd oe ce⟩),.v (.agg ⟨mQ m o1 t1 o2 t2 o3 t3⟩)]) (by
  repeat((conv=>whnf);first|apply qza|apply qzb|apply qzc|apply qzd|apply qze|intro(_:Nat))
  conv=>whnf
  refine dT (by omega) ?_
  repeat((conv=>whnf);first|apply qza|apply qzb|apply qzc|apply qzd|apply qze|intro(_:Nat))
  conv=>whnf
  refine dF (by omega) ?_
  repeat((conv=>whnf);first|apply qza|apply qzb|apply qzc|apply qzd|apply qze|intro(_:Nat))
  conv=>whnf
  refine dF (by omega) ?_
  repeat((conv=>whnf);first|apply qza|apply qzb|apply qzc|apply qzd|apply qze|intro(_:Nat))
  conv=>whnf
  refine dF (by omega) ?_
  repeat((conv=>whnf);first|apply qza|apply qzb|apply qzc|apply qzd|apply qze|intro(_:Nat))
  conv=>whnf
  refine .inl ⟨_,qbA _ hw0 hM0 hsn hb,?_⟩
  repeat((conv=>whnf);first|apply qza|apply qzb|apply qzc|apply qzd|apply qze|intro(_:Nat))
  conv=>whnf
  refine⟨fun hx=>absurd (hs.symm.trans (nb1 hx)) (by decide),fun _=>?_⟩
  repeat((conv=>whnf);first|apply qza|apply qzb|apply qzc|apply qzd|apply qze|intro(_:Nat))
  have hli:0≤m.listen:=by have:=hgo.2.2;omega
  conv=>whnf
  refine dF (by omega) ?_
  repeat((conv=>whnf);first|apply qza|apply qzb|apply qzc|apply qzd|apply qze|intro(_:Nat))
  repeat((conv=>whnf);first|apply qza|apply qzb|apply qzc|apply qzd|apply qze|intro(_:Nat))
  conv=>whnf
  refine .inl ⟨_,q7A _,?_⟩
  repeat((conv=>whnf);first|apply qza|apply qzb|apply qzc|apply qzd|apply qze|intro(_:Nat))
  conv=>whnf
  refine⟨22,⟨h0,by decide⟩,?_⟩
  repeat((conv=>whnf);first|apply qza|apply qzb|apply qzc|apply qzd|apply qze|intro(_:Nat))
  conv=>whnf
  refine⟨fun h=>(nomatch h),fun _=>?_⟩
  repeat((conv=>whnf);first|apply qza|apply qzb|apply qzc|apply qzd|apply qze|intro(_:Nat))
  refine .inr ((qhA _ hw0 hb).mono fun v g3 hg3 hO=>?_)
  obtain⟨cs,T,rfl,hT⟩:=hO
  have hF:=qsA hT
  obtain⟨oa',ca',ob',cb',oc',cc',od',cd',oe',ce',rfl⟩:=qRA hF
  obtain⟨x,hx⟩:=qBA (l:=w.listens) (i:=m.listen.toNat) (by have:=hS.listen;omega)
  have hmL:mL w m=x:=by unfold mL;rw [hx];rfl
  rw [hmL] at hW9 hE9
  have hli2:=hS.listen
  obtain⟨bk,cap,hv,rcl,b5,j5,bc,ty5,⟨hA,p1,p2,p3,p4⟩,_,hk5⟩:=qfO hT hx (x':={x with active:=wI (x.active-1)}) (o:=2) (vs:=[.int .i64 (wI (x.active-1))]) (by simp) (by simp [Value.oneCell']) rfl (qOL _)
  cases hv
  obtain⟨hxa,hcl⟩:=qCL (qOO hF) hx
  repeat((conv=>whnf);first|apply qza|apply qzb|apply qzc|apply qzd|apply qze|intro(_:Nat))
  conv=>whnf
  refine⟨qoG,?_⟩
  repeat((conv=>whnf);first|apply qza|apply qzb|apply qzc|apply qzd|apply qze|intro(_:Nat))
  conv=>whnf
  refine⟨_,rfl,⟨by omega,by omega⟩,?_⟩
  repeat((conv=>whnf);first|apply qza|apply qzb|apply qzc|apply qzd|apply qze|intro(_:Nat))
  conv=>whnf
  refine⟨_,hcl 2 _ rfl,?_⟩
  repeat((conv=>whnf);first|apply qza|apply qzb|apply qzc|apply qzd|apply qze|intro(_:Nat))
  conv=>whnf
  refine⟨b5,j5,bc,ty5,⟨hA,p1,p2,p3,p4⟩,?_⟩
  repeat((conv=>whnf);first|apply qza|apply qzb|apply qzc|apply qzd|apply qze|intro(_:Nat))
  conv=>whnf
  refine fun g6 u6=>?_
  have hFx:=qsA (hk5 g6 u6)
  have hle6:g≤g6:=u6.le hg3 (fun h=>by have:=g.wf _ h;omega)
  obtain⟨_,hcl'⟩:=qCL (qOO hFx) (i:=m.listen.toNat) (x:={x with active:=wI (x.active-1)}) (by simp only [List.getElem?_set];simp;omega)
  repeat((conv=>whnf);first|apply qza|apply qzb|apply qzc|apply qzd|apply qze|intro(_:Nat))
  conv=>whnf
  refine⟨_,hcl' 2 _ rfl,?_⟩
  repeat((conv=>whnf);first|apply qza|apply qzb|apply qzc|apply qzd|apply qze|intro(_:Nat))
  conv=>whnf
  refine⟨_,fun gp hle hin=>qqA gp (hin.2.2.1 10 _ rfl),?_⟩
  repeat((conv=>whnf);first|apply qza|apply qzb|apply qzc|apply qzd|apply qze|intro(_:Nat))
  conv=>whnf
  intro g2 hg
  refine⟨_,_,by rw [hE9];rfl,by rw [hW9];exact qGA _ _ _ _ hg hFx,?_⟩
  rw [hM9]
  exact⟨_,_,_,rfl,{hok with pc:=show InR (23:Int) by decide},hop,qDA _ _ _ _ (GW.trans hle6 hg) hcf⟩)
/- Requests: the program's step,place 23. -/
open Go.Proofs.YtompjkkgaafllaaGreat.Sx Go.RowKit
theorem qST (g:GW) {cs ms:List Value} {w:Wd} {m:Mach} (hw:rWo g cs w) (hM:qRB g ms m) (hsn:SnW w) (hb:BgW 1000000 w) (hsz:SmO m) (hgo:hGo w m) (h0:m.pc=23):Ok Tryz.prog qIA [.agg ⟨cs⟩,.agg ⟨ms⟩] g (HaP w m):=by
 obtain⟨hW9,hM9,hE9⟩:=q1A hgo (by omega)
 obtain⟨kW,kM,kE⟩:=ha23 h0
 rw [kW] at hW9
 rw [kM] at hM9
 rw [kE] at hE9
 clear kW kM kE
 have hs:=hgo.1
 obtain⟨v,gr,en,hS⟩:=id (suitB_iff.1 hs)
 obtain⟨oa,ca,ob,cb,oc,cc,od,cd,oe,ce,o1,t1,o2,t2,o3,t3,rfl,rfl,hw0,hM0,⟨i1,i2,i3⟩,hP,hV,hL,hC,hR,⟨a1,a2,a0,hP1⟩,⟨b1,b2,b0,hV1⟩,⟨c1,c2,c0,hL1⟩,⟨d1,d2,d0,hC1⟩,⟨e1,e2,e0,hR1⟩,hok,hop,hcf⟩:=qLE hw hM
 exact Ok.of_fn hm qRD 5 qLA (args:=[.v (.agg ⟨wQ w oa ca ob cb oc cc od cd oe ce⟩),.v (.agg ⟨mQ m o1 t1 o2 t2 o3 t3⟩)]) (by
  repeat((conv=>whnf);first|apply qza|apply qzb|apply qzc|apply qzd|apply qze|intro(_:Nat))
  conv=>whnf
  refine dT (by omega) ?_
  repeat((conv=>whnf);first|apply qza|apply qzb|apply qzc|apply qzd|apply qze|intro(_:Nat))
  conv=>whnf
  refine dF (by omega) ?_
  repeat((conv=>whnf);first|apply qza|apply qzb|apply qzc|apply qzd|apply qze|intro(_:Nat))
  conv=>whnf
  refine dF (by omega) ?_
  repeat((conv=>whnf);first|apply qza|apply qzb|apply qzc|apply qzd|apply qze|intro(_:Nat))
  conv=>whnf
  refine dF (by omega) ?_
  repeat((conv=>whnf);first|apply qza|apply qzb|apply qzc|apply qzd|apply qze|intro(_:Nat))
  conv=>whnf
  refine .inl ⟨_,qbA _ hw0 hM0 hsn hb,?_⟩
  repeat((conv=>whnf);first|apply qza|apply qzb|apply qzc|apply qzd|apply qze|intro(_:Nat))
  conv=>whnf
  refine⟨fun hx=>absurd (hs.symm.trans (nb1 hx)) (by decide),fun _=>?_⟩
  repeat((conv=>whnf);first|apply qza|apply qzb|apply qzc|apply qzd|apply qze|intro(_:Nat))
  conv=>whnf
  refine⟨fun _=>?_,fun _=>?_⟩
  case' refine_1 =>
   repeat((conv=>whnf);first|apply qza|apply qzb|apply qzc|apply qzd|apply qze|intro(_:Nat))
   conv=>whnf
   refine⟨fun hx=>absurd hx (by simp [h0]),fun _=>?_⟩
   repeat((conv=>whnf);first|apply qza|apply qzb|apply qzc|apply qzd|apply qze|intro(_:Nat))
   conv=>whnf
   refine⟨fun hx=>absurd hx (by simp [h0]),fun _=>?_⟩
   repeat((conv=>whnf);first|apply qza|apply qzb|apply qzc|apply qzd|apply qze|intro(_:Nat))
   conv=>whnf
   refine⟨fun hx=>absurd hx (by simp [h0]),fun _=>?_⟩
  all_goals (
   repeat((conv=>whnf);first|apply qza|apply qzb|apply qzc|apply qzd|apply qze|intro(_:Nat))
   conv=>whnf
   refine .inl ⟨_,q7A _,?_⟩
   repeat((conv=>whnf);first|apply qza|apply qzb|apply qzc|apply qzd|apply qze|intro(_:Nat))
   conv=>whnf
   refine⟨23,⟨h0,by decide⟩,?_⟩
   repeat((conv=>whnf);first|apply qza|apply qzb|apply qzc|apply qzd|apply qze|intro(_:Nat))
   conv=>whnf
   refine⟨fun h=>(nomatch h),fun _=>?_⟩
   repeat((conv=>whnf);first|apply qza|apply qzb|apply qzc|apply qzd|apply qze|intro(_:Nat))
   refine .inr ((qhA _ hw0 hb).mono fun v g3 hg3 hO=>?_)
   obtain⟨cs,T,rfl,hT⟩:=hO
   have hF:=qsA hT
   obtain⟨oa',ca',ob',cb',oc',cc',od',cd',oe',ce',rfl⟩:=qRA hF
   repeat((conv=>whnf);first|apply qza|apply qzb|apply qzc|apply qzd|apply qze|intro(_:Nat))
   conv=>whnf
   refine⟨qnG,?_⟩
   repeat((conv=>whnf);first|apply qza|apply qzb|apply qzc|apply qzd|apply qze|intro(_:Nat))
   refine .inr ((qgU _ hF (qgA _ _ _ _ hg3 hM0) hsn hb).mono fun v4 g4 hg4 hO=>?_)
   obtain⟨cs4,rfl,hO⟩:=hO
   obtain⟨_,_,_,_,_,_,_,_,_,_,rfl⟩:=qRA hO
   repeat'((conv=>whnf);first|apply qza|apply qzb|apply qzc|apply qzd|apply qze|intro(_:Nat)|refine And.intro ?_ ?_|fail)
   all_goals (conv=>whnf)
   all_goals (first|exact Eq.refl _|(
   intro g2 hg
   refine⟨_,_,by rw [hE9]<;>rfl,by rw [hW9];exact qGA _ _ _ _ hg hO,?_⟩
   rw [hM9]
   exact⟨_,_,_,rfl,{hok with},hop,qDA _ _ _ _ (GW.trans (GW.trans hg3 hg4) hg) hcf⟩))))
/- Machines: events of no version,ends;the document's. -/
open Go.Proofs.YtompjkkgaafllaaGreat.Sx Go.RowKit
/- Requests: the document's words,events,endpoints. -/
open Go.Proofs.YtompjkkgaafllaaGreat.Sx Go.RowKit
/- Requests: the document's routing. -/
open Go.Proofs.YtompjkkgaafllaaGreat.Sx Go.RowKit
/- Pins: the document's step. -/
open Go.Proofs.YtompjkkgaafllaaGreat.Sx Go.RowKit
/- Requests: the document's step,elsewhere. -/
open Go.Proofs.YtompjkkgaafllaaGreat.Sx Go.RowKit
/- Requests: the document's step,place 3. -/
open Go.Proofs.YtompjkkgaafllaaGreat.Sx Go.RowKit
/- Requests: the document's step,place 4. -/
open Go.Proofs.YtompjkkgaafllaaGreat.Sx Go.RowKit
/- Requests: the document's step,place 5. -/
open Go.Proofs.YtompjkkgaafllaaGreat.Sx Go.RowKit
/- Requests: the document's step,place 6. -/
open Go.Proofs.YtompjkkgaafllaaGreat.Sx Go.RowKit
/- Requests: the document's step,place 7. -/
open Go.Proofs.YtompjkkgaafllaaGreat.Sx Go.RowKit
/- Requests: the document's step,place 8. -/
open Go.Proofs.YtompjkkgaafllaaGreat.Sx Go.RowKit
/- Requests: the document's step,place 9. -/
open Go.Proofs.YtompjkkgaafllaaGreat.Sx Go.RowKit
/- Requests: the document's step,place 10. -/
open Go.Proofs.YtompjkkgaafllaaGreat.Sx Go.RowKit
/- Requests: the document's step,place 11. -/
open Go.Proofs.YtompjkkgaafllaaGreat.Sx Go.RowKit
/- Requests: the document's step,place 12. -/
open Go.Proofs.YtompjkkgaafllaaGreat.Sx Go.RowKit
/- Requests: the document's step,place 20. -/
open Go.Proofs.YtompjkkgaafllaaGreat.Sx Go.RowKit
/- Requests: the document's step,place 21. -/
open Go.Proofs.YtompjkkgaafllaaGreat.Sx Go.RowKit
/- Requests: the document's step,place 22. -/
open Go.Proofs.YtompjkkgaafllaaGreat.Sx Go.RowKit
/- Requests: the document's step,place 23. -/
open Go.Proofs.YtompjkkgaafllaaGreat.Sx Go.RowKit
/- Requests: a step,at any place: the program's and the document's. -/
open Go.Proofs.YtompjkkgaafllaaGreat.Sx Go.RowKit
theorem qrT {m:Mach} (h:0≤m.pc∧m.pc≤23∧¬ (12<m.pc∧m.pc<20)) (h3:¬ m.pc<3):m.pc=3∨m.pc=4∨m.pc=5∨m.pc=6∨m.pc=7∨m.pc=8∨m.pc=9∨m.pc=10∨m.pc=11∨m.pc=12∨m.pc=20∨m.pc=21∨m.pc=22∨m.pc=23:=by omega
theorem qMS (g:GW) {cs ms:List Value} {w:Wd} {m:Mach} (hw:rWo g cs w) (hM:qRB g ms m) (hsn:SnW w) (hb:BgW 1000000 w) (hsz:SmO m):Ok Tryz.prog qIA [.agg ⟨cs⟩,.agg ⟨ms⟩] g (HaP w m):=by
 by_cases hp:0≤m.pc∧m.pc<3
 ·exact qTU g hw hM hsn hb hp
 ·by_cases hgo:hGo w m
  ·rcases qrT hgo.2.1 (by have:=hgo.2.1;omega) with h|h|h|h|h|h|h|h|h|h|h|h|h|h
   ·exact qbU g hw hM hsn hb hsz hgo h
   ·exact qaU g hw hM hsn hb hsz hgo h
   ·exact qZU g hw hM hsn hb hsz hgo h
   ·exact qYU g hw hM hsn hb hsz hgo h
   ·exact qXU g hw hM hsn hb hsz hgo h
   ·exact qWU g hw hM hsn hb hsz hgo h
   ·exact qVU g hw hM hsn hb hsz hgo h
   ·exact qYT g hw hM hsn hb hsz hgo h
   ·exact qXT g hw hM hsn hb hsz hgo h
   ·exact qWT g hw hM hsn hb hsz hgo h
   ·exact qVT g hw hM hsn hb hsz hgo h
   ·exact qUT g hw hM hsn hb hsz hgo h
   ·exact qTT g hw hM hsn hb hsz hgo h
   ·exact qST g hw hM hsn hb hsz hgo h
  ·exact qUU g hw hM hsn hb hp hgo
end Go.Proofs.YtompjkkgaafllaaGreat
