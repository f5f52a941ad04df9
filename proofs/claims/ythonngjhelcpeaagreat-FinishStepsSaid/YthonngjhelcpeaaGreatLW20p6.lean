/- Requests: the program's step, place 6. -/
import Derived.Test.YthonngjhelcpeaaGreatLW9w
set_option linter.unusedVariables false
set_option linter.unusedSimpArgs false
namespace Go.Proofs.YthonngjhelcpeaaGreat
open Go.Proofs.YthonngjhelcpeaaGreat.Sx Go.RowKit
set_option maxHeartbeats 16000000
set_option maxRecDepth 100000
theorem q5X (g:GW) {cs ms:List Value} {w:Wd} {m:Mach} (hw:rWo g cs w) (hM:qhA g ms m) (hsn:SnW w) (hb:BgW 1000000 w) (hsz:SmO m) (hgo:hGo w m) (h0:m.pc=6):Ok Tryz.prog qLA [.agg ⟨cs⟩,.agg ⟨ms⟩] g (HaP w m):=by
 obtain⟨hW9,hM9,hE9⟩:=qdB hgo (by omega)
 obtain⟨kW,kM,kE⟩:=ha6 h0
 rw [kW] at hW9
 rw [kM] at hM9
 rw [kE] at hE9
 clear kW kM kE
 have hs:=hgo.1
 obtain⟨v,gr,en,hS⟩:=id (suitB_iff.1 hs)
 obtain⟨oa,ca,ob,cb,oc,cc,od,cd,oe,ce,o1,t1,o2,t2,o3,t3,rfl,rfl,hw0,hM0,⟨i1,i2,i3⟩,hP,hV,hL,hC,hR,⟨a1,a2,a0,hP1⟩,⟨b1,b2,b0,hV1⟩,⟨c1,c2,c0,hL1⟩,⟨d1,d2,d0,hC1⟩,⟨e1,e2,e0,hR1⟩,hok,hop,hcf⟩:=q4B hw hM
 exact Ok.of_fn hm quD 5 qNA (args:=[.v (.agg ⟨wQ w oa ca ob cb oc cc od cd oe ce⟩),.v (.agg ⟨mQ m o1 t1 o2 t2 o3 t3⟩)]) (by
  repeat((conv=>whnf);first|apply qza|apply qzb|apply qzc|apply qzd|apply qze|intro(_:Nat))
  conv=>whnf
  refine dT (by omega) ?_
  repeat((conv=>whnf);first|apply qza|apply qzb|apply qzc|apply qzd|apply qze|intro(_:Nat))
  conv=>whnf
  refine dF (by omega) ?_
  repeat((conv=>whnf);first|apply qza|apply qzb|apply qzc|apply qzd|apply qze|intro(_:Nat))
  conv=>whnf
  refine dF (by omega) ?_
  repeat((conv=>whnf);first|apply qza|apply qzb|apply qzc|apply qzd|apply qze|intro(_:Nat))
  conv=>whnf
  refine dF (by omega) ?_
  repeat((conv=>whnf);first|apply qza|apply qzb|apply qzc|apply qzd|apply qze|intro(_:Nat))
  conv=>whnf
  refine .inl ⟨_,qYA _ hw0 hM0 hsn hb,?_⟩
  repeat((conv=>whnf);first|apply qza|apply qzb|apply qzc|apply qzd|apply qze|intro(_:Nat))
  conv=>whnf
  refine⟨fun hx=>absurd (hs.symm.trans (nb1 hx)) (by decide),fun _=>?_⟩
  repeat((conv=>whnf);first|apply qza|apply qzb|apply qzc|apply qzd|apply qze|intro(_:Nat))
  conv=>whnf
  refine⟨fun _=>?_,fun _=>?_⟩
  case' refine_1 =>
   repeat((conv=>whnf);first|apply qza|apply qzb|apply qzc|apply qzd|apply qze|intro(_:Nat))
   conv=>whnf
   refine⟨fun hx=>absurd hx (by simp [h0]),fun _=>?_⟩
   repeat((conv=>whnf);first|apply qza|apply qzb|apply qzc|apply qzd|apply qze|intro(_:Nat))
   conv=>whnf
   refine⟨fun hx=>absurd hx (by simp [h0]),fun _=>?_⟩
   repeat((conv=>whnf);first|apply qza|apply qzb|apply qzc|apply qzd|apply qze|intro(_:Nat))
   conv=>whnf
   refine⟨fun hx=>absurd hx (by simp [h0]),fun _=>?_⟩
  all_goals (
   repeat((conv=>whnf);first|apply qza|apply qzb|apply qzc|apply qzd|apply qze|intro(_:Nat))
   conv=>whnf
   refine .inl ⟨_,qRB _,?_⟩
   repeat((conv=>whnf);first|apply qza|apply qzb|apply qzc|apply qzd|apply qze|intro(_:Nat))
   conv=>whnf
   refine⟨6,⟨h0,by decide⟩,?_⟩
   repeat((conv=>whnf);first|apply qza|apply qzb|apply qzc|apply qzd|apply qze|intro(_:Nat))
   conv=>whnf
   refine⟨fun h=>(nomatch h),fun _=>?_⟩
   repeat((conv=>whnf);first|apply qza|apply qzb|apply qzc|apply qzd|apply qze|intro(_:Nat))
   refine .inr ((qeA _ hw0 hb).mono fun v g3 hg3 hO=>?_)
   obtain⟨cs,T,rfl,hT⟩:=hO
   have hF:=qTA hT
   obtain⟨oa',ca',ob',cb',oc',cc',od',cd',oe',ce',rfl⟩:=qKA hF
   obtain⟨b1,k1,b2,k2,va,vb,vd,vn,T2,hq,hcv,hcg,htk,hE2,hPT,_⟩:=qdC hT hS.ver.2 hS.clu.2
   cases hq
   have hei:=(qGE hF hS.ver.2 hS.clu.2 hS.end_.2).1
   obtain⟨b5,j5,bc,ty5,⟨hA,p1,p2,p3,p4⟩,_,hk5⟩:=hPT (wU (gr.ticket+1)) (q3T _)
   obtain⟨hvi,hgi,hki⟩:=hS.idx
   obtain⟨hmV,hmG,hmE⟩:=hS.at_
   have hcl:=hS.cl
   rw [hmG] at hW9 hM9 hE9
   simp only [evV,hmV] at hW9 hE9
   repeat((conv=>whnf);first|apply qza|apply qzb|apply qzc|apply qzd|apply qze|intro(_:Nat))
   conv=>whnf
   refine⟨qLH,?_⟩
   repeat'((conv=>whnf);first|apply qza|apply qzb|apply qzc|apply qzd|apply qze|intro(_:Nat)|refine⟨_,fun gp hle hin=>qtM gp (hin.cel (id:=6) rfl 13 rfl) (hin.cel (id:=6) rfl 15 rfl) (hin.cel (id:=5) rfl 4 rfl) hvi (hcv.mono hle) hgi,?_⟩|refine⟨_,hcg 0 _ rfl,?_⟩|refine And.intro ?_ ?_|fail)
   conv=>whnf
   refine⟨b5,j5,bc,ty5,⟨by first|exact hA|(rw [← hA];rfl)|(rw [← hA,qwA]),p1,p2,p3,p4⟩,?_⟩
   repeat((conv=>whnf);first|apply qza|apply qzb|apply qzc|apply qzd|apply qze|intro(_:Nat))
   conv=>whnf
   refine fun g6 u6=>?_
   have hFx:=qTA (hk5 g6 u6)
   have hle6:g≤g6:=u6.le hg3 (fun h=>by have:=g.wf _ h;omega)
   have hcw:=u6.rd p2 p4
   rw [← hA] at hcw
   have hv6:=qlA (y:=({v with groups:=v.groups.set m.cluster.toNat ({gr with ticket:=wU (gr.ticket+1)}:Group)}:Version)) hS.ver.2
   have hx6:=qlA (y:=({gr with ticket:=wU (gr.ticket+1)}:Group)) hS.clu.2
   have hFv6:=qyO hFx
   obtain⟨oL6,cL6,oR6,cR6,oC6,cC6,oG6,cG6,hcv6,hsn6,hcK6,hcG6⟩:=qnE hFv6 hv6
   obtain⟨ag6,rfl⟩:=qJA hcG6 hx6
   obtain⟨oE6,cE6,hcg6,_,hcE6⟩:=qSF hcG6 hx6
   have hvi6:0≤m.version∧m.version<w.versions.length:=hvi
   have hgi6:0≤m.cluster∧m.cluster<((v.groups.set m.cluster.toNat ({gr with ticket:=wU (gr.ticket+1)}:Group)).length:Nat):=by simpa only [List.length_set] using hgi
   obtain⟨ak6,rfl⟩:=qJA hcK6 hcl.1
   obtain⟨_,_,hrc,hck6⟩:=qkM hcK6 hcl.1
   obtain⟨vh,rfl,_,_,hh⟩:=id hrc
   obtain⟨oh,ch,rfl,_⟩:=id hh
   have hkk:0≤m.cluster∧m.cluster<v.snap.clusters.length:=⟨hS.clu.1,by have:=(List.getElem?_eq_some_iff.1 hcl.1).1;omega⟩
   obtain⟨_,_,_,_,he4,_⟩:=(qHE hS.right hS.ver.2).ends hS.clu.2
   have hsz:(mC w m).health.length≤17592186044416:=by have:=hcl.2;omega
   repeat'((conv=>whnf);first|apply qza|apply qzb|apply qzc|apply qzd|apply qze|intro(_:Nat)|refine⟨_,fun gp hle hin=>qtF gp (hin.cel (id:=6) rfl 13 rfl) (hin.cel (id:=6) rfl 15 rfl) (hin.cel (id:=5) rfl 4 rfl) hvi6 (hcv6.mono hle) hkk (hck6.mono hle),?_⟩|refine .inl ⟨_,qAX _ hrc hsz htk,?_⟩|refine⟨_,fun gp hle hin=>qPE gp (hin.cel (id:=6) rfl 10 rfl) (hin.cel (id:=6) rfl 13 rfl) (hin.cel (id:=5) rfl 4 rfl) hvi6 (hcv6.mono hle),?_⟩|refine And.intro ?_ ?_|fail)
   all_goals (conv=>whnf)
   all_goals (first|exact Eq.refl _|(
   intro g2 hg
   refine⟨_,_,by rw [hE9]<;>rfl,by rw [hW9];exact qDA _ _ _ _ hg hFx,?_⟩
   rw [hM9]
   exact⟨_,_,_,rfl,{hok with end_:=qRS hsz,pc:=show InR (9:Int) by decide},hop,qCA _ _ _ _ (GW.trans hle6 hg) hcf⟩))))
/- Requests: the program's step,place 7. -/
open Go.Proofs.YthonngjhelcpeaaGreat.Sx Go.RowKit
theorem q4X (g:GW) {cs ms:List Value} {w:Wd} {m:Mach} (hw:rWo g cs w) (hM:qhA g ms m) (hsn:SnW w) (hb:BgW 1000000 w) (hsz:SmO m) (hgo:hGo w m) (h0:m.pc=7):Ok Tryz.prog qLA [.agg ⟨cs⟩,.agg ⟨ms⟩] g (HaP w m):=by
 obtain⟨hW9,hM9,hE9⟩:=qdB hgo (by omega)
 obtain⟨kW,kM,kE⟩:=ha7 h0
 rw [kW] at hW9
 rw [kM] at hM9
 rw [kE] at hE9
 clear kW kM kE
 have hs:=hgo.1
 obtain⟨v,gr,en,hS⟩:=id (suitB_iff.1 hs)
 obtain⟨oa,ca,ob,cb,oc,cc,od,cd,oe,ce,o1,t1,o2,t2,o3,t3,rfl,rfl,hw0,hM0,⟨i1,i2,i3⟩,hP,hV,hL,hC,hR,⟨a1,a2,a0,hP1⟩,⟨b1,b2,b0,hV1⟩,⟨c1,c2,c0,hL1⟩,⟨d1,d2,d0,hC1⟩,⟨e1,e2,e0,hR1⟩,hok,hop,hcf⟩:=q4B hw hM
 exact Ok.of_fn hm quD 5 qNA (args:=[.v (.agg ⟨wQ w oa ca ob cb oc cc od cd oe ce⟩),.v (.agg ⟨mQ m o1 t1 o2 t2 o3 t3⟩)]) (by
  repeat((conv=>whnf);first|apply qza|apply qzb|apply qzc|apply qzd|apply qze|intro(_:Nat))
  conv=>whnf
  refine dT (by omega) ?_
  repeat((conv=>whnf);first|apply qza|apply qzb|apply qzc|apply qzd|apply qze|intro(_:Nat))
  conv=>whnf
  refine dF (by omega) ?_
  repeat((conv=>whnf);first|apply qza|apply qzb|apply qzc|apply qzd|apply qze|intro(_:Nat))
  conv=>whnf
  refine dF (by omega) ?_
  repeat((conv=>whnf);first|apply qza|apply qzb|apply qzc|apply qzd|apply qze|intro(_:Nat))
  conv=>whnf
  refine dF (by omega) ?_
  repeat((conv=>whnf);first|apply qza|apply qzb|apply qzc|apply qzd|apply qze|intro(_:Nat))
  conv=>whnf
  refine .inl ⟨_,qYA _ hw0 hM0 hsn hb,?_⟩
  repeat((conv=>whnf);first|apply qza|apply qzb|apply qzc|apply qzd|apply qze|intro(_:Nat))
  conv=>whnf
  refine⟨fun hx=>absurd (hs.symm.trans (nb1 hx)) (by decide),fun _=>?_⟩
  repeat((conv=>whnf);first|apply qza|apply qzb|apply qzc|apply qzd|apply qze|intro(_:Nat))
  conv=>whnf
  refine⟨fun _=>?_,fun _=>?_⟩
  case' refine_1 =>
   repeat((conv=>whnf);first|apply qza|apply qzb|apply qzc|apply qzd|apply qze|intro(_:Nat))
   conv=>whnf
   refine⟨fun hx=>absurd hx (by simp [h0]),fun _=>?_⟩
   repeat((conv=>whnf);first|apply qza|apply qzb|apply qzc|apply qzd|apply qze|intro(_:Nat))
   conv=>whnf
   refine⟨fun hx=>absurd hx (by simp [h0]),fun _=>?_⟩
   repeat((conv=>whnf);first|apply qza|apply qzb|apply qzc|apply qzd|apply qze|intro(_:Nat))
   conv=>whnf
   refine⟨fun hx=>absurd hx (by simp [h0]),fun _=>?_⟩
  all_goals (
   repeat((conv=>whnf);first|apply qza|apply qzb|apply qzc|apply qzd|apply qze|intro(_:Nat))
   conv=>whnf
   refine .inl ⟨_,qRB _,?_⟩
   repeat((conv=>whnf);first|apply qza|apply qzb|apply qzc|apply qzd|apply qze|intro(_:Nat))
   conv=>whnf
   refine⟨7,⟨h0,by decide⟩,?_⟩
   repeat((conv=>whnf);first|apply qza|apply qzb|apply qzc|apply qzd|apply qze|intro(_:Nat))
   conv=>whnf
   refine⟨fun h=>(nomatch h),fun _=>?_⟩
   repeat((conv=>whnf);first|apply qza|apply qzb|apply qzc|apply qzd|apply qze|intro(_:Nat))
   refine .inr ((qeA _ hw0 hb).mono fun v g3 hg3 hO=>?_)
   obtain⟨cs,T,rfl,hT⟩:=hO
   have hF:=qTA hT
   obtain⟨oa',ca',ob',cb',oc',cc',od',cd',oe',ce',rfl⟩:=qKA hF
   have hFv:=qyO hF
   obtain⟨av,rfl⟩:=qJA hFv hS.ver.2
   obtain⟨oL,cL,oR,cR,oC,cC,oG,cG,hcv,hsn3,hcK,hcG⟩:=qnE hFv hS.ver.2
   obtain⟨ag,rfl⟩:=qJA hcG hS.clu.2
   obtain⟨oE,cE,hcg,htk,hcE⟩:=qSF hcG hS.clu.2
   obtain⟨ae,rfl⟩:=qJA hcE hS.end_.2
   obtain⟨oN,cN,hce,hei,hcN⟩:=qaF hcE hS.end_.2
   obtain⟨hvi,hgi,hki⟩:=hS.idx
   obtain⟨hmV,hmG,hmE⟩:=hS.at_
   rw [hmE] at hM9 hE9
   simp only [evV,hmV] at hE9
   repeat((conv=>whnf);first|apply qza|apply qzb|apply qzc|apply qzd|apply qze|intro(_:Nat))
   conv=>whnf
   refine⟨qkE,?_⟩
   repeat'((conv=>whnf);first|apply qza|apply qzb|apply qzc|apply qzd|apply qze|intro(_:Nat)|refine⟨_,fun gp hle hin=>qcC gp (hin.cel (id:=6) rfl 13 rfl) (hin.cel (id:=6) rfl 15 rfl) (hin.cel (id:=6) rfl 16 rfl) (hin.cel (id:=5) rfl 4 rfl) hvi (hcv.mono hle) hgi (hcg.mono hle) hki,?_⟩|refine⟨_,hce 2 _ rfl,?_⟩|refine⟨_,fun gp hle hin=>qPE gp (hin.cel (id:=6) rfl 10 rfl) (hin.cel (id:=6) rfl 13 rfl) (hin.cel (id:=5) rfl 4 rfl) hvi (hcv.mono hle),?_⟩|refine And.intro ?_ ?_|fail)
   all_goals (conv=>whnf)
   all_goals (first|exact Eq.refl _|(
   intro g2 hg
   refine⟨_,_,by rw [hE9]<;>rfl,by rw [hW9];exact qDA _ _ _ _ hg hF,?_⟩
   rw [hM9]
   exact⟨_,_,_,rfl,{hok with i:=hei.2.1,pc:=show InR (8:Int) by decide},hop,qCA _ _ _ _ (GW.trans hg3 hg) hcf⟩))))
/- Requests: the program's step,place 8. -/
open Go.Proofs.YthonngjhelcpeaaGreat.Sx Go.RowKit
theorem q3X (g:GW) {cs ms:List Value} {w:Wd} {m:Mach} (hw:rWo g cs w) (hM:qhA g ms m) (hsn:SnW w) (hb:BgW 1000000 w) (hsz:SmO m) (hgo:hGo w m) (h0:m.pc=8):Ok Tryz.prog qLA [.agg ⟨cs⟩,.agg ⟨ms⟩] g (HaP w m):=by
 obtain⟨hW9,hM9,hE9⟩:=qdB hgo (by omega)
 obtain⟨kW,kM,kE⟩:=ha8 h0
 rw [kW] at hW9
 rw [kM] at hM9
 rw [kE] at hE9
 clear kW kM kE
 have hs:=hgo.1
 obtain⟨v,gr,en,hS⟩:=id (suitB_iff.1 hs)
 obtain⟨oa,ca,ob,cb,oc,cc,od,cd,oe,ce,o1,t1,o2,t2,o3,t3,rfl,rfl,hw0,hM0,⟨i1,i2,i3⟩,hP,hV,hL,hC,hR,⟨a1,a2,a0,hP1⟩,⟨b1,b2,b0,hV1⟩,⟨c1,c2,c0,hL1⟩,⟨d1,d2,d0,hC1⟩,⟨e1,e2,e0,hR1⟩,hok,hop,hcf⟩:=q4B hw hM
 exact Ok.of_fn hm quD 5 qNA (args:=[.v (.agg ⟨wQ w oa ca ob cb oc cc od cd oe ce⟩),.v (.agg ⟨mQ m o1 t1 o2 t2 o3 t3⟩)]) (by
  repeat((conv=>whnf);first|apply qza|apply qzb|apply qzc|apply qzd|apply qze|intro(_:Nat))
  conv=>whnf
  refine dT (by omega) ?_
  repeat((conv=>whnf);first|apply qza|apply qzb|apply qzc|apply qzd|apply qze|intro(_:Nat))
  conv=>whnf
  refine dF (by omega) ?_
  repeat((conv=>whnf);first|apply qza|apply qzb|apply qzc|apply qzd|apply qze|intro(_:Nat))
  conv=>whnf
  refine dF (by omega) ?_
  repeat((conv=>whnf);first|apply qza|apply qzb|apply qzc|apply qzd|apply qze|intro(_:Nat))
  conv=>whnf
  refine dF (by omega) ?_
  repeat((conv=>whnf);first|apply qza|apply qzb|apply qzc|apply qzd|apply qze|intro(_:Nat))
  conv=>whnf
  refine .inl ⟨_,qYA _ hw0 hM0 hsn hb,?_⟩
  repeat((conv=>whnf);first|apply qza|apply qzb|apply qzc|apply qzd|apply qze|intro(_:Nat))
  conv=>whnf
  refine⟨fun hx=>absurd (hs.symm.trans (nb1 hx)) (by decide),fun _=>?_⟩
  repeat((conv=>whnf);first|apply qza|apply qzb|apply qzc|apply qzd|apply qze|intro(_:Nat))
  conv=>whnf
  refine⟨fun _=>?_,fun _=>?_⟩
  case' refine_1 =>
   repeat((conv=>whnf);first|apply qza|apply qzb|apply qzc|apply qzd|apply qze|intro(_:Nat))
   conv=>whnf
   refine⟨fun hx=>absurd hx (by simp [h0]),fun _=>?_⟩
   repeat((conv=>whnf);first|apply qza|apply qzb|apply qzc|apply qzd|apply qze|intro(_:Nat))
   conv=>whnf
   refine⟨fun hx=>absurd hx (by simp [h0]),fun _=>?_⟩
   repeat((conv=>whnf);first|apply qza|apply qzb|apply qzc|apply qzd|apply qze|intro(_:Nat))
   conv=>whnf
   refine⟨fun hx=>absurd hx (by simp [h0]),fun _=>?_⟩
  all_goals (
   repeat((conv=>whnf);first|apply qza|apply qzb|apply qzc|apply qzd|apply qze|intro(_:Nat))
   conv=>whnf
   refine .inl ⟨_,qRB _,?_⟩
   repeat((conv=>whnf);first|apply qza|apply qzb|apply qzc|apply qzd|apply qze|intro(_:Nat))
   conv=>whnf
   refine⟨8,⟨h0,by decide⟩,?_⟩
   repeat((conv=>whnf);first|apply qza|apply qzb|apply qzc|apply qzd|apply qze|intro(_:Nat))
   conv=>whnf
   refine⟨fun h=>(nomatch h),fun _=>?_⟩
   repeat((conv=>whnf);first|apply qza|apply qzb|apply qzc|apply qzd|apply qze|intro(_:Nat))
   refine .inr ((qeA _ hw0 hb).mono fun v g3 hg3 hO=>?_)
   obtain⟨cs,T,rfl,hT⟩:=hO
   have hF:=qTA hT
   obtain⟨oa',ca',ob',cb',oc',cc',od',cd',oe',ce',rfl⟩:=qKA hF
   have hFv:=qyO hF
   obtain⟨av,rfl⟩:=qJA hFv hS.ver.2
   obtain⟨oL,cL,oR,cR,oC,cC,oG,cG,hcv,hsn3,hcK,hcG⟩:=qnE hFv hS.ver.2
   obtain⟨ag,rfl⟩:=qJA hcG hS.clu.2
   obtain⟨oE,cE,hcg,htk,hcE⟩:=qSF hcG hS.clu.2
   obtain⟨ae,rfl⟩:=qJA hcE hS.end_.2
   obtain⟨oN,cN,hce,hei,hcN⟩:=qaF hcE hS.end_.2
   obtain⟨hvi,hgi,hki⟩:=hS.idx
   obtain⟨hmV,hmG,hmE⟩:=hS.at_
   obtain⟨eo,heo⟩:=qAA (l:=gr.ends) (i:=m.other.toNat) (by have:=hS.other;omega)
   obtain⟨oN2,cN2,hco,heo2,_⟩:=qaF hcE heo
   have hmO:mE w m m.other=eo:=by unfold mE;rw [hmG,heo];rfl
   have hoi:=hS.other
   rw [hmO] at hM9 hE9
   simp only [evV,hmV] at hE9
   repeat((conv=>whnf);first|apply qza|apply qzb|apply qzc|apply qzd|apply qze|intro(_:Nat))
   conv=>whnf
   refine⟨qiE,?_⟩
   repeat'((conv=>whnf);first|apply qza|apply qzb|apply qzc|apply qzd|apply qze|intro(_:Nat)|refine⟨_,fun gp hle hin=>qtM gp (hin.cel (id:=6) rfl 13 rfl) (hin.cel (id:=6) rfl 15 rfl) (hin.cel (id:=5) rfl 4 rfl) hvi (hcv.mono hle) hgi,?_⟩|refine⟨_,hcg 1 _ rfl,?_⟩|refine⟨_,rfl,hoi,?_⟩|refine⟨_,hco 2 _ rfl,?_⟩|refine .inl ⟨_,qDX _,?_⟩|refine⟨_,fun gp hle hin=>qPE gp (hin.cel (id:=6) rfl 10 rfl) (hin.cel (id:=6) rfl 13 rfl) (hin.cel (id:=5) rfl 4 rfl) hvi (hcv.mono hle),?_⟩|refine And.intro ?_ ?_|fail)
   all_goals (conv=>whnf)
   all_goals (first|exact Eq.refl _|(
   intro g2 hg
   refine⟨_,_,by rw [hE9]<;>rfl,by rw [hW9];exact qDA _ _ _ _ hg hF,?_⟩
   rw [hM9]
   exact⟨_,_,_,rfl,{hok with end_:=qAW hok.end_ hok.other,pc:=show InR (9:Int) by decide},hop,qCA _ _ _ _ (GW.trans hg3 hg) hcf⟩))))
/- Requests: the program's step,place 9. -/
open Go.Proofs.YthonngjhelcpeaaGreat.Sx Go.RowKit
theorem q2X (g:GW) {cs ms:List Value} {w:Wd} {m:Mach} (hw:rWo g cs w) (hM:qhA g ms m) (hsn:SnW w) (hb:BgW 1000000 w) (hsz:SmO m) (hgo:hGo w m) (h0:m.pc=9):Ok Tryz.prog qLA [.agg ⟨cs⟩,.agg ⟨ms⟩] g (HaP w m):=by
 obtain⟨hW9,hM9,hE9⟩:=qdB hgo (by omega)
 obtain⟨kW,kM,kE⟩:=ha9 h0
 rw [kW] at hW9
 rw [kM] at hM9
 rw [kE] at hE9
 clear kW kM kE
 have hs:=hgo.1
 obtain⟨v,gr,en,hS⟩:=id (suitB_iff.1 hs)
 obtain⟨oa,ca,ob,cb,oc,cc,od,cd,oe,ce,o1,t1,o2,t2,o3,t3,rfl,rfl,hw0,hM0,⟨i1,i2,i3⟩,hP,hV,hL,hC,hR,⟨a1,a2,a0,hP1⟩,⟨b1,b2,b0,hV1⟩,⟨c1,c2,c0,hL1⟩,⟨d1,d2,d0,hC1⟩,⟨e1,e2,e0,hR1⟩,hok,hop,hcf⟩:=q4B hw hM
 exact Ok.of_fn hm quD 5 qNA (args:=[.v (.agg ⟨wQ w oa ca ob cb oc cc od cd oe ce⟩),.v (.agg ⟨mQ m o1 t1 o2 t2 o3 t3⟩)]) (by
  repeat((conv=>whnf);first|apply qza|apply qzb|apply qzc|apply qzd|apply qze|intro(_:Nat))
  conv=>whnf
  refine dT (by omega) ?_
  repeat((conv=>whnf);first|apply qza|apply qzb|apply qzc|apply qzd|apply qze|intro(_:Nat))
  conv=>whnf
  refine dF (by omega) ?_
  repeat((conv=>whnf);first|apply qza|apply qzb|apply qzc|apply qzd|apply qze|intro(_:Nat))
  conv=>whnf
  refine dF (by omega) ?_
  repeat((conv=>whnf);first|apply qza|apply qzb|apply qzc|apply qzd|apply qze|intro(_:Nat))
  conv=>whnf
  refine dF (by omega) ?_
  repeat((conv=>whnf);first|apply qza|apply qzb|apply qzc|apply qzd|apply qze|intro(_:Nat))
  conv=>whnf
  refine .inl ⟨_,qYA _ hw0 hM0 hsn hb,?_⟩
  repeat((conv=>whnf);first|apply qza|apply qzb|apply qzc|apply qzd|apply qze|intro(_:Nat))
  conv=>whnf
  refine⟨fun hx=>absurd (hs.symm.trans (nb1 hx)) (by decide),fun _=>?_⟩
  repeat((conv=>whnf);first|apply qza|apply qzb|apply qzc|apply qzd|apply qze|intro(_:Nat))
  conv=>whnf
  refine⟨fun _=>?_,fun _=>?_⟩
  case' refine_1 =>
   repeat((conv=>whnf);first|apply qza|apply qzb|apply qzc|apply qzd|apply qze|intro(_:Nat))
   conv=>whnf
   refine⟨fun hx=>absurd hx (by simp [h0]),fun _=>?_⟩
   repeat((conv=>whnf);first|apply qza|apply qzb|apply qzc|apply qzd|apply qze|intro(_:Nat))
   conv=>whnf
   refine⟨fun hx=>absurd hx (by simp [h0]),fun _=>?_⟩
   repeat((conv=>whnf);first|apply qza|apply qzb|apply qzc|apply qzd|apply qze|intro(_:Nat))
   conv=>whnf
   refine⟨fun hx=>absurd hx (by simp [h0]),fun _=>?_⟩
  all_goals (
   repeat((conv=>whnf);first|apply qza|apply qzb|apply qzc|apply qzd|apply qze|intro(_:Nat))
   conv=>whnf
   refine .inl ⟨_,qRB _,?_⟩
   repeat((conv=>whnf);first|apply qza|apply qzb|apply qzc|apply qzd|apply qze|intro(_:Nat))
   conv=>whnf
   refine⟨9,⟨h0,by decide⟩,?_⟩
   repeat((conv=>whnf);first|apply qza|apply qzb|apply qzc|apply qzd|apply qze|intro(_:Nat))
   conv=>whnf
   refine⟨fun h=>(nomatch h),fun _=>?_⟩
   repeat((conv=>whnf);first|apply qza|apply qzb|apply qzc|apply qzd|apply qze|intro(_:Nat))
   refine .inr ((qeA _ hw0 hb).mono fun v g3 hg3 hO=>?_)
   obtain⟨cs,T,rfl,hT⟩:=hO
   have hF:=qTA hT
   obtain⟨oa',ca',ob',cb',oc',cc',od',cd',oe',ce',rfl⟩:=qKA hF
   have hFv:=qyO hF
   obtain⟨av,rfl⟩:=qJA hFv hS.ver.2
   obtain⟨oL,cL,oR,cR,oC,cC,oG,cG,hcv,hsn3,hcK,hcG⟩:=qnE hFv hS.ver.2
   obtain⟨ag,rfl⟩:=qJA hcG hS.clu.2
   obtain⟨oE,cE,hcg,htk,hcE⟩:=qSF hcG hS.clu.2
   obtain⟨ae,rfl⟩:=qJA hcE hS.end_.2
   obtain⟨oN,cN,hce,hei,hcN⟩:=qaF hcE hS.end_.2
   obtain⟨hvi,hgi,hki⟩:=hS.idx
   obtain⟨hmV,hmG,hmE⟩:=hS.at_
   unfold Go.Proofs.YthonngjhelcpeaaGreat.Sx.hM9 at hM9
   rw [hmE] at hM9 hE9
   simp only [evV,hmV] at hE9
   have hir:=qYP en.head
   have hnl:=hei.2.2
   repeat((conv=>whnf);first|apply qza|apply qzb|apply qzc|apply qzd|apply qze|intro(_:Nat))
   conv=>whnf
   refine⟨q6F,?_⟩
   repeat'((conv=>whnf);first|apply qza|apply qzb|apply qzc|apply qzd|apply qze|intro(_:Nat)|refine⟨_,fun gp hle hin=>qcC gp (hin.cel (id:=6) rfl 13 rfl) (hin.cel (id:=6) rfl 15 rfl) (hin.cel (id:=6) rfl 16 rfl) (hin.cel (id:=5) rfl 4 rfl) hvi (hcv.mono hle) hgi (hcg.mono hle) hki,?_⟩|refine⟨_,hce 0 _ rfl,?_⟩|refine .inl ⟨_,qsB _ hei.1,?_⟩|refine And.intro ?_ ?_|fail)
   all_goals (try exact Eq.refl _)
   ·intro z
    have z:=of_decide_eq_true z
    rw [if_neg (by omega)] at hM9
    repeat'((conv=>whnf);first|apply qza|apply qzb|apply qzc|apply qzd|apply qze|intro(_:Nat)|refine⟨_,fun gp hle hin=>qcC gp (hin.cel (id:=6) rfl 13 rfl) (hin.cel (id:=6) rfl 15 rfl) (hin.cel (id:=6) rfl 16 rfl) (hin.cel (id:=5) rfl 4 rfl) hvi (hcv.mono hle) hgi (hcg.mono hle) hki,?_⟩|refine⟨_,hce 0 _ rfl,?_⟩|refine⟨_,fun gp hle hin=>qPE gp (hin.cel (id:=6) rfl 10 rfl) (hin.cel (id:=6) rfl 13 rfl) (hin.cel (id:=5) rfl 4 rfl) hvi (hcv.mono hle),?_⟩|refine And.intro ?_ ?_|fail)
    all_goals (conv=>whnf)
    all_goals (first|exact Eq.refl _|(
    intro g2 hg
    refine⟨_,_,by rw [hE9]<;>rfl,by rw [hW9];exact qDA _ _ _ _ hg hF,?_⟩
    rw [hM9]
    exact⟨_,_,_,rfl,{hok with word:=hei.1,pc:=show InR (20:Int) by decide,answer:=qKG (by decide)},hop,qCA _ _ _ _ (GW.trans hg3 hg) hcf⟩))
   ·intro z
    have z:=of_decide_eq_false z
    repeat'((conv=>whnf);first|apply qza|apply qzb|apply qzc|apply qzd|apply qze|intro(_:Nat)|refine⟨_,fun gp hle hin=>qcC gp (hin.cel (id:=6) rfl 13 rfl) (hin.cel (id:=6) rfl 15 rfl) (hin.cel (id:=6) rfl 16 rfl) (hin.cel (id:=5) rfl 4 rfl) hvi (hcv.mono hle) hgi (hcg.mono hle) hki,?_⟩|refine⟨_,hce 1 _ rfl,?_⟩|fail)
    refine And.intro (fun z2=>?_) (fun z2=>?_)
    ·have z2:=of_decide_eq_true z2
     rw [if_neg (by omega)] at hM9
     repeat'((conv=>whnf);first|apply qza|apply qzb|apply qzc|apply qzd|apply qze|intro(_:Nat)|refine⟨_,fun gp hle hin=>qcC gp (hin.cel (id:=6) rfl 13 rfl) (hin.cel (id:=6) rfl 15 rfl) (hin.cel (id:=6) rfl 16 rfl) (hin.cel (id:=5) rfl 4 rfl) hvi (hcv.mono hle) hgi (hcg.mono hle) hki,?_⟩|refine⟨_,hce 0 _ rfl,?_⟩|refine⟨_,fun gp hle hin=>qPE gp (hin.cel (id:=6) rfl 10 rfl) (hin.cel (id:=6) rfl 13 rfl) (hin.cel (id:=5) rfl 4 rfl) hvi (hcv.mono hle),?_⟩|refine And.intro ?_ ?_|fail)
     all_goals (conv=>whnf)
     all_goals (first|exact Eq.refl _|(
     intro g2 hg
     refine⟨_,_,by rw [hE9]<;>rfl,by rw [hW9];exact qDA _ _ _ _ hg hF,?_⟩
     rw [hM9]
     exact⟨_,_,_,rfl,{hok with word:=hei.1,pc:=show InR (20:Int) by decide,answer:=qKG (by decide)},hop,qCA _ _ _ _ (GW.trans hg3 hg) hcf⟩))
    ·have z2:=of_decide_eq_false z2
     rw [if_pos (by omega)] at hM9
     repeat'((conv=>whnf);first|apply qza|apply qzb|apply qzc|apply qzd|apply qze|intro(_:Nat)|refine⟨_,fun gp hle hin=>qcC gp (hin.cel (id:=6) rfl 13 rfl) (hin.cel (id:=6) rfl 15 rfl) (hin.cel (id:=6) rfl 16 rfl) (hin.cel (id:=5) rfl 4 rfl) hvi (hcv.mono hle) hgi (hcg.mono hle) hki,?_⟩|refine⟨_,hce 0 _ rfl,?_⟩|refine⟨_,fun gp hle hin=>qPE gp (hin.cel (id:=6) rfl 10 rfl) (hin.cel (id:=6) rfl 13 rfl) (hin.cel (id:=5) rfl 4 rfl) hvi (hcv.mono hle),?_⟩|refine And.intro ?_ ?_|fail)
     all_goals (conv=>whnf)
     all_goals (first|exact Eq.refl _|(
     intro g2 hg
     refine⟨_,_,by rw [hE9]<;>rfl,by rw [hW9];exact qDA _ _ _ _ hg hF,?_⟩
     rw [hM9]
     exact⟨_,_,_,rfl,{hok with word:=hei.1,slot:=show InR (idxT en.head) by unfold InR;omega,pc:=show InR (10:Int) by decide},hop,qCA _ _ _ _ (GW.trans hg3 hg) hcf⟩))))
/- Requests: the program's step,place 10. -/
open Go.Proofs.YthonngjhelcpeaaGreat.Sx Go.RowKit
theorem q5W (g:GW) {cs ms:List Value} {w:Wd} {m:Mach} (hw:rWo g cs w) (hM:qhA g ms m) (hsn:SnW w) (hb:BgW 1000000 w) (hsz:SmO m) (hgo:hGo w m) (h0:m.pc=10):Ok Tryz.prog qLA [.agg ⟨cs⟩,.agg ⟨ms⟩] g (HaP w m):=by
 obtain⟨hW9,hM9,hE9⟩:=qdB hgo (by omega)
 obtain⟨kW,kM,kE⟩:=ha10 h0
 rw [kW] at hW9
 rw [kM] at hM9
 rw [kE] at hE9
 clear kW kM kE
 have hs:=hgo.1
 obtain⟨v,gr,en,hS⟩:=id (suitB_iff.1 hs)
 obtain⟨oa,ca,ob,cb,oc,cc,od,cd,oe,ce,o1,t1,o2,t2,o3,t3,rfl,rfl,hw0,hM0,⟨i1,i2,i3⟩,hP,hV,hL,hC,hR,⟨a1,a2,a0,hP1⟩,⟨b1,b2,b0,hV1⟩,⟨c1,c2,c0,hL1⟩,⟨d1,d2,d0,hC1⟩,⟨e1,e2,e0,hR1⟩,hok,hop,hcf⟩:=q4B hw hM
 exact Ok.of_fn hm quD 5 qNA (args:=[.v (.agg ⟨wQ w oa ca ob cb oc cc od cd oe ce⟩),.v (.agg ⟨mQ m o1 t1 o2 t2 o3 t3⟩)]) (by
  repeat((conv=>whnf);first|apply qza|apply qzb|apply qzc|apply qzd|apply qze|intro(_:Nat))
  conv=>whnf
  refine dT (by omega) ?_
  repeat((conv=>whnf);first|apply qza|apply qzb|apply qzc|apply qzd|apply qze|intro(_:Nat))
  conv=>whnf
  refine dF (by omega) ?_
  repeat((conv=>whnf);first|apply qza|apply qzb|apply qzc|apply qzd|apply qze|intro(_:Nat))
  conv=>whnf
  refine dF (by omega) ?_
  repeat((conv=>whnf);first|apply qza|apply qzb|apply qzc|apply qzd|apply qze|intro(_:Nat))
  conv=>whnf
  refine dF (by omega) ?_
  repeat((conv=>whnf);first|apply qza|apply qzb|apply qzc|apply qzd|apply qze|intro(_:Nat))
  conv=>whnf
  refine .inl ⟨_,qYA _ hw0 hM0 hsn hb,?_⟩
  repeat((conv=>whnf);first|apply qza|apply qzb|apply qzc|apply qzd|apply qze|intro(_:Nat))
  conv=>whnf
  refine⟨fun hx=>absurd (hs.symm.trans (nb1 hx)) (by decide),fun _=>?_⟩
  repeat((conv=>whnf);first|apply qza|apply qzb|apply qzc|apply qzd|apply qze|intro(_:Nat))
  conv=>whnf
  refine⟨fun _=>?_,fun _=>?_⟩
  case' refine_1 =>
   repeat((conv=>whnf);first|apply qza|apply qzb|apply qzc|apply qzd|apply qze|intro(_:Nat))
   conv=>whnf
   refine⟨fun hx=>absurd hx (by simp [h0]),fun _=>?_⟩
   repeat((conv=>whnf);first|apply qza|apply qzb|apply qzc|apply qzd|apply qze|intro(_:Nat))
   conv=>whnf
   refine⟨fun hx=>absurd hx (by simp [h0]),fun _=>?_⟩
   repeat((conv=>whnf);first|apply qza|apply qzb|apply qzc|apply qzd|apply qze|intro(_:Nat))
   conv=>whnf
   refine⟨fun hx=>absurd hx (by simp [h0]),fun _=>?_⟩
  all_goals (
   repeat((conv=>whnf);first|apply qza|apply qzb|apply qzc|apply qzd|apply qze|intro(_:Nat))
   conv=>whnf
   refine .inl ⟨_,qRB _,?_⟩
   repeat((conv=>whnf);first|apply qza|apply qzb|apply qzc|apply qzd|apply qze|intro(_:Nat))
   conv=>whnf
   refine⟨10,⟨h0,by decide⟩,?_⟩
   repeat((conv=>whnf);first|apply qza|apply qzb|apply qzc|apply qzd|apply qze|intro(_:Nat))
   conv=>whnf
   refine⟨fun h=>(nomatch h),fun _=>?_⟩
   repeat((conv=>whnf);first|apply qza|apply qzb|apply qzc|apply qzd|apply qze|intro(_:Nat))
   refine .inr ((qeA _ hw0 hb).mono fun v g3 hg3 hO=>?_)
   obtain⟨cs,T,rfl,hT⟩:=hO
   have hF:=qTA hT
   obtain⟨oa',ca',ob',cb',oc',cc',od',cd',oe',ce',rfl⟩:=qKA hF
   have hFv:=qyO hF
   obtain⟨av,rfl⟩:=qJA hFv hS.ver.2
   obtain⟨oL,cL,oR,cR,oC,cC,oG,cG,hcv,hsn3,hcK,hcG⟩:=qnE hFv hS.ver.2
   obtain⟨ag,rfl⟩:=qJA hcG hS.clu.2
   obtain⟨oE,cE,hcg,htk,hcE⟩:=qSF hcG hS.clu.2
   obtain⟨ae,rfl⟩:=qJA hcE hS.end_.2
   obtain⟨oN,cN,hce,hei,hcN⟩:=qaF hcE hS.end_.2
   obtain⟨hvi,hgi,hki⟩:=hS.idx
   obtain⟨hmV,hmG,hmE⟩:=hS.at_
   obtain⟨y,hy⟩:=qAA (l:=en.next) (i:=m.slot.toNat) (by have:=hS.slot;omega)
   obtain⟨an,rfl⟩:=qJA hcN hy
   obtain⟨hyr,hcy⟩:=qsQ hcN hy
   have hsi:=hS.slot
   rw [hmE,hy] at hM9 hE9
   simp only [evV,hmV,Option.getD_some] at hE9 hM9
   repeat((conv=>whnf);first|apply qza|apply qzb|apply qzc|apply qzd|apply qze|intro(_:Nat))
   conv=>whnf
   refine⟨q5F,?_⟩
   repeat'((conv=>whnf);first|apply qza|apply qzb|apply qzc|apply qzd|apply qze|intro(_:Nat)|refine⟨_,fun gp hle hin=>qcC gp (hin.cel (id:=6) rfl 13 rfl) (hin.cel (id:=6) rfl 15 rfl) (hin.cel (id:=6) rfl 16 rfl) (hin.cel (id:=5) rfl 4 rfl) hvi (hcv.mono hle) hgi (hcg.mono hle) hki,?_⟩|refine⟨_,hce 1 _ rfl,?_⟩|refine⟨_,rfl,hsi,?_⟩|refine⟨_,hcy 0 _ rfl,?_⟩|refine⟨_,fun gp hle hin=>qPE gp (hin.cel (id:=6) rfl 10 rfl) (hin.cel (id:=6) rfl 13 rfl) (hin.cel (id:=5) rfl 4 rfl) hvi (hcv.mono hle),?_⟩|refine And.intro ?_ ?_|fail)
   all_goals (conv=>whnf)
   all_goals (first|exact Eq.refl _|(
   intro g2 hg
   refine⟨_,_,by rw [hE9]<;>rfl,by rw [hW9];exact qDA _ _ _ _ hg hF,?_⟩
   rw [hM9]
   exact⟨_,_,_,rfl,{hok with link:=hyr,pc:=show InR (11:Int) by decide},hop,qCA _ _ _ _ (GW.trans hg3 hg) hcf⟩))))
/- Requests: the program's step,place 11. -/
open Go.Proofs.YthonngjhelcpeaaGreat.Sx Go.RowKit
theorem q4W (g:GW) {cs ms:List Value} {w:Wd} {m:Mach} (hw:rWo g cs w) (hM:qhA g ms m) (hsn:SnW w) (hb:BgW 1000000 w) (hsz:SmO m) (hgo:hGo w m) (h0:m.pc=11):Ok Tryz.prog qLA [.agg ⟨cs⟩,.agg ⟨ms⟩] g (HaP w m):=by
 obtain⟨hW9,hM9,hE9⟩:=qdB hgo (by omega)
 obtain⟨kW,kM,kE⟩:=ha11 h0
 rw [kW] at hW9
 rw [kM] at hM9
 rw [kE] at hE9
 clear kW kM kE
 have hs:=hgo.1
 obtain⟨v,gr,en,hS⟩:=id (suitB_iff.1 hs)
 obtain⟨oa,ca,ob,cb,oc,cc,od,cd,oe,ce,o1,t1,o2,t2,o3,t3,rfl,rfl,hw0,hM0,⟨i1,i2,i3⟩,hP,hV,hL,hC,hR,⟨a1,a2,a0,hP1⟩,⟨b1,b2,b0,hV1⟩,⟨c1,c2,c0,hL1⟩,⟨d1,d2,d0,hC1⟩,⟨e1,e2,e0,hR1⟩,hok,hop,hcf⟩:=q4B hw hM
 exact Ok.of_fn hm quD 5 qNA (args:=[.v (.agg ⟨wQ w oa ca ob cb oc cc od cd oe ce⟩),.v (.agg ⟨mQ m o1 t1 o2 t2 o3 t3⟩)]) (by
  repeat((conv=>whnf);first|apply qza|apply qzb|apply qzc|apply qzd|apply qze|intro(_:Nat))
  conv=>whnf
  refine dT (by omega) ?_
  repeat((conv=>whnf);first|apply qza|apply qzb|apply qzc|apply qzd|apply qze|intro(_:Nat))
  conv=>whnf
  refine dF (by omega) ?_
  repeat((conv=>whnf);first|apply qza|apply qzb|apply qzc|apply qzd|apply qze|intro(_:Nat))
  conv=>whnf
  refine dF (by omega) ?_
  repeat((conv=>whnf);first|apply qza|apply qzb|apply qzc|apply qzd|apply qze|intro(_:Nat))
  conv=>whnf
  refine dF (by omega) ?_
  repeat((conv=>whnf);first|apply qza|apply qzb|apply qzc|apply qzd|apply qze|intro(_:Nat))
  conv=>whnf
  refine .inl ⟨_,qYA _ hw0 hM0 hsn hb,?_⟩
  repeat((conv=>whnf);first|apply qza|apply qzb|apply qzc|apply qzd|apply qze|intro(_:Nat))
  conv=>whnf
  refine⟨fun hx=>absurd (hs.symm.trans (nb1 hx)) (by decide),fun _=>?_⟩
  repeat((conv=>whnf);first|apply qza|apply qzb|apply qzc|apply qzd|apply qze|intro(_:Nat))
  conv=>whnf
  refine⟨fun _=>?_,fun _=>?_⟩
  case' refine_1 =>
   repeat((conv=>whnf);first|apply qza|apply qzb|apply qzc|apply qzd|apply qze|intro(_:Nat))
   conv=>whnf
   refine⟨fun hx=>absurd hx (by simp [h0]),fun _=>?_⟩
   repeat((conv=>whnf);first|apply qza|apply qzb|apply qzc|apply qzd|apply qze|intro(_:Nat))
   conv=>whnf
   refine⟨fun hx=>absurd hx (by simp [h0]),fun _=>?_⟩
   repeat((conv=>whnf);first|apply qza|apply qzb|apply qzc|apply qzd|apply qze|intro(_:Nat))
   conv=>whnf
   refine⟨fun hx=>absurd hx (by simp [h0]),fun _=>?_⟩
  all_goals (
   repeat((conv=>whnf);first|apply qza|apply qzb|apply qzc|apply qzd|apply qze|intro(_:Nat))
   conv=>whnf
   refine .inl ⟨_,qRB _,?_⟩
   repeat((conv=>whnf);first|apply qza|apply qzb|apply qzc|apply qzd|apply qze|intro(_:Nat))
   conv=>whnf
   refine⟨11,⟨h0,by decide⟩,?_⟩
   repeat((conv=>whnf);first|apply qza|apply qzb|apply qzc|apply qzd|apply qze|intro(_:Nat))
   conv=>whnf
   refine⟨fun h=>(nomatch h),fun _=>?_⟩
   repeat((conv=>whnf);first|apply qza|apply qzb|apply qzc|apply qzd|apply qze|intro(_:Nat))
   refine .inr ((qeA _ hw0 hb).mono fun v g3 hg3 hO=>?_)
   obtain⟨cs,T,rfl,hT⟩:=hO
   have hF:=qTA hT
   obtain⟨oa',ca',ob',cb',oc',cc',od',cd',oe',ce',rfl⟩:=qKA hF
   obtain⟨b1,k1,b2,k2,va,vb,vd,vn,T2,hq,hcv,hcg,htk,hE2,_,hPK⟩:=qdC hT hS.ver.2 hS.clu.2
   cases hq
   have hei:=(qGE hF hS.ver.2 hS.clu.2 hS.end_.2).1
   obtain⟨hvi,hgi,hki⟩:=hS.idx
   obtain⟨hmV,hmG,hmE⟩:=hS.at_
   have hwu:=hok.word
   simp only [casB,hmE,evV,setE,hmV,hmG] at hW9 hM9 hE9
   by_cases hcas:(decide (en.head=m.word)&&qNB m.link)=true
   ·rw [if_pos hcas] at hW9 hE9
    rw [hcas] at hM9
    simp only [Bool.and_eq_true,decide_eq_true_eq] at hcas
    obtain⟨hc1,hc2⟩:=hcas
    have hpl:-1≤m.link∧m.link≤2147483646:=by simpa [qNB] using hc2
    obtain⟨b3,k3,nn,T3,hqn,hce,hN,hPE⟩:=q8A hE2 hS.end_.2 (en':={en with head:=qBB m.word m.link}) (o:=0) (vs:=[.int .u64 (qBB m.word m.link)]) (by simp) (by simp [Value.oneCell']) (fun n=>rfl) rfl ⟨qCP hpl,hei.2.1⟩
    subst hqn
    obtain⟨b5,j5,bc,ty5,⟨hA,p1,p2,p3,p4⟩,_,hk5⟩:=hPK _ _ _ hPE
    repeat((conv=>whnf);first|apply qza|apply qzb|apply qzc|apply qzd|apply qze|intro(_:Nat))
    conv=>whnf
    refine⟨qND,?_⟩
    simp only [if_true] at hM9
    repeat'((conv=>whnf);first|apply qza|apply qzb|apply qzc|apply qzd|apply qze|intro(_:Nat)|refine .inl ⟨_,qcS _ hwu hpl,?_⟩|refine⟨_,fun gp hle hin=>qcC gp (hin.cel (id:=6) rfl 13 rfl) (hin.cel (id:=6) rfl 15 rfl) (hin.cel (id:=6) rfl 16 rfl) (hin.cel (id:=5) rfl 4 rfl) hvi (hcv.mono hle) hgi (hcg.mono hle) hki,?_⟩|refine⟨_,hce 0 _ rfl,?_⟩|fail)
    refine And.intro (fun hx=>absurd hx (by simp [hc1])) (fun _=>?_)
    repeat'((conv=>whnf);first|apply qza|apply qzb|apply qzc|apply qzd|apply qze|intro(_:Nat)|refine⟨_,fun gp hle hin=>qcC gp (hin.cel (id:=6) rfl 13 rfl) (hin.cel (id:=6) rfl 15 rfl) (hin.cel (id:=6) rfl 16 rfl) (hin.cel (id:=5) rfl 4 rfl) hvi (hcv.mono hle) hgi (hcg.mono hle) hki,?_⟩|refine⟨_,hce 0 _ rfl,?_⟩|fail)
    refine And.intro (fun hx=>absurd hx (by decide)) (fun _=>?_)
    repeat'((conv=>whnf);first|apply qza|apply qzb|apply qzc|apply qzd|apply qze|intro(_:Nat)|refine⟨_,fun gp hle hin=>qcC gp (hin.cel (id:=6) rfl 13 rfl) (hin.cel (id:=6) rfl 15 rfl) (hin.cel (id:=6) rfl 16 rfl) (hin.cel (id:=5) rfl 4 rfl) hvi (hcv.mono hle) hgi (hcg.mono hle) hki,?_⟩|refine⟨_,hce 0 _ rfl,?_⟩|fail)
    conv=>whnf
    refine⟨b5,j5,bc,ty5,⟨by first|exact hA|(rw [← hA];rfl)|(rw [← hA,qwA]),p1,p2,p3,p4⟩,?_⟩
    repeat((conv=>whnf);first|apply qza|apply qzb|apply qzc|apply qzd|apply qze|intro(_:Nat))
    conv=>whnf
    refine fun g6 u6=>?_
    have hFx:=qTA (hk5 g6 u6)
    have hle6:g≤g6:=u6.le hg3 (fun h=>by have:=g.wf _ h;omega)
    have hcw:=u6.rd p2 p4
    rw [← hA] at hcw
    have hv6:=qlA (y:=({v with groups:=v.groups.set m.cluster.toNat ({gr with ends:=gr.ends.set m.end_.toNat ({en with head:=qBB m.word m.link}:EndC)}:Group)}:Version)) hS.ver.2
    have hx6:=qlA (y:=({gr with ends:=gr.ends.set m.end_.toNat ({en with head:=qBB m.word m.link}:EndC)}:Group)) hS.clu.2
    have hFv6:=qyO hFx
    obtain⟨oL6,cL6,oR6,cR6,oC6,cC6,oG6,cG6,hcv6,hsn6,hcK6,hcG6⟩:=qnE hFv6 hv6
    obtain⟨ag6,rfl⟩:=qJA hcG6 hx6
    obtain⟨oE6,cE6,hcg6,_,hcE6⟩:=qSF hcG6 hx6
    have hvi6:0≤m.version∧m.version<w.versions.length:=hvi
    have hgi6:0≤m.cluster∧m.cluster<((v.groups.set m.cluster.toNat ({gr with ends:=gr.ends.set m.end_.toNat ({en with head:=qBB m.word m.link}:EndC)}:Group)).length:Nat):=by simpa only [List.length_set] using hgi
    have he6:=qlA (y:=({en with head:=qBB m.word m.link}:EndC)) hS.end_.2
    obtain⟨ae6,rfl⟩:=qJA hcE6 he6
    obtain⟨oN6,cN6,hce6,_,hcN6⟩:=qaF hcE6 he6
    have hki6:0≤m.end_∧m.end_<((gr.ends.set m.end_.toNat ({en with head:=qBB m.word m.link}:EndC)).length:Nat):=by simpa only [List.length_set] using hki
    repeat'((conv=>whnf);first|apply qza|apply qzb|apply qzc|apply qzd|apply qze|intro(_:Nat)|refine⟨_,fun gp hle hin=>qPE gp (hin.cel (id:=6) rfl 10 rfl) (hin.cel (id:=6) rfl 13 rfl) (hin.cel (id:=5) rfl 4 rfl) hvi6 (hcv6.mono hle),?_⟩|refine And.intro ?_ ?_|fail)
    all_goals (conv=>whnf)
    all_goals (first|exact Eq.refl _|(
    intro g2 hg
    refine⟨_,_,by rw [hE9]<;>rfl,by rw [hW9];exact qDA _ _ _ _ hg hFx,?_⟩
    rw [hM9]
    exact⟨_,_,_,rfl,{hok with pc:=show InR (12:Int) by decide},hop,qCA _ _ _ _ (GW.trans hle6 hg) hcf⟩))
   ·rw [if_neg hcas] at hW9 hE9
    rw [if_neg hcas] at hM9
    obtain⟨b3,k3,nn,T3,hqn,hce,hN,hPE⟩:=q8A hE2 hS.end_.2 (en':=en) (o:=0) (vs:=[.int .u64 en.head]) (by simp) (by simp [Value.oneCell']) (fun n=>rfl) rfl ⟨hei.1,hei.2.1⟩
    subst hqn
    repeat((conv=>whnf);first|apply qza|apply qzb|apply qzc|apply qzd|apply qze|intro(_:Nat))
    conv=>whnf
    refine⟨qND,?_⟩
    repeat'((conv=>whnf);first|apply qza|apply qzb|apply qzc|apply qzd|apply qze|intro(_:Nat)|refine .inl ⟨_,qVU _ hwu hok.link,?_⟩|refine⟨_,fun gp hle hin=>qcC gp (hin.cel (id:=6) rfl 13 rfl) (hin.cel (id:=6) rfl 15 rfl) (hin.cel (id:=6) rfl 16 rfl) (hin.cel (id:=5) rfl 4 rfl) hvi (hcv.mono hle) hgi (hcg.mono hle) hki,?_⟩|refine⟨_,hce 0 _ rfl,?_⟩|fail)
    refine And.intro (fun _=>?_) (fun z=>?_)
    ·repeat'((conv=>whnf);first|apply qza|apply qzb|apply qzc|apply qzd|apply qze|intro(_:Nat)|refine⟨_,fun gp hle hin=>qcC gp (hin.cel (id:=6) rfl 13 rfl) (hin.cel (id:=6) rfl 15 rfl) (hin.cel (id:=6) rfl 16 rfl) (hin.cel (id:=5) rfl 4 rfl) hvi (hcv.mono hle) hgi (hcg.mono hle) hki,?_⟩|refine⟨_,hce 0 _ rfl,?_⟩|refine .inl ⟨_,qsB _ hei.1,?_⟩|refine⟨_,fun gp hle hin=>qPE gp (hin.cel (id:=6) rfl 10 rfl) (hin.cel (id:=6) rfl 13 rfl) (hin.cel (id:=5) rfl 4 rfl) hvi (hcv.mono hle),?_⟩|refine And.intro ?_ ?_|fail)
     all_goals (conv=>whnf)
     all_goals (first|exact Eq.refl _|(
     intro g2 hg
     refine⟨_,_,by rw [hE9]<;>rfl,by rw [hW9];exact qDA _ _ _ _ hg hF,?_⟩
     rw [hM9]
     exact⟨_,_,_,rfl,{hok with pc:=show InR (9:Int) by decide},hop,qCA _ _ _ _ (GW.trans hg3 hg) hcf⟩))
    ·have hc1:en.head=m.word:=by simpa using z
     have hc2:qNB m.link=false:=by
      cases hpb:qNB m.link
      ·rfl
      ·exact absurd (by simp [hc1,hpb]) hcas
     repeat((conv=>whnf);first|apply qza|apply qzb|apply qzc|apply qzd|apply qze|intro(_:Nat))
     refine And.intro (fun _=>?_) (fun hx=>absurd hx (by simp [hc2]))
     repeat'((conv=>whnf);first|apply qza|apply qzb|apply qzc|apply qzd|apply qze|intro(_:Nat)|refine⟨_,fun gp hle hin=>qcC gp (hin.cel (id:=6) rfl 13 rfl) (hin.cel (id:=6) rfl 15 rfl) (hin.cel (id:=6) rfl 16 rfl) (hin.cel (id:=5) rfl 4 rfl) hvi (hcv.mono hle) hgi (hcg.mono hle) hki,?_⟩|refine⟨_,hce 0 _ rfl,?_⟩|refine .inl ⟨_,qsB _ hei.1,?_⟩|refine⟨_,fun gp hle hin=>qPE gp (hin.cel (id:=6) rfl 10 rfl) (hin.cel (id:=6) rfl 13 rfl) (hin.cel (id:=5) rfl 4 rfl) hvi (hcv.mono hle),?_⟩|refine And.intro ?_ ?_|fail)
     all_goals (conv=>whnf)
     all_goals (first|exact Eq.refl _|(
     intro g2 hg
     refine⟨_,_,by rw [hE9]<;>rfl,by rw [hW9];exact qDA _ _ _ _ hg hF,?_⟩
     rw [hM9]
     exact⟨_,_,_,rfl,{hok with pc:=show InR (9:Int) by decide},hop,qCA _ _ _ _ (GW.trans hg3 hg) hcf⟩))))
/- Requests: the program's step,place 12. -/
open Go.Proofs.YthonngjhelcpeaaGreat.Sx Go.RowKit
theorem q3W (g:GW) {cs ms:List Value} {w:Wd} {m:Mach} (hw:rWo g cs w) (hM:qhA g ms m) (hsn:SnW w) (hb:BgW 1000000 w) (hsz:SmO m) (hgo:hGo w m) (h0:m.pc=12):Ok Tryz.prog qLA [.agg ⟨cs⟩,.agg ⟨ms⟩] g (HaP w m):=by
 obtain⟨hW9,hM9,hE9⟩:=qdB hgo (by omega)
 obtain⟨kW,kM,kE⟩:=ha12 h0
 rw [kW] at hW9
 rw [kM] at hM9
 rw [kE] at hE9
 clear kW kM kE
 have hs:=hgo.1
 obtain⟨v,gr,en,hS⟩:=id (suitB_iff.1 hs)
 obtain⟨oa,ca,ob,cb,oc,cc,od,cd,oe,ce,o1,t1,o2,t2,o3,t3,rfl,rfl,hw0,hM0,⟨i1,i2,i3⟩,hP,hV,hL,hC,hR,⟨a1,a2,a0,hP1⟩,⟨b1,b2,b0,hV1⟩,⟨c1,c2,c0,hL1⟩,⟨d1,d2,d0,hC1⟩,⟨e1,e2,e0,hR1⟩,hok,hop,hcf⟩:=q4B hw hM
 exact Ok.of_fn hm quD 5 qNA (args:=[.v (.agg ⟨wQ w oa ca ob cb oc cc od cd oe ce⟩),.v (.agg ⟨mQ m o1 t1 o2 t2 o3 t3⟩)]) (by
  repeat((conv=>whnf);first|apply qza|apply qzb|apply qzc|apply qzd|apply qze|intro(_:Nat))
  conv=>whnf
  refine dT (by omega) ?_
  repeat((conv=>whnf);first|apply qza|apply qzb|apply qzc|apply qzd|apply qze|intro(_:Nat))
  conv=>whnf
  refine dF (by omega) ?_
  repeat((conv=>whnf);first|apply qza|apply qzb|apply qzc|apply qzd|apply qze|intro(_:Nat))
  conv=>whnf
  refine dF (by omega) ?_
  repeat((conv=>whnf);first|apply qza|apply qzb|apply qzc|apply qzd|apply qze|intro(_:Nat))
  conv=>whnf
  refine dF (by omega) ?_
  repeat((conv=>whnf);first|apply qza|apply qzb|apply qzc|apply qzd|apply qze|intro(_:Nat))
  conv=>whnf
  refine .inl ⟨_,qYA _ hw0 hM0 hsn hb,?_⟩
  repeat((conv=>whnf);first|apply qza|apply qzb|apply qzc|apply qzd|apply qze|intro(_:Nat))
  conv=>whnf
  refine⟨fun hx=>absurd (hs.symm.trans (nb1 hx)) (by decide),fun _=>?_⟩
  repeat((conv=>whnf);first|apply qza|apply qzb|apply qzc|apply qzd|apply qze|intro(_:Nat))
  conv=>whnf
  refine⟨fun _=>?_,fun _=>?_⟩
  case' refine_1 =>
   repeat((conv=>whnf);first|apply qza|apply qzb|apply qzc|apply qzd|apply qze|intro(_:Nat))
   conv=>whnf
   refine⟨fun hx=>absurd hx (by simp [h0]),fun _=>?_⟩
   repeat((conv=>whnf);first|apply qza|apply qzb|apply qzc|apply qzd|apply qze|intro(_:Nat))
   conv=>whnf
   refine⟨fun hx=>absurd hx (by simp [h0]),fun _=>?_⟩
   repeat((conv=>whnf);first|apply qza|apply qzb|apply qzc|apply qzd|apply qze|intro(_:Nat))
   conv=>whnf
   refine⟨fun hx=>absurd hx (by simp [h0]),fun _=>?_⟩
  all_goals (
   repeat((conv=>whnf);first|apply qza|apply qzb|apply qzc|apply qzd|apply qze|intro(_:Nat))
   conv=>whnf
   refine .inl ⟨_,qRB _,?_⟩
   repeat((conv=>whnf);first|apply qza|apply qzb|apply qzc|apply qzd|apply qze|intro(_:Nat))
   conv=>whnf
   refine⟨12,⟨h0,by decide⟩,?_⟩
   repeat((conv=>whnf);first|apply qza|apply qzb|apply qzc|apply qzd|apply qze|intro(_:Nat))
   conv=>whnf
   refine⟨fun h=>(nomatch h),fun _=>?_⟩
   repeat((conv=>whnf);first|apply qza|apply qzb|apply qzc|apply qzd|apply qze|intro(_:Nat))
   refine .inr ((qeA _ hw0 hb).mono fun v g3 hg3 hO=>?_)
   obtain⟨cs,T,rfl,hT⟩:=hO
   have hF:=qTA hT
   obtain⟨oa',ca',ob',cb',oc',cc',od',cd',oe',ce',rfl⟩:=qKA hF
   obtain⟨b1,k1,b2,k2,va,vb,vd,vn,T2,hq,hcv,hcg,htk,hE2,_,hPK⟩:=qdC hT hS.ver.2 hS.clu.2
   cases hq
   have hei:=(qGE hF hS.ver.2 hS.clu.2 hS.end_.2).1
   obtain⟨b3,k3,nn,T3,hqn,hce,hN,hPE⟩:=q8A hE2 hS.end_.2 (en':={en with active:=wI (en.active+1)}) (o:=2) (vs:=[.int .i64 (wI (en.active+1))]) (by simp) (by simp [Value.oneCell']) (fun n=>rfl) rfl ⟨hei.1,qqG _⟩
   subst hqn
   obtain⟨b5,j5,bc,ty5,⟨hA,p1,p2,p3,p4⟩,_,hk5⟩:=hPK _ _ _ hPE
   obtain⟨hvi,hgi,hki⟩:=hS.idx
   obtain⟨hmV,hmG,hmE⟩:=hS.at_
   rw [hmE] at hW9 hE9
   simp only [setE,hmV,hmG] at hW9
   simp only [evV,hmV] at hE9
   repeat((conv=>whnf);first|apply qza|apply qzb|apply qzc|apply qzd|apply qze|intro(_:Nat))
   conv=>whnf
   refine⟨qMH,?_⟩
   repeat'((conv=>whnf);first|apply qza|apply qzb|apply qzc|apply qzd|apply qze|intro(_:Nat)|refine⟨_,fun gp hle hin=>qcC gp (hin.cel (id:=6) rfl 13 rfl) (hin.cel (id:=6) rfl 15 rfl) (hin.cel (id:=6) rfl 16 rfl) (hin.cel (id:=5) rfl 4 rfl) hvi (hcv.mono hle) hgi (hcg.mono hle) hki,?_⟩|refine⟨_,hce 2 _ rfl,?_⟩|fail)
   conv=>whnf
   refine⟨b5,j5,bc,ty5,⟨by first|exact hA|(rw [← hA];rfl)|(rw [← hA,qwA]),p1,p2,p3,p4⟩,?_⟩
   repeat((conv=>whnf);first|apply qza|apply qzb|apply qzc|apply qzd|apply qze|intro(_:Nat))
   conv=>whnf
   refine fun g6 u6=>?_
   have hFx:=qTA (hk5 g6 u6)
   have hle6:g≤g6:=u6.le hg3 (fun h=>by have:=g.wf _ h;omega)
   have hcw:=u6.rd p2 p4
   rw [← hA] at hcw
   have hv6:=qlA (y:=({v with groups:=v.groups.set m.cluster.toNat ({gr with ends:=gr.ends.set m.end_.toNat ({en with active:=wI (en.active+1)}:EndC)}:Group)}:Version)) hS.ver.2
   have hx6:=qlA (y:=({gr with ends:=gr.ends.set m.end_.toNat ({en with active:=wI (en.active+1)}:EndC)}:Group)) hS.clu.2
   have hFv6:=qyO hFx
   obtain⟨oL6,cL6,oR6,cR6,oC6,cC6,oG6,cG6,hcv6,hsn6,hcK6,hcG6⟩:=qnE hFv6 hv6
   obtain⟨ag6,rfl⟩:=qJA hcG6 hx6
   obtain⟨oE6,cE6,hcg6,_,hcE6⟩:=qSF hcG6 hx6
   have hvi6:0≤m.version∧m.version<w.versions.length:=hvi
   have hgi6:0≤m.cluster∧m.cluster<((v.groups.set m.cluster.toNat ({gr with ends:=gr.ends.set m.end_.toNat ({en with active:=wI (en.active+1)}:EndC)}:Group)).length:Nat):=by simpa only [List.length_set] using hgi
   have he6:=qlA (y:=({en with active:=wI (en.active+1)}:EndC)) hS.end_.2
   obtain⟨ae6,rfl⟩:=qJA hcE6 he6
   obtain⟨oN6,cN6,hce6,_,hcN6⟩:=qaF hcE6 he6
   have hki6:0≤m.end_∧m.end_<((gr.ends.set m.end_.toNat ({en with active:=wI (en.active+1)}:EndC)).length:Nat):=by simpa only [List.length_set] using hki
   repeat'((conv=>whnf);first|apply qza|apply qzb|apply qzc|apply qzd|apply qze|intro(_:Nat)|refine⟨_,fun gp hle hin=>qcC gp (hin.cel (id:=6) rfl 13 rfl) (hin.cel (id:=6) rfl 15 rfl) (hin.cel (id:=6) rfl 16 rfl) (hin.cel (id:=5) rfl 4 rfl) hvi6 (hcv6.mono hle) hgi6 (hcg6.mono hle) hki6,?_⟩|refine⟨_,hce6 2 _ rfl,?_⟩|refine⟨_,fun gp hle hin=>qPE gp (hin.cel (id:=6) rfl 10 rfl) (hin.cel (id:=6) rfl 13 rfl) (hin.cel (id:=5) rfl 4 rfl) hvi6 (hcv6.mono hle),?_⟩|refine And.intro ?_ ?_|fail)
   all_goals (conv=>whnf)
   all_goals (first|exact Eq.refl _|(
   intro g2 hg
   refine⟨_,_,by rw [hE9]<;>rfl,by rw [hW9];exact qDA _ _ _ _ hg hFx,?_⟩
   rw [hM9]
   exact⟨_,_,_,rfl,{hok with pc:=show InR (20:Int) by decide,answer:=⟨z1,hok.version,hok.cluster,hok.end_,hok.slot,hok.listen,z0,qnI⟩},hop,qCA _ _ _ _ (GW.trans hle6 hg) hcf⟩))))
end Go.Proofs.YthonngjhelcpeaaGreat
