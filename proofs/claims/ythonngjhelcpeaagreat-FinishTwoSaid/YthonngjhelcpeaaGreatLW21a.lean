/- Ends of requests: events. -/
import Derived.Test.YthonngjhelcpeaaGreatLW9w
import Derived.Test.YthonngjhelcpeaaGreatPP42
import Derived.Test.YthonngjhelcpeaaGreatLW20k
set_option linter.unusedVariables false
set_option linter.unusedSimpArgs false
namespace Go.Proofs.YthonngjhelcpeaaGreat
open Go.Proofs.YthonngjhelcpeaaGreat.Sx Go.RowKit
set_option maxHeartbeats 16000000
set_option maxRecDepth 100000
def FiP (w:Wd) (m:Mach) (v:Value) (g':GW):Prop:=∃ cs ms,v=.tuple #[.agg ⟨cs⟩,.agg ⟨ms⟩,.agg ⟨(fsE w m).cs⟩]∧rWo g' cs (fsW w m)∧qlA g' ms (fsM w m)
theorem qUW {w:Int} (_h:InU w):InR (idxT w):=by
 unfold idxT InR
 omega
theorem qyI (g:GW) {cs ms:List Value} {w:Wd} {m:Mach} {a c x:Int} (hw:rWo g cs w) (hM:qlA g ms m) (hv:0≤m.version∧m.version<w.versions.length):OkV Tryz.prog qtP [.agg ⟨cs⟩,.agg ⟨ms⟩,.int .i64 a,.int .i64 c,.int .i64 x] g (.agg ⟨(evV w m a c x).cs⟩):=by
 obtain⟨oa,ca,ob,cb,oc,cc,od,cd,oe,ce,rfl⟩:=qGA hw
 obtain⟨o1,t1,o2,t2,o3,t3,rfl⟩:=qXA hM
 obtain⟨v,hvv⟩:=qCA (l:=w.versions) (i:=m.version.toNat) (by omega)
 have hmV:mV w m=v:=by unfold mV;rw [hvv];rfl
 have hFv:=qAG hw
 obtain⟨av,rfl⟩:=qEA hFv hvv
 obtain⟨oL,cL,oR,cR,oC,cC,oG,cG,hcv,_,_,_⟩:=qgC hFv hvv
 unfold evV
 rw [hmV]
 exact Ok.of_fn hm noT 0 qKP (args:=[.v (.agg ⟨[.int .i64 w.epoch,.int .i64 w.current,.int .i64 w.lock,.slice oa w.pins.length ca,.slice (some av) w.versions.length cb,.slice oc w.listens.length cc,.slice od w.counts.length cd,.slice oe w.limbo.length ce]⟩),.v (.agg ⟨mQ m o1 t1 o2 t2 o3 t3⟩),.v (.int .i64 a),.v (.int .i64 c),.v (.int .i64 x)]) (by
  repeat'((conv=>whnf);first|apply qza|apply qzb|apply qzc|apply qzd|apply qze|intro(_:Nat)|refine⟨_,rfl,hv,?_⟩|refine⟨_,hcv 4 _ rfl,?_⟩|refine And.intro ?_ ?_|fail)
  all_goals (conv=>whnf)
  all_goals (first|exact Eq.refl _|(intro g2 hg;rfl)))
/- Ends of requests: the program's step,place 0. -/
open Go.Proofs.YthonngjhelcpeaaGreat.Sx Go.RowKit
theorem qLX (g:GW) {cs ms:List Value} {w:Wd} {m:Mach} (hw:rWo g cs w) (hM:qlA g ms m) (hsn:SnW w) (hb:BgW 1000000 w) (hgo:fGo w m) (h0:m.pc=0):Ok Tryz.prog q5A [.agg ⟨cs⟩,.agg ⟨ms⟩] g (FiP w m):=by
 obtain⟨hW9,hM9,hE9⟩:=qNL hgo
 obtain⟨kW,kM,kE⟩:=fa0 (w:=w) h0
 rw [kW] at hW9
 rw [kM] at hM9
 rw [kE] at hE9
 clear kW kM kE
 have hs:=hgo.1
 obtain⟨v,gr,en,hS⟩:=id (suitB_iff.1 hs)
 obtain⟨oa,ca,ob,cb,oc,cc,od,cd,oe,ce,o1,t1,o2,t2,o3,t3,rfl,rfl,hw0,hM0,⟨i1,i2,i3⟩,hP,hV,hL,hC,hR,⟨a1,a2,a0,hP1⟩,⟨b1,b2,b0,hV1⟩,⟨c1,c2,c0,hL1⟩,⟨d1,d2,d0,hC1⟩,⟨e1,e2,e0,hR1⟩,hok,hop,hcf⟩:=qOD hw hM
 exact Ok.of_fn hm noT 0 qZB (args:=[.v (.agg ⟨wQ w oa ca ob cb oc cc od cd oe ce⟩),.v (.agg ⟨mQ m o1 t1 o2 t2 o3 t3⟩)]) (by
  repeat((conv=>whnf);first|apply qza|apply qzb|apply qzc|apply qzd|apply qze|intro(_:Nat))
  conv=>whnf
  refine dF (by omega) ?_
  repeat((conv=>whnf);first|apply qza|apply qzb|apply qzc|apply qzd|apply qze|intro(_:Nat))
  conv=>whnf
  refine dF (by omega) ?_
  repeat((conv=>whnf);first|apply qza|apply qzb|apply qzc|apply qzd|apply qze|intro(_:Nat))
  conv=>whnf
  refine .inl ⟨_,qQA _ hw0 hM0 hsn hb,?_⟩
  repeat((conv=>whnf);first|apply qza|apply qzb|apply qzc|apply qzd|apply qze|intro(_:Nat))
  conv=>whnf
  refine⟨fun hx=>absurd (hs.symm.trans (nb1 hx)) (by decide),fun _=>?_⟩
  repeat((conv=>whnf);first|apply qza|apply qzb|apply qzc|apply qzd|apply qze|intro(_:Nat))
  conv=>whnf
  refine⟨fun hx=>absurd (beqT hx) (by omega),fun _=>?_⟩
  repeat((conv=>whnf);first|apply qza|apply qzb|apply qzc|apply qzd|apply qze|intro(_:Nat))
  refine .inr ((qcA _ hw0 hb).mono fun v g3 hg3 hO=>?_)
  obtain⟨cs,T,rfl,hT⟩:=hO
  have hF:=qgA hT
  obtain⟨oa',ca',ob',cb',oc',cc',od',cd',oe',ce',rfl⟩:=qGA hF
  have hwu:=hok.word
  have hw3:=qBA _ _ _ _ hg3 hw0
  have hM3:=qNA _ _ _ _ hg3 hM0
  obtain⟨b1,k1,b2,k2,va,vb,vd,vn,T2,hq,hcv,hcg,htk,hE2,_,hPK⟩:=qGG hT hS.ver.2 hS.clu.2
  cases hq
  have hei:=(qVJ hF hS.ver.2 hS.clu.2 hS.end_.2).1
  obtain⟨hvi,hgi,hki⟩:=hS.idx
  obtain⟨hmV,hmG,hmE⟩:=hS.at_
  have hp1:IntKind.i64.wrap (m.pc+1)=1:=by rw [h0];rfl
  obtain⟨b3,k3,nn,T3,hqn,hce,hN,hPE⟩:=q2C hE2 hS.end_.2 (en':=en) (o:=0) (vs:=[.int .u64 en.head]) (by simp) (by simp [Value.oneCell']) (fun n=>rfl) rfl ⟨hei.1,hei.2.1⟩
  subst hqn
  rw [hmE] at hM9 hE9
  repeat'((conv=>whnf);first|apply qza|apply qzb|apply qzc|apply qzd|apply qze|intro(_:Nat)|refine⟨_,rfl,hvi,?_⟩|refine⟨_,hcv 3 _ rfl,?_⟩|refine⟨_,rfl,hgi,?_⟩|refine⟨_,hcg 1 _ rfl,?_⟩|refine⟨_,rfl,hki,?_⟩|refine .inl ⟨_,qiB _ hwu,?_⟩|refine .inl ⟨_,qiB _ hei.1,?_⟩|refine⟨_,hce 0 _ rfl,?_⟩|refine .inl ⟨_,qyI _ hw3 hM3 hvi,?_⟩|fail)
  conv=>whnf
  refine⟨fun _=>?_,fun hx=>absurd h0 (beqF hx)⟩
  repeat'((conv=>whnf);first|apply qza|apply qzb|apply qzc|apply qzd|apply qze|intro(_:Nat)|refine⟨_,hce 0 _ rfl,?_⟩|refine And.intro ?_ ?_|fail)
  all_goals (conv=>whnf)
  all_goals (first|exact Eq.refl _|(
   intro g2 hg
   refine⟨_,_,by rw [hE9]<;>rfl,by rw [hW9];exact qBA _ _ _ _ hg hF,?_⟩
   rw [hM9,hp1]
   exact⟨_,_,_,rfl,{hok with pc:=show InR (1:Int) by decide,word:=hei.1},hop,qFA _ _ _ _ (GW.trans hg3 hg) hcf⟩)))
/- Ends of requests: the program's step,place 1. -/
open Go.Proofs.YthonngjhelcpeaaGreat.Sx Go.RowKit
theorem qKX (g:GW) {cs ms:List Value} {w:Wd} {m:Mach} (hw:rWo g cs w) (hM:qlA g ms m) (hsn:SnW w) (hb:BgW 1000000 w) (hgo:fGo w m) (h0:m.pc=1):Ok Tryz.prog q5A [.agg ⟨cs⟩,.agg ⟨ms⟩] g (FiP w m):=by
 obtain⟨hW9,hM9,hE9⟩:=qNL hgo
 obtain⟨kW,kM,kE⟩:=fa1 (w:=w) h0
 rw [kW] at hW9
 rw [kM] at hM9
 rw [kE] at hE9
 clear kW kM kE
 have hs:=hgo.1
 obtain⟨v,gr,en,hS⟩:=id (suitB_iff.1 hs)
 obtain⟨oa,ca,ob,cb,oc,cc,od,cd,oe,ce,o1,t1,o2,t2,o3,t3,rfl,rfl,hw0,hM0,⟨i1,i2,i3⟩,hP,hV,hL,hC,hR,⟨a1,a2,a0,hP1⟩,⟨b1,b2,b0,hV1⟩,⟨c1,c2,c0,hL1⟩,⟨d1,d2,d0,hC1⟩,⟨e1,e2,e0,hR1⟩,hok,hop,hcf⟩:=qOD hw hM
 exact Ok.of_fn hm noT 0 qZB (args:=[.v (.agg ⟨wQ w oa ca ob cb oc cc od cd oe ce⟩),.v (.agg ⟨mQ m o1 t1 o2 t2 o3 t3⟩)]) (by
  repeat((conv=>whnf);first|apply qza|apply qzb|apply qzc|apply qzd|apply qze|intro(_:Nat))
  conv=>whnf
  refine dF (by omega) ?_
  repeat((conv=>whnf);first|apply qza|apply qzb|apply qzc|apply qzd|apply qze|intro(_:Nat))
  conv=>whnf
  refine dF (by omega) ?_
  repeat((conv=>whnf);first|apply qza|apply qzb|apply qzc|apply qzd|apply qze|intro(_:Nat))
  conv=>whnf
  refine .inl ⟨_,qQA _ hw0 hM0 hsn hb,?_⟩
  repeat((conv=>whnf);first|apply qza|apply qzb|apply qzc|apply qzd|apply qze|intro(_:Nat))
  conv=>whnf
  refine⟨fun hx=>absurd (hs.symm.trans (nb1 hx)) (by decide),fun _=>?_⟩
  repeat((conv=>whnf);first|apply qza|apply qzb|apply qzc|apply qzd|apply qze|intro(_:Nat))
  conv=>whnf
  refine⟨fun hx=>absurd (beqT hx) (by omega),fun _=>?_⟩
  repeat((conv=>whnf);first|apply qza|apply qzb|apply qzc|apply qzd|apply qze|intro(_:Nat))
  refine .inr ((qcA _ hw0 hb).mono fun v g3 hg3 hO=>?_)
  obtain⟨cs,T,rfl,hT⟩:=hO
  have hF:=qgA hT
  obtain⟨oa',ca',ob',cb',oc',cc',od',cd',oe',ce',rfl⟩:=qGA hF
  have hwu:=hok.word
  have hw3:=qBA _ _ _ _ hg3 hw0
  have hM3:=qNA _ _ _ _ hg3 hM0
  obtain⟨b1,k1,b2,k2,va,vb,vd,vn,T2,hq,hcv,hcg,htk,hE2,_,hPK⟩:=qGG hT hS.ver.2 hS.clu.2
  cases hq
  have hei:=(qVJ hF hS.ver.2 hS.clu.2 hS.end_.2).1
  obtain⟨hvi,hgi,hki⟩:=hS.idx
  obtain⟨hmV,hmG,hmE⟩:=hS.at_
  have hp1:IntKind.i64.wrap (m.pc+1)=2:=by rw [h0];rfl
  have hsl:=hS.slot
  obtain⟨y,hy⟩:=qCA (l:=en.next) (i:=m.slot.toNat) (by omega)
  obtain⟨b3,k3,b4,k4,hqn,hce,hPE⟩:=qsS hE2 hS.end_.2 (s:=m.slot.toNat) hy (qUW hwu)
  subst hqn
  obtain⟨b5,j5,bc,ty5,⟨hA,p1,p2,p3,p4⟩,_,hk5⟩:=hPK _ _ _ hPE
  rw [hmE,setE,hmV,hmG] at hW9
  repeat'((conv=>whnf);first|apply qza|apply qzb|apply qzc|apply qzd|apply qze|intro(_:Nat)|refine⟨_,rfl,hvi,?_⟩|refine⟨_,hcv 3 _ rfl,?_⟩|refine⟨_,rfl,hgi,?_⟩|refine⟨_,hcg 1 _ rfl,?_⟩|refine⟨_,rfl,hki,?_⟩|refine .inl ⟨_,qiB _ hwu,?_⟩|refine .inl ⟨_,qiB _ hei.1,?_⟩|refine⟨_,hce 0 _ rfl,?_⟩|refine .inl ⟨_,qyI _ hw3 hM3 hvi,?_⟩|fail)
  conv=>whnf
  refine⟨fun hx=>absurd ((beqT hx).symm.trans h0) (by decide),fun _=>?_⟩
  repeat((conv=>whnf);first|apply qza|apply qzb|apply qzc|apply qzd|apply qze|intro(_:Nat))
  conv=>whnf
  refine⟨fun _=>?_,fun hx=>absurd h0 (beqF hx)⟩
  repeat'((conv=>whnf);first|apply qza|apply qzb|apply qzc|apply qzd|apply qze|intro(_:Nat)|refine⟨_,hce 1 _ rfl,?_⟩|refine⟨_,rfl,hsl,?_⟩|fail)
  conv=>whnf
  refine⟨b5,j5,bc,ty5,⟨by first|exact hA|(rw [← hA];rfl)|(rw [← hA,qNB]),p1,p2,p3,p4⟩,?_⟩
  repeat((conv=>whnf);first|apply qza|apply qzb|apply qzc|apply qzd|apply qze|intro(_:Nat))
  conv=>whnf
  refine fun g6 u6=>?_
  have hFx:=qgA (hk5 g6 u6)
  have hle6:g≤g6:=u6.le hg3 (fun h=>by have:=g.wf _ h;omega)
  have hcw:=u6.rd p2 p4
  rw [← hA] at hcw
  repeat'((conv=>whnf);first|apply qza|apply qzb|apply qzc|apply qzd|apply qze|intro(_:Nat)|refine And.intro ?_ ?_|fail)
  all_goals (conv=>whnf)
  all_goals (first|exact Eq.refl _|(
   intro g2 hg
   refine⟨_,_,by rw [hE9]<;>rfl,by rw [hW9];exact qBA _ _ _ _ hg hFx,?_⟩
   rw [hM9,hp1]
   exact⟨_,_,_,rfl,{hok with pc:=show InR (2:Int) by decide},hop,qFA _ _ _ _ (GW.trans hle6 hg) hcf⟩)))
/- Ends of requests: the program's step,place 2. -/
open Go.Proofs.YthonngjhelcpeaaGreat.Sx Go.RowKit
theorem qJX (g:GW) {cs ms:List Value} {w:Wd} {m:Mach} (hw:rWo g cs w) (hM:qlA g ms m) (hsn:SnW w) (hb:BgW 1000000 w) (hgo:fGo w m) (h0:m.pc=2):Ok Tryz.prog q5A [.agg ⟨cs⟩,.agg ⟨ms⟩] g (FiP w m):=by
 obtain⟨hW9,hM9,hE9⟩:=qNL hgo
 obtain⟨kW,kM,kE⟩:=fa2 (w:=w) h0
 rw [kW] at hW9
 rw [kM] at hM9
 rw [kE] at hE9
 clear kW kM kE
 have hs:=hgo.1
 obtain⟨v,gr,en,hS⟩:=id (suitB_iff.1 hs)
 obtain⟨oa,ca,ob,cb,oc,cc,od,cd,oe,ce,o1,t1,o2,t2,o3,t3,rfl,rfl,hw0,hM0,⟨i1,i2,i3⟩,hP,hV,hL,hC,hR,⟨a1,a2,a0,hP1⟩,⟨b1,b2,b0,hV1⟩,⟨c1,c2,c0,hL1⟩,⟨d1,d2,d0,hC1⟩,⟨e1,e2,e0,hR1⟩,hok,hop,hcf⟩:=qOD hw hM
 exact Ok.of_fn hm noT 0 qZB (args:=[.v (.agg ⟨wQ w oa ca ob cb oc cc od cd oe ce⟩),.v (.agg ⟨mQ m o1 t1 o2 t2 o3 t3⟩)]) (by
  repeat((conv=>whnf);first|apply qza|apply qzb|apply qzc|apply qzd|apply qze|intro(_:Nat))
  conv=>whnf
  refine dF (by omega) ?_
  repeat((conv=>whnf);first|apply qza|apply qzb|apply qzc|apply qzd|apply qze|intro(_:Nat))
  conv=>whnf
  refine dF (by omega) ?_
  repeat((conv=>whnf);first|apply qza|apply qzb|apply qzc|apply qzd|apply qze|intro(_:Nat))
  conv=>whnf
  refine .inl ⟨_,qQA _ hw0 hM0 hsn hb,?_⟩
  repeat((conv=>whnf);first|apply qza|apply qzb|apply qzc|apply qzd|apply qze|intro(_:Nat))
  conv=>whnf
  refine⟨fun hx=>absurd (hs.symm.trans (nb1 hx)) (by decide),fun _=>?_⟩
  repeat((conv=>whnf);first|apply qza|apply qzb|apply qzc|apply qzd|apply qze|intro(_:Nat))
  conv=>whnf
  refine⟨fun hx=>absurd (beqT hx) (by omega),fun _=>?_⟩
  repeat((conv=>whnf);first|apply qza|apply qzb|apply qzc|apply qzd|apply qze|intro(_:Nat))
  refine .inr ((qcA _ hw0 hb).mono fun v g3 hg3 hO=>?_)
  obtain⟨cs,T,rfl,hT⟩:=hO
  have hF:=qgA hT
  obtain⟨oa',ca',ob',cb',oc',cc',od',cd',oe',ce',rfl⟩:=qGA hF
  have hwu:=hok.word
  have hw3:=qBA _ _ _ _ hg3 hw0
  have hM3:=qNA _ _ _ _ hg3 hM0
  obtain⟨b1,k1,b2,k2,va,vb,vd,vn,T2,hq,hcv,hcg,htk,hE2,_,hPK⟩:=qGG hT hS.ver.2 hS.clu.2
  cases hq
  have hei:=(qVJ hF hS.ver.2 hS.clu.2 hS.end_.2).1
  obtain⟨hvi,hgi,hki⟩:=hS.idx
  obtain⟨hmV,hmG,hmE⟩:=hS.at_
  have hsl:=hS.slot
  obtain⟨y,hy⟩:=qCA (l:=en.next) (i:=m.slot.toNat) (by omega)
  have h4:=(qJB hS.endB).2.2.1
  have hpl:-1≤m.slot∧m.slot≤2147483646:=by omega
  rw [hmE,setE,hmV,hmG] at hW9
  rw [hmE] at hM9 hE9
  by_cases hc1:en.head=m.word
  ·have hp1:IntKind.i64.wrap (m.pc+1)=3:=by rw [h0];rfl
   rw [if_pos hc1] at hW9 hM9 hE9
   obtain⟨b3,k3,nn,T3,hqn,hce,hN,hPE⟩:=q2C hE2 hS.end_.2 (en':={en with head:=qfB m.word m.slot}) (o:=0) (vs:=[.int .u64 (qfB m.word m.slot)]) (by simp) (by simp [Value.oneCell']) (fun n=>rfl) rfl ⟨q9Q hpl,hei.2.1⟩
   subst hqn
   obtain⟨b5,j5,bc,ty5,⟨hA,p1,p2,p3,p4⟩,_,hk5⟩:=hPK _ _ _ hPE
   repeat'((conv=>whnf);first|apply qza|apply qzb|apply qzc|apply qzd|apply qze|intro(_:Nat)|refine⟨_,rfl,hvi,?_⟩|refine⟨_,hcv 3 _ rfl,?_⟩|refine⟨_,rfl,hgi,?_⟩|refine⟨_,hcg 1 _ rfl,?_⟩|refine⟨_,rfl,hki,?_⟩|refine .inl ⟨_,qiB _ hwu,?_⟩|refine .inl ⟨_,qiB _ hei.1,?_⟩|refine⟨_,hce 0 _ rfl,?_⟩|refine .inl ⟨_,qyI _ hw3 hM3 hvi,?_⟩|fail)
   conv=>whnf
   refine⟨fun hx=>absurd ((beqT hx).symm.trans h0) (by decide),fun _=>?_⟩
   repeat((conv=>whnf);first|apply qza|apply qzb|apply qzc|apply qzd|apply qze|intro(_:Nat))
   conv=>whnf
   refine⟨fun hx=>absurd ((beqT hx).symm.trans h0) (by decide),fun _=>?_⟩
   repeat((conv=>whnf);first|apply qza|apply qzb|apply qzc|apply qzd|apply qze|intro(_:Nat))
   conv=>whnf
   refine⟨fun _=>?_,fun hx=>absurd h0 (beqF hx)⟩
   repeat'((conv=>whnf);first|apply qza|apply qzb|apply qzc|apply qzd|apply qze|intro(_:Nat)|refine⟨_,hce 0 _ rfl,?_⟩|fail)
   conv=>whnf
   refine⟨fun hx=>absurd hc1 (bneT hx),fun _=>?_⟩
   repeat'((conv=>whnf);first|apply qza|apply qzb|apply qzc|apply qzd|apply qze|intro(_:Nat)|refine .inl ⟨_,qtR _ hwu hpl,?_⟩|fail)
   conv=>whnf
   refine⟨b5,j5,bc,ty5,⟨by first|exact hA|(rw [← hA];rfl)|(rw [← hA,qNB]),p1,p2,p3,p4⟩,?_⟩
   repeat((conv=>whnf);first|apply qza|apply qzb|apply qzc|apply qzd|apply qze|intro(_:Nat))
   conv=>whnf
   refine fun g6 u6=>?_
   have hFx:=qgA (hk5 g6 u6)
   have hle6:g≤g6:=u6.le hg3 (fun h=>by have:=g.wf _ h;omega)
   have hcw:=u6.rd p2 p4
   rw [← hA] at hcw
   repeat'((conv=>whnf);first|apply qza|apply qzb|apply qzc|apply qzd|apply qze|intro(_:Nat)|refine And.intro ?_ ?_|fail)
   all_goals (conv=>whnf)
   all_goals (first|exact Eq.refl _|(
    intro g2 hg
    refine⟨_,_,by rw [hE9]<;>rfl,by rw [hW9];exact qBA _ _ _ _ hg hFx,?_⟩
    rw [hM9,hp1]
    exact⟨_,_,_,rfl,{hok with pc:=show InR (3:Int) by decide},hop,qFA _ _ _ _ (GW.trans hle6 hg) hcf⟩))
  ·rw [if_neg hc1] at hW9 hM9 hE9
   obtain⟨b3,k3,nn,T3,hqn,hce,hN,hPE⟩:=q2C hE2 hS.end_.2 (en':=en) (o:=0) (vs:=[.int .u64 en.head]) (by simp) (by simp [Value.oneCell']) (fun n=>rfl) rfl ⟨hei.1,hei.2.1⟩
   subst hqn
   repeat'((conv=>whnf);first|apply qza|apply qzb|apply qzc|apply qzd|apply qze|intro(_:Nat)|refine⟨_,rfl,hvi,?_⟩|refine⟨_,hcv 3 _ rfl,?_⟩|refine⟨_,rfl,hgi,?_⟩|refine⟨_,hcg 1 _ rfl,?_⟩|refine⟨_,rfl,hki,?_⟩|refine .inl ⟨_,qiB _ hwu,?_⟩|refine .inl ⟨_,qiB _ hei.1,?_⟩|refine⟨_,hce 0 _ rfl,?_⟩|refine .inl ⟨_,qyI _ hw3 hM3 hvi,?_⟩|fail)
   conv=>whnf
   refine⟨fun hx=>absurd ((beqT hx).symm.trans h0) (by decide),fun _=>?_⟩
   repeat((conv=>whnf);first|apply qza|apply qzb|apply qzc|apply qzd|apply qze|intro(_:Nat))
   conv=>whnf
   refine⟨fun hx=>absurd ((beqT hx).symm.trans h0) (by decide),fun _=>?_⟩
   repeat((conv=>whnf);first|apply qza|apply qzb|apply qzc|apply qzd|apply qze|intro(_:Nat))
   conv=>whnf
   refine⟨fun _=>?_,fun hx=>absurd h0 (beqF hx)⟩
   repeat'((conv=>whnf);first|apply qza|apply qzb|apply qzc|apply qzd|apply qze|intro(_:Nat)|refine⟨_,hce 0 _ rfl,?_⟩|fail)
   conv=>whnf
   refine⟨fun _=>?_,fun hx=>absurd (bneF hx) hc1⟩
   repeat'((conv=>whnf);first|apply qza|apply qzb|apply qzc|apply qzd|apply qze|intro(_:Nat)|refine And.intro ?_ ?_|fail)
   all_goals (conv=>whnf)
   all_goals (first|exact Eq.refl _|(
    intro g2 hg
    refine⟨_,_,by rw [hE9]<;>rfl,by rw [hW9];exact qBA _ _ _ _ hg hF,?_⟩
    rw [hM9]
    exact⟨_,_,_,rfl,{hok with pc:=show InR (0:Int) by decide},hop,qFA _ _ _ _ (GW.trans hg3 hg) hcf⟩)))
/- Ends of requests: the program's step,place 3. -/
open Go.Proofs.YthonngjhelcpeaaGreat.Sx Go.RowKit
theorem qIX (g:GW) {cs ms:List Value} {w:Wd} {m:Mach} (hw:rWo g cs w) (hM:qlA g ms m) (hsn:SnW w) (hb:BgW 1000000 w) (hgo:fGo w m) (h0:m.pc=3):Ok Tryz.prog q5A [.agg ⟨cs⟩,.agg ⟨ms⟩] g (FiP w m):=by
 obtain⟨hW9,hM9,hE9⟩:=qNL hgo
 obtain⟨kW,kM,kE⟩:=fa3 (w:=w) h0
 rw [kW] at hW9
 rw [kM] at hM9
 rw [kE] at hE9
 clear kW kM kE
 have hs:=hgo.1
 obtain⟨v,gr,en,hS⟩:=id (suitB_iff.1 hs)
 obtain⟨oa,ca,ob,cb,oc,cc,od,cd,oe,ce,o1,t1,o2,t2,o3,t3,rfl,rfl,hw0,hM0,⟨i1,i2,i3⟩,hP,hV,hL,hC,hR,⟨a1,a2,a0,hP1⟩,⟨b1,b2,b0,hV1⟩,⟨c1,c2,c0,hL1⟩,⟨d1,d2,d0,hC1⟩,⟨e1,e2,e0,hR1⟩,hok,hop,hcf⟩:=qOD hw hM
 exact Ok.of_fn hm noT 0 qZB (args:=[.v (.agg ⟨wQ w oa ca ob cb oc cc od cd oe ce⟩),.v (.agg ⟨mQ m o1 t1 o2 t2 o3 t3⟩)]) (by
  repeat((conv=>whnf);first|apply qza|apply qzb|apply qzc|apply qzd|apply qze|intro(_:Nat))
  conv=>whnf
  refine dF (by omega) ?_
  repeat((conv=>whnf);first|apply qza|apply qzb|apply qzc|apply qzd|apply qze|intro(_:Nat))
  conv=>whnf
  refine dF (by omega) ?_
  repeat((conv=>whnf);first|apply qza|apply qzb|apply qzc|apply qzd|apply qze|intro(_:Nat))
  conv=>whnf
  refine .inl ⟨_,qQA _ hw0 hM0 hsn hb,?_⟩
  repeat((conv=>whnf);first|apply qza|apply qzb|apply qzc|apply qzd|apply qze|intro(_:Nat))
  conv=>whnf
  refine⟨fun hx=>absurd (hs.symm.trans (nb1 hx)) (by decide),fun _=>?_⟩
  repeat((conv=>whnf);first|apply qza|apply qzb|apply qzc|apply qzd|apply qze|intro(_:Nat))
  conv=>whnf
  refine⟨fun hx=>absurd (beqT hx) (by omega),fun _=>?_⟩
  repeat((conv=>whnf);first|apply qza|apply qzb|apply qzc|apply qzd|apply qze|intro(_:Nat))
  refine .inr ((qcA _ hw0 hb).mono fun v g3 hg3 hO=>?_)
  obtain⟨cs,T,rfl,hT⟩:=hO
  have hF:=qgA hT
  obtain⟨oa',ca',ob',cb',oc',cc',od',cd',oe',ce',rfl⟩:=qGA hF
  have hwu:=hok.word
  have hw3:=qBA _ _ _ _ hg3 hw0
  have hM3:=qNA _ _ _ _ hg3 hM0
  obtain⟨b1,k1,b2,k2,va,vb,vd,vn,T2,hq,hcv,hcg,htk,hE2,_,hPK⟩:=qGG hT hS.ver.2 hS.clu.2
  cases hq
  have hei:=(qVJ hF hS.ver.2 hS.clu.2 hS.end_.2).1
  obtain⟨hvi,hgi,hki⟩:=hS.idx
  obtain⟨hmV,hmG,hmE⟩:=hS.at_
  have hp1:IntKind.i64.wrap (m.pc+1)=4:=by rw [h0];rfl
  obtain⟨b3,k3,nn,T3,hqn,hce,hN,hPE⟩:=q2C hE2 hS.end_.2 (en':={en with active:=wI (en.active-1)}) (o:=2) (vs:=[.int .i64 (wI (en.active-1))]) (by simp) (by simp [Value.oneCell']) (fun n=>rfl) rfl ⟨hei.1,qbI _⟩
  subst hqn
  obtain⟨b5,j5,bc,ty5,⟨hA,p1,p2,p3,p4⟩,_,hk5⟩:=hPK _ _ _ hPE
  rw [hmE] at hW9 hE9
  rw [setE,hmV,hmG] at hW9
  repeat'((conv=>whnf);first|apply qza|apply qzb|apply qzc|apply qzd|apply qze|intro(_:Nat)|refine⟨_,rfl,hvi,?_⟩|refine⟨_,hcv 3 _ rfl,?_⟩|refine⟨_,rfl,hgi,?_⟩|refine⟨_,hcg 1 _ rfl,?_⟩|refine⟨_,rfl,hki,?_⟩|refine .inl ⟨_,qiB _ hwu,?_⟩|refine .inl ⟨_,qiB _ hei.1,?_⟩|refine⟨_,hce 0 _ rfl,?_⟩|refine .inl ⟨_,qyI _ hw3 hM3 hvi,?_⟩|fail)
  conv=>whnf
  refine⟨fun hx=>absurd ((beqT hx).symm.trans h0) (by decide),fun _=>?_⟩
  repeat((conv=>whnf);first|apply qza|apply qzb|apply qzc|apply qzd|apply qze|intro(_:Nat))
  conv=>whnf
  refine⟨fun hx=>absurd ((beqT hx).symm.trans h0) (by decide),fun _=>?_⟩
  repeat((conv=>whnf);first|apply qza|apply qzb|apply qzc|apply qzd|apply qze|intro(_:Nat))
  conv=>whnf
  refine⟨fun hx=>absurd ((beqT hx).symm.trans h0) (by decide),fun _=>?_⟩
  repeat((conv=>whnf);first|apply qza|apply qzb|apply qzc|apply qzd|apply qze|intro(_:Nat))
  conv=>whnf
  refine⟨fun _=>?_,fun hx=>absurd h0 (beqF hx)⟩
  repeat'((conv=>whnf);first|apply qza|apply qzb|apply qzc|apply qzd|apply qze|intro(_:Nat)|refine⟨_,hce 2 _ rfl,?_⟩|fail)
  conv=>whnf
  refine⟨b5,j5,bc,ty5,⟨by first|exact hA|(rw [← hA];rfl)|(rw [← hA,qNB]),p1,p2,p3,p4⟩,?_⟩
  repeat((conv=>whnf);first|apply qza|apply qzb|apply qzc|apply qzd|apply qze|intro(_:Nat))
  conv=>whnf
  refine fun g6 u6=>?_
  have hFx:=qgA (hk5 g6 u6)
  have hle6:g≤g6:=u6.le hg3 (fun h=>by have:=g.wf _ h;omega)
  have hcw:=u6.rd p2 p4
  rw [← hA] at hcw
  have hcw':Rc g6 (((⟨b3,0,none⟩:Addr).add (m.end_.toNat*3)).add 2) (.int .i64 (wI (en.active-1))):=hcw 0 _ rfl
  repeat'((conv=>whnf);first|apply qza|apply qzb|apply qzc|apply qzd|apply qze|intro(_:Nat)|refine⟨_,hcw',?_⟩|refine And.intro ?_ ?_|fail)
  all_goals (conv=>whnf)
  all_goals (first|exact Eq.refl _|(
   intro g2 hg
   refine⟨_,_,by rw [hE9]<;>rfl,by rw [hW9];exact qBA _ _ _ _ hg hFx,?_⟩
   rw [hM9,hp1]
   exact⟨_,_,_,rfl,{hok with pc:=show InR (4:Int) by decide},hop,qFA _ _ _ _ (GW.trans hle6 hg) hcf⟩)))
/- Ends of requests: the program's step,place 4. -/
open Go.Proofs.YthonngjhelcpeaaGreat.Sx Go.RowKit
theorem qHX (g:GW) {cs ms:List Value} {w:Wd} {m:Mach} (hw:rWo g cs w) (hM:qlA g ms m) (hsn:SnW w) (hb:BgW 1000000 w) (hgo:fGo w m) (h0:m.pc=4):Ok Tryz.prog q5A [.agg ⟨cs⟩,.agg ⟨ms⟩] g (FiP w m):=by
 obtain⟨hW9,hM9,hE9⟩:=qNL hgo
 obtain⟨kW,kM,kE⟩:=fa4 (w:=w) h0
 rw [kW] at hW9
 rw [kM] at hM9
 rw [kE] at hE9
 clear kW kM kE
 have hs:=hgo.1
 obtain⟨v,gr,en,hS⟩:=id (suitB_iff.1 hs)
 obtain⟨oa,ca,ob,cb,oc,cc,od,cd,oe,ce,o1,t1,o2,t2,o3,t3,rfl,rfl,hw0,hM0,⟨i1,i2,i3⟩,hP,hV,hL,hC,hR,⟨a1,a2,a0,hP1⟩,⟨b1,b2,b0,hV1⟩,⟨c1,c2,c0,hL1⟩,⟨d1,d2,d0,hC1⟩,⟨e1,e2,e0,hR1⟩,hok,hop,hcf⟩:=qOD hw hM
 exact Ok.of_fn hm noT 0 qZB (args:=[.v (.agg ⟨wQ w oa ca ob cb oc cc od cd oe ce⟩),.v (.agg ⟨mQ m o1 t1 o2 t2 o3 t3⟩)]) (by
  repeat((conv=>whnf);first|apply qza|apply qzb|apply qzc|apply qzd|apply qze|intro(_:Nat))
  conv=>whnf
  refine dF (by omega) ?_
  repeat((conv=>whnf);first|apply qza|apply qzb|apply qzc|apply qzd|apply qze|intro(_:Nat))
  conv=>whnf
  refine dF (by omega) ?_
  repeat((conv=>whnf);first|apply qza|apply qzb|apply qzc|apply qzd|apply qze|intro(_:Nat))
  conv=>whnf
  refine .inl ⟨_,qQA _ hw0 hM0 hsn hb,?_⟩
  repeat((conv=>whnf);first|apply qza|apply qzb|apply qzc|apply qzd|apply qze|intro(_:Nat))
  conv=>whnf
  refine⟨fun hx=>absurd (hs.symm.trans (nb1 hx)) (by decide),fun _=>?_⟩
  repeat((conv=>whnf);first|apply qza|apply qzb|apply qzc|apply qzd|apply qze|intro(_:Nat))
  have hli:0≤m.listen:=by have:=hgo.2.2;omega
  conv=>whnf
  refine⟨fun _=>?_,fun hx=>absurd h0 (beqF hx)⟩
  repeat((conv=>whnf);first|apply qza|apply qzb|apply qzc|apply qzd|apply qze|intro(_:Nat))
  conv=>whnf
  refine dF (by omega) ?_
  repeat((conv=>whnf);first|apply qza|apply qzb|apply qzc|apply qzd|apply qze|intro(_:Nat))
  refine .inr ((qcA _ hw0 hb).mono fun v g3 hg3 hO=>?_)
  obtain⟨cs,T,rfl,hT⟩:=hO
  have hF:=qgA hT
  obtain⟨oa',ca',ob',cb',oc',cc',od',cd',oe',ce',rfl⟩:=qGA hF
  have hwu:=hok.word
  have hw3:=qBA _ _ _ _ hg3 hw0
  have hM3:=qNA _ _ _ _ hg3 hM0
  obtain⟨b1,k1,b2,k2,va,vb,vd,vn,T2,hq,hcv,hcg,htk,hE2,_,hPK⟩:=qGG hT hS.ver.2 hS.clu.2
  cases hq
  have hei:=(qVJ hF hS.ver.2 hS.clu.2 hS.end_.2).1
  obtain⟨hvi,hgi,hki⟩:=hS.idx
  obtain⟨hmV,hmG,hmE⟩:=hS.at_
  obtain⟨b3,k3,nn,T3,hqn,hce,hN,hPE⟩:=q2C hE2 hS.end_.2 (en':=en) (o:=0) (vs:=[.int .u64 en.head]) (by simp) (by simp [Value.oneCell']) (fun n=>rfl) rfl ⟨hei.1,hei.2.1⟩
  subst hqn
  obtain⟨x,hx⟩:=qCA (l:=w.listens) (i:=m.listen.toNat) (by have:=hS.listen;omega)
  have hmL:mL w m=x:=by unfold mL;rw [hx];rfl
  rw [hmL] at hW9 hE9
  have hli2:=hS.listen
  obtain⟨bk,cap,hv,rcl,b5,j5,bc,ty5,⟨hA,p1,p2,p3,p4⟩,_,hk5⟩:=q8Q hT hx (x':={x with active:=wI (x.active-1)}) (o:=2) (vs:=[.int .i64 (wI (x.active-1))]) (by simp) (by simp [Value.oneCell']) rfl (qbI _)
  cases hv
  obtain⟨hxa,hcl⟩:=qoD (quG hF) hx
  repeat'((conv=>whnf);first|apply qza|apply qzb|apply qzc|apply qzd|apply qze|intro(_:Nat)|refine⟨_,rfl,hvi,?_⟩|refine⟨_,hcv 3 _ rfl,?_⟩|refine⟨_,rfl,hgi,?_⟩|refine⟨_,hcg 1 _ rfl,?_⟩|refine⟨_,rfl,hki,?_⟩|refine .inl ⟨_,qiB _ hwu,?_⟩|refine .inl ⟨_,qiB _ hei.1,?_⟩|refine⟨_,hce 0 _ rfl,?_⟩|refine .inl ⟨_,qyI _ hw3 hM3 hvi,?_⟩|fail)
  conv=>whnf
  refine⟨fun hx=>absurd ((beqT hx).symm.trans h0) (by decide),fun _=>?_⟩
  repeat((conv=>whnf);first|apply qza|apply qzb|apply qzc|apply qzd|apply qze|intro(_:Nat))
  conv=>whnf
  refine⟨fun hx=>absurd ((beqT hx).symm.trans h0) (by decide),fun _=>?_⟩
  repeat((conv=>whnf);first|apply qza|apply qzb|apply qzc|apply qzd|apply qze|intro(_:Nat))
  conv=>whnf
  refine⟨fun hx=>absurd ((beqT hx).symm.trans h0) (by decide),fun _=>?_⟩
  repeat((conv=>whnf);first|apply qza|apply qzb|apply qzc|apply qzd|apply qze|intro(_:Nat))
  conv=>whnf
  refine⟨fun hx=>absurd ((beqT hx).symm.trans h0) (by decide),fun _=>?_⟩
  repeat((conv=>whnf);first|apply qza|apply qzb|apply qzc|apply qzd|apply qze|intro(_:Nat))
  conv=>whnf
  refine⟨fun _=>?_,fun hx=>absurd h0 (beqF hx)⟩
  repeat'((conv=>whnf);first|apply qza|apply qzb|apply qzc|apply qzd|apply qze|intro(_:Nat)|refine⟨_,rfl,⟨by omega,by omega⟩,?_⟩|refine⟨_,hcl 2 _ rfl,?_⟩|fail)
  conv=>whnf
  refine⟨b5,j5,bc,ty5,⟨hA,p1,p2,p3,p4⟩,?_⟩
  repeat((conv=>whnf);first|apply qza|apply qzb|apply qzc|apply qzd|apply qze|intro(_:Nat))
  conv=>whnf
  refine fun g6 u6=>?_
  have hFx:=qgA (hk5 g6 u6)
  have hle6:g≤g6:=u6.le hg3 (fun h=>by have:=g.wf _ h;omega)
  obtain⟨_,hcl'⟩:=qoD (quG hFx) (i:=m.listen.toNat) (x:={x with active:=wI (x.active-1)}) (by simp only [List.getElem?_set];simp;omega)
  repeat'((conv=>whnf);first|apply qza|apply qzb|apply qzc|apply qzd|apply qze|intro(_:Nat)|refine⟨_,hcl' 2 _ rfl,?_⟩|refine And.intro ?_ ?_|fail)
  all_goals (conv=>whnf)
  all_goals (first|exact Eq.refl _|(
   intro g2 hg
   refine⟨_,_,by rw [hE9]<;>rfl,by rw [hW9];exact qBA _ _ _ _ hg hFx,?_⟩
   rw [hM9]
   exact⟨_,_,_,rfl,{hok with answer:=⟨(by decide:InR 6),hok.version,hok.cluster,hok.end_,hok.slot,hok.listen,z0,qaI⟩},hop,qFA _ _ _ _ (GW.trans hle6 hg) hcf⟩)))
/- Ends of requests: the program's step,place 9. -/
open Go.Proofs.YthonngjhelcpeaaGreat.Sx Go.RowKit
theorem qGX (g:GW) {cs ms:List Value} {w:Wd} {m:Mach} (hw:rWo g cs w) (hM:qlA g ms m) (hsn:SnW w) (hb:BgW 1000000 w) (hgo:fGo w m) (h0:m.pc=9):Ok Tryz.prog q5A [.agg ⟨cs⟩,.agg ⟨ms⟩] g (FiP w m):=by
 obtain⟨hW9,hM9,hE9⟩:=qNL hgo
 obtain⟨kW,kM,kE⟩:=fa9 (w:=w) h0
 rw [kW] at hW9
 rw [kM] at hM9
 rw [kE] at hE9
 clear kW kM kE
 have hs:=hgo.1
 obtain⟨v,gr,en,hS⟩:=id (suitB_iff.1 hs)
 obtain⟨oa,ca,ob,cb,oc,cc,od,cd,oe,ce,o1,t1,o2,t2,o3,t3,rfl,rfl,hw0,hM0,⟨i1,i2,i3⟩,hP,hV,hL,hC,hR,⟨a1,a2,a0,hP1⟩,⟨b1,b2,b0,hV1⟩,⟨c1,c2,c0,hL1⟩,⟨d1,d2,d0,hC1⟩,⟨e1,e2,e0,hR1⟩,hok,hop,hcf⟩:=qOD hw hM
 exact Ok.of_fn hm noT 0 qZB (args:=[.v (.agg ⟨wQ w oa ca ob cb oc cc od cd oe ce⟩),.v (.agg ⟨mQ m o1 t1 o2 t2 o3 t3⟩)]) (by
  repeat((conv=>whnf);first|apply qza|apply qzb|apply qzc|apply qzd|apply qze|intro(_:Nat))
  conv=>whnf
  refine dF (by omega) ?_
  repeat((conv=>whnf);first|apply qza|apply qzb|apply qzc|apply qzd|apply qze|intro(_:Nat))
  conv=>whnf
  refine dT (by omega) ?_
  repeat((conv=>whnf);first|apply qza|apply qzb|apply qzc|apply qzd|apply qze|intro(_:Nat))
  conv=>whnf
  refine⟨fun hx=>absurd h0 (bneT hx),fun _=>?_⟩
  repeat((conv=>whnf);first|apply qza|apply qzb|apply qzc|apply qzd|apply qze|intro(_:Nat))
  conv=>whnf
  refine .inl ⟨_,qQA _ hw0 hM0 hsn hb,?_⟩
  repeat((conv=>whnf);first|apply qza|apply qzb|apply qzc|apply qzd|apply qze|intro(_:Nat))
  conv=>whnf
  refine⟨fun hx=>absurd (hs.symm.trans (nb1 hx)) (by decide),fun _=>?_⟩
  repeat((conv=>whnf);first|apply qza|apply qzb|apply qzc|apply qzd|apply qze|intro(_:Nat))
  conv=>whnf
  refine⟨fun hx=>absurd (beqT hx) (by omega),fun _=>?_⟩
  repeat((conv=>whnf);first|apply qza|apply qzb|apply qzc|apply qzd|apply qze|intro(_:Nat))
  refine .inr ((qcA _ hw0 hb).mono fun v g3 hg3 hO=>?_)
  obtain⟨cs,T,rfl,hT⟩:=hO
  have hF:=qgA hT
  obtain⟨oa',ca',ob',cb',oc',cc',od',cd',oe',ce',rfl⟩:=qGA hF
  have hwu:=hok.word
  have hw3:=qBA _ _ _ _ hg3 hw0
  have hM3:=qNA _ _ _ _ hg3 hM0
  obtain⟨b1,k1,b2,k2,va,vb,vd,vn,T2,hq,hcv,hcg,htk,hE2,_,hPK⟩:=qGG hT hS.ver.2 hS.clu.2
  cases hq
  have hei:=(qVJ hF hS.ver.2 hS.clu.2 hS.end_.2).1
  obtain⟨hvi,hgi,hki⟩:=hS.idx
  obtain⟨hmV,hmG,hmE⟩:=hS.at_
  obtain⟨b3,k3,nn,T3,hqn,hce,hN,hPE⟩:=q2C hE2 hS.end_.2 (en':=en) (o:=0) (vs:=[.int .u64 en.head]) (by simp) (by simp [Value.oneCell']) (fun n=>rfl) rfl ⟨hei.1,hei.2.1⟩
  subst hqn
  repeat'((conv=>whnf);first|apply qza|apply qzb|apply qzc|apply qzd|apply qze|intro(_:Nat)|refine⟨_,rfl,hvi,?_⟩|refine⟨_,hcv 3 _ rfl,?_⟩|refine⟨_,rfl,hgi,?_⟩|refine⟨_,hcg 1 _ rfl,?_⟩|refine⟨_,rfl,hki,?_⟩|refine .inl ⟨_,qiB _ hwu,?_⟩|refine .inl ⟨_,qiB _ hei.1,?_⟩|refine⟨_,hce 0 _ rfl,?_⟩|refine .inl ⟨_,qyI _ hw3 hM3 hvi,?_⟩|fail)
  conv=>whnf
  refine⟨fun hx=>absurd ((beqT hx).symm.trans h0) (by decide),fun _=>?_⟩
  repeat((conv=>whnf);first|apply qza|apply qzb|apply qzc|apply qzd|apply qze|intro(_:Nat))
  conv=>whnf
  refine⟨fun hx=>absurd ((beqT hx).symm.trans h0) (by decide),fun _=>?_⟩
  repeat((conv=>whnf);first|apply qza|apply qzb|apply qzc|apply qzd|apply qze|intro(_:Nat))
  conv=>whnf
  refine⟨fun hx=>absurd ((beqT hx).symm.trans h0) (by decide),fun _=>?_⟩
  repeat((conv=>whnf);first|apply qza|apply qzb|apply qzc|apply qzd|apply qze|intro(_:Nat))
  conv=>whnf
  refine⟨fun hx=>absurd ((beqT hx).symm.trans h0) (by decide),fun _=>?_⟩
  repeat((conv=>whnf);first|apply qza|apply qzb|apply qzc|apply qzd|apply qze|intro(_:Nat))
  conv=>whnf
  refine⟨fun hx=>absurd ((beqT hx).symm.trans h0) (by decide),fun _=>?_⟩
  repeat'((conv=>whnf);first|apply qza|apply qzb|apply qzc|apply qzd|apply qze|intro(_:Nat)|refine And.intro ?_ ?_|fail)
  all_goals (conv=>whnf)
  all_goals (first|exact Eq.refl _|(
   intro g2 hg
   refine⟨_,_,by rw [hE9]<;>rfl,by rw [hW9];exact qBA _ _ _ _ hg hF,?_⟩
   rw [hM9]
   exact⟨_,_,_,rfl,{hok with answer:=⟨(by decide:InR 7),z0,z0,z0,z0,z0,z0,qaI⟩},hop,qFA _ _ _ _ (GW.trans hg3 hg) hcf⟩)))
/- Ends of requests: the program's step,elsewhere;at any place. -/
open Go.Proofs.YthonngjhelcpeaaGreat.Sx Go.RowKit
theorem qFX (g:GW) {cs ms:List Value} {w:Wd} {m:Mach} (hw:rWo g cs w) (hM:qlA g ms m) (hsn:SnW w) (hb:BgW 1000000 w) (hgo:¬ fGo w m):Ok Tryz.prog q5A [.agg ⟨cs⟩,.agg ⟨ms⟩] g (FiP w m):=by
 obtain⟨oa,ca,ob,cb,oc,cc,od,cd,oe,ce,o1,t1,o2,t2,o3,t3,rfl,rfl,hw0,hM0,⟨i1,i2,i3⟩,hP,hV,hL,hC,hR,⟨a1,a2,a0,hP1⟩,⟨b1,b2,b0,hV1⟩,⟨c1,c2,c0,hL1⟩,⟨d1,d2,d0,hC1⟩,⟨e1,e2,e0,hR1⟩,hok,hop,hcf⟩:=qOD hw hM
 exact Ok.of_fn hm noT 0 qZB (args:=[.v (.agg ⟨wQ w oa ca ob cb oc cc od cd oe ce⟩),.v (.agg ⟨mQ m o1 t1 o2 t2 o3 t3⟩)]) (by
  have fin:∀ g2,g≤g2→FiP w m (.tuple #[.agg ⟨wQ w oa ca ob cb oc cc od cd oe ce⟩,.agg ⟨mQ m o1 t1 o2 t2 o3 t3⟩,.agg ⟨ev0.cs⟩]) g2:=by
   intro g2 hg
   obtain⟨k1,k2,k3⟩:=fs_no hgo
   exact⟨_,_,by rw [k3]<;>rfl,by rw [k1];exact qBA _ _ _ _ hg hw0,by rw [k2];exact qNA _ _ _ _ hg hM0⟩
  repeat((conv=>whnf);first|apply qza|apply qzb|apply qzc|apply qzd|apply qze|intro(_:Nat))
  refine And.intro (fun z1=>?_) (fun z1=>?_)
  ·repeat'((conv=>whnf);first|apply qza|apply qzb|apply qzc|apply qzd|apply qze|intro(_:Nat)|refine And.intro ?_ ?_|fail)
   all_goals (conv=>whnf)
   all_goals (first|exact Eq.refl _|exact fin)
  have z1:=of_decide_eq_false z1
  repeat((conv=>whnf);first|apply qza|apply qzb|apply qzc|apply qzd|apply qze|intro(_:Nat))
  refine And.intro (fun z2=>?_) (fun z2=>?_)
  case' refine_1 =>
   have z2:=of_decide_eq_true z2
   repeat((conv=>whnf);first|apply qza|apply qzb|apply qzc|apply qzd|apply qze|intro(_:Nat))
   refine And.intro (fun z3=>?_) (fun z3=>?_)
   ·repeat'((conv=>whnf);first|apply qza|apply qzb|apply qzc|apply qzd|apply qze|intro(_:Nat)|refine And.intro ?_ ?_|fail)
    all_goals (conv=>whnf)
    all_goals (first|exact Eq.refl _|exact fin)
   have hpc:(0≤m.pc∧m.pc≤4)∨m.pc=9:=.inr (bneF z3)
  case' refine_2=>have hpc:(0≤m.pc∧m.pc≤4)∨m.pc=9:=.inl (by have:=of_decide_eq_false z2;omega)
  all_goals (
   repeat((conv=>whnf);first|apply qza|apply qzb|apply qzc|apply qzd|apply qze|intro(_:Nat))
   conv=>whnf
   refine .inl ⟨_,qQA _ hw0 hM0 hsn hb,?_⟩
   repeat((conv=>whnf);first|apply qza|apply qzb|apply qzc|apply qzd|apply qze|intro(_:Nat))
   refine And.intro (fun z4=>?_) (fun z4=>?_)
   ·repeat'((conv=>whnf);first|apply qza|apply qzb|apply qzc|apply qzd|apply qze|intro(_:Nat)|refine And.intro ?_ ?_|fail)
    all_goals (conv=>whnf)
    all_goals (first|exact Eq.refl _|exact fin)
   have hs:=nb0 z4
   repeat((conv=>whnf);first|apply qza|apply qzb|apply qzc|apply qzd|apply qze|intro(_:Nat))
   refine And.intro (fun z5=>?_) (fun z5=>?_)
   ·have z5:=beqT z5
    repeat((conv=>whnf);first|apply qza|apply qzb|apply qzc|apply qzd|apply qze|intro(_:Nat))
    refine And.intro (fun z6=>?_) (fun z6=>?_)
    ·repeat'((conv=>whnf);first|apply qza|apply qzb|apply qzc|apply qzd|apply qze|intro(_:Nat)|refine And.intro ?_ ?_|fail)
     all_goals (conv=>whnf)
     all_goals (first|exact Eq.refl _|exact fin)
    ·exact absurd ⟨hs,hpc,fun h=>absurd h.2 (by have:=of_decide_eq_false z6;omega)⟩ hgo
   ·exact absurd ⟨hs,hpc,fun h=>absurd h.1 (beqF z5)⟩ hgo))
theorem q7U (g:GW) {cs ms:List Value} {w:Wd} {m:Mach} (hw:rWo g cs w) (hM:qlA g ms m) (hsn:SnW w) (hb:BgW 1000000 w):Ok Tryz.prog q5A [.agg ⟨cs⟩,.agg ⟨ms⟩] g (FiP w m):=by
 by_cases hgo:fGo w m
 ·rcases(show m.pc=0∨m.pc=1∨m.pc=2∨m.pc=3∨m.pc=4∨m.pc=9 by have:=hgo.2.1;omega) with h|h|h|h|h|h
  ·exact qLX g hw hM hsn hb hgo h
  ·exact qKX g hw hM hsn hb hgo h
  ·exact qJX g hw hM hsn hb hgo h
  ·exact qIX g hw hM hsn hb hgo h
  ·exact qHX g hw hM hsn hb hgo h
  ·exact qGX g hw hM hsn hb hgo h
 ·exact qFX g hw hM hsn hb hgo
/- Ends of requests: requests that are routed,ends that are carried out,with nobody in between. -/
open Go.Proofs.YthonngjhelcpeaaGreat.Sx Go.RowKit
abbrev RoP (x:Wd) (a:Ans) (v:Value) (g':GW):Prop:=∃ cs,v=.tuple #[.agg ⟨cs⟩,.agg ⟨a.cs⟩]∧rWo g' cs x∧a.ok
theorem HWay.go {k:Nat} {w:Wd} {m:Mach} {x:Wd} {n:Mach} (h:HWay (k+1) w m x n):m.done=false:=by
 cases hd:m.done with
 | false=>rfl
 | true=>exact absurd (qiN hd) h.1
theorem qQH (g:GW) {cs os:List Value} {w x:Wd} {th:Int} {o:OpD} {n:Mach} {k:Nat} (hw:rWo g cs w) (ht:InR th) (hO:rOp g os o) (hsn:SnW w) (hb:BgW 1000000 w) (hsz:SmO (mReq o th)) (hway:HWay k w (mReq o th) x n) (hd:n.done=true) (hk:k<40):Ok Tryz.prog qUH [.agg ⟨cs⟩,.int .i64 th,.agg ⟨os⟩] g (RoP x n.answer):=by
 obtain⟨oa,ca,ob,cb,oc,cc,od,cd,oe,ce,rfl⟩:=qGA hw
 obtain⟨o1,t1,o2,t2,o3,t3,rfl⟩:=qcD hO
 have hM:=q0C hO ht
 exact Ok.of_fn hm noT 0 qDH (args:=[.v (.agg ⟨wQ w oa ca ob cb oc cc od cd oe ce⟩),.v (.int .i64 th),.v (.agg ⟨oCs o (.slice o1 o.config.listens.length t1) (.slice o2 o.config.routes.length t2) (.slice o3 o.config.clusters.length t3)⟩)]) (by
  repeat((conv=>whnf);first|apply qza|apply qzb|apply qzc|apply qzd|apply qze|intro(_:Nat))
  rename_i q0 q1 q2 q3 q4
  conv=>whnf
  refine⟨HaSt,fun x=>[.v (.int .i64 x.j)],fun y=>⟨y.g,[.blk 4 q4 qJC (y.mc.map SV.v),.blk 3 q3 q6D _,.blk 2 q2 qMA _,.blk 1 q1 qYJ _,.blk 0 q0 qMA (y.wc.map SV.v)],_,_⟩,fun y=>y.j≤k∧g≤y.g∧rWo y.g y.wc y.w∧qlA y.g y.mc y.m∧HWay (k-y.j) y.w y.m x n∧SnW y.w∧BgW 1000000 y.w∧SmO y.m,fun y=>k-y.j,qJA (⟨0,g,w,oa,ca,ob,cb,oc,cc,od,cd,oe,ce,mReq o th,o1,t1,o2,t2,o3,t3⟩:HaSt) rfl ⟨Nat.zero_le _,GW.refl _,hw,hM,hway,hsn,hb,hsz⟩ rfl,?_⟩
  clear hM hw hsn hb hsz hway
  intro y hy
  obtain⟨j,gx,w,oa,ca,ob,cb,oc,cc,od,cd,oe,ce,m,o1,t1,o2,t2,o3,t3⟩:=y
  obtain⟨hj,hxg,hxw,hxM,hway,hsn,hb,hsz⟩:=hy
  replace hj:j≤k:=hj
  replace hway:HWay (k-j) w m x n:=hway
  replace hb:BgW 1000000 w:=hb
  replace hsn:SnW w:=hsn
  replace hsz:SmO m:=hsz
  repeat((conv=>whnf);first|apply qza|apply qzb|apply qzc|apply qzd|apply qze|intro(_:Nat))
  conv=>whnf
  refine⟨fun _=>?_,fun hx=>absurd (of_decide_eq_false hx) (by show ¬ ¬ ((j:Int)<40);omega)⟩
  by_cases hjk:j=k
  ·subst hjk
   rw [Nat.sub_self] at hway
   obtain⟨e1,e2⟩:=hway
   subst e1
   subst e2
   repeat((conv=>whnf);first|apply qza|apply qzb|apply qzc|apply qzd|apply qze|intro(_:Nat))
   conv=>whnf
   refine⟨fun hx=>absurd hx (by simp [hd]),fun _=>?_⟩
   have hans:=hxM
   obtain⟨_,_,_,_,hok,_⟩:=hans
   repeat'((conv=>whnf);first|apply qza|apply qzb|apply qzc|apply qzd|apply qze|intro(_:Nat)|refine And.intro ?_ ?_|fail)
   all_goals (conv=>whnf)
   all_goals (first|exact Eq.refl _|(
    intro g2 hg
    exact⟨_,rfl,qBA _ _ _ _ hg hxw,hok.answer⟩))
  ·obtain⟨d,hdk⟩:∃ d,k-j=d+1:=⟨k-j-1,by omega⟩
   rw [hdk] at hway
   have hnd:=HWay.go hway
   obtain⟨hac,hway⟩:=hway
   have hkp:=hsW_kept (K:=1000000) (w:=w) (m:=m)
   repeat((conv=>whnf);first|apply qza|apply qzb|apply qzc|apply qzd|apply qze|intro(_:Nat))
   conv=>whnf
   refine⟨fun _=>?_,fun hx=>absurd hx (by simp [hnd])⟩
   repeat((conv=>whnf);first|apply qza|apply qzb|apply qzc|apply qzd|apply qze|intro(_:Nat))
   refine .inr ((qUL _ hxw hxM hsn hb hsz).mono fun v g4 hg4 hO=>?_)
   obtain⟨csa,msa,rfl,hwa,hMa⟩:=hO
   obtain⟨r1,r2,r3,r4,r5,r6,r7,r8,r9,r10,rfl⟩:=qGA hwa
   obtain⟨s1,s2,s3,s4,s5,s6,rfl⟩:=qXA hMa
   repeat((conv=>whnf);first|apply qza|apply qzb|apply qzc|apply qzd|apply qze|intro(_:Nat))
   conv=>whnf
   refine fun fr u hu=>⟨⟨j+1,g4,hsW w m,r1,r2,r3,r4,r5,r6,r7,r8,r9,r10,hsM w m,s1,s2,s3,s4,s5,s6⟩,congrArg (fun z=>[Value.int .i64 z]) (show((j+1:Nat):Int)=IntKind.i64.wrap ((j:Int)+1) by rw [wr (x:=(j:Int)+1) (by unfold InR;omega)];omega),⟨by show j+1≤k;omega,GW.trans hxg hg4,hwa,hMa,by show HWay (k-(j+1)) _ _ _ _;rw [show k-(j+1)=d by omega];exact hway,q8D hsn hkp,hkp.1 hb,by show SmO (hsM w m);unfold SmO;rw [q0R];exact hsz⟩,by show k-(j+1)<k-j;omega,?_⟩
   exact hu.fit (by simp [fitL,Res.eqv,qDA,conc]))
abbrev EnP (x:Wd) (a:Ans) (k:Nat) (v:Value) (g':GW):Prop:=∃ cs,v=.tuple #[.agg ⟨cs⟩,.agg ⟨a.cs⟩,.int .i64 k]∧rWo g' cs x∧a.ok
theorem qBE (g:GW) {cs ms:List Value} {w x:Wd} {m n:Mach} {k:Nat} (hw:rWo g cs w) (hM:qlA g ms m) (hsn:SnW w) (hb:BgW 1000000 w) (hway:FWay k w m x n) (hd:n.done=true) (hk:k<40):Ok Tryz.prog qAI [.agg ⟨cs⟩,.agg ⟨ms⟩] g (EnP x n.answer k):=by
 obtain⟨oa,ca,ob,cb,oc,cc,od,cd,oe,ce,rfl⟩:=qGA hw
 obtain⟨o1,t1,o2,t2,o3,t3,rfl⟩:=qXA hM
 exact Ok.of_fn hm noT 0 qzH (args:=[.v (.agg ⟨wQ w oa ca ob cb oc cc od cd oe ce⟩),.v (.agg ⟨mQ m o1 t1 o2 t2 o3 t3⟩)]) (by
  repeat((conv=>whnf);first|apply qza|apply qzb|apply qzc|apply qzd|apply qze|intro(_:Nat))
  rename_i q0 q1 q2 q3
  conv=>whnf
  refine⟨HaSt,fun x=>[.v (.int .i64 x.j)],fun y=>⟨y.g,[.blk 3 q3 q6D _,.blk 2 q2 qMA _,.blk 1 q1 qJC (y.mc.map SV.v),.blk 0 q0 qMA (y.wc.map SV.v)],_,_⟩,fun y=>y.j≤k∧g≤y.g∧rWo y.g y.wc y.w∧qlA y.g y.mc y.m∧FWay (k-y.j) y.w y.m x n∧SnW y.w∧BgW 1000000 y.w,fun y=>k-y.j,qJA (⟨0,g,w,oa,ca,ob,cb,oc,cc,od,cd,oe,ce,m,o1,t1,o2,t2,o3,t3⟩:HaSt) rfl ⟨Nat.zero_le _,GW.refl _,hw,hM,hway,hsn,hb⟩ rfl,?_⟩
  clear hM hw hsn hb hway
  intro y hy
  obtain⟨j,gx,w,oa,ca,ob,cb,oc,cc,od,cd,oe,ce,m,o1,t1,o2,t2,o3,t3⟩:=y
  obtain⟨hj,hxg,hxw,hxM,hway,hsn,hb⟩:=hy
  replace hj:j≤k:=hj
  replace hway:FWay (k-j) w m x n:=hway
  replace hb:BgW 1000000 w:=hb
  replace hsn:SnW w:=hsn
  repeat((conv=>whnf);first|apply qza|apply qzb|apply qzc|apply qzd|apply qze|intro(_:Nat))
  conv=>whnf
  refine⟨fun _=>?_,fun hx=>absurd (of_decide_eq_false hx) (by show ¬ ¬ ((j:Int)<40);omega)⟩
  by_cases hjk:j=k
  ·subst hjk
   rw [Nat.sub_self] at hway
   obtain⟨e1,e2⟩:=hway
   subst e1
   subst e2
   repeat((conv=>whnf);first|apply qza|apply qzb|apply qzc|apply qzd|apply qze|intro(_:Nat))
   conv=>whnf
   refine⟨fun hx=>absurd hx (by simp [hd]),fun _=>?_⟩
   have hans:=hxM
   obtain⟨_,_,_,_,hok,_⟩:=hans
   repeat'((conv=>whnf);first|apply qza|apply qzb|apply qzc|apply qzd|apply qze|intro(_:Nat)|refine And.intro ?_ ?_|fail)
   all_goals (conv=>whnf)
   all_goals (first|exact Eq.refl _|(
    intro g2 hg
    exact⟨_,rfl,qBA _ _ _ _ hg hxw,hok.answer⟩))
  ·obtain⟨d,hdk⟩:∃ d,k-j=d+1:=⟨k-j-1,by omega⟩
   rw [hdk] at hway
   obtain⟨hnd,hway⟩:=hway
   have hkp:=fsW_kept (K:=1000000) (w:=w) (m:=m)
   repeat((conv=>whnf);first|apply qza|apply qzb|apply qzc|apply qzd|apply qze|intro(_:Nat))
   conv=>whnf
   refine⟨fun _=>?_,fun hx=>absurd hx (by simp [hnd])⟩
   repeat((conv=>whnf);first|apply qza|apply qzb|apply qzc|apply qzd|apply qze|intro(_:Nat))
   refine .inr ((q7U _ hxw hxM hsn hb).mono fun v g4 hg4 hO=>?_)
   obtain⟨csa,msa,rfl,hwa,hMa⟩:=hO
   obtain⟨r1,r2,r3,r4,r5,r6,r7,r8,r9,r10,rfl⟩:=qGA hwa
   obtain⟨s1,s2,s3,s4,s5,s6,rfl⟩:=qXA hMa
   repeat((conv=>whnf);first|apply qza|apply qzb|apply qzc|apply qzd|apply qze|intro(_:Nat))
   conv=>whnf
   refine fun fr u hu=>⟨⟨j+1,g4,fsW w m,r1,r2,r3,r4,r5,r6,r7,r8,r9,r10,fsM w m,s1,s2,s3,s4,s5,s6⟩,congrArg (fun z=>[Value.int .i64 z]) (show((j+1:Nat):Int)=IntKind.i64.wrap ((j:Int)+1) by rw [wr (x:=(j:Int)+1) (by unfold InR;omega)];omega),⟨by show j+1≤k;omega,GW.trans hxg hg4,hwa,hMa,by show FWay (k-(j+1)) _ _ _ _;rw [show k-(j+1)=d by omega];exact hway,q8D hsn hkp,hkp.1 hb⟩,by show k-(j+1)<k-j;omega,?_⟩
   exact hu.fit (by simp [fitL,Res.eqv,qDA,conc]))
theorem qtB (g:GW) {t:Int} {a:Ans} (ht:InR t) (ha:a.ok):qlA g ((fBeg t a).cs (.slice none 0 0) (.slice none 0 0) (.slice none 0 0)) (fBeg t a) :=
 ⟨_,_,_,rfl,⟨ht,by show InR (if a.kind=1 then 0 else 9);split<;>decide,z0,ha.version,by show InR (if a.kind=1 then a.listen else -1);split;exact ha.listen;decide,ha.cluster,ha.end_,z0,ha.slot,zu,z0,z0,z0,z0,qgR,qaI⟩,⟨(by decide:InR 2),z0,z0,z0⟩,qwI g⟩
theorem qdD (g:GW) {t:Int} {a:Ans} (ht:InR t) (ha:a.ok):OkV Tryz.prog q4M [.int .i64 t,.agg ⟨a.cs⟩] g (.agg ⟨(fBeg t a).cs (.slice none 0 0) (.slice none 0 0) (.slice none 0 0)⟩) :=
 Ok.of_fn hm noT 0 qpM (args:=[.v (.int .i64 t),.v (.agg ⟨a.cs⟩)]) (by
  unfold fBeg
  repeat((conv=>whnf);first|apply qza|apply qzb|apply qzc|apply qzd|apply qze|intro(_:Nat))
  refine And.intro (fun z=>?_) (fun z=>?_)
  ·have z:=bneT z
   rw [if_neg z,if_neg z]
   repeat((conv=>whnf);first|apply qza|apply qzb|apply qzc|apply qzd|apply qze|intro(_:Nat))
   conv=>whnf
   intro g2 hg
   rfl
  ·have z:=bneF z
   rw [if_pos z,if_pos z]
   repeat((conv=>whnf);first|apply qza|apply qzb|apply qzc|apply qzd|apply qze|intro(_:Nat))
   conv=>whnf
   intro g2 hg
   rfl)
end Go.Proofs.YthonngjhelcpeaaGreat
