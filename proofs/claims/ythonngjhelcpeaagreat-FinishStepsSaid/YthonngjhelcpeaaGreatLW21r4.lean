/- Ends of requests: the document's step, place 4. -/
import Derived.Test.YthonngjhelcpeaaGreatLW21p3
import Derived.Test.YthonngjhelcpeaaGreatLW9w
set_option linter.unusedVariables false
set_option linter.unusedSimpArgs false
namespace Go.Proofs.YthonngjhelcpeaaGreat
open Go.Proofs.YthonngjhelcpeaaGreat.Sx Go.RowKit
set_option maxHeartbeats 16000000
set_option maxRecDepth 100000
theorem qKY (g:GW) {cs ms:List Value} {w:Wd} {m:Mach} (hw:rWo g cs w) (hM:qhA g ms m) (hsn:SnW w) (hb:BgW 1000000 w) (hgo:fGo w m) (h0:m.pc=4):Ok Tryz.prog qVA [.agg ⟨cs⟩,.agg ⟨ms⟩] g (FiP w m):=by
 obtain⟨hW9,hM9,hE9⟩:=qhG hgo
 obtain⟨kW,kM,kE⟩:=fa4 (w:=w) h0
 rw [kW] at hW9
 rw [kM] at hM9
 rw [kE] at hE9
 clear kW kM kE
 have hs:=hgo.1
 obtain⟨v,gr,en,hS⟩:=id (suitB_iff.1 hs)
 obtain⟨oa,ca,ob,cb,oc,cc,od,cd,oe,ce,o1,t1,o2,t2,o3,t3,rfl,rfl,hw0,hM0,⟨i1,i2,i3⟩,hP,hV,hL,hC,hR,⟨a1,a2,a0,hP1⟩,⟨b1,b2,b0,hV1⟩,⟨c1,c2,c0,hL1⟩,⟨d1,d2,d0,hC1⟩,⟨e1,e2,e0,hR1⟩,hok,hop,hcf⟩:=q4B hw hM
 exact Ok.of_fn hm noT 0 qdA (args:=[.v (.agg ⟨wQ w oa ca ob cb oc cc od cd oe ce⟩),.v (.agg ⟨mQ m o1 t1 o2 t2 o3 t3⟩)]) (by
  repeat((conv=>whnf);first|apply qza|apply qzb|apply qzc|apply qzd|apply qze|intro(_:Nat))
  conv=>whnf
  refine .inl ⟨_,qNE _ hw0 hM0 hsn hb,?_⟩
  repeat((conv=>whnf);first|apply qza|apply qzb|apply qzc|apply qzd|apply qze|intro(_:Nat))
  conv=>whnf
  refine⟨fun hx=>absurd (hs.symm.trans (nb1 hx)) (by decide),fun _=>?_⟩
  repeat((conv=>whnf);first|apply qza|apply qzb|apply qzc|apply qzd|apply qze|intro(_:Nat))
  conv=>whnf
  refine dF (by omega) ?_
  repeat((conv=>whnf);first|apply qza|apply qzb|apply qzc|apply qzd|apply qze|intro(_:Nat))
  conv=>whnf
  refine dF (by omega) ?_
  repeat((conv=>whnf);first|apply qza|apply qzb|apply qzc|apply qzd|apply qze|intro(_:Nat))
  have hli:0≤m.listen:=by have:=hgo.2.2;omega
  conv=>whnf
  refine⟨fun _=>?_,fun hx=>absurd h0 (beqF hx)⟩
  repeat((conv=>whnf);first|apply qza|apply qzb|apply qzc|apply qzd|apply qze|intro(_:Nat))
  conv=>whnf
  refine dF (by omega) ?_
  repeat((conv=>whnf);first|apply qza|apply qzb|apply qzc|apply qzd|apply qze|intro(_:Nat))
  refine .inr ((qLF _ hw0 hb).mono fun v g3 hg3 hO=>?_)
  obtain⟨cs,T,rfl,hT⟩:=hO
  have hF:=qTA hT
  obtain⟨oa',ca',ob',cb',oc',cc',od',cd',oe',ce',rfl⟩:=qKA hF
  have hwu:=hok.word
  obtain⟨b1,k1,b2,k2,va,vb,vd,vn,T2,hq,hcv,hcg,htk,hE2,_,hPK⟩:=qdC hT hS.ver.2 hS.clu.2
  cases hq
  have hei:=(qGE hF hS.ver.2 hS.clu.2 hS.end_.2).1
  obtain⟨hvi,hgi,hki⟩:=hS.idx
  obtain⟨hmV,hmG,hmE⟩:=hS.at_
  obtain⟨b3,k3,nn,T3,hqn,hce,hN,hPE⟩:=q8A hE2 hS.end_.2 (en':=en) (o:=0) (vs:=[.int .u64 en.head]) (by simp) (by simp [Value.oneCell']) (fun n=>rfl) rfl ⟨hei.1,hei.2.1⟩
  subst hqn
  obtain⟨x,hx⟩:=qAA (l:=w.listens) (i:=m.listen.toNat) (by have:=hS.listen;omega)
  have hmL:mL w m=x:=by unfold mL;rw [hx];rfl
  rw [hmL] at hW9 hE9
  have hli2:=hS.listen
  obtain⟨bk,cap,hv,rcl,b5,j5,bc,ty5,⟨hA,p1,p2,p3,p4⟩,_,hk5⟩:=qBP hT hx (x':={x with active:=wI (x.active-1)}) (o:=2) (vs:=[.int .i64 (wI (x.active-1))]) (by simp) (by simp [Value.oneCell']) rfl (qqG _)
  cases hv
  obtain⟨hxa,hcl⟩:=qlI (qhM hF) hx
  repeat'((conv=>whnf);first|apply qza|apply qzb|apply qzc|apply qzd|apply qze|intro(_:Nat)|refine⟨_,rfl,hvi,?_⟩|refine⟨_,hcv 3 _ rfl,?_⟩|refine⟨_,rfl,hgi,?_⟩|refine⟨_,hcg 1 _ rfl,?_⟩|refine⟨_,rfl,hki,?_⟩|fail)
  repeat((conv=>whnf);first|apply qza|apply qzb|apply qzc|apply qzd|apply qze|intro(_:Nat))
  conv=>whnf
  refine⟨fun hx=>absurd ((beqT hx).symm.trans h0) (by decide),fun _=>?_⟩
  repeat((conv=>whnf);first|apply qza|apply qzb|apply qzc|apply qzd|apply qze|intro(_:Nat))
  conv=>whnf
  refine⟨fun hx=>absurd ((beqT hx).symm.trans h0) (by decide),fun _=>?_⟩
  repeat((conv=>whnf);first|apply qza|apply qzb|apply qzc|apply qzd|apply qze|intro(_:Nat))
  conv=>whnf
  refine⟨fun hx=>absurd ((beqT hx).symm.trans h0) (by decide),fun _=>?_⟩
  repeat((conv=>whnf);first|apply qza|apply qzb|apply qzc|apply qzd|apply qze|intro(_:Nat))
  conv=>whnf
  refine⟨fun hx=>absurd ((beqT hx).symm.trans h0) (by decide),fun _=>?_⟩
  repeat((conv=>whnf);first|apply qza|apply qzb|apply qzc|apply qzd|apply qze|intro(_:Nat))
  conv=>whnf
  refine⟨fun _=>?_,fun hx=>absurd h0 (beqF hx)⟩
  repeat'((conv=>whnf);first|apply qza|apply qzb|apply qzc|apply qzd|apply qze|intro(_:Nat)|refine⟨_,rfl,⟨by omega,by omega⟩,?_⟩|refine⟨_,hcl 2 _ rfl,?_⟩|refine And.intro ?_ ?_|fail)
  conv=>whnf
  refine⟨b5,j5,bc,ty5,⟨hA,p1,p2,p3,p4⟩,?_⟩
  repeat((conv=>whnf);first|apply qza|apply qzb|apply qzc|apply qzd|apply qze|intro(_:Nat))
  conv=>whnf
  refine fun g6 u6=>?_
  have hFx:=qTA (hk5 g6 u6)
  have hle6:g≤g6:=u6.le hg3 (fun h=>by have:=g.wf _ h;omega)
  obtain⟨_,hcl'⟩:=qlI (qhM hFx) (i:=m.listen.toNat) (x:={x with active:=wI (x.active-1)}) (by simp only [List.getElem?_set];simp;omega)
  repeat'((conv=>whnf);first|apply qza|apply qzb|apply qzc|apply qzd|apply qze|intro(_:Nat)|refine⟨_,rfl,⟨by omega,by rw [List.length_set];omega⟩,?_⟩|refine⟨_,rfl,⟨by omega,by omega⟩,?_⟩|refine⟨_,hcl' 2 _ rfl,?_⟩|refine .inl ⟨_,qlS _ m 3 5 _,?_⟩|refine .inl ⟨_,qiS _ m ⟨m.thread,0,3,5,-1,false,_,false,false,false,ans0⟩ ⟨6,m.version,m.cluster,m.end_,m.slot,m.listen,0,c60⟩,?_⟩|refine And.intro ?_ ?_|fail)
  all_goals (conv=>whnf)
  all_goals (first|exact Eq.refl _|(
   intro g2 hg
   refine⟨_,_,by rw [hE9]<;>rfl,by rw [hW9];exact qDA _ _ _ _ hg hFx,?_⟩
   rw [hM9]
   exact⟨_,_,_,rfl,{hok with answer:=⟨(by decide:InR 6),hok.version,hok.cluster,hok.end_,hok.slot,hok.listen,z0,qnI⟩},hop,qCA _ _ _ _ (GW.trans hle6 hg) hcf⟩)))
/- Ends of requests: the document's step,place 9. -/
open Go.Proofs.YthonngjhelcpeaaGreat.Sx Go.RowKit
theorem qJY (g:GW) {cs ms:List Value} {w:Wd} {m:Mach} (hw:rWo g cs w) (hM:qhA g ms m) (hsn:SnW w) (hb:BgW 1000000 w) (hgo:fGo w m) (h0:m.pc=9):Ok Tryz.prog qVA [.agg ⟨cs⟩,.agg ⟨ms⟩] g (FiP w m):=by
 obtain⟨hW9,hM9,hE9⟩:=qhG hgo
 obtain⟨kW,kM,kE⟩:=fa9 (w:=w) h0
 rw [kW] at hW9
 rw [kM] at hM9
 rw [kE] at hE9
 clear kW kM kE
 have hs:=hgo.1
 obtain⟨v,gr,en,hS⟩:=id (suitB_iff.1 hs)
 obtain⟨oa,ca,ob,cb,oc,cc,od,cd,oe,ce,o1,t1,o2,t2,o3,t3,rfl,rfl,hw0,hM0,⟨i1,i2,i3⟩,hP,hV,hL,hC,hR,⟨a1,a2,a0,hP1⟩,⟨b1,b2,b0,hV1⟩,⟨c1,c2,c0,hL1⟩,⟨d1,d2,d0,hC1⟩,⟨e1,e2,e0,hR1⟩,hok,hop,hcf⟩:=q4B hw hM
 exact Ok.of_fn hm noT 0 qdA (args:=[.v (.agg ⟨wQ w oa ca ob cb oc cc od cd oe ce⟩),.v (.agg ⟨mQ m o1 t1 o2 t2 o3 t3⟩)]) (by
  repeat((conv=>whnf);first|apply qza|apply qzb|apply qzc|apply qzd|apply qze|intro(_:Nat))
  conv=>whnf
  refine .inl ⟨_,qNE _ hw0 hM0 hsn hb,?_⟩
  repeat((conv=>whnf);first|apply qza|apply qzb|apply qzc|apply qzd|apply qze|intro(_:Nat))
  conv=>whnf
  refine⟨fun hx=>absurd (hs.symm.trans (nb1 hx)) (by decide),fun _=>?_⟩
  repeat((conv=>whnf);first|apply qza|apply qzb|apply qzc|apply qzd|apply qze|intro(_:Nat))
  conv=>whnf
  refine dF (by omega) ?_
  repeat((conv=>whnf);first|apply qza|apply qzb|apply qzc|apply qzd|apply qze|intro(_:Nat))
  conv=>whnf
  refine dT (by omega) ?_
  repeat((conv=>whnf);first|apply qza|apply qzb|apply qzc|apply qzd|apply qze|intro(_:Nat))
  conv=>whnf
  refine⟨fun hx=>absurd h0 (bneT hx),fun _=>?_⟩
  repeat((conv=>whnf);first|apply qza|apply qzb|apply qzc|apply qzd|apply qze|intro(_:Nat))
  conv=>whnf
  refine⟨fun hx=>absurd (beqT hx) (by omega),fun _=>?_⟩
  repeat((conv=>whnf);first|apply qza|apply qzb|apply qzc|apply qzd|apply qze|intro(_:Nat))
  refine .inr ((qLF _ hw0 hb).mono fun v g3 hg3 hO=>?_)
  obtain⟨cs,T,rfl,hT⟩:=hO
  have hF:=qTA hT
  obtain⟨oa',ca',ob',cb',oc',cc',od',cd',oe',ce',rfl⟩:=qKA hF
  have hwu:=hok.word
  obtain⟨b1,k1,b2,k2,va,vb,vd,vn,T2,hq,hcv,hcg,htk,hE2,_,hPK⟩:=qdC hT hS.ver.2 hS.clu.2
  cases hq
  have hei:=(qGE hF hS.ver.2 hS.clu.2 hS.end_.2).1
  obtain⟨hvi,hgi,hki⟩:=hS.idx
  obtain⟨hmV,hmG,hmE⟩:=hS.at_
  obtain⟨b3,k3,nn,T3,hqn,hce,hN,hPE⟩:=q8A hE2 hS.end_.2 (en':=en) (o:=0) (vs:=[.int .u64 en.head]) (by simp) (by simp [Value.oneCell']) (fun n=>rfl) rfl ⟨hei.1,hei.2.1⟩
  subst hqn
  repeat'((conv=>whnf);first|apply qza|apply qzb|apply qzc|apply qzd|apply qze|intro(_:Nat)|refine⟨_,rfl,hvi,?_⟩|refine⟨_,hcv 3 _ rfl,?_⟩|refine⟨_,rfl,hgi,?_⟩|refine⟨_,hcg 1 _ rfl,?_⟩|refine⟨_,rfl,hki,?_⟩|fail)
  repeat((conv=>whnf);first|apply qza|apply qzb|apply qzc|apply qzd|apply qze|intro(_:Nat))
  conv=>whnf
  refine⟨fun hx=>absurd ((beqT hx).symm.trans h0) (by decide),fun _=>?_⟩
  repeat((conv=>whnf);first|apply qza|apply qzb|apply qzc|apply qzd|apply qze|intro(_:Nat))
  conv=>whnf
  refine⟨fun hx=>absurd ((beqT hx).symm.trans h0) (by decide),fun _=>?_⟩
  repeat((conv=>whnf);first|apply qza|apply qzb|apply qzc|apply qzd|apply qze|intro(_:Nat))
  conv=>whnf
  refine⟨fun hx=>absurd ((beqT hx).symm.trans h0) (by decide),fun _=>?_⟩
  repeat((conv=>whnf);first|apply qza|apply qzb|apply qzc|apply qzd|apply qze|intro(_:Nat))
  conv=>whnf
  refine⟨fun hx=>absurd ((beqT hx).symm.trans h0) (by decide),fun _=>?_⟩
  repeat((conv=>whnf);first|apply qza|apply qzb|apply qzc|apply qzd|apply qze|intro(_:Nat))
  conv=>whnf
  refine⟨fun hx=>absurd ((beqT hx).symm.trans h0) (by decide),fun _=>?_⟩
  repeat((conv=>whnf);first|apply qza|apply qzb|apply qzc|apply qzd|apply qze|intro(_:Nat))
  repeat'((conv=>whnf);first|apply qza|apply qzb|apply qzc|apply qzd|apply qze|intro(_:Nat)|refine .inl ⟨_,qlS _ m 1 0 0,?_⟩|refine .inl ⟨_,qiS _ m ⟨m.thread,0,1,0,-1,false,0,false,false,false,ans0⟩ (ansK 7 0),?_⟩|refine And.intro ?_ ?_|fail)
  all_goals (conv=>whnf)
  all_goals (first|exact Eq.refl _|(
   intro g2 hg
   refine⟨_,_,by rw [hE9]<;>rfl,by rw [hW9];exact qDA _ _ _ _ hg hF,?_⟩
   rw [hM9]
   exact⟨_,_,_,rfl,{hok with answer:=⟨(by decide:InR 7),z0,z0,z0,z0,z0,z0,qnI⟩},hop,qCA _ _ _ _ (GW.trans hg3 hg) hcf⟩)))
/- Ends of requests: the document's step,elsewhere;at any place. -/
open Go.Proofs.YthonngjhelcpeaaGreat.Sx Go.RowKit
theorem qIY (g:GW) {cs ms:List Value} {w:Wd} {m:Mach} (hw:rWo g cs w) (hM:qhA g ms m) (hsn:SnW w) (hb:BgW 1000000 w) (hgo:¬ fGo w m):Ok Tryz.prog qVA [.agg ⟨cs⟩,.agg ⟨ms⟩] g (FiP w m):=by
 obtain⟨oa,ca,ob,cb,oc,cc,od,cd,oe,ce,o1,t1,o2,t2,o3,t3,rfl,rfl,hw0,hM0,⟨i1,i2,i3⟩,hP,hV,hL,hC,hR,⟨a1,a2,a0,hP1⟩,⟨b1,b2,b0,hV1⟩,⟨c1,c2,c0,hL1⟩,⟨d1,d2,d0,hC1⟩,⟨e1,e2,e0,hR1⟩,hok,hop,hcf⟩:=q4B hw hM
 exact Ok.of_fn hm noT 0 qdA (args:=[.v (.agg ⟨wQ w oa ca ob cb oc cc od cd oe ce⟩),.v (.agg ⟨mQ m o1 t1 o2 t2 o3 t3⟩)]) (by
  have fin:∀ g2,g≤g2→FiP w m (.tuple #[.agg ⟨wQ w oa ca ob cb oc cc od cd oe ce⟩,.agg ⟨mQ m o1 t1 o2 t2 o3 t3⟩,.agg ⟨ev0.cs⟩]) g2:=by
   intro g2 hg
   obtain⟨k1,k2,k3⟩:=qhY hgo
   exact⟨_,_,by rw [k3]<;>rfl,by rw [k1];exact qDA _ _ _ _ hg hw0,by rw [k2];exact qQA _ _ _ _ hg hM0⟩
  repeat((conv=>whnf);first|apply qza|apply qzb|apply qzc|apply qzd|apply qze|intro(_:Nat))
  conv=>whnf
  refine .inl ⟨_,qNE _ hw0 hM0 hsn hb,?_⟩
  repeat((conv=>whnf);first|apply qza|apply qzb|apply qzc|apply qzd|apply qze|intro(_:Nat))
  refine And.intro (fun z4=>?_) (fun z4=>?_)
  ·repeat'((conv=>whnf);first|apply qza|apply qzb|apply qzc|apply qzd|apply qze|intro(_:Nat)|refine And.intro ?_ ?_|fail)
   all_goals (conv=>whnf)
   all_goals (first|exact Eq.refl _|exact fin)
  have hs:=nb0 z4
  repeat((conv=>whnf);first|apply qza|apply qzb|apply qzc|apply qzd|apply qze|intro(_:Nat))
  refine And.intro (fun z1=>?_) (fun z1=>?_)
  ·repeat'((conv=>whnf);first|apply qza|apply qzb|apply qzc|apply qzd|apply qze|intro(_:Nat)|refine And.intro ?_ ?_|fail)
   all_goals (conv=>whnf)
   all_goals (first|exact Eq.refl _|exact fin)
  have z1:=of_decide_eq_false z1
  repeat((conv=>whnf);first|apply qza|apply qzb|apply qzc|apply qzd|apply qze|intro(_:Nat))
  refine And.intro (fun z2=>?_) (fun z2=>?_)
  case' refine_1 =>
   have z2:=of_decide_eq_true z2
   repeat((conv=>whnf);first|apply qza|apply qzb|apply qzc|apply qzd|apply qze|intro(_:Nat))
   refine And.intro (fun z3=>?_) (fun z3=>?_)
   ·repeat'((conv=>whnf);first|apply qza|apply qzb|apply qzc|apply qzd|apply qze|intro(_:Nat)|refine And.intro ?_ ?_|fail)
    all_goals (conv=>whnf)
    all_goals (first|exact Eq.refl _|exact fin)
   have hpc:(0≤m.pc∧m.pc≤4)∨m.pc=9:=.inr (bneF z3)
  case' refine_2=>have hpc:(0≤m.pc∧m.pc≤4)∨m.pc=9:=.inl (by have:=of_decide_eq_false z2;omega)
  all_goals (
   repeat((conv=>whnf);first|apply qza|apply qzb|apply qzc|apply qzd|apply qze|intro(_:Nat))
   refine And.intro (fun z5=>?_) (fun z5=>?_)
   ·have z5:=beqT z5
    repeat((conv=>whnf);first|apply qza|apply qzb|apply qzc|apply qzd|apply qze|intro(_:Nat))
    refine And.intro (fun z6=>?_) (fun z6=>?_)
    ·repeat'((conv=>whnf);first|apply qza|apply qzb|apply qzc|apply qzd|apply qze|intro(_:Nat)|refine And.intro ?_ ?_|fail)
     all_goals (conv=>whnf)
     all_goals (first|exact Eq.refl _|exact fin)
    ·exact absurd ⟨hs,hpc,fun h=>absurd h.2 (by have:=of_decide_eq_false z6;omega)⟩ hgo
   ·exact absurd ⟨hs,hpc,fun h=>absurd h.1 (beqF z5)⟩ hgo))
theorem qcU (g:GW) {cs ms:List Value} {w:Wd} {m:Mach} (hw:rWo g cs w) (hM:qhA g ms m) (hsn:SnW w) (hb:BgW 1000000 w):Ok Tryz.prog qVA [.agg ⟨cs⟩,.agg ⟨ms⟩] g (FiP w m):=by
 by_cases hgo:fGo w m
 ·rcases(show m.pc=0∨m.pc=1∨m.pc=2∨m.pc=3∨m.pc=4∨m.pc=9 by have:=hgo.2.1;omega) with h|h|h|h|h|h
  ·exact qOY g hw hM hsn hb hgo h
  ·exact qNY g hw hM hsn hb hgo h
  ·exact qMY g hw hM hsn hb hgo h
  ·exact qLY g hw hM hsn hb hgo h
  ·exact qKY g hw hM hsn hb hgo h
  ·exact qJY g hw hM hsn hb hgo h
 ·exact qIY g hw hM hsn hb hgo
/- Requests: the program's step,elsewhere. -/
open Go.Proofs.YthonngjhelcpeaaGreat.Sx Go.RowKit
theorem q0X (g:GW) {cs ms:List Value} {w:Wd} {m:Mach} (hw:rWo g cs w) (hM:qhA g ms m) (hsn:SnW w) (hb:BgW 1000000 w) (hp:0≤m.pc∧m.pc<3):Ok Tryz.prog qLA [.agg ⟨cs⟩,.agg ⟨ms⟩] g (HaP w m):=by
 obtain⟨oa,ca,ob,cb,oc,cc,od,cd,oe,ce,o1,t1,o2,t2,o3,t3,rfl,rfl,hw0,hM0,⟨i1,i2,i3⟩,hP,hV,hL,hC,hR,⟨a1,a2,a0,hP1⟩,⟨b1,b2,b0,hV1⟩,⟨c1,c2,c0,hL1⟩,⟨d1,d2,d0,hC1⟩,⟨e1,e2,e0,hR1⟩,hok,hop,hcf⟩:=q4B hw hM
 exact Ok.of_fn hm quD 5 qNA (args:=[.v (.agg ⟨wQ w oa ca ob cb oc cc od cd oe ce⟩),.v (.agg ⟨mQ m o1 t1 o2 t2 o3 t3⟩)]) (by
  repeat((conv=>whnf);first|apply qza|apply qzb|apply qzc|apply qzd|apply qze|intro(_:Nat))
  conv=>whnf
  refine dT (by omega) ?_
  repeat((conv=>whnf);first|apply qza|apply qzb|apply qzc|apply qzd|apply qze|intro(_:Nat))
  conv=>whnf
  refine dT (by omega) ?_
  repeat((conv=>whnf);first|apply qza|apply qzb|apply qzc|apply qzd|apply qze|intro(_:Nat))
  refine .inr ((qBX _ hw0 hM0 hsn hb).mono fun v4 g4 hg4 hO=>?_)
  obtain⟨cs4,ms4,rfl,hO,hO2⟩:=hO
  obtain⟨_,_,_,_,_,_,_,_,_,_,rfl⟩:=qKA hO
  obtain⟨_,_,_,_,_,_,rfl⟩:=qqB hO2
  repeat((conv=>whnf);first|apply qza|apply qzb|apply qzc|apply qzd|apply qze|intro(_:Nat))
  conv=>whnf
  intro g2 hg
  obtain⟨k1,k2,k3⟩:=qQO hp
  exact⟨_,_,by rw [k3],by rw [k1];exact qDA _ _ _ _ hg hO,by rw [k2];exact qQA _ _ _ _ hg hO2⟩)
theorem q1X (g:GW) {cs ms:List Value} {w:Wd} {m:Mach} (hw:rWo g cs w) (hM:qhA g ms m) (hsn:SnW w) (hb:BgW 1000000 w) (hp:¬ (0≤m.pc∧m.pc<3)) (hgo:¬ hGo w m):Ok Tryz.prog qLA [.agg ⟨cs⟩,.agg ⟨ms⟩] g (HaP w m):=by
 obtain⟨oa,ca,ob,cb,oc,cc,od,cd,oe,ce,o1,t1,o2,t2,o3,t3,rfl,rfl,hw0,hM0,⟨i1,i2,i3⟩,hP,hV,hL,hC,hR,⟨a1,a2,a0,hP1⟩,⟨b1,b2,b0,hV1⟩,⟨c1,c2,c0,hL1⟩,⟨d1,d2,d0,hC1⟩,⟨e1,e2,e0,hR1⟩,hok,hop,hcf⟩:=q4B hw hM
 exact Ok.of_fn hm quD 5 qNA (args:=[.v (.agg ⟨wQ w oa ca ob cb oc cc od cd oe ce⟩),.v (.agg ⟨mQ m o1 t1 o2 t2 o3 t3⟩)]) (by
  repeat((conv=>whnf);first|apply qza|apply qzb|apply qzc|apply qzd|apply qze|intro(_:Nat))
  have fin:∀ g2,g≤g2→∃ cs ms,Value.tuple #[.agg ⟨wQ w oa ca ob cb oc cc od cd oe ce⟩,.agg ⟨mQ m o1 t1 o2 t2 o3 t3⟩,.agg ⟨ev0.cs⟩]=.tuple #[.agg ⟨cs⟩,.agg ⟨ms⟩,.agg ⟨(hsE w m).cs⟩]∧rWo g2 cs (hsW w m)∧qhA g2 ms (hsM w m):=by
   intro g2 hg
   obtain⟨k1,k2,k3⟩:=qOX hgo
   exact⟨_,_,by rw [k3]<;>rfl,by rw [k1];exact qDA _ _ _ _ hg hw0,by rw [k2];exact qQA _ _ _ _ hg hM0⟩
  refine And.intro (fun z1=>?_) (fun z1=>?_)
  rotate_left
  ·have z1:=of_decide_eq_false z1
   repeat((conv=>whnf);first|apply qza|apply qzb|apply qzc|apply qzd|apply qze|intro(_:Nat))
   conv=>whnf
   refine dT (by omega) ?_
   repeat((conv=>whnf);first|apply qza|apply qzb|apply qzc|apply qzd|apply qze|intro(_:Nat))
   conv=>whnf
   refine fin
  have z1:=of_decide_eq_true z1
  repeat((conv=>whnf);first|apply qza|apply qzb|apply qzc|apply qzd|apply qze|intro(_:Nat))
  conv=>whnf
  refine dF (by omega) ?_
  repeat((conv=>whnf);first|apply qza|apply qzb|apply qzc|apply qzd|apply qze|intro(_:Nat))
  conv=>whnf
  refine dF (by omega) ?_
  repeat((conv=>whnf);first|apply qza|apply qzb|apply qzc|apply qzd|apply qze|intro(_:Nat))
  refine And.intro (fun z2=>?_) (fun z2=>?_)
  ·repeat((conv=>whnf);first|apply qza|apply qzb|apply qzc|apply qzd|apply qze|intro(_:Nat))
   conv=>whnf
   refine fin
  have z2:=of_decide_eq_false z2
  repeat((conv=>whnf);first|apply qza|apply qzb|apply qzc|apply qzd|apply qze|intro(_:Nat))
  conv=>whnf
  refine .inl ⟨_,qYA _ hw0 hM0 hsn hb,?_⟩
  repeat((conv=>whnf);first|apply qza|apply qzb|apply qzc|apply qzd|apply qze|intro(_:Nat))
  refine And.intro (fun z3=>?_) (fun z3=>?_)
  ·repeat((conv=>whnf);first|apply qza|apply qzb|apply qzc|apply qzd|apply qze|intro(_:Nat))
   conv=>whnf
   refine fin
  have hs:=nb0 z3
  repeat((conv=>whnf);first|apply qza|apply qzb|apply qzc|apply qzd|apply qze|intro(_:Nat))
  refine And.intro (fun z4=>?_) (fun z4=>?_)
  ·have z4:=of_decide_eq_true z4
   repeat((conv=>whnf);first|apply qza|apply qzb|apply qzc|apply qzd|apply qze|intro(_:Nat))
   refine And.intro (fun z5=>?_) (fun z5=>?_)
   ·repeat((conv=>whnf);first|apply qza|apply qzb|apply qzc|apply qzd|apply qze|intro(_:Nat))
    conv=>whnf
    refine fin
   have z5:=beqF z5
   repeat((conv=>whnf);first|apply qza|apply qzb|apply qzc|apply qzd|apply qze|intro(_:Nat))
   refine And.intro (fun z6=>?_) (fun z6=>?_)
   ·repeat((conv=>whnf);first|apply qza|apply qzb|apply qzc|apply qzd|apply qze|intro(_:Nat))
    conv=>whnf
    refine fin
   have z6:=beqF z6
   repeat((conv=>whnf);first|apply qza|apply qzb|apply qzc|apply qzd|apply qze|intro(_:Nat))
   refine And.intro (fun z7=>?_) (fun z7=>?_)
   ·repeat((conv=>whnf);first|apply qza|apply qzb|apply qzc|apply qzd|apply qze|intro(_:Nat))
    conv=>whnf
    refine fin
   have z7:=beqF z7
   have hpc:12<m.pc∧m.pc<20:=by
    apply Classical.byContradiction
    intro hx
    exact hgo ⟨hs,by omega,by omega⟩
   repeat((conv=>whnf);first|apply qza|apply qzb|apply qzc|apply qzd|apply qze|intro(_:Nat))
   conv=>whnf
   refine .inl ⟨_,qRB _,?_⟩
   repeat((conv=>whnf);first|apply qza|apply qzb|apply qzc|apply qzd|apply qze|intro(_:Nat))
   rcases(by omega:m.pc=13∨m.pc=14∨m.pc=15∨m.pc=16∨m.pc=17∨m.pc=18∨m.pc=19) with h|h|h|h|h|h|h
   ·conv=>whnf
    refine⟨13,⟨h,by decide⟩,?_⟩
    repeat((conv=>whnf);first|apply qza|apply qzb|apply qzc|apply qzd|apply qze|intro(_:Nat))
    conv=>whnf
    refine⟨fun _=>?_,fun h=>nomatch h⟩
    repeat((conv=>whnf);first|apply qza|apply qzb|apply qzc|apply qzd|apply qze|intro(_:Nat))
    conv=>whnf
    refine fin
   ·conv=>whnf
    refine⟨14,⟨h,by decide⟩,?_⟩
    repeat((conv=>whnf);first|apply qza|apply qzb|apply qzc|apply qzd|apply qze|intro(_:Nat))
    conv=>whnf
    refine⟨fun _=>?_,fun h=>nomatch h⟩
    repeat((conv=>whnf);first|apply qza|apply qzb|apply qzc|apply qzd|apply qze|intro(_:Nat))
    conv=>whnf
    refine fin
   ·conv=>whnf
    refine⟨15,⟨h,by decide⟩,?_⟩
    repeat((conv=>whnf);first|apply qza|apply qzb|apply qzc|apply qzd|apply qze|intro(_:Nat))
    conv=>whnf
    refine⟨fun _=>?_,fun h=>nomatch h⟩
    repeat((conv=>whnf);first|apply qza|apply qzb|apply qzc|apply qzd|apply qze|intro(_:Nat))
    conv=>whnf
    refine fin
   ·conv=>whnf
    refine⟨16,⟨h,by decide⟩,?_⟩
    repeat((conv=>whnf);first|apply qza|apply qzb|apply qzc|apply qzd|apply qze|intro(_:Nat))
    conv=>whnf
    refine⟨fun _=>?_,fun h=>nomatch h⟩
    repeat((conv=>whnf);first|apply qza|apply qzb|apply qzc|apply qzd|apply qze|intro(_:Nat))
    conv=>whnf
    refine fin
   ·conv=>whnf
    refine⟨17,⟨h,by decide⟩,?_⟩
    repeat((conv=>whnf);first|apply qza|apply qzb|apply qzc|apply qzd|apply qze|intro(_:Nat))
    conv=>whnf
    refine⟨fun _=>?_,fun h=>nomatch h⟩
    repeat((conv=>whnf);first|apply qza|apply qzb|apply qzc|apply qzd|apply qze|intro(_:Nat))
    conv=>whnf
    refine fin
   ·conv=>whnf
    refine⟨18,⟨h,by decide⟩,?_⟩
    repeat((conv=>whnf);first|apply qza|apply qzb|apply qzc|apply qzd|apply qze|intro(_:Nat))
    conv=>whnf
    refine⟨fun _=>?_,fun h=>nomatch h⟩
    repeat((conv=>whnf);first|apply qza|apply qzb|apply qzc|apply qzd|apply qze|intro(_:Nat))
    conv=>whnf
    refine fin
   ·conv=>whnf
    refine⟨19,⟨h,by decide⟩,?_⟩
    repeat((conv=>whnf);first|apply qza|apply qzb|apply qzc|apply qzd|apply qze|intro(_:Nat))
    conv=>whnf
    refine⟨fun _=>?_,fun h=>nomatch h⟩
    repeat((conv=>whnf);first|apply qza|apply qzb|apply qzc|apply qzd|apply qze|intro(_:Nat))
    conv=>whnf
    refine fin
  ·have z4:=of_decide_eq_false z4
   have hpc:12<m.pc∧m.pc<20:=by
    apply Classical.byContradiction
    intro hx
    exact hgo ⟨hs,by omega,by omega⟩
   repeat((conv=>whnf);first|apply qza|apply qzb|apply qzc|apply qzd|apply qze|intro(_:Nat))
   conv=>whnf
   refine .inl ⟨_,qRB _,?_⟩
   repeat((conv=>whnf);first|apply qza|apply qzb|apply qzc|apply qzd|apply qze|intro(_:Nat))
   rcases(by omega:m.pc=13∨m.pc=14∨m.pc=15∨m.pc=16∨m.pc=17∨m.pc=18∨m.pc=19) with h|h|h|h|h|h|h
   ·conv=>whnf
    refine⟨13,⟨h,by decide⟩,?_⟩
    repeat((conv=>whnf);first|apply qza|apply qzb|apply qzc|apply qzd|apply qze|intro(_:Nat))
    conv=>whnf
    refine⟨fun _=>?_,fun h=>nomatch h⟩
    repeat((conv=>whnf);first|apply qza|apply qzb|apply qzc|apply qzd|apply qze|intro(_:Nat))
    conv=>whnf
    refine fin
   ·conv=>whnf
    refine⟨14,⟨h,by decide⟩,?_⟩
    repeat((conv=>whnf);first|apply qza|apply qzb|apply qzc|apply qzd|apply qze|intro(_:Nat))
    conv=>whnf
    refine⟨fun _=>?_,fun h=>nomatch h⟩
    repeat((conv=>whnf);first|apply qza|apply qzb|apply qzc|apply qzd|apply qze|intro(_:Nat))
    conv=>whnf
    refine fin
   ·conv=>whnf
    refine⟨15,⟨h,by decide⟩,?_⟩
    repeat((conv=>whnf);first|apply qza|apply qzb|apply qzc|apply qzd|apply qze|intro(_:Nat))
    conv=>whnf
    refine⟨fun _=>?_,fun h=>nomatch h⟩
    repeat((conv=>whnf);first|apply qza|apply qzb|apply qzc|apply qzd|apply qze|intro(_:Nat))
    conv=>whnf
    refine fin
   ·conv=>whnf
    refine⟨16,⟨h,by decide⟩,?_⟩
    repeat((conv=>whnf);first|apply qza|apply qzb|apply qzc|apply qzd|apply qze|intro(_:Nat))
    conv=>whnf
    refine⟨fun _=>?_,fun h=>nomatch h⟩
    repeat((conv=>whnf);first|apply qza|apply qzb|apply qzc|apply qzd|apply qze|intro(_:Nat))
    conv=>whnf
    refine fin
   ·conv=>whnf
    refine⟨17,⟨h,by decide⟩,?_⟩
    repeat((conv=>whnf);first|apply qza|apply qzb|apply qzc|apply qzd|apply qze|intro(_:Nat))
    conv=>whnf
    refine⟨fun _=>?_,fun h=>nomatch h⟩
    repeat((conv=>whnf);first|apply qza|apply qzb|apply qzc|apply qzd|apply qze|intro(_:Nat))
    conv=>whnf
    refine fin
   ·conv=>whnf
    refine⟨18,⟨h,by decide⟩,?_⟩
    repeat((conv=>whnf);first|apply qza|apply qzb|apply qzc|apply qzd|apply qze|intro(_:Nat))
    conv=>whnf
    refine⟨fun _=>?_,fun h=>nomatch h⟩
    repeat((conv=>whnf);first|apply qza|apply qzb|apply qzc|apply qzd|apply qze|intro(_:Nat))
    conv=>whnf
    refine fin
   ·conv=>whnf
    refine⟨19,⟨h,by decide⟩,?_⟩
    repeat((conv=>whnf);first|apply qza|apply qzb|apply qzc|apply qzd|apply qze|intro(_:Nat))
    conv=>whnf
    refine⟨fun _=>?_,fun h=>nomatch h⟩
    repeat((conv=>whnf);first|apply qza|apply qzb|apply qzc|apply qzd|apply qze|intro(_:Nat))
    conv=>whnf
    refine fin)
/- Requests: the program's step,place 3. -/
open Go.Proofs.YthonngjhelcpeaaGreat.Sx Go.RowKit
theorem q8X (g:GW) {cs ms:List Value} {w:Wd} {m:Mach} (hw:rWo g cs w) (hM:qhA g ms m) (hsn:SnW w) (hb:BgW 1000000 w) (hsz:SmO m) (hgo:hGo w m) (h0:m.pc=3):Ok Tryz.prog qLA [.agg ⟨cs⟩,.agg ⟨ms⟩] g (HaP w m):=by
 obtain⟨hW9,hM9,hE9⟩:=qdB hgo (by omega)
 obtain⟨kW,kM,kE⟩:=ha3 h0
 rw [kW] at hW9
 rw [kM] at hM9
 rw [kE] at hE9
 clear kW kM kE
 have hs:=hgo.1
 obtain⟨v,gr,en,hS⟩:=id (suitB_iff.1 hs)
 obtain⟨oa,ca,ob,cb,oc,cc,od,cd,oe,ce,o1,t1,o2,t2,o3,t3,rfl,rfl,hw0,hM0,⟨i1,i2,i3⟩,hP,hV,hL,hC,hR,⟨a1,a2,a0,hP1⟩,⟨b1,b2,b0,hV1⟩,⟨c1,c2,c0,hL1⟩,⟨d1,d2,d0,hC1⟩,⟨e1,e2,e0,hR1⟩,hok,hop,hcf⟩:=q4B hw hM
 exact Ok.of_fn hm quD 5 qNA (args:=[.v (.agg ⟨wQ w oa ca ob cb oc cc od cd oe ce⟩),.v (.agg ⟨mQ m o1 t1 o2 t2 o3 t3⟩)]) (by
  repeat((conv=>whnf);first|apply qza|apply qzb|apply qzc|apply qzd|apply qze|intro(_:Nat))
  conv=>whnf
  refine dT (by omega) ?_
  repeat((conv=>whnf);first|apply qza|apply qzb|apply qzc|apply qzd|apply qze|intro(_:Nat))
  conv=>whnf
  refine dF (by omega) ?_
  repeat((conv=>whnf);first|apply qza|apply qzb|apply qzc|apply qzd|apply qze|intro(_:Nat))
  conv=>whnf
  refine dF (by omega) ?_
  repeat((conv=>whnf);first|apply qza|apply qzb|apply qzc|apply qzd|apply qze|intro(_:Nat))
  conv=>whnf
  refine dF (by omega) ?_
  repeat((conv=>whnf);first|apply qza|apply qzb|apply qzc|apply qzd|apply qze|intro(_:Nat))
  conv=>whnf
  refine .inl ⟨_,qYA _ hw0 hM0 hsn hb,?_⟩
  repeat((conv=>whnf);first|apply qza|apply qzb|apply qzc|apply qzd|apply qze|intro(_:Nat))
  conv=>whnf
  refine⟨fun hx=>absurd (hs.symm.trans (nb1 hx)) (by decide),fun _=>?_⟩
  repeat((conv=>whnf);first|apply qza|apply qzb|apply qzc|apply qzd|apply qze|intro(_:Nat))
  conv=>whnf
  refine⟨fun _=>?_,fun _=>?_⟩
  case' refine_1 =>
   repeat((conv=>whnf);first|apply qza|apply qzb|apply qzc|apply qzd|apply qze|intro(_:Nat))
   conv=>whnf
   refine⟨fun hx=>absurd hx (by simp [h0]),fun _=>?_⟩
   repeat((conv=>whnf);first|apply qza|apply qzb|apply qzc|apply qzd|apply qze|intro(_:Nat))
   conv=>whnf
   refine⟨fun hx=>absurd hx (by simp [h0]),fun _=>?_⟩
   repeat((conv=>whnf);first|apply qza|apply qzb|apply qzc|apply qzd|apply qze|intro(_:Nat))
   conv=>whnf
   refine⟨fun hx=>absurd hx (by simp [h0]),fun _=>?_⟩
  all_goals (
   repeat((conv=>whnf);first|apply qza|apply qzb|apply qzc|apply qzd|apply qze|intro(_:Nat))
   conv=>whnf
   refine .inl ⟨_,qRB _,?_⟩
   repeat((conv=>whnf);first|apply qza|apply qzb|apply qzc|apply qzd|apply qze|intro(_:Nat))
   conv=>whnf
   refine⟨3,⟨h0,by decide⟩,?_⟩
   repeat((conv=>whnf);first|apply qza|apply qzb|apply qzc|apply qzd|apply qze|intro(_:Nat))
   conv=>whnf
   refine⟨fun h=>(nomatch h),fun _=>?_⟩
   repeat((conv=>whnf);first|apply qza|apply qzb|apply qzc|apply qzd|apply qze|intro(_:Nat))
   refine .inr ((qeA _ hw0 hb).mono fun v g3 hg3 hO=>?_)
   obtain⟨cs,T,rfl,hT⟩:=hO
   have hF:=qTA hT
   obtain⟨oa',ca',ob',cb',oc',cc',od',cd',oe',ce',rfl⟩:=qKA hF
   unfold hM3 at hM9
   have hFl:=qhM hF
   have hpl:InR (qMB w.listens m.op.listen):=qMX (by have:=hb.1.2.2.1;omega)
   repeat((conv=>whnf);first|apply qza|apply qzb|apply qzc|apply qzd|apply qze|intro(_:Nat))
   conv=>whnf
   refine⟨qjE,?_⟩
   repeat'((conv=>whnf);first|apply qza|apply qzb|apply qzc|apply qzd|apply qze|intro(_:Nat)|refine⟨_,fun gp hle hin=>q7A gp (hin.cel (id:=6) rfl 10 rfl),?_⟩|refine .inl ⟨_,qMK _ hFl _,?_⟩|refine And.intro ?_ ?_|fail)
   all_goals (try exact Eq.refl _)
   ·intro z
    rw [if_pos (of_decide_eq_true z)] at hM9
    repeat((conv=>whnf);first|apply qza|apply qzb|apply qzc|apply qzd|apply qze|intro(_:Nat))
    conv=>whnf
    intro g2 hg
    refine⟨_,_,by rw [hE9]<;>rfl,by rw [hW9];exact qDA _ _ _ _ hg hF,?_⟩
    rw [hM9]
    exact⟨_,_,_,rfl,{hok with version:=i2,cluster:=z0,end_:=z0,other:=z0,slot:=z0,listen:=hpl,pc:=show InR (20:Int) by decide,answer:=qKG (by decide)},hop,qCA _ _ _ _ (GW.trans hg3 hg) hcf⟩
   ·intro z
    rw [if_neg (of_decide_eq_false z)] at hM9
    repeat((conv=>whnf);first|apply qza|apply qzb|apply qzc|apply qzd|apply qze|intro(_:Nat))
    conv=>whnf
    intro g2 hg
    refine⟨_,_,by rw [hE9]<;>rfl,by rw [hW9];exact qDA _ _ _ _ hg hF,?_⟩
    rw [hM9]
    exact⟨_,_,_,rfl,{hok with version:=i2,cluster:=z0,end_:=z0,other:=z0,slot:=z0,listen:=hpl,pc:=show InR (4:Int) by decide},hop,qCA _ _ _ _ (GW.trans hg3 hg) hcf⟩))
/- Requests: the program's step,place 4. -/
open Go.Proofs.YthonngjhelcpeaaGreat.Sx Go.RowKit
theorem q7X (g:GW) {cs ms:List Value} {w:Wd} {m:Mach} (hw:rWo g cs w) (hM:qhA g ms m) (hsn:SnW w) (hb:BgW 1000000 w) (hsz:SmO m) (hgo:hGo w m) (h0:m.pc=4):Ok Tryz.prog qLA [.agg ⟨cs⟩,.agg ⟨ms⟩] g (HaP w m):=by
 obtain⟨hW9,hM9,hE9⟩:=qdB hgo (by omega)
 obtain⟨kW,kM,kE⟩:=ha4 h0
 rw [kW] at hW9
 rw [kM] at hM9
 rw [kE] at hE9
 clear kW kM kE
 have hs:=hgo.1
 obtain⟨v,gr,en,hS⟩:=id (suitB_iff.1 hs)
 obtain⟨oa,ca,ob,cb,oc,cc,od,cd,oe,ce,o1,t1,o2,t2,o3,t3,rfl,rfl,hw0,hM0,⟨i1,i2,i3⟩,hP,hV,hL,hC,hR,⟨a1,a2,a0,hP1⟩,⟨b1,b2,b0,hV1⟩,⟨c1,c2,c0,hL1⟩,⟨d1,d2,d0,hC1⟩,⟨e1,e2,e0,hR1⟩,hok,hop,hcf⟩:=q4B hw hM
 exact Ok.of_fn hm quD 5 qNA (args:=[.v (.agg ⟨wQ w oa ca ob cb oc cc od cd oe ce⟩),.v (.agg ⟨mQ m o1 t1 o2 t2 o3 t3⟩)]) (by
  repeat((conv=>whnf);first|apply qza|apply qzb|apply qzc|apply qzd|apply qze|intro(_:Nat))
  conv=>whnf
  refine dT (by omega) ?_
  repeat((conv=>whnf);first|apply qza|apply qzb|apply qzc|apply qzd|apply qze|intro(_:Nat))
  conv=>whnf
  refine dF (by omega) ?_
  repeat((conv=>whnf);first|apply qza|apply qzb|apply qzc|apply qzd|apply qze|intro(_:Nat))
  conv=>whnf
  refine dF (by omega) ?_
  repeat((conv=>whnf);first|apply qza|apply qzb|apply qzc|apply qzd|apply qze|intro(_:Nat))
  conv=>whnf
  refine dF (by omega) ?_
  repeat((conv=>whnf);first|apply qza|apply qzb|apply qzc|apply qzd|apply qze|intro(_:Nat))
  conv=>whnf
  refine .inl ⟨_,qYA _ hw0 hM0 hsn hb,?_⟩
  repeat((conv=>whnf);first|apply qza|apply qzb|apply qzc|apply qzd|apply qze|intro(_:Nat))
  conv=>whnf
  refine⟨fun hx=>absurd (hs.symm.trans (nb1 hx)) (by decide),fun _=>?_⟩
  repeat((conv=>whnf);first|apply qza|apply qzb|apply qzc|apply qzd|apply qze|intro(_:Nat))
  have hli:0≤m.listen:=by have:=hgo.2.2;omega
  conv=>whnf
  refine dF (by omega) ?_
  repeat((conv=>whnf);first|apply qza|apply qzb|apply qzc|apply qzd|apply qze|intro(_:Nat))
  repeat((conv=>whnf);first|apply qza|apply qzb|apply qzc|apply qzd|apply qze|intro(_:Nat))
  conv=>whnf
  refine .inl ⟨_,qRB _,?_⟩
  repeat((conv=>whnf);first|apply qza|apply qzb|apply qzc|apply qzd|apply qze|intro(_:Nat))
  conv=>whnf
  refine⟨4,⟨h0,by decide⟩,?_⟩
  repeat((conv=>whnf);first|apply qza|apply qzb|apply qzc|apply qzd|apply qze|intro(_:Nat))
  conv=>whnf
  refine⟨fun h=>(nomatch h),fun _=>?_⟩
  repeat((conv=>whnf);first|apply qza|apply qzb|apply qzc|apply qzd|apply qze|intro(_:Nat))
  refine .inr ((qeA _ hw0 hb).mono fun v g3 hg3 hO=>?_)
  obtain⟨cs,T,rfl,hT⟩:=hO
  have hF:=qTA hT
  obtain⟨oa',ca',ob',cb',oc',cc',od',cd',oe',ce',rfl⟩:=qKA hF
  obtain⟨x,hx⟩:=qAA (l:=w.listens) (i:=m.listen.toNat) (by have:=hS.listen;omega)
  have hmL:mL w m=x:=by unfold mL;rw [hx];rfl
  rw [hmL] at hW9 hE9
  have hli2:=hS.listen
  obtain⟨bk,cap,hv,rcl,b5,j5,bc,ty5,⟨hA,p1,p2,p3,p4⟩,_,hk5⟩:=qBP hT hx (x':={x with active:=wI (x.active+1)}) (o:=2) (vs:=[.int .i64 (wI (x.active+1))]) (by simp) (by simp [Value.oneCell']) rfl (qqG _)
  cases hv
  obtain⟨hxa,hcl⟩:=qlI (qhM hF) hx
  repeat((conv=>whnf);first|apply qza|apply qzb|apply qzc|apply qzd|apply qze|intro(_:Nat))
  conv=>whnf
  refine⟨qPI,?_⟩
  repeat((conv=>whnf);first|apply qza|apply qzb|apply qzc|apply qzd|apply qze|intro(_:Nat))
  conv=>whnf
  refine⟨_,rfl,⟨by omega,by omega⟩,?_⟩
  repeat((conv=>whnf);first|apply qza|apply qzb|apply qzc|apply qzd|apply qze|intro(_:Nat))
  conv=>whnf
  refine⟨_,hcl 2 _ rfl,?_⟩
  repeat((conv=>whnf);first|apply qza|apply qzb|apply qzc|apply qzd|apply qze|intro(_:Nat))
  conv=>whnf
  refine⟨b5,j5,bc,ty5,⟨hA,p1,p2,p3,p4⟩,?_⟩
  repeat((conv=>whnf);first|apply qza|apply qzb|apply qzc|apply qzd|apply qze|intro(_:Nat))
  conv=>whnf
  refine fun g6 u6=>?_
  have hFx:=qTA (hk5 g6 u6)
  have hle6:g≤g6:=u6.le hg3 (fun h=>by have:=g.wf _ h;omega)
  obtain⟨_,hcl'⟩:=qlI (qhM hFx) (i:=m.listen.toNat) (x:={x with active:=wI (x.active+1)}) (by simp only [List.getElem?_set];simp;omega)
  repeat((conv=>whnf);first|apply qza|apply qzb|apply qzc|apply qzd|apply qze|intro(_:Nat))
  conv=>whnf
  refine⟨_,hcl' 2 _ rfl,?_⟩
  repeat((conv=>whnf);first|apply qza|apply qzb|apply qzc|apply qzd|apply qze|intro(_:Nat))
  conv=>whnf
  refine⟨_,fun gp hle hin=>q7A gp (hin.2.2.1 10 _ rfl),?_⟩
  repeat((conv=>whnf);first|apply qza|apply qzb|apply qzc|apply qzd|apply qze|intro(_:Nat))
  conv=>whnf
  intro g2 hg
  refine⟨_,_,by rw [hE9];rfl,by rw [hW9];exact qDA _ _ _ _ hg hFx,?_⟩
  rw [hM9]
  exact⟨_,_,_,rfl,{hok with pc:=show InR (5:Int) by decide},hop,qCA _ _ _ _ (GW.trans hle6 hg) hcf⟩)
/- Requests: the program's step,place 5. -/
open Go.Proofs.YthonngjhelcpeaaGreat.Sx Go.RowKit
theorem q6X (g:GW) {cs ms:List Value} {w:Wd} {m:Mach} (hw:rWo g cs w) (hM:qhA g ms m) (hsn:SnW w) (hb:BgW 1000000 w) (hsz:SmO m) (hgo:hGo w m) (h0:m.pc=5):Ok Tryz.prog qLA [.agg ⟨cs⟩,.agg ⟨ms⟩] g (HaP w m):=by
 obtain⟨hW9,hM9,hE9⟩:=qdB hgo (by omega)
 obtain⟨kW,kM,kE⟩:=ha5 h0
 rw [kW] at hW9
 rw [kM] at hM9
 rw [kE] at hE9
 clear kW kM kE
 have hs:=hgo.1
 obtain⟨v,gr,en,hS⟩:=id (suitB_iff.1 hs)
 obtain⟨oa,ca,ob,cb,oc,cc,od,cd,oe,ce,o1,t1,o2,t2,o3,t3,rfl,rfl,hw0,hM0,⟨i1,i2,i3⟩,hP,hV,hL,hC,hR,⟨a1,a2,a0,hP1⟩,⟨b1,b2,b0,hV1⟩,⟨c1,c2,c0,hL1⟩,⟨d1,d2,d0,hC1⟩,⟨e1,e2,e0,hR1⟩,hok,hop,hcf⟩:=q4B hw hM
 exact Ok.of_fn hm quD 5 qNA (args:=[.v (.agg ⟨wQ w oa ca ob cb oc cc od cd oe ce⟩),.v (.agg ⟨mQ m o1 t1 o2 t2 o3 t3⟩)]) (by
  repeat((conv=>whnf);first|apply qza|apply qzb|apply qzc|apply qzd|apply qze|intro(_:Nat))
  conv=>whnf
  refine dT (by omega) ?_
  repeat((conv=>whnf);first|apply qza|apply qzb|apply qzc|apply qzd|apply qze|intro(_:Nat))
  conv=>whnf
  refine dF (by omega) ?_
  repeat((conv=>whnf);first|apply qza|apply qzb|apply qzc|apply qzd|apply qze|intro(_:Nat))
  conv=>whnf
  refine dF (by omega) ?_
  repeat((conv=>whnf);first|apply qza|apply qzb|apply qzc|apply qzd|apply qze|intro(_:Nat))
  conv=>whnf
  refine dF (by omega) ?_
  repeat((conv=>whnf);first|apply qza|apply qzb|apply qzc|apply qzd|apply qze|intro(_:Nat))
  conv=>whnf
  refine .inl ⟨_,qYA _ hw0 hM0 hsn hb,?_⟩
  repeat((conv=>whnf);first|apply qza|apply qzb|apply qzc|apply qzd|apply qze|intro(_:Nat))
  conv=>whnf
  refine⟨fun hx=>absurd (hs.symm.trans (nb1 hx)) (by decide),fun _=>?_⟩
  repeat((conv=>whnf);first|apply qza|apply qzb|apply qzc|apply qzd|apply qze|intro(_:Nat))
  have hli:0≤m.listen:=by have:=hgo.2.2;omega
  conv=>whnf
  refine dF (by omega) ?_
  repeat((conv=>whnf);first|apply qza|apply qzb|apply qzc|apply qzd|apply qze|intro(_:Nat))
  repeat((conv=>whnf);first|apply qza|apply qzb|apply qzc|apply qzd|apply qze|intro(_:Nat))
  conv=>whnf
  refine .inl ⟨_,qRB _,?_⟩
  repeat((conv=>whnf);first|apply qza|apply qzb|apply qzc|apply qzd|apply qze|intro(_:Nat))
  conv=>whnf
  refine⟨5,⟨h0,by decide⟩,?_⟩
  repeat((conv=>whnf);first|apply qza|apply qzb|apply qzc|apply qzd|apply qze|intro(_:Nat))
  conv=>whnf
  refine⟨fun h=>(nomatch h),fun _=>?_⟩
  repeat((conv=>whnf);first|apply qza|apply qzb|apply qzc|apply qzd|apply qze|intro(_:Nat))
  refine .inr ((qeA _ hw0 hb).mono fun v g3 hg3 hO=>?_)
  obtain⟨cs,T,rfl,hT⟩:=hO
  have hF:=qTA hT
  obtain⟨oa',ca',ob',cb',oc',cc',od',cd',oe',ce',rfl⟩:=qKA hF
  obtain⟨x,hx⟩:=qAA (l:=w.listens) (i:=m.listen.toNat) (by have:=hS.listen;omega)
  have hmL:mL w m=x:=by unfold mL;rw [hx];rfl
  have hli2:=hS.listen
  have hlj:0≤m.listen∧m.listen<w.listens.length:=by omega
  have hFl:=qhM hF
  obtain⟨al,rfl⟩:=qJA hFl hx
  obtain⟨hxa,hcl⟩:=qlI hFl hx
  unfold hM5 at hM9
  unfold hE5 at hE9
  rw [hmL] at hM9 hE9
  repeat((conv=>whnf);first|apply qza|apply qzb|apply qzc|apply qzd|apply qze|intro(_:Nat))
  conv=>whnf
  refine⟨qPF,?_⟩
  repeat'((conv=>whnf);first|apply qza|apply qzb|apply qzc|apply qzd|apply qze|intro(_:Nat)|refine⟨_,rfl,hlj,?_⟩|refine⟨_,hcl 1 _ rfl,?_⟩|fail)
  refine And.intro (fun z=>?_) (fun z=>?_)
  ·rw [if_pos z] at hM9 hE9
   repeat'((conv=>whnf);first|apply qza|apply qzb|apply qzc|apply qzd|apply qze|intro(_:Nat)|refine⟨_,fun gp hle hin=>q7A gp (hin.cel (id:=6) rfl 10 rfl),?_⟩|refine And.intro ?_ ?_|fail)
   all_goals (conv=>whnf)
   all_goals (first|exact Eq.refl _|(
   intro g2 hg
   refine⟨_,_,by rw [hE9]<;>rfl,by rw [hW9];exact qDA _ _ _ _ hg hF,?_⟩
   rw [hM9]
   exact⟨_,_,_,rfl,{hok with pc:=show InR (20:Int) by decide,answer:=qKG (by decide)},hop,qCA _ _ _ _ (GW.trans hg3 hg) hcf⟩))
  ·rw [if_neg (by rw [z];decide)] at hM9 hE9
   have hFv:=qyO hF
   obtain⟨av,rfl⟩:=qJA hFv hS.ver.2
   obtain⟨oL,cL,oR,cR,oC,cC,oG,cG,hcv,hsn3,hcK,hcG⟩:=qnE hFv hS.ver.2
   obtain⟨ag,rfl⟩:=qJA hcG hS.clu.2
   obtain⟨oE,cE,hcg,htk,hcE⟩:=qSF hcG hS.clu.2
   obtain⟨ae,rfl⟩:=qJA hcE hS.end_.2
   obtain⟨oN,cN,hce,hei,hcN⟩:=qaF hcE hS.end_.2
   obtain⟨hvi,hgi,hki⟩:=hS.idx
   obtain⟨hmV,hmG,hmE⟩:=hS.at_
   simp only [qoE,hmV] at hM9
   have hsv:=hsn v (List.mem_of_getElem? hS.ver.2)
   obtain⟨fc,fe,hfv,hfc⟩:=qIW v.snap m.op.listen m.op.host m.op.path
   have hfi:=(qFX g3 hsn3 m.op.listen m.op.host m.op.path ⟨fun r hr=>⟨by have:=(hsv.2 r hr).1;omega,by have:=(hsv.2 r hr).2;omega⟩,hsz⟩).to hfv
   have hcv3:=hcv.sub 0 3
   repeat'((conv=>whnf);first|apply qza|apply qzb|apply qzc|apply qzd|apply qze|intro(_:Nat)|refine⟨_,rfl,hvi,?_⟩|refine⟨_,⟨rfl,hcv3⟩,?_⟩|refine .inl ⟨_,hfi,?_⟩|fail)
   rcases hfc with ⟨rfl,hfo⟩|⟨hne,hfo⟩
   rotate_left
   ·refine And.intro (fun _=>?_) (fun hx=>absurd hx (by simpa using hne))
    simp only [hfo] at hM9
    repeat'((conv=>whnf);first|apply qza|apply qzb|apply qzc|apply qzd|apply qze|intro(_:Nat)|refine⟨_,fun gp hle hin=>q7A gp (hin.cel (id:=6) rfl 10 rfl),?_⟩|refine And.intro ?_ ?_|fail)
    all_goals (conv=>whnf)
    all_goals (first|exact Eq.refl _|(
    intro g2 hg
    refine⟨_,_,by rw [hE9]<;>rfl,by rw [hW9];exact qDA _ _ _ _ hg hF,?_⟩
    rw [hM9]
    exact⟨_,_,_,rfl,{hok with pc:=show InR (20:Int) by decide,answer:=qKG (by decide)},hop,qCA _ _ _ _ (GW.trans hg3 hg) hcf⟩))
   refine And.intro (fun hx=>absurd hx (by simp)) (fun _=>?_)
   have hVP:=qHE hS.right hS.ver.2
   have hfr:=qeP hVP.good hfo
   obtain⟨ck,hck⟩:=qAA (l:=v.snap.clusters) (i:=fc.toNat) (by omega)
   obtain⟨gk,hgk⟩:=qAA (l:=v.groups) (i:=fc.toNat) (by have:=hVP.len;omega)
   have hmC:mC w {m with cluster:=fc}=ck:=by unfold mC;rw [show mV w {m with cluster:=fc}=v from hmV];show(v.snap.clusters[fc.toNat]?).getD _=_;rw [hck];rfl
   simp only [hfo,hmC] at hM9
   obtain⟨ck',hck',he2,_,he4,_,_⟩:=hVP.ends hgk
   cases hck.symm.trans hck'
   have hszk:ck.health.length≤17592186044416:=by omega
   obtain⟨akk,rfl⟩:=qJA hcK hck
   obtain⟨_,_,hrc,hckc⟩:=qkM hcK hck
   obtain⟨vh,rfl,hpo,_,hh⟩:=id hrc
   obtain⟨oh,ch,rfl,_⟩:=id hh
   have hfcr:InR fc:=by have:=hVP.len;have:=hVP.groups;unfold InR;omega
   have hdw:=qGX g3 hrc hszk hop.2.1 hop.2.2.1
   by_cases hn:qGA ck=[]
   ·have hd5:=hdw.to (v':=.tuple #[.int .i64 (qiC ck m.op.d0),.int .i64 (qiC ck m.op.d1),.int .i64 5]) (by simp [hErr,hn])
    rw [if_pos hn] at hM9
    repeat'((conv=>whnf);first|apply qza|apply qzb|apply qzc|apply qzd|apply qze|intro(_:Nat)|refine⟨_,fun gp hle hin=>qtF gp (hin.cel (id:=6) rfl 13 rfl) (hin.cel (id:=6) rfl 15 rfl) (hin.cel (id:=5) rfl 4 rfl) hvi (hcv.mono hle) hfr (hckc.mono hle),?_⟩|refine .inl ⟨_,hd5,?_⟩|fail)
    conv=>whnf
    refine⟨fun _=>?_,fun h=>nomatch h⟩
    repeat'((conv=>whnf);first|apply qza|apply qzb|apply qzc|apply qzd|apply qze|intro(_:Nat)|refine⟨_,fun gp hle hin=>q7A gp (hin.cel (id:=6) rfl 10 rfl),?_⟩|refine And.intro ?_ ?_|fail)
    all_goals (conv=>whnf)
    all_goals (first|exact Eq.refl _|(
    intro g2 hg
    refine⟨_,_,by rw [hE9]<;>rfl,by rw [hW9];exact qDA _ _ _ _ hg hF,?_⟩
    rw [hM9]
    exact⟨_,_,_,rfl,{hok with cluster:=hfcr,pc:=show InR (20:Int) by decide,answer:=qKG (by decide)},hop,qCA _ _ _ _ (GW.trans hg3 hg) hcf⟩))
   ·have hd0:=hdw.to (v':=.tuple #[.int .i64 (qiC ck m.op.d0),.int .i64 (qiC ck m.op.d1),.int .i64 0]) (by simp [hErr,hn])
    rw [if_neg hn] at hM9
    repeat'((conv=>whnf);first|apply qza|apply qzb|apply qzc|apply qzd|apply qze|intro(_:Nat)|refine⟨_,fun gp hle hin=>qtF gp (hin.cel (id:=6) rfl 13 rfl) (hin.cel (id:=6) rfl 15 rfl) (hin.cel (id:=5) rfl 4 rfl) hvi (hcv.mono hle) hfr (hckc.mono hle),?_⟩|refine .inl ⟨_,hd0,?_⟩|fail)
    conv=>whnf
    refine⟨fun h=>(nomatch h),fun _=>?_⟩
    repeat'((conv=>whnf);first|apply qza|apply qzb|apply qzc|apply qzd|apply qze|intro(_:Nat)|refine⟨_,fun gp hle hin=>qtF gp (hin.cel (id:=6) rfl 13 rfl) (hin.cel (id:=6) rfl 15 rfl) (hin.cel (id:=5) rfl 4 rfl) hvi (hcv.mono hle) hfr (hckc.mono hle),?_⟩|fail)
    refine And.intro (fun z=>?_) (fun z=>?_)
    ·rw [if_pos (beqT z)] at hM9
     repeat'((conv=>whnf);first|apply qza|apply qzb|apply qzc|apply qzd|apply qze|intro(_:Nat)|refine⟨_,fun gp hle hin=>q7A gp (hin.cel (id:=6) rfl 10 rfl),?_⟩|refine And.intro ?_ ?_|fail)
     all_goals (conv=>whnf)
     all_goals (first|exact Eq.refl _|(
     intro g2 hg
     refine⟨_,_,by rw [hE9]<;>rfl,by rw [hW9];exact qDA _ _ _ _ hg hF,?_⟩
     rw [hM9]
     exact⟨_,_,_,rfl,{hok with cluster:=hfcr,pc:=show InR (6:Int) by decide},hop,qCA _ _ _ _ (GW.trans hg3 hg) hcf⟩))
    ·rw [if_neg (beqF z)] at hM9
     repeat'((conv=>whnf);first|apply qza|apply qzb|apply qzc|apply qzd|apply qze|intro(_:Nat)|refine⟨_,fun gp hle hin=>q7A gp (hin.cel (id:=6) rfl 10 rfl),?_⟩|refine And.intro ?_ ?_|fail)
     all_goals (conv=>whnf)
     all_goals (first|exact Eq.refl _|(
     intro g2 hg
     refine⟨_,_,by rw [hE9]<;>rfl,by rw [hW9];exact qDA _ _ _ _ hg hF,?_⟩
     rw [hM9]
     exact⟨_,_,_,rfl,{hok with cluster:=hfcr,end_:=quS hszk,other:=quS hszk,pc:=show InR (7:Int) by decide},hop,qCA _ _ _ _ (GW.trans hg3 hg) hcf⟩)))
end Go.Proofs.YthonngjhelcpeaaGreat
