/- Swaps: the document's step. -/
import Derived.Test.YtkogfpniapaigaaGreatLL7
import Derived.Test.YtkogfpniapaigaaGreatLW9k
import Derived.Test.YtkogfpniapaigaaGreatLW9p
import Derived.Test.YtkogfpniapaigaaGreatPl
import Derived.Test.YtkogfpniapaigaaGreatLW9n
set_option linter.unusedVariables false
set_option linter.unusedSimpArgs false
namespace Go.Proofs.YtkogfpniapaigaaGreat
open Go.Proofs.YtkogfpniapaigaaGreat.Sx Go.RowKit
set_option maxHeartbeats 16000000
set_option maxRecDepth 100000
theorem qoN {c:Config} (h:qHA c=none) (hs:SmC c):SnS (qaA c):=by
 have hg:=(good_iff.1 h).size.2.1.2
 refine⟨by simp [qaA];omega,fun r hr=>?_⟩
 simp only [qaA,List.mem_map] at hr
 obtain⟨q,hq,rfl⟩:=hr
 exact hs q hq
theorem qKP (g:GW) {cs ms:List Value} {w:Wd} {m:Mach} (hw:rWo g cs w) (hM:qiD g ms m) (hsn:SnW w) (hb:BgW 1000000 w) (hsm:SmC m.op.config) (hgo:swGo w m) (z6:m.pc=0):Ok Tryz.prog qHF [.agg ⟨cs⟩,.agg ⟨ms⟩] g (SwP w m):=by
 have hs:=hgo.1
 obtain⟨oa,ca,ob,cb,oc,cc,od,cd,oe,ce,o1,t1,o2,t2,o3,t3,rfl,rfl,hw0,hM0,⟨i1,i2,i3⟩,hP,hV,hL,hC,hR,⟨a1,a2,a0,hP1⟩,⟨b1,b2,b0,hV1⟩,⟨c1,c2,c0,hL1⟩,⟨d1,d2,d0,hC1⟩,⟨e1,e2,e0,hR1⟩,hok,hop,hcf⟩:=q6T hw hM
 exact Ok.of_fn hm noT 0 q8E (args:=[.v (.agg ⟨wQ w oa ca ob cb oc cc od cd oe ce⟩),.v (.agg ⟨mQ m o1 t1 o2 t2 o3 t3⟩)]) (by
  repeat((conv=>whnf);first|apply qza|apply qzb|apply qzc|apply qzd|apply qze|intro(_:Nat))
  refine .inr ((qxK _ hw0 hb).mono fun v g3 hg3 hO=>?_)
  obtain⟨cs,T,rfl,hT⟩:=hO
  have hF:=qCO hT
  obtain⟨oa',ca',ob',cb',oc',cc',od',cd',oe',ce',rfl⟩:=qoA hF
  repeat((conv=>whnf);first|apply qza|apply qzb|apply qzc|apply qzd|apply qze|intro(_:Nat))
  refine .inr ((Ok.sub hg3 ((q5R g hcf hsm).mono fun v g' hg' hB=>(⟨hg',qsJ hcf hg' hB⟩:g≤g'∧_))).mono fun v g4 hg4 hB=>?_)
  obtain⟨gB,kB,dB,hgB,x,y,z,er,ei,rfl,hsS,hei,hcase⟩:=hB
  rcases hcase with ⟨rfl,rfl,hz,rfl,rfl⟩|⟨he0,hz,rfl,rfl,rfl⟩
  ·rw [show q6I m.op.config=qaA m.op.config by unfold q6I;rw [hz]] at hsS
   obtain⟨hWd,hMm,hE⟩:=qaR hgo z6 hz
   obtain⟨_,_,_,he2,⟨sa,ta,hsa,_⟩,⟨sb,tb,rfl,_⟩,⟨sd,td,hsd,_⟩⟩:=id hsS
   cases he2
   cases hsa
   cases hsd
   repeat((conv=>whnf);first|apply qza|apply qzb|apply qzc|apply qzd|apply qze|intro(_:Nat))
   conv=>whnf
   refine⟨fun h=>(nomatch h),fun _=>?_⟩
   repeat((conv=>whnf);first|apply qza|apply qzb|apply qzc|apply qzd|apply qze|intro(_:Nat))
   refine .inr ((Ok.sub kB (q4R gB hsS (qoN hz hsm))).mono fun v g5 hg5 hC=>?_)
   obtain⟨gC,kC,dC,hC⟩:=hC
   rcases hC with ⟨hz2,va,vb,vd,oV,nV,cV,rfl,hVe⟩|⟨hz2,rfl⟩
   rotate_left
   ·exact absurd (q0E hz) hz2
   obtain⟨_,_,_,_,he3,⟨_,_,_,he4,⟨wa,xa,rfl,_⟩,⟨wb,xb,rfl,_⟩,⟨wd,xd,rfl,_⟩⟩,⟨_,_,he5,_⟩⟩:=id hVe
   simp only [List.cons.injEq,and_true] at he3
   obtain⟨rfl,rfl,rfl,rfl,_⟩:=he3
   cases he4
   cases he5
   have hT5:=quT (GW.trans hg4 hg5) hT
   have hne:w.versions≠[]:=fun h=>by
    obtain⟨v0,gr0,en0,hS⟩:=suitB_iff.1 hs
    have:=hS.ver.2
    rw [h] at this;simp at this
   have hb2:=hb.1.2.1
   obtain⟨bk,cap,ecs,rest,he9,hF9,hk9⟩:=qVK hT5 hne
   have hbk0:bk<g3.w.heap.size:=by
    obtain⟨bk3,cap3,_,_,he3,hF3,_⟩:=qVK hT hne
    rw [he3] at he9
    simp only [Value.slice.injEq,Option.some.injEq,Addr.mk.injEq] at he9
    have:=g3.wf _ hF3.2.1
    omega
   simp only [Value.slice.injEq,true_and] at he9
   obtain⟨rfl,rfl⟩:=he9
   repeat((conv=>whnf);first|apply qza|apply qzb|apply qzc|apply qzd|apply qze|intro(_:Nat))
   conv=>whnf
   refine .inr ⟨bk,ecs.flatten,rest,⟨rfl,hF9.1,hF9.2.1,hF9.2.2.1,hF9.2.2.2.1,hF9.2.2.2.2.1,hF9.2.2.2.2.2.1,hF9.2.2.2.2.2.2.1,hF9.2.2.2.2.2.2.2,by unfold maxLen;omega,by omega⟩,fun gL hless oa3 cap3=>?_⟩
   repeat((conv=>whnf);first|apply qza|apply qzb|apply qzc|apply qzd|apply qze|intro(_:Nat))
   conv=>whnf
   refine .inl ⟨_,qJG _ (qTI w m) 6 3 w.versions.length,?_⟩
   repeat((conv=>whnf);first|apply qza|apply qzb|apply qzc|apply qzd|apply qze|intro(_:Nat))
   conv=>whnf
   refine fun gA kA nA pA=>?_
   repeat((conv=>whnf);first|apply qza|apply qzb|apply qzc|apply qzd|apply qze|intro(_:Nat))
   conv=>whnf
   intro g2 hg
   have hnC:¬ gC.g bk:=fun h=>by
    have h9:=hF9.1
    rcases dC _ h with h|h
    ·rcases dB _ h with h|h
     ·have:=g.wf _ h;omega
     ·omega
    ·have:=hg4.1;omega
   have hgL:=hless.le (GW.trans hg3 (GW.trans hg4 hg5)) (fun h=>by have:=g.wf _ h;omega)
   have hCL:=hless.le kC hnC
   refine⟨_,_,by rw [hE]<;>rfl,by rw [hWd];exact qTA _ _ _ _ hg (qmR (x:=qGA (qaA m.op.config)) ⟨i1,i2,i3⟩ hb2 (hk9 gL hless) kA pA rfl (q9B _ _ _ _ (GW.trans hCL kA) hVe)),?_⟩
   rw [hMm]
   exact⟨_,_,_,rfl,{hok with version:=i2,cluster:=z0,end_:=z0,other:=z0,slot:=z0,i:=show InR (w.versions.length:Int) by unfold InR;omega,pc:=show InR (1:Int) by decide},hop,qMA _ _ _ _ (GW.trans hgL (GW.trans kA hg)) hcf⟩
  ·obtain⟨e2,i2',hz2⟩:∃ e2 i2',qHA m.op.config=some (e2,i2'):=by
    cases hh:qHA m.op.config with
    | none=>exact absurd hh hz
    | some p=>exact⟨p.1,p.2,rfl⟩
   have hee:er=e2:=by
    rw [hz2] at hei
    change Value.tuple #[.int .i64 e2,.int .i64 i2']=_ at hei
    injection hei with h
    have:=congrArg (fun a:Array Value=>a[0]?) h
    simpa using this.symm
   subst hee
   obtain⟨hWd,hMm,hE⟩:=q5O hgo z6 hz2
   repeat((conv=>whnf);first|apply qza|apply qzb|apply qzc|apply qzd|apply qze|intro(_:Nat))
   conv=>whnf
   refine⟨fun _=>?_,fun hx=>absurd (bneF hx) he0⟩
   repeat((conv=>whnf);first|apply qza|apply qzb|apply qzc|apply qzd|apply qze|intro(_:Nat))
   conv=>whnf
   refine .inl ⟨_,qJG _ m 1 3 w.current,?_⟩
   repeat((conv=>whnf);first|apply qza|apply qzb|apply qzc|apply qzd|apply qze|intro(_:Nat))
   conv=>whnf
   refine .inl ⟨_,quM _ m ⟨m.thread,0,1,3,-1,false,w.current,false,true,false,ans0⟩ (ansN 9 er),?_⟩
   repeat((conv=>whnf);first|apply qza|apply qzb|apply qzc|apply qzd|apply qze|intro(_:Nat))
   conv=>whnf
   intro g2 hg
   have hne9:=q8A hz2
   refine⟨_,_,by rw [hE]<;>rfl,by rw [hWd];exact qTA _ _ _ _ (GW.trans hg4 hg) hF,?_⟩
   rw [hMm]
   exact⟨_,_,_,rfl,{hok with answer:=qoS ⟨by decide,by unfold InR;omega⟩},hop,qMA _ _ _ _ (GW.trans hg3 (GW.trans hg4 hg)) hcf⟩)
theorem qxR (g:GW) {cs ms:List Value} {w:Wd} {m:Mach} (hw:rWo g cs w) (hM:qiD g ms m) (hsn:SnW w) (hb:BgW 1000000 w) (hsm:SmC m.op.config):Ok Tryz.prog qlH [.agg ⟨cs⟩,.agg ⟨ms⟩] g (SwP w m):=by
 obtain⟨oa,ca,ob,cb,oc,cc,od,cd,oe,ce,o1,t1,o2,t2,o3,t3,rfl,rfl,hw0,hM0,⟨i1,i2,i3⟩,hP,hV,hL,hC,hR,⟨a1,a2,a0,hP1⟩,⟨b1,b2,b0,hV1⟩,⟨c1,c2,c0,hL1⟩,⟨d1,d2,d0,hC1⟩,⟨e1,e2,e0,hR1⟩,hok,hop,hcf⟩:=q6T hw hM
 have hno:¬ swGo w m→∀ g2,g≤g2→SwP w m (.tuple #[.agg ⟨wQ w oa ca ob cb oc cc od cd oe ce⟩,.agg ⟨mQ m o1 t1 o2 t2 o3 t3⟩,.agg ⟨ev0.cs⟩]) g2:=fun h g2 hg=>by
  obtain⟨hWd,hMm,hE⟩:=qJV (w:=w) (m:=m) h
  exact⟨_,_,by rw [hE],by rw [hWd];exact qTA _ _ _ _ hg hw0,by rw [hMm];exact qpC _ _ _ _ hg hM0⟩
 exact Ok.of_fn hm noT 0 qNH (args:=[.v (.agg ⟨wQ w oa ca ob cb oc cc od cd oe ce⟩),.v (.agg ⟨mQ m o1 t1 o2 t2 o3 t3⟩)]) (by
  repeat((conv=>whnf);first|apply qza|apply qzb|apply qzc|apply qzd|apply qze|intro(_:Nat)|intro(_:OA)_)
  conv=>whnf
  refine .inl ⟨_,q0R _ hw0 hM0 hsn hb,?_⟩
  repeat((conv=>whnf);first|apply qza|apply qzb|apply qzc|apply qzd|apply qze|intro(_:Nat)|intro(_:OA)_)
  conv=>whnf
  refine⟨fun z3=>?_,fun z3=>?_⟩
  ·have z3:=nb1 z3
   repeat((conv=>whnf);first|apply qza|apply qzb|apply qzc|apply qzd|apply qze|intro(_:Nat)|intro(_:OA)_)
   conv=>whnf
   intro g2 hg
   exact hno (fun h=>by rw [h.1] at z3;cases z3) _ hg
  have hs:=nb0 z3
  repeat((conv=>whnf);first|apply qza|apply qzb|apply qzc|apply qzd|apply qze|intro(_:Nat)|intro(_:OA)_)
  conv=>whnf
  refine⟨fun z1=>?_,fun z1=>?_⟩
  ·have z1:m.pc<0:=of_decide_eq_true z1
   repeat((conv=>whnf);first|apply qza|apply qzb|apply qzc|apply qzd|apply qze|intro(_:Nat)|intro(_:OA)_)
   conv=>whnf
   intro g2 hg
   exact hno (fun h=>by have:=h.2.1;omega) _ hg
  have z1:¬ m.pc<0:=of_decide_eq_false z1
  repeat((conv=>whnf);first|apply qza|apply qzb|apply qzc|apply qzd|apply qze|intro(_:Nat)|intro(_:OA)_)
  conv=>whnf
  refine⟨fun z2=>?_,fun z2=>?_⟩
  ·have z2:2<m.pc:=of_decide_eq_true z2
   repeat((conv=>whnf);first|apply qza|apply qzb|apply qzc|apply qzd|apply qze|intro(_:Nat)|intro(_:OA)_)
   conv=>whnf
   intro g2 hg
   exact hno (fun h=>by have:=h.2.1;omega) _ hg
  have z2:¬ 2<m.pc:=of_decide_eq_false z2
  repeat((conv=>whnf);first|apply qza|apply qzb|apply qzc|apply qzd|apply qze|intro(_:Nat)|intro(_:OA)_)
  refine⟨fun z4=>?_,fun z4=>?_⟩
  ·have z4:m.pc=2:=of_decide_eq_true z4
   repeat((conv=>whnf);first|apply qza|apply qzb|apply qzc|apply qzd|apply qze|intro(_:Nat)|intro(_:OA)_)
   conv=>whnf
   refine .inl ⟨_,qGT _ hw0 hM0,?_⟩
   repeat((conv=>whnf);first|apply qza|apply qzb|apply qzc|apply qzd|apply qze|intro(_:Nat)|intro(_:OA)_)
   conv=>whnf
   refine⟨fun z5=>?_,fun z5=>?_⟩
   ·have z5:qsG w m=true:=z5
    repeat((conv=>whnf);first|apply qza|apply qzb|apply qzc|apply qzd|apply qze|intro(_:Nat)|intro(_:OA)_)
    conv=>whnf
    intro g2 hg
    exact hno (fun h=>by have:=h.2.2 z4;rw [z5] at this;cases this) _ hg
   have z5:qsG w m=false:=z5
   have hgo:swGo w m:=⟨hs,.inr (.inr z4),fun _=>z5⟩
   obtain⟨hWd,hMm,hE⟩:=sw2 hgo z4
   repeat((conv=>whnf);first|apply qza|apply qzb|apply qzc|apply qzd|apply qze|intro(_:Nat)|intro(_:OA)_)
   conv=>whnf
   refine dF (by omega) ?_
   repeat((conv=>whnf);first|apply qza|apply qzb|apply qzc|apply qzd|apply qze|intro(_:Nat)|intro(_:OA)_)
   refine .inr ((qxK _ hw0 hb).mono fun v g3 hg3 hO=>?_)
   obtain⟨cs,T,rfl,hT⟩:=hO
   have hF:=qCO hT
   obtain⟨oa',ca',ob',cb',oc',cc',od',cd',oe',ce',rfl⟩:=qoA hF
   repeat((conv=>whnf);first|apply qza|apply qzb|apply qzc|apply qzd|apply qze|intro(_:Nat)|intro(_:OA)_)
   conv=>whnf
   refine dF (by omega) ?_
   repeat((conv=>whnf);first|apply qza|apply qzb|apply qzc|apply qzd|apply qze|intro(_:Nat)|intro(_:OA)_)
   have hb5:=hb.1.2.2.2.2
   rcases qGQ hT with ⟨hl0,oa9,he9⟩|⟨bk,cap,ecs,rest,he9,hF9,hk9⟩
   ·simp only [Value.slice.injEq] at he9
    obtain⟨rfl,hl9,rfl⟩:=he9
    have hkz:rEls 3 qUA g3 [] w.limbo∧rSl 1 rInt g3 (.slice oa' w.pins.length ca') w.pins∧rSl 5 rVe g3 (.slice ob' w.versions.length cb') w.versions∧rSl 4 qpA g3 (.slice oc' w.listens.length cc') w.listens∧rSl 1 rRow g3 (.slice od' w.counts.length cd') w.counts :=
     ⟨by rw [hl0];exact qiE _,qMV hF,qLU hF,qNV hF,qOV hF⟩
    have hfin:∀ {v:Value} (gA g2:GW),g3≤gA→PbSl gA g.w.heap.size q9A 3 v 1 [.int .i64 m.version,.int .i64 m.epoch,.bool false]→gA≤g2→SwP w m (.tuple #[.agg ⟨[.int .i64 w.epoch,.int .i64 w.current,.int .i64 w.lock,.slice oa' w.pins.length ca',.slice ob' w.versions.length cb',.slice oc' w.listens.length cc',.slice od' w.counts.length cd',v]⟩,.agg ⟨Mach.cs (.slice o1 m.op.config.listens.length t1) (.slice o2 m.op.config.routes.length t2) (.slice o3 m.op.config.clusters.length t3) {m with done:=true,answer:=ansV 8 m.i}⟩,.agg ⟨Ev.cs ⟨m.thread,0,2,11,-1,false,m.version,false,false,true,ansV 8 m.i⟩⟩]) g2:=fun {v} gA g2 kA pA hg=>by
     refine⟨_,_,by rw [hE],by rw [hWd];exact qTA _ _ _ _ hg (qYI (x:=⟨m.version,m.epoch,false⟩) ⟨i1,i2,i3⟩ hkz kA (by rw [hl9];exact pA) ⟨hok.version,hok.epoch⟩),?_⟩
     rw [hMm]
     exact⟨_,_,_,rfl,{hok with answer:=qYN ⟨by decide,hok.i⟩},hop,qMA _ _ _ _ (GW.trans hg3 (GW.trans kA hg)) hcf⟩
    rw [hl9]
    cases oe' with
    | none =>
     repeat((conv=>whnf);first|apply qza|apply qzb|apply qzc|apply qzd|apply qze|intro(_:Nat)|intro(_:OA)_)
     conv=>whnf
     refine⟨⟨by unfold maxLen;omega,by omega⟩,fun oa3 cap3=>?_⟩
     repeat'((conv=>whnf);first|apply qza|apply qzb|apply qzc|apply qzd|apply qze|intro(_:Nat)|intro(_:OA)_|refine .inl ⟨_,qJG _ m 2 11 m.version,?_⟩|refine .inl ⟨_,quM _ m ⟨m.thread,0,2,11,-1,false,m.version,false,false,false,ans0⟩ (ansV 8 m.i),?_⟩|refine And.intro ?_ ?_|fail)
     all_goals (conv=>whnf)
     all_goals (first|exact Eq.refl _|(
      intro gA kA nA pA
      repeat' ((conv=>whnf);first|apply qza|apply qzb|apply qzc|apply qzd|apply qze)
      (conv=>whnf)
      intro g2 hg
      exact hfin gA _ kA pA hg))
    | some ae =>
     repeat((conv=>whnf);first|apply qza|apply qzb|apply qzc|apply qzd|apply qze|intro(_:Nat)|intro(_:OA)_)
     conv=>whnf
     refine .inl ⟨[],⟨⟨rfl,some ae,0,rfl,Nat.le_refl _,Nat.zero_le _,(fun h=>nomatch h),fun i u hu=>by simp at hu⟩,fun u hu=>by cases hu⟩,fun h=>absurd h (by decide),fun _=>⟨⟨by decide,by unfold maxLen;omega,by omega⟩,fun oa3 cap3=>?_⟩⟩
     repeat'((conv=>whnf);first|apply qza|apply qzb|apply qzc|apply qzd|apply qze|intro(_:Nat)|intro(_:OA)_|refine .inl ⟨_,qJG _ m 2 11 m.version,?_⟩|refine .inl ⟨_,quM _ m ⟨m.thread,0,2,11,-1,false,m.version,false,false,false,ans0⟩ (ansV 8 m.i),?_⟩|refine And.intro ?_ ?_|fail)
     all_goals (conv=>whnf)
     all_goals (first|exact Eq.refl _|(
      intro gA kA nA pA
      repeat' ((conv=>whnf);first|apply qza|apply qzb|apply qzc|apply qzd|apply qze)
      (conv=>whnf)
      intro g2 hg
      exact hfin gA _ kA pA hg))
   ·simp only [Value.slice.injEq,true_and] at he9
    obtain⟨rfl,rfl⟩:=he9
    repeat((conv=>whnf);first|apply qza|apply qzb|apply qzc|apply qzd|apply qze|intro(_:Nat)|intro(_:OA)_)
    conv=>whnf
    refine .inr ⟨bk,ecs.flatten,rest,⟨rfl,hF9.1,hF9.2.1,hF9.2.2.1,hF9.2.2.2.1,hF9.2.2.2.2.1,hF9.2.2.2.2.2.1,hF9.2.2.2.2.2.2.1,hF9.2.2.2.2.2.2.2,by unfold maxLen;omega,by omega⟩,fun gL hless oa3 cap3=>?_⟩
    repeat'((conv=>whnf);first|apply qza|apply qzb|apply qzc|apply qzd|apply qze|intro(_:Nat)|intro(_:OA)_|refine .inl ⟨_,qJG _ m 2 11 m.version,?_⟩|refine .inl ⟨_,quM _ m ⟨m.thread,0,2,11,-1,false,m.version,false,false,false,ans0⟩ (ansV 8 m.i),?_⟩|refine And.intro ?_ ?_|fail)
    all_goals (conv=>whnf)
    all_goals (first|exact Eq.refl _|(
     intro gA kA nA pA
     repeat' ((conv=>whnf);first|apply qza|apply qzb|apply qzc|apply qzd|apply qze)
     (conv=>whnf)
     intro g2 hg
     have hgL:=hless.le hg3 (fun h=>by have:=g.wf _ h;omega)
     refine⟨_,_,by rw [hE]<;>rfl,by rw [hWd];exact qTA _ _ _ _ hg (qYI (x:=⟨m.version,m.epoch,false⟩) ⟨i1,i2,i3⟩ (hk9 gL hless) kA pA ⟨hok.version,hok.epoch⟩),?_⟩
     rw [hMm]
     exact⟨_,_,_,rfl,{hok with answer:=qYN ⟨by decide,hok.i⟩},hop,qMA _ _ _ _ (GW.trans hgL (GW.trans kA hg)) hcf⟩))
  have z4:¬ m.pc=2:=of_decide_eq_false z4
  have hgo:swGo w m:=⟨hs,by omega,fun h=>absurd h z4⟩
  repeat((conv=>whnf);first|apply qza|apply qzb|apply qzc|apply qzd|apply qze|intro(_:Nat)|intro(_:OA)_)
  conv=>whnf
  refine⟨fun z6=>?_,fun z6=>?_⟩
  ·have z6:m.pc=0:=of_decide_eq_true z6
   repeat((conv=>whnf);first|apply qza|apply qzb|apply qzc|apply qzd|apply qze|intro(_:Nat)|intro(_:OA)_)
   refine .inr ((qKP _ hw0 hM0 hsn hb hsm hgo z6).mono fun v g3 hg3 hO=>?_)
   obtain⟨csa,msa,rfl,hwa,hMa⟩:=hO
   obtain⟨_,_,_,_,_,_,_,_,_,_,rfl⟩:=qoA hwa
   obtain⟨_,_,_,_,_,_,rfl⟩:=qrA hMa
   repeat((conv=>whnf);first|apply qza|apply qzb|apply qzc|apply qzd|apply qze|intro(_:Nat)|intro(_:OA)_)
   conv=>whnf
   intro g2 hg
   exact⟨_,_,rfl,qTA _ _ _ _ hg hwa,qpC _ _ _ _ hg hMa⟩
  have z6:¬ m.pc=0:=of_decide_eq_false z6
  have h1:m.pc=1:=by omega
  obtain⟨hWd,hMm,hE⟩:=sw1 hgo h1
  repeat((conv=>whnf);first|apply qza|apply qzb|apply qzc|apply qzd|apply qze|intro(_:Nat)|intro(_:OA)_)
  refine .inr ((qxK _ hw0 hb).mono fun v g3 hg3 hO=>?_)
  obtain⟨cs,T,rfl,hT⟩:=hO
  have hF:=qCO hT
  obtain⟨oa',ca',ob',cb',oc',cc',od',cd',oe',ce',rfl⟩:=qoA hF
  repeat((conv=>whnf);first|apply qza|apply qzb|apply qzc|apply qzd|apply qze|intro(_:Nat)|intro(_:OA)_)
  conv=>whnf
  refine dT (by omega) ?_
  repeat'((conv=>whnf);first|apply qza|apply qzb|apply qzc|apply qzd|apply qze|intro(_:Nat)|intro(_:OA)_|refine .inl ⟨_,qJG _ {m with epoch:=w.epoch,pc:=2} 1 1 w.epoch,?_⟩|refine And.intro ?_ ?_|fail)
  all_goals (conv=>whnf)
  all_goals (first|exact Eq.refl _|(
   intro g2 hg
   refine⟨_,_,by rw [hE]<;>rfl,by rw [hWd];exact qTA _ _ _ _ hg hF,?_⟩
   rw [hMm]
   exact⟨_,_,_,rfl,{hok with pc:=show InR (2:Int) by decide,epoch:=i1},hop,qMA _ _ _ _ (GW.trans hg3 hg) hcf⟩)))
/- Pins: the steps' table. -/
open Go.Proofs.YtkogfpniapaigaaGreat.Sx Go.RowKit
/- Pins: a step,another place. -/
open Go.Proofs.YtkogfpniapaigaaGreat.Sx Go.RowKit
/- Pins: a step,place 0. -/
open Go.Proofs.YtkogfpniapaigaaGreat.Sx Go.RowKit
/- Pins: a step,place 1. -/
open Go.Proofs.YtkogfpniapaigaaGreat.Sx Go.RowKit
/- Pins: a step,place 2. -/
open Go.Proofs.YtkogfpniapaigaaGreat.Sx Go.RowKit
/- Pins: a step,at any place. -/
open Go.Proofs.YtkogfpniapaigaaGreat.Sx Go.RowKit
/- Worlds: a new one. -/
open Go.Proofs.YtkogfpniapaigaaGreat.Sx Go.RowKit
abbrev zWs:List Value:=[.int .i64 0,.int .i64 0,.int .i64 0,.slice none 0 0,.slice none 0 0,.slice none 0 0,.slice none 0 0,.slice none 0 0]
def NewP (s:Snap) (l:List BA) (t:Int) (v:Value) (g':GW):Prop :=
 (qrO s l t∧∃ cs,v=.tuple #[.agg ⟨cs⟩,.int .i64 0]∧rWo g' cs (newW s l t.toNat))∨(¬ qrO s l t∧v=.tuple #[.agg ⟨zWs⟩,.int .i64 1])
theorem qZV (g:GW) {cs:List Value} {s:Snap} {v:Value} {l:List BA} {t:Int} (hs:qnF g cs s) (hl:rSl 1 rStr g v l) (hsz:s.rules.length≤1000000) (hll:l.length≤1000000):Ok Tryz.prog qXP [.agg ⟨cs⟩,v,.int .i64 t] g (NewP s l t):=by
 have hs0:=hs
 obtain⟨a,b,d,rfl,⟨oa,ca,rfl,_⟩,⟨ob,cb,rfl,_⟩,⟨od,cd,rfl,_⟩⟩:=hs
 obtain⟨ol,cl,rfl,l1,l2,l0,hl1⟩:=id hl
 exact Ok.of_fn hm noT 0 qxO (args:=[.v (.agg ⟨[.slice oa s.listens.length ca,.slice ob s.rules.length cb,.slice od s.clusters.length cd]⟩),.v (.slice ol l.length cl),.v (.int .i64 t)]) (by
  repeat((conv=>whnf);first|apply qza|apply qzb|apply qzc|apply qzd|apply qze|intro(_:Nat)|intro(_:OA)_)
  rename_i q0 q1
  refine .inr ((qFQ _ hs0 hsz).mono fun v g1 hg1 hC=>?_)
  rcases hC with ⟨hz,ka,kb,kd,oV,nV,cV,rfl,hV⟩|⟨hz,rfl⟩
  rotate_left
  ·repeat((conv=>whnf);first|apply qza|apply qzb|apply qzc|apply qzd|apply qze|intro(_:Nat)|intro(_:OA)_)
   conv=>whnf
   refine⟨fun _=>?_,fun h=>nomatch h⟩
   repeat((conv=>whnf);first|apply qza|apply qzb|apply qzc|apply qzd|apply qze|intro(_:Nat)|intro(_:OA)_)
   conv=>whnf
   intro g2 hg
   exact .inr ⟨fun h=>hz h.1,rfl⟩
  have hV0:=hV
  obtain⟨_,_,_,_,he,⟨_,_,_,he2,⟨sa,ta,rfl,_⟩,⟨sb,tb,rfl,_⟩,⟨sd,td,rfl,_⟩⟩,hG⟩:=hV
  simp only [List.cons.injEq,and_true] at he
  obtain⟨rfl,rfl,rfl,rfl,_⟩:=he
  cases he2
  repeat((conv=>whnf);first|apply qza|apply qzb|apply qzc|apply qzd|apply qze|intro(_:Nat)|intro(_:OA)_)
  rename_i q2
  conv=>whnf
  refine⟨fun h=>(nomatch h),fun _=>?_⟩
  repeat((conv=>whnf);first|apply qza|apply qzb|apply qzc|apply qzd|apply qze|intro(_:Nat)|intro(_:OA)_)
  refine .inr ((qTP _).mono fun v g2 hg2 hS=>?_)
  rcases hS with ⟨ht,oS,cS,rfl,hSh⟩|⟨ht,rfl⟩
  rotate_left
  ·repeat((conv=>whnf);first|apply qza|apply qzb|apply qzc|apply qzd|apply qze|intro(_:Nat)|intro(_:OA)_)
   conv=>whnf
   refine⟨fun _=>?_,fun h=>nomatch h⟩
   repeat((conv=>whnf);first|apply qza|apply qzb|apply qzc|apply qzd|apply qze|intro(_:Nat)|intro(_:OA)_)
   conv=>whnf
   intro g2 hg
   exact .inr ⟨fun h=>ht h.2.1,rfl⟩
  obtain⟨N,rfl⟩:=Int.eq_ofNat_of_zero_le (show 0≤t by omega)
  have hg02:=GW.trans hg1 hg2
  repeat((conv=>whnf);first|apply qza|apply qzb|apply qzc|apply qzd|apply qze|intro(_:Nat)|intro(_:OA)_)
  conv=>whnf
  refine⟨fun h=>(nomatch h),fun _=>?_⟩
  repeat((conv=>whnf);first|apply qza|apply qzb|apply qzc|apply qzd|apply qze|intro(_:Nat)|intro(_:OA)_)
  refine⟨?_,?_⟩
  ·repeat((conv=>whnf);first|apply qza|apply qzb|apply qzc|apply qzd|apply qze|intro(_:Nat)|intro(_:OA)_)
   conv=>whnf
   refine⟨⟨by omega,by omega,by omega,by omega⟩,fun _=>?_⟩
   repeat((conv=>whnf);first|apply qza|apply qzb|apply qzc|apply qzd|apply qze|intro(_:Nat)|intro(_:OA)_)
   rename_i qV qP qw
   conv=>whnf
   refine⟨Nat×Option Addr×Nat×Nat×GW,fun (k,_,_,_,_)=>[.v (.int .i64 k)],fun (k,oX,nX,cX,g')=>⟨g',[.blk 5 qw qEA [.v (.int .i64 0),.v (.int .i64 0),.v (.int .i64 0),.row 4 (some ⟨qP,0,none⟩) N N,.sl 3 qV 0 1 1,.v (.slice oX nX cX),.v (.slice oS N cS),.v (.slice none 0 0)],.row 4 (some ⟨qP,0,none⟩) N N qNA 1 (List.replicate N [Value.int .i64 0]).flatten,.blk 3 qV qCA [.v (.slice sa (qGA s).snap.listens.length ta),.v (.slice sb (qGA s).snap.rules.length tb),.v (.slice sd (qGA s).snap.clusters.length td),.v (.slice oV nV cV),.v (.bool false)],.blk 2 q2 qCA [.v (.slice sa (qGA s).snap.listens.length ta),.v (.slice sb (qGA s).snap.rules.length tb),.v (.slice sd (qGA s).snap.clusters.length td),.v (.slice oV nV cV),.v (.bool false)],.blk 1 q1 qEA [.v (.int .i64 0),.v (.int .i64 0),.v (.int .i64 0),.v (.slice none 0 0),.v (.slice none 0 0),.v (.slice none 0 0),.v (.slice none 0 0),.v (.slice none 0 0)],.blk 0 q0 qPA [.v (.slice oa s.listens.length ca),.v (.slice ob s.rules.length cb),.v (.slice od s.clusters.length cd)]],20,g.w.heap.size⟩,fun (k,oX,nX,cX,g')=>k≤l.length∧g2≤g'∧nX=k∧PbSl g' g.w.heap.size qbA 4 (.slice oX nX cX) nX ((lisL (l.take k)).map cLi).flatten∧(∀ a,oX=some a→¬ g2.g a.block)∧AllK (namF l) l k,fun (k,_,_,_,_)=>l.length-k,fun fr w hw=>⟨(0,none,0,0,g2),rfl,⟨Nat.zero_le _,GW.refl _,rfl,⟨rfl,.inl ⟨rfl,rfl⟩,fun u hu=>by cases hu⟩,(fun a h=>by cases h),AllK.zero _ _⟩,hw.fit (by simp [fitL,Res.eqv,qAA,conc])⟩,?_⟩
   rintro⟨k,oX,nX,cX,g'⟩ ⟨hk,hgg,hn,hpb,hnb,hAK⟩
   have hll2:(lisL (l.take k)).length=k:=by simp [lisL];omega
   have hlis:rSl 4 qpA g' (.slice oX nX cX) (lisL (l.take k)):=qNJ hpb.rd (lisL (l.take k)) cLi rfl (by omega) (fun _ _=>rfl) fun x hx=>by
    obtain⟨y,_,rfl⟩:=List.mem_map.1 hx
    exact⟨rfl,show InR 0 by decide⟩
   repeat((conv=>whnf);first|apply qza|apply qzb|apply qzc|apply qzd|apply qze|intro(_:Nat)|intro(_:OA)_)
   conv=>whnf
   refine⟨fun hlt=>?_,fun hlt=>?_⟩
   ·have h':k<l.length:=by have:=of_decide_eq_true hlt;omega
    obtain⟨x,hx⟩:=qBA h'
    obtain⟨a,rfl,ec,hec,rfl,hc⟩:=hl1 k x hx
    have hbad:namF l k x=false→¬ qrO s l N:=fun hf h=>by have h3:=h.2.2;rw [qVA hx hf] at h3;cases h3
    repeat((conv=>whnf);first|apply qza|apply qzb|apply qzc|apply qzd|apply qze|intro(_:Nat)|intro(_:OA)_)
    conv=>whnf
    refine⟨a,rfl,⟨by omega,by omega⟩,?_⟩
    conv=>whnf
    refine⟨_,(hc.mono (GW.trans hg02 hgg)) 0 _ rfl,?_⟩
    repeat((conv=>whnf);first|apply qza|apply qzb|apply qzc|apply qzd|apply qze|intro(_:Nat)|intro(_:OA)_)
    conv=>whnf
    refine .inl ⟨_,qgH _ _,?_⟩
    repeat((conv=>whnf);first|apply qza|apply qzb|apply qzc|apply qzd|apply qze|intro(_:Nat)|intro(_:OA)_)
    conv=>whnf
    refine⟨fun y1=>?_,fun y1=>?_⟩
    ·repeat((conv=>whnf);first|apply qza|apply qzb|apply qzc|apply qzd|apply qze|intro(_:Nat)|intro(_:OA)_)
     conv=>whnf
     intro g2 hg
     exact .inr ⟨hbad (by unfold namF;rw [nb1 y1];rfl),rfl⟩
    repeat((conv=>whnf);first|apply qza|apply qzb|apply qzc|apply qzd|apply qze|intro(_:Nat)|intro(_:OA)_)
    conv=>whnf
    refine .inl ⟨_,qyK _ hlis _,?_⟩
    repeat((conv=>whnf);first|apply qza|apply qzb|apply qzc|apply qzd|apply qze|intro(_:Nat)|intro(_:OA)_)
    conv=>whnf
    refine⟨fun y2=>?_,fun y2=>?_⟩
    ·repeat((conv=>whnf);first|apply qza|apply qzb|apply qzc|apply qzd|apply qze|intro(_:Nat)|intro(_:OA)_)
     conv=>whnf
     intro g2 hg
     exact .inr ⟨hbad (by unfold namF;rw [decide_eq_false (by have:=of_decide_eq_true y2;omega)];simp),rfl⟩
    have hnF:namF l k x=true:=by unfold namF;rw [nb0 y1,decide_eq_true (by have:=of_decide_eq_false y2;omega)];rfl
    have hT:=qRO hx
    rcases hpb.2.1 with ⟨he,hn0⟩|⟨bk,cap',rest,he,hb1,hb2,hb3,hb4,hb5⟩
    ·cases he
     have hk0:k=0:=by omega
     subst hk0
     repeat((conv=>whnf);first|apply qza|apply qzb|apply qzc|apply qzd|apply qze|intro(_:Nat)|intro(_:OA)_)
     conv=>whnf
     refine⟨⟨by unfold maxLen;omega,by omega⟩,fun oa3 cap3=>?_⟩
     repeat((conv=>whnf);first|apply qza|apply qzb|apply qzc|apply qzd|apply qze|intro(_:Nat)|intro(_:OA)_)
     conv=>whnf
     refine fun fr w hw=>by
      have hw1:HSim fr ⟨g',.row 70 oa3 (1) cap3 qbA 4 (cLi ⟨x,false,0,false⟩) :: [.blk 5 qw qEA [.v (.int .i64 0),.v (.int .i64 0),.v (.int .i64 0),.row 4 (some ⟨qP,0,none⟩) N N,.sl 3 qV 0 1 1,.v (.slice oa3 (1) cap3),.v (.slice oS N cS),.v (.slice none 0 0)],.row 4 (some ⟨qP,0,none⟩) N N qNA 1 (List.replicate N [Value.int .i64 0]).flatten,.blk 3 qV qCA [.v (.slice sa (qGA s).snap.listens.length ta),.v (.slice sb (qGA s).snap.rules.length tb),.v (.slice sd (qGA s).snap.clusters.length td),.v (.slice oV nV cV),.v (.bool false)],.blk 2 q2 qCA [.v (.slice sa (qGA s).snap.listens.length ta),.v (.slice sb (qGA s).snap.rules.length tb),.v (.slice sd (qGA s).snap.clusters.length td),.v (.slice oV nV cV),.v (.bool false)],.blk 1 q1 qEA [.v (.int .i64 0),.v (.int .i64 0),.v (.int .i64 0),.v (.slice none 0 0),.v (.slice none 0 0),.v (.slice none 0 0),.v (.slice none 0 0),.v (.slice none 0 0)],.blk 0 q0 qPA [.v (.slice oa s.listens.length ca),.v (.slice ob s.rules.length cb),.v (.slice od s.clusters.length cd)]],80,g.w.heap.size⟩ w:=hw.fit (by simp [fitL,Res.eqv,qAA,conc])
      obtain⟨g4,k1',k2,k3,k4⟩:=hw1.row_pub
      refine⟨(0+1,oa3,1,cap3,g4),congrArg (fun z=>[Value.int .i64 z]) (wr1 h' l1 l2).symm,⟨h',GW.trans hgg k1',rfl,?_,fun a ha q=>k2 a ha (hgg.2 _ q).1,hAK.succ hx hnF⟩,dec h',k4.fit (by simp [fitL,Res.eqv,qAA,conc])⟩
      rw [hT];exact k3
    ·cases he
     have hbk:¬ g2.g bk:=hnb _ rfl
     repeat((conv=>whnf);first|apply qza|apply qzb|apply qzc|apply qzd|apply qze|intro(_:Nat)|intro(_:OA)_)
     conv=>whnf
     refine .inr ⟨bk,_,rest,⟨rfl,hb1.1,hb1.2,hb2,hpb.1,hpb.2.2,hb3,hb4,hb5,by unfold maxLen;omega,by omega⟩,fun gL hless oa3 cap3=>?_⟩
     repeat((conv=>whnf);first|apply qza|apply qzb|apply qzc|apply qzd|apply qze|intro(_:Nat)|intro(_:OA)_)
     conv=>whnf
     refine fun fr w hw=>by
      have hw1:HSim fr ⟨gL,.row 70 oa3 (nX+1) cap3 qbA 4 (((lisL (l.take k)).map cLi).flatten++cLi ⟨x,false,0,false⟩) :: [.blk 5 qw qEA [.v (.int .i64 0),.v (.int .i64 0),.v (.int .i64 0),.row 4 (some ⟨qP,0,none⟩) N N,.sl 3 qV 0 1 1,.v (.slice oa3 (nX+1) cap3),.v (.slice oS N cS),.v (.slice none 0 0)],.row 4 (some ⟨qP,0,none⟩) N N qNA 1 (List.replicate N [Value.int .i64 0]).flatten,.blk 3 qV qCA [.v (.slice sa (qGA s).snap.listens.length ta),.v (.slice sb (qGA s).snap.rules.length tb),.v (.slice sd (qGA s).snap.clusters.length td),.v (.slice oV nV cV),.v (.bool false)],.blk 2 q2 qCA [.v (.slice sa (qGA s).snap.listens.length ta),.v (.slice sb (qGA s).snap.rules.length tb),.v (.slice sd (qGA s).snap.clusters.length td),.v (.slice oV nV cV),.v (.bool false)],.blk 1 q1 qEA [.v (.int .i64 0),.v (.int .i64 0),.v (.int .i64 0),.v (.slice none 0 0),.v (.slice none 0 0),.v (.slice none 0 0),.v (.slice none 0 0),.v (.slice none 0 0)],.blk 0 q0 qPA [.v (.slice oa s.listens.length ca),.v (.slice ob s.rules.length cb),.v (.slice od s.clusters.length cd)]],80,g.w.heap.size⟩ w:=hw.fit (by simp [fitL,Res.eqv,qAA,conc])
      obtain⟨g4,k1',k2,k3,k4⟩:=hw1.row_pub
      have hgL:=hless.le hgg hbk
      refine⟨(k+1,oa3,nX+1,cap3,g4),congrArg (fun z=>[Value.int .i64 z]) (wr1 h' l1 l2).symm,⟨h',GW.trans hgL k1',by omega,?_,fun a ha q=>k2 a ha (hgL.2 _ q).1,hAK.succ hx hnF⟩,dec h',k4.fit (by simp [fitL,Res.eqv,qAA,conc])⟩
      rw [hT];simpa using k3
   have hkL:k=l.length:=by have:=of_decide_eq_false hlt;omega
   subst hkL
   have hok:qrO s l N:=⟨hz,ht,hAK.done (Nat.le_refl _)⟩
   rw [List.take_length] at hlis
   repeat((conv=>whnf);first|apply qza|apply qzb|apply qzc|apply qzd|apply qze|intro(_:Nat)|intro(_:OA)_)
   conv=>whnf
   refine fun gA kA nA pA=>?_
   repeat((conv=>whnf);first|apply qza|apply qzb|apply qzc|apply qzd|apply qze|intro(_:Nat)|intro(_:OA)_)
   conv=>whnf
   refine⟨5,rfl,by unfold maxLen;omega,fun gB kB nB pB=>?_⟩
   repeat((conv=>whnf);first|apply qza|apply qzb|apply qzc|apply qzd|apply qze|intro(_:Nat)|intro(_:OA)_)
   conv=>whnf
   intro g2 hg
   have mA:=GW.trans kA (GW.trans kB hg)
   refine .inl ⟨hok,_,rfl,_,_,_,_,_,rfl,⟨show InR 0 by decide,show InR 0 by decide,show InR 0 by decide⟩,?_,?_,hlis.mono qjA mA,hSh.mono q1A (GW.trans hgg mA),⟨none,0,rfl,Nat.le_refl _,Nat.zero_le _,fun _=>⟨rfl,rfl⟩,fun i x hx=>by simp [newW] at hx⟩⟩
   ·exact(qPD pA.rd (List.replicate N 0) (fun x=>.int .i64 x) (by simp [List.flatten_replicate_singleton]) fun x hx=>⟨rfl,by rw [List.eq_of_mem_replicate hx];decide⟩).mono qhA (GW.trans kB hg)
   ·refine qzJ (pB.rd.mono hg) [qGA s] [[.slice sa (qGA s).snap.listens.length ta,.slice sb (qGA s).snap.rules.length tb,.slice sd (qGA s).snap.clusters.length td,.slice oV nV cV,.bool false]] rfl (fun e he=>?_) rfl rfl fun i x ec hx hec=>?_
    ·simp at he;subst he;rfl
    ·cases i with
     | zero =>
      simp at hx hec
      subst hx;subst hec
      exact q9B _ _ _ _ (GW.trans hg2 (GW.trans hgg mA)) hV0
     | succ i=>simp at hx
  ·repeat((conv=>whnf);first|apply qza|apply qzb|apply qzc|apply qzd|apply qze|intro(_:Nat)|intro(_:OA)_)
   conv=>whnf
   refine⟨⟨by omega,by omega,by omega,by omega⟩,fun _=>?_⟩
   repeat((conv=>whnf);first|apply qza|apply qzb|apply qzc|apply qzd|apply qze|intro(_:Nat)|intro(_:OA)_)
   rename_i qP qV qw
   conv=>whnf
   refine⟨Nat×Option Addr×Nat×Nat×GW,fun (k,_,_,_,_)=>[.v (.int .i64 k)],fun (k,oX,nX,cX,g')=>⟨g',[.blk 5 qw qEA [.v (.int .i64 0),.v (.int .i64 0),.v (.int .i64 0),.row 3 (some ⟨qP,0,none⟩) N N,.sl 4 qV 0 1 1,.v (.slice oX nX cX),.v (.slice oS N cS),.v (.slice none 0 0)],.blk 4 qV qCA [.v (.slice sa (qGA s).snap.listens.length ta),.v (.slice sb (qGA s).snap.rules.length tb),.v (.slice sd (qGA s).snap.clusters.length td),.v (.slice oV nV cV),.v (.bool false)],.row 3 (some ⟨qP,0,none⟩) N N qNA 1 (List.replicate N [Value.int .i64 0]).flatten,.blk 2 q2 qCA [.v (.slice sa (qGA s).snap.listens.length ta),.v (.slice sb (qGA s).snap.rules.length tb),.v (.slice sd (qGA s).snap.clusters.length td),.v (.slice oV nV cV),.v (.bool false)],.blk 1 q1 qEA [.v (.int .i64 0),.v (.int .i64 0),.v (.int .i64 0),.v (.slice none 0 0),.v (.slice none 0 0),.v (.slice none 0 0),.v (.slice none 0 0),.v (.slice none 0 0)],.blk 0 q0 qPA [.v (.slice oa s.listens.length ca),.v (.slice ob s.rules.length cb),.v (.slice od s.clusters.length cd)]],20,g.w.heap.size⟩,fun (k,oX,nX,cX,g')=>k≤l.length∧g2≤g'∧nX=k∧PbSl g' g.w.heap.size qbA 4 (.slice oX nX cX) nX ((lisL (l.take k)).map cLi).flatten∧(∀ a,oX=some a→¬ g2.g a.block)∧AllK (namF l) l k,fun (k,_,_,_,_)=>l.length-k,fun fr w hw=>⟨(0,none,0,0,g2),rfl,⟨Nat.zero_le _,GW.refl _,rfl,⟨rfl,.inl ⟨rfl,rfl⟩,fun u hu=>by cases hu⟩,(fun a h=>by cases h),AllK.zero _ _⟩,hw.fit (by simp [fitL,Res.eqv,qAA,conc])⟩,?_⟩
   rintro⟨k,oX,nX,cX,g'⟩ ⟨hk,hgg,hn,hpb,hnb,hAK⟩
   have hll2:(lisL (l.take k)).length=k:=by simp [lisL];omega
   have hlis:rSl 4 qpA g' (.slice oX nX cX) (lisL (l.take k)):=qNJ hpb.rd (lisL (l.take k)) cLi rfl (by omega) (fun _ _=>rfl) fun x hx=>by
    obtain⟨y,_,rfl⟩:=List.mem_map.1 hx
    exact⟨rfl,show InR 0 by decide⟩
   repeat((conv=>whnf);first|apply qza|apply qzb|apply qzc|apply qzd|apply qze|intro(_:Nat)|intro(_:OA)_)
   conv=>whnf
   refine⟨fun hlt=>?_,fun hlt=>?_⟩
   ·have h':k<l.length:=by have:=of_decide_eq_true hlt;omega
    obtain⟨x,hx⟩:=qBA h'
    obtain⟨a,rfl,ec,hec,rfl,hc⟩:=hl1 k x hx
    have hbad:namF l k x=false→¬ qrO s l N:=fun hf h=>by have h3:=h.2.2;rw [qVA hx hf] at h3;cases h3
    repeat((conv=>whnf);first|apply qza|apply qzb|apply qzc|apply qzd|apply qze|intro(_:Nat)|intro(_:OA)_)
    conv=>whnf
    refine⟨a,rfl,⟨by omega,by omega⟩,?_⟩
    conv=>whnf
    refine⟨_,(hc.mono (GW.trans hg02 hgg)) 0 _ rfl,?_⟩
    repeat((conv=>whnf);first|apply qza|apply qzb|apply qzc|apply qzd|apply qze|intro(_:Nat)|intro(_:OA)_)
    conv=>whnf
    refine .inl ⟨_,qgH _ _,?_⟩
    repeat((conv=>whnf);first|apply qza|apply qzb|apply qzc|apply qzd|apply qze|intro(_:Nat)|intro(_:OA)_)
    conv=>whnf
    refine⟨fun y1=>?_,fun y1=>?_⟩
    ·repeat((conv=>whnf);first|apply qza|apply qzb|apply qzc|apply qzd|apply qze|intro(_:Nat)|intro(_:OA)_)
     conv=>whnf
     intro g2 hg
     exact .inr ⟨hbad (by unfold namF;rw [nb1 y1];rfl),rfl⟩
    repeat((conv=>whnf);first|apply qza|apply qzb|apply qzc|apply qzd|apply qze|intro(_:Nat)|intro(_:OA)_)
    conv=>whnf
    refine .inl ⟨_,qyK _ hlis _,?_⟩
    repeat((conv=>whnf);first|apply qza|apply qzb|apply qzc|apply qzd|apply qze|intro(_:Nat)|intro(_:OA)_)
    conv=>whnf
    refine⟨fun y2=>?_,fun y2=>?_⟩
    ·repeat((conv=>whnf);first|apply qza|apply qzb|apply qzc|apply qzd|apply qze|intro(_:Nat)|intro(_:OA)_)
     conv=>whnf
     intro g2 hg
     exact .inr ⟨hbad (by unfold namF;rw [decide_eq_false (by have:=of_decide_eq_true y2;omega)];simp),rfl⟩
    have hnF:namF l k x=true:=by unfold namF;rw [nb0 y1,decide_eq_true (by have:=of_decide_eq_false y2;omega)];rfl
    have hT:=qRO hx
    rcases hpb.2.1 with ⟨he,hn0⟩|⟨bk,cap',rest,he,hb1,hb2,hb3,hb4,hb5⟩
    ·cases he
     have hk0:k=0:=by omega
     subst hk0
     repeat((conv=>whnf);first|apply qza|apply qzb|apply qzc|apply qzd|apply qze|intro(_:Nat)|intro(_:OA)_)
     conv=>whnf
     refine⟨⟨by unfold maxLen;omega,by omega⟩,fun oa3 cap3=>?_⟩
     repeat((conv=>whnf);first|apply qza|apply qzb|apply qzc|apply qzd|apply qze|intro(_:Nat)|intro(_:OA)_)
     conv=>whnf
     refine fun fr w hw=>by
      have hw1:HSim fr ⟨g',.row 70 oa3 (1) cap3 qbA 4 (cLi ⟨x,false,0,false⟩) :: [.blk 5 qw qEA [.v (.int .i64 0),.v (.int .i64 0),.v (.int .i64 0),.row 3 (some ⟨qP,0,none⟩) N N,.sl 4 qV 0 1 1,.v (.slice oa3 (1) cap3),.v (.slice oS N cS),.v (.slice none 0 0)],.blk 4 qV qCA [.v (.slice sa (qGA s).snap.listens.length ta),.v (.slice sb (qGA s).snap.rules.length tb),.v (.slice sd (qGA s).snap.clusters.length td),.v (.slice oV nV cV),.v (.bool false)],.row 3 (some ⟨qP,0,none⟩) N N qNA 1 (List.replicate N [Value.int .i64 0]).flatten,.blk 2 q2 qCA [.v (.slice sa (qGA s).snap.listens.length ta),.v (.slice sb (qGA s).snap.rules.length tb),.v (.slice sd (qGA s).snap.clusters.length td),.v (.slice oV nV cV),.v (.bool false)],.blk 1 q1 qEA [.v (.int .i64 0),.v (.int .i64 0),.v (.int .i64 0),.v (.slice none 0 0),.v (.slice none 0 0),.v (.slice none 0 0),.v (.slice none 0 0),.v (.slice none 0 0)],.blk 0 q0 qPA [.v (.slice oa s.listens.length ca),.v (.slice ob s.rules.length cb),.v (.slice od s.clusters.length cd)]],80,g.w.heap.size⟩ w:=hw.fit (by simp [fitL,Res.eqv,qAA,conc])
      obtain⟨g4,k1',k2,k3,k4⟩:=hw1.row_pub
      refine⟨(0+1,oa3,1,cap3,g4),congrArg (fun z=>[Value.int .i64 z]) (wr1 h' l1 l2).symm,⟨h',GW.trans hgg k1',rfl,?_,fun a ha q=>k2 a ha (hgg.2 _ q).1,hAK.succ hx hnF⟩,dec h',k4.fit (by simp [fitL,Res.eqv,qAA,conc])⟩
      rw [hT];exact k3
    ·cases he
     have hbk:¬ g2.g bk:=hnb _ rfl
     repeat((conv=>whnf);first|apply qza|apply qzb|apply qzc|apply qzd|apply qze|intro(_:Nat)|intro(_:OA)_)
     conv=>whnf
     refine .inr ⟨bk,_,rest,⟨rfl,hb1.1,hb1.2,hb2,hpb.1,hpb.2.2,hb3,hb4,hb5,by unfold maxLen;omega,by omega⟩,fun gL hless oa3 cap3=>?_⟩
     repeat((conv=>whnf);first|apply qza|apply qzb|apply qzc|apply qzd|apply qze|intro(_:Nat)|intro(_:OA)_)
     conv=>whnf
     refine fun fr w hw=>by
      have hw1:HSim fr ⟨gL,.row 70 oa3 (nX+1) cap3 qbA 4 (((lisL (l.take k)).map cLi).flatten++cLi ⟨x,false,0,false⟩) :: [.blk 5 qw qEA [.v (.int .i64 0),.v (.int .i64 0),.v (.int .i64 0),.row 3 (some ⟨qP,0,none⟩) N N,.sl 4 qV 0 1 1,.v (.slice oa3 (nX+1) cap3),.v (.slice oS N cS),.v (.slice none 0 0)],.blk 4 qV qCA [.v (.slice sa (qGA s).snap.listens.length ta),.v (.slice sb (qGA s).snap.rules.length tb),.v (.slice sd (qGA s).snap.clusters.length td),.v (.slice oV nV cV),.v (.bool false)],.row 3 (some ⟨qP,0,none⟩) N N qNA 1 (List.replicate N [Value.int .i64 0]).flatten,.blk 2 q2 qCA [.v (.slice sa (qGA s).snap.listens.length ta),.v (.slice sb (qGA s).snap.rules.length tb),.v (.slice sd (qGA s).snap.clusters.length td),.v (.slice oV nV cV),.v (.bool false)],.blk 1 q1 qEA [.v (.int .i64 0),.v (.int .i64 0),.v (.int .i64 0),.v (.slice none 0 0),.v (.slice none 0 0),.v (.slice none 0 0),.v (.slice none 0 0),.v (.slice none 0 0)],.blk 0 q0 qPA [.v (.slice oa s.listens.length ca),.v (.slice ob s.rules.length cb),.v (.slice od s.clusters.length cd)]],80,g.w.heap.size⟩ w:=hw.fit (by simp [fitL,Res.eqv,qAA,conc])
      obtain⟨g4,k1',k2,k3,k4⟩:=hw1.row_pub
      have hgL:=hless.le hgg hbk
      refine⟨(k+1,oa3,nX+1,cap3,g4),congrArg (fun z=>[Value.int .i64 z]) (wr1 h' l1 l2).symm,⟨h',GW.trans hgL k1',by omega,?_,fun a ha q=>k2 a ha (hgL.2 _ q).1,hAK.succ hx hnF⟩,dec h',k4.fit (by simp [fitL,Res.eqv,qAA,conc])⟩
      rw [hT];simpa using k3
   have hkL:k=l.length:=by have:=of_decide_eq_false hlt;omega
   subst hkL
   have hok:qrO s l N:=⟨hz,ht,hAK.done (Nat.le_refl _)⟩
   rw [List.take_length] at hlis
   repeat((conv=>whnf);first|apply qza|apply qzb|apply qzc|apply qzd|apply qze|intro(_:Nat)|intro(_:OA)_)
   conv=>whnf
   refine fun gA kA nA pA=>?_
   repeat((conv=>whnf);first|apply qza|apply qzb|apply qzc|apply qzd|apply qze|intro(_:Nat)|intro(_:OA)_)
   conv=>whnf
   refine⟨5,rfl,by unfold maxLen;omega,fun gB kB nB pB=>?_⟩
   repeat((conv=>whnf);first|apply qza|apply qzb|apply qzc|apply qzd|apply qze|intro(_:Nat)|intro(_:OA)_)
   conv=>whnf
   intro g2 hg
   have mA:=GW.trans kA (GW.trans kB hg)
   refine .inl ⟨hok,_,rfl,_,_,_,_,_,rfl,⟨show InR 0 by decide,show InR 0 by decide,show InR 0 by decide⟩,?_,?_,hlis.mono qjA mA,hSh.mono q1A (GW.trans hgg mA),⟨none,0,rfl,Nat.le_refl _,Nat.zero_le _,fun _=>⟨rfl,rfl⟩,fun i x hx=>by simp [newW] at hx⟩⟩
   ·exact(qPD pA.rd (List.replicate N 0) (fun x=>.int .i64 x) (by simp [List.flatten_replicate_singleton]) fun x hx=>⟨rfl,by rw [List.eq_of_mem_replicate hx];decide⟩).mono qhA (GW.trans kB hg)
   ·refine qzJ (pB.rd.mono hg) [qGA s] [[.slice sa (qGA s).snap.listens.length ta,.slice sb (qGA s).snap.rules.length tb,.slice sd (qGA s).snap.clusters.length td,.slice oV nV cV,.bool false]] rfl (fun e he=>?_) rfl rfl fun i x ec hx hec=>?_
    ·simp at he;subst he;rfl
    ·cases i with
     | zero =>
      simp at hx hec
      subst hx;subst hec
      exact q9B _ _ _ _ (GW.trans hg2 (GW.trans hgg mA)) hV0
     | succ i=>simp at hx)
/- Pins: the law's example,first part. -/
open Go.Proofs.YtkogfpniapaigaaGreat.Sx Go.RowKit
/- Pins: the law's example. -/
open Go.Proofs.YtkogfpniapaigaaGreat.Sx Go.RowKit
section
variable {g:GW} {cs ms:List Value} {e pc ep:Int} {p:List Int} (hw:rWo g cs (wP e p)) (hM:qiD g ms (mP pc ep)) (he:0≤e∧e≤100) (hl:p.length=2) (hp:∀ x∈p,0≤x∧x≤e+1)
include hw hM he hl hp
end
/- The law PinOff. -/
open Go.Proofs.YtkogfpniapaigaaGreat.Sx Go.RowKit
theorem BgW.up {K K':Nat} {w:Wd} (h:BgW K w) (k:K≤K'):BgW K' w:=by
 obtain⟨⟨h1,h2,h3,h4,h5⟩,h6,h7⟩:=h
 refine⟨⟨by omega,by omega,by omega,by omega,by omega⟩,fun r hr=>by have:=h6 r hr;omega,fun v hv=>?_⟩
 obtain⟨a,b⟩:=h7 v hv
 exact⟨by omega,fun y hy=>by have:=b y hy;unfold BgG at this ⊢;omega⟩
/- Swaps: with nobody in between. -/
open Go.Proofs.YtkogfpniapaigaaGreat.Sx Go.RowKit
structure SwSt where
 j:Nat
 g:GW
 w:Wd
 oa:Option Addr
 ca:Nat
 ob:Option Addr
 cb:Nat
 oc:Option Addr
 cc:Nat
 od:Option Addr
 cd:Nat
 oe:Option Addr
 ce:Nat
 m:Mach
 o1:Option Addr
 t1:Nat
 o2:Option Addr
 t2:Nat
 o3:Option Addr
 t3:Nat
abbrev SwSt.wc (x:SwSt):List Value:=[.int .i64 x.w.epoch,.int .i64 x.w.current,.int .i64 x.w.lock,.slice x.oa x.w.pins.length x.ca,.slice x.ob x.w.versions.length x.cb,.slice x.oc x.w.listens.length x.cc,.slice x.od x.w.counts.length x.cd,.slice x.oe x.w.limbo.length x.ce]
abbrev SwSt.mc (x:SwSt):List Value:=x.m.cs (.slice x.o1 x.m.op.config.listens.length x.t1) (.slice x.o2 x.m.op.config.routes.length x.t2) (.slice x.o3 x.m.op.config.clusters.length x.t3)
theorem qqT {w:Wd} {m:Mach} (h:SnW w) (hsm:SmC m.op.config):SnW (swW w m):=fun v hv=>by
 rcases q9U hv with hv|⟨hz,rfl⟩
 ·exact h v hv
 ·exact qoN hz hsm
abbrev SaP (x:Wd) (n:Mach) (k:Nat) (v:Value) (g':GW):Prop:=∃ cs ms,v=.tuple #[.agg ⟨cs⟩,.agg ⟨ms⟩,.int .i64 k]∧rWo g' cs x∧qiD g' ms n
theorem qDE (g:GW) {cs ms:List Value} {w x:Wd} {m n:Mach} {k:Nat} (hw:rWo g cs w) (hM:qiD g ms m) (hsn:SnW w) (hb:BgW 900000 w) (hsz:m.op.config.routes.length≤1000000) (hsm:SmC m.op.config) (hway:SWay k w m x n) (hd:n.done=true) (hk:k<10):Ok Tryz.prog qrG [.agg ⟨cs⟩,.agg ⟨ms⟩] g (SaP x n k):=by
 obtain⟨oa,ca,ob,cb,oc,cc,od,cd,oe,ce,rfl⟩:=qoA hw
 obtain⟨o1,t1,o2,t2,o3,t3,rfl⟩:=qrA hM
 exact Ok.of_fn hm noT 0 qcG (args:=[.v (.agg ⟨wQ w oa ca ob cb oc cc od cd oe ce⟩),.v (.agg ⟨mQ m o1 t1 o2 t2 o3 t3⟩)]) (by
  repeat((conv=>whnf);first|apply qza|apply qzb|apply qzc|apply qzd|apply qze|intro(_:Nat))
  rename_i q0 q1 q2 q3
  repeat((conv=>whnf);first|apply qza|apply qzb|apply qzc|apply qzd|apply qze|intro(_:Nat))
  conv=>whnf
  refine⟨SwSt,fun x=>[.v (.int .i64 x.j)],fun y=>⟨y.g,[.blk 3 q3 qtC zl0,.blk 2 q2 qEA [.v (.int .i64 0),.v (.int .i64 0),.v (.int .i64 0),.v (.slice none 0 0),.v (.slice none 0 0),.v (.slice none 0 0),.v (.slice none 0 0),.v (.slice none 0 0)],.blk 1 q1 qtC (y.mc.map SV.v),.blk 0 q0 qEA (y.wc.map SV.v)],_,_⟩,fun y=>y.j≤k∧g≤y.g∧rWo y.g y.wc y.w∧qiD y.g y.mc y.m∧SWay (k-y.j) y.w y.m x n∧SnW y.w∧BgW (900000+y.j) y.w∧y.m.op.config.routes.length≤1000000∧SmC y.m.op.config,fun y=>k-y.j,qDA (⟨0,g,w,oa,ca,ob,cb,oc,cc,od,cd,oe,ce,m,o1,t1,o2,t2,o3,t3⟩:SwSt) rfl ⟨Nat.zero_le _,GW.refl _,hw,hM,hway,hsn,hb,hsz,hsm⟩ rfl,?_⟩
  clear hM hw hsn hb hway hsz hsm
  intro y hy
  obtain⟨j,gx,w,oa,ca,ob,cb,oc,cc,od,cd,oe,ce,m,o1,t1,o2,t2,o3,t3⟩:=y
  obtain⟨hj,hxg,hxw,hxM,hway,hsn,hb,hsz,hsm⟩:=hy
  replace hj:j≤k:=hj
  replace hway:SWay (k-j) w m x n:=hway
  replace hb:BgW (900000+j) w:=hb
  replace hsz:m.op.config.routes.length≤1000000:=hsz
  replace hsm:SmC m.op.config:=hsm
  replace hsn:SnW w:=hsn
  repeat((conv=>whnf);first|apply qza|apply qzb|apply qzc|apply qzd|apply qze|intro(_:Nat))
  conv=>whnf
  refine⟨fun _=>?_,fun hx=>absurd (of_decide_eq_false hx) (by show ¬ ¬ ((j:Int)<10);omega)⟩
  by_cases hjk:j=k
  ·subst hjk
   rw [Nat.sub_self] at hway
   obtain⟨e1,e2⟩:=hway
   subst e1
   subst e2
   repeat((conv=>whnf);first|apply qza|apply qzb|apply qzc|apply qzd|apply qze|intro(_:Nat))
   conv=>whnf
   refine⟨fun hx=>absurd hx (by simp [hd]),fun _=>?_⟩
   repeat'((conv=>whnf);first|apply qza|apply qzb|apply qzc|apply qzd|apply qze|intro(_:Nat)|refine And.intro ?_ ?_|fail)
   all_goals (conv=>whnf)
   all_goals (first|exact Eq.refl _|(
   intro g2 hg
   exact⟨_,_,rfl,qTA _ _ _ _ hg hxw,qpC _ _ _ _ hg hxM⟩))
  ·obtain⟨d,hdk⟩:∃ d,k-j=d+1:=⟨k-j-1,by omega⟩
   rw [hdk] at hway
   obtain⟨hnd,hgo,hway⟩:=hway
   repeat((conv=>whnf);first|apply qza|apply qzb|apply qzc|apply qzd|apply qze|intro(_:Nat))
   conv=>whnf
   refine⟨fun _=>?_,fun hx=>absurd hx (by simp [hnd])⟩
   repeat((conv=>whnf);first|apply qza|apply qzb|apply qzc|apply qzd|apply qze|intro(_:Nat))
   refine .inr ((q9P _ hxw hxM hsn (BgW.up hb (by omega)) hsz).mono fun v g4 hg4 hO=>?_)
   obtain⟨csa,msa,rfl,hwa,hMa⟩:=hO
   obtain⟨r1,r2,r3,r4,r5,r6,r7,r8,r9,r10,rfl⟩:=qoA hwa
   obtain⟨s1,s2,s3,s4,s5,s6,rfl⟩:=qrA hMa
   repeat((conv=>whnf);first|apply qza|apply qzb|apply qzc|apply qzd|apply qze|intro(_:Nat))
   conv=>whnf
   refine fun fr u hu=>⟨⟨j+1,g4,swW w m,r1,r2,r3,r4,r5,r6,r7,r8,r9,r10,swM w m,s1,s2,s3,s4,s5,s6⟩,congrArg (fun z=>[Value.int .i64 z]) (show((j+1:Nat):Int)=IntKind.i64.wrap ((j:Int)+1) by rw [wr (x:=(j:Int)+1) (by unfold InR;omega)];omega),⟨by show j+1≤k;omega,GW.trans hxg hg4,hwa,hMa,by show SWay (k-(j+1)) _ _ _ _;rw [show k-(j+1)=d by omega];exact hway,qqT hsn hsm,BgW.up (quV (by omega) hb) (by show 900000+j+1≤900000+(j+1);omega),by show(swM w m).op.config.routes.length≤1000000;rw [qDU];exact hsz,by show SmC (swM w m).op.config;rw [qDU];exact hsm⟩,by show k-(j+1)<k-j;omega,?_⟩
   exact hu.fit (by simp [fitL,Res.eqv,qAA,conc]))
/- Law 22's example. -/
open Go.Proofs.YtkogfpniapaigaaGreat.Sx Go.RowKit
theorem qtQ (g:GW):Ok Tryz.prog qqG [] g fun v g'=>∃ cs o1 t1 o2 t2 o3 t3,v=.tuple #[.agg ⟨cs⟩,.agg ⟨[.slice o1 1 t1,.slice o2 1 t2,.slice o3 1 t3]⟩]∧rWo g' cs wS∧qcA g' [.slice o1 1 t1,.slice o2 1 t2,.slice o3 1 t3] cfgS :=
 Ok.of_fn hm noT 0 qbG (args:=[]) (by
  repeat((conv=>whnf);first|apply qza|apply qzb|apply qzc|apply qzd|apply qze|intro(_:Nat))
  conv=>whnf
  refine⟨1,rfl,by unfold maxLen;omega,fun g1 hg1 hn1 hp1=>?_⟩
  repeat((conv=>whnf);first|apply qza|apply qzb|apply qzc|apply qzd|apply qze|intro(_:Nat))
  conv=>whnf
  refine⟨4,rfl,by unfold maxLen;omega,fun g2 hg2 hn2 hp2=>?_⟩
  repeat((conv=>whnf);first|apply qza|apply qzb|apply qzc|apply qzd|apply qze|intro(_:Nat))
  conv=>whnf
  refine⟨1,rfl,by unfold maxLen;omega,fun g3 hg3 hn3 hp3=>?_⟩
  repeat((conv=>whnf);first|apply qza|apply qzb|apply qzc|apply qzd|apply qze|intro(_:Nat))
  conv=>whnf
  refine⟨4,rfl,by unfold maxLen;omega,fun g4 hg4 hn4 hp4=>?_⟩
  have q1:=hp1.mono (GW.trans hg2 (GW.trans hg3 hg4))
  have q2:=hp2.mono (GW.trans hg3 hg4)
  have q3:=hp3.mono hg4
  have hcfg:qcA g4 _ cfgS:=⟨_,_,_,rfl,qPD (R:=rStr) q1.rd [sInW] .string rfl fun _ _=>rfl,qzJ (R:=qrK) q2.rd [⟨sInW,⟨#[42]⟩,⟨#[47]⟩,⟨#[97]⟩⟩] [[.string sInW,.string ⟨#[42]⟩,.string ⟨#[47]⟩,.string ⟨#[97]⟩]] rfl (by simp) rfl rfl (fun i x ec hx hec=>by
   match i,hx,hec with
   | 0,hx,hec=>cases hx;cases hec;rfl
   | i+1,hx,hec=>simp at hx),qzJ (R:=qAC) hp4.rd [⟨⟨#[97]⟩,1,1,[true]⟩] [[.string ⟨#[97]⟩,.int .i64 1,.int .i64 1,_]] rfl (by simp) rfl rfl (fun i x ec hx hec=>by
   match i,hx,hec with
   | 0,hx,hec=>cases hx;cases hec;exact⟨_,rfl,(by decide:InR 1),(by decide:InR 1),qPD (R:=q8S) q3.rd [true] .bool rfl fun _ _=>rfl⟩
   | i+1,hx,hec=>simp at hx)⟩
  conv=>whnf
  refine .inr ((qUK _ hcfg).mono fun v g6 hg6 hB=>?_)
  rcases hB with ⟨_,oa,n,cap,rfl,hrl,_⟩|⟨e,i,he,_⟩
  rotate_left
  ·rw [qwP] at he;cases he
  rw [qIR] at hrl
  have mk6:∀ {a b d:Value},qcA g6 [a,b,d] cfgS→qnF g6 [a,.slice oa n cap,d] (qbH 1 [true]):=fun h=>by
   obtain⟨_,_,_,he,a1,_,a3⟩:=h
   cases he
   exact⟨_,_,_,rfl,a1,hrl,a3⟩
  have hs6:=mk6 (qMA _ _ _ _ hg6 hcfg)
  repeat((conv=>whnf);first|apply qza|apply qzb|apply qzc|apply qzd|apply qze|intro(_:Nat))
  conv=>whnf
  refine⟨1,rfl,by unfold maxLen;omega,fun g7 hg7 hn7 hp7=>?_⟩
  have hl:=qPD (R:=rStr) hp7.rd [sInW] .string rfl fun _ _=>rfl
  conv=>whnf
  refine .inr ((qZV _ (qkB _ _ _ _ hg7 hs6) hl (t:=1) (by decide) (by decide)).mono fun v g8 hg8 hN=>?_)
  rcases hN with ⟨_,csN,rfl,hw⟩|⟨h,_⟩
  rotate_left
  ·exact absurd q6U h
  obtain⟨_,_,_,_,_,_,_,_,_,_,rfl⟩:=qoA hw
  repeat((conv=>whnf);first|apply qza|apply qzb|apply qzc|apply qzd|apply qze|intro(_:Nat))
  conv=>whnf
  intro g2 hg
  exact⟨_,_,_,_,_,_,_,rfl,qTA _ _ _ _ hg hw,qMA _ _ _ _ (GW.trans hg6 (GW.trans hg7 (GW.trans hg8 hg))) hcfg⟩)
end Go.Proofs.YtkogfpniapaigaaGreat
