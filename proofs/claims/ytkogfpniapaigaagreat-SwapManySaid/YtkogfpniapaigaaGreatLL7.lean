/- The laws of layer 7: what each of them answers, whatever it is asked. -/
import Derived.Test.YtkogfpniapaigaaGreatLW9k
import Derived.Test.YtkogfpniapaigaaGreatLW9p
import Derived.Test.YtkogfpniapaigaaGreatPl
import Derived.Test.YtkogfpniapaigaaGreatLW9d
set_option linter.unusedVariables false
set_option linter.unusedSimpArgs false
namespace Go.Proofs.YtkogfpniapaigaaGreat
open Go.Proofs.YtkogfpniapaigaaGreat.Sx Go.RowKit
set_option maxHeartbeats 16000000
set_option maxRecDepth 100000
theorem rNil {α:Type} (sz:Nat) (R:RP α) (g:GW):rSl sz R g (.slice none 0 0) []:=⟨none,0,rfl,Nat.le_refl _,Nat.zero_le _,fun _=>⟨rfl,rfl⟩,fun i x hx=>by simp at hx⟩
theorem qsJ {g g':GW} {a b d v:Value} {c:Config} (hc:qcA g [a,b,d] c) (hg:g≤g') (h:quS g c a d v g'):∃ x y z e i,v=.tuple #[.agg ⟨[x,y,z]⟩,.int .i64 e,.int .i64 i]∧qnF g' [x,y,z] (q6I c)∧eiT (qHA c)=.tuple #[.int .i64 e,.int .i64 i]∧((e=0∧i=0∧qHA c=none∧x=a∧z=d)∨(e≠0∧qHA c≠none∧x=.slice none 0 0∧y=.slice none 0 0∧z=.slice none 0 0)):=by
 rcases h with ⟨hz,oa,n,cap,rfl,hr,_⟩|⟨e,i,hz,rfl⟩
 ·obtain⟨_,_,_,he,h1,_,h3⟩:=hc
  cases he
  refine⟨_,_,_,0,0,rfl,?_,by rw [hz];rfl,.inl ⟨rfl,rfl,hz,rfl,rfl⟩⟩
  rw [q6I,hz]
  exact⟨_,_,_,rfl,h1.mono qBE hg,hr,h3.mono qWC hg⟩
 ·have hne:=q8A hz
  refine⟨_,_,_,e,i,rfl,?_,by rw [hz];rfl,.inr ⟨by omega,by rw [hz];simp,rfl,rfl,rfl⟩⟩
  rw [q6I,hz]
  exact⟨_,_,_,rfl,rNil _ _ _,rNil _ _ _,rNil _ _ _⟩
/- Swaps: the program's step. -/
open Go.Proofs.YtkogfpniapaigaaGreat.Sx Go.RowKit
def SwP (w:Wd) (m:Mach) (v:Value) (g':GW):Prop:=∃ cs ms,v=.tuple #[.agg ⟨cs⟩,.agg ⟨ms⟩,.agg ⟨(swE w m).cs⟩]∧rWo g' cs (swW w m)∧qiD g' ms (swM w m)
def tSw:List (Nat×FnI):=[(q1M,qsI),(q5J,q9J)]
theorem qCV:qDG Tryz.prog tSw:=by
 intro x hx
 simp only [tSw,List.mem_cons,List.not_mem_nil,or_false] at hx
 rcases hx with rfl|rfl
 ·exact⟨_,_,qXM⟩
 ·exact⟨_,_,qxJ⟩
theorem qwR (g:GW) {bm:Nat} {t a c v:Int} (h1:Rc g ⟨bm,10,none⟩ (.int .i64 t)):OkV Tryz.prog q5J [.pointer (some ⟨bm,0,none⟩),.int .i64 a,.int .i64 c,.int .i64 v] g (.agg ⟨(⟨t,0,a,c,-1,false,v,false,false,false,ans0⟩:Ev).cs⟩) :=
 Ok.of_fn hm noT 0 qxJ (args:=[.v (.pointer (some ⟨bm,0,none⟩)),.v (.int .i64 a),.v (.int .i64 c),.v (.int .i64 v)]) (by
  repeat'((conv=>whnf);first|apply qza|apply qzb|apply qzc|apply qzd|apply qze|intro(_:Nat)|refine⟨_,h1,?_⟩|fail)
  conv=>whnf
  intro g2 hg
  rfl)
theorem q9P (g:GW) {cs ms:List Value} {w:Wd} {m:Mach} (hw:rWo g cs w) (hM:qiD g ms m) (hsn:SnW w) (hb:BgW 1000000 w) (hsz:m.op.config.routes.length≤1000000):Ok Tryz.prog qaP [.agg ⟨cs⟩,.agg ⟨ms⟩] g (SwP w m):=by
 obtain⟨oa,ca,ob,cb,oc,cc,od,cd,oe,ce,o1,t1,o2,t2,o3,t3,rfl,rfl,hw0,hM0,⟨i1,i2,i3⟩,hP,hV,hL,hC,hR,⟨a1,a2,a0,hP1⟩,⟨b1,b2,b0,hV1⟩,⟨c1,c2,c0,hL1⟩,⟨d1,d2,d0,hC1⟩,⟨e1,e2,e0,hR1⟩,hok,hop,hcf⟩:=q6T hw hM
 have hno:¬ swGo w m→∀ g2,g≤g2→SwP w m (.tuple #[.agg ⟨wQ w oa ca ob cb oc cc od cd oe ce⟩,.agg ⟨mQ m o1 t1 o2 t2 o3 t3⟩,.agg ⟨ev0.cs⟩]) g2:=fun h g2 hg=>by
  obtain⟨hWd,hMm,hE⟩:=qJV (w:=w) (m:=m) h
  exact⟨_,_,by rw [hE],by rw [hWd];exact qTA _ _ _ _ hg hw0,by rw [hMm];exact qpC _ _ _ _ hg hM0⟩
 exact Ok.of_fnD hm qCV 4 qSM q0O (args:=[.v (.agg ⟨wQ w oa ca ob cb oc cc od cd oe ce⟩),.v (.agg ⟨mQ m o1 t1 o2 t2 o3 t3⟩)]) (by
  repeat((conv=>whnf);first|apply qza|apply qzb|apply qzc|apply qzd|apply qze|intro(_:Nat)|intro(_:OA)_)
  conv=>whnf
  refine⟨fun z1=>?_,fun z1=>?_⟩
  ·have z1:m.pc<0:=of_decide_eq_true z1
   repeat((conv=>whnf);first|apply qza|apply qzb|apply qzc|apply qzd|apply qze|intro(_:Nat)|intro(_:OA)_)
   conv=>whnf
   intro g2 hg
   exact hno (fun h=>by have:=h.2.1;omega) _ hg
  have z1:¬ m.pc<0:=of_decide_eq_false z1
  repeat((conv=>whnf);first|apply qza|apply qzb|apply qzc|apply qzd|apply qze|intro(_:Nat)|intro(_:OA)_)
  conv=>whnf
  refine⟨fun z2=>?_,fun z2=>?_⟩
  ·have z2:2<m.pc:=of_decide_eq_true z2
   repeat((conv=>whnf);first|apply qza|apply qzb|apply qzc|apply qzd|apply qze|intro(_:Nat)|intro(_:OA)_)
   conv=>whnf
   intro g2 hg
   exact hno (fun h=>by have:=h.2.1;omega) _ hg
  have z2:¬ 2<m.pc:=of_decide_eq_false z2
  repeat((conv=>whnf);first|apply qza|apply qzb|apply qzc|apply qzd|apply qze|intro(_:Nat)|intro(_:OA)_)
  conv=>whnf
  refine .inl ⟨_,qtM _ hw0 hM0 hsn hb,?_⟩
  repeat((conv=>whnf);first|apply qza|apply qzb|apply qzc|apply qzd|apply qze|intro(_:Nat)|intro(_:OA)_)
  conv=>whnf
  refine⟨fun z3=>?_,fun z3=>?_⟩
  ·have z3:=nb1 z3
   repeat((conv=>whnf);first|apply qza|apply qzb|apply qzc|apply qzd|apply qze|intro(_:Nat)|intro(_:OA)_)
   conv=>whnf
   intro g2 hg
   exact hno (fun h=>by rw [h.1] at z3;cases z3) _ hg
  have hs:=nb0 z3
  repeat((conv=>whnf);first|apply qza|apply qzb|apply qzc|apply qzd|apply qze|intro(_:Nat)|intro(_:OA)_)
  refine⟨fun z4=>?_,fun z4=>?_⟩
  ·have z4:m.pc=2:=of_decide_eq_true z4
   repeat((conv=>whnf);first|apply qza|apply qzb|apply qzc|apply qzd|apply qze|intro(_:Nat)|intro(_:OA)_)
   conv=>whnf
   refine .inl ⟨_,qWU _ hw0 hM0,?_⟩
   repeat((conv=>whnf);first|apply qza|apply qzb|apply qzc|apply qzd|apply qze|intro(_:Nat)|intro(_:OA)_)
   conv=>whnf
   refine⟨fun z5=>?_,fun z5=>?_⟩
   ·have z5:qsG w m=true:=z5
    repeat((conv=>whnf);first|apply qza|apply qzb|apply qzc|apply qzd|apply qze|intro(_:Nat)|intro(_:OA)_)
    conv=>whnf
    intro g2 hg
    exact hno (fun h=>by have:=h.2.2 z4;rw [z5] at this;cases this) _ hg
   have z5:qsG w m=false:=z5
   have hgo:swGo w m:=⟨hs,.inr (.inr z4),fun _=>z5⟩
   obtain⟨hWd,hMm,hE⟩:=sw2 hgo z4
   repeat((conv=>whnf);first|apply qza|apply qzb|apply qzc|apply qzd|apply qze|intro(_:Nat)|intro(_:OA)_)
   refine .inr ((qEQ _ hw0 hb).mono fun v g3 hg3 hO=>?_)
   obtain⟨cs,T,rfl,hT⟩:=hO
   have hF:=qCO hT
   obtain⟨oa',ca',ob',cb',oc',cc',od',cd',oe',ce',rfl⟩:=qoA hF
   repeat((conv=>whnf);first|apply qza|apply qzb|apply qzc|apply qzd|apply qze|intro(_:Nat)|intro(_:OA)_)
   conv=>whnf
   refine dF (by omega) ?_
   repeat((conv=>whnf);first|apply qza|apply qzb|apply qzc|apply qzd|apply qze|intro(_:Nat)|intro(_:OA)_)
   conv=>whnf
   refine dF (by omega) ?_
   have hb5:=hb.1.2.2.2.2
   rcases qGQ hT with ⟨hl0,oa9,he9⟩|⟨bk,cap,ecs,rest,he9,hF9,hk9⟩
   ·simp only [Value.slice.injEq] at he9
    obtain⟨rfl,hl9,rfl⟩:=he9
    have hkz:rEls 3 qUA g3 [] w.limbo∧rSl 1 rInt g3 (.slice oa' w.pins.length ca') w.pins∧rSl 5 rVe g3 (.slice ob' w.versions.length cb') w.versions∧rSl 4 qpA g3 (.slice oc' w.listens.length cc') w.listens∧rSl 1 rRow g3 (.slice od' w.counts.length cd') w.counts :=
     ⟨by rw [hl0];exact qiE _,qMV hF,qLU hF,qNV hF,qOV hF⟩
    have hfin:∀ {v:Value} (gA g2:GW),g3≤gA→PbSl gA g.w.heap.size q9A 3 v 1 [.int .i64 m.version,.int .i64 m.epoch,.bool false]→gA≤g2→SwP w m (.tuple #[.agg ⟨[.int .i64 w.epoch,.int .i64 w.current,.int .i64 w.lock,.slice oa' w.pins.length ca',.slice ob' w.versions.length cb',.slice oc' w.listens.length cc',.slice od' w.counts.length cd',v]⟩,.agg ⟨Mach.cs (.slice o1 m.op.config.listens.length t1) (.slice o2 m.op.config.routes.length t2) (.slice o3 m.op.config.clusters.length t3) {m with done:=true,answer:=ansV 8 m.i}⟩,.agg ⟨Ev.cs ⟨m.thread,0,2,11,-1,false,m.version,false,false,true,ansV 8 m.i⟩⟩]) g2:=fun {v} gA g2 kA pA hg=>by
     refine⟨_,_,by rw [hE],by rw [hWd];exact qTA _ _ _ _ hg (qYI (x:=⟨m.version,m.epoch,false⟩) ⟨i1,i2,i3⟩ hkz kA (by rw [hl9];exact pA) ⟨hok.version,hok.epoch⟩),?_⟩
     rw [hMm]
     exact⟨_,_,_,rfl,{hok with answer:=qYN ⟨by decide,hok.i⟩},hop,qMA _ _ _ _ (GW.trans hg3 (GW.trans kA hg)) hcf⟩
    rw [hl9]
    cases oe' with
    | none =>
     repeat((conv=>whnf);first|apply qza|apply qzb|apply qzc|apply qzd|apply qze|intro(_:Nat)|intro(_:OA)_)
     conv=>whnf
     refine⟨⟨by unfold maxLen;omega,by omega⟩,fun oa3 cap3=>?_⟩
     repeat((conv=>whnf);first|apply qza|apply qzb|apply qzc|apply qzd|apply qze|intro(_:Nat)|intro(_:OA)_)
     conv=>whnf
     refine fun gA kA nA pA=>?_
     repeat((conv=>whnf);first|apply qza|apply qzb|apply qzc|apply qzd|apply qze|intro(_:Nat)|intro(_:OA)_)
     conv=>whnf
     intro g2 hg
     exact hfin gA _ kA pA hg
    | some ae =>
     repeat((conv=>whnf);first|apply qza|apply qzb|apply qzc|apply qzd|apply qze|intro(_:Nat)|intro(_:OA)_)
     conv=>whnf
     refine .inl ⟨[],⟨⟨rfl,some ae,0,rfl,Nat.le_refl _,Nat.zero_le _,(fun h=>nomatch h),fun i u hu=>by simp at hu⟩,fun u hu=>by cases hu⟩,fun h=>absurd h (by decide),fun _=>⟨⟨by decide,by unfold maxLen;omega,by omega⟩,fun oa3 cap3=>?_⟩⟩
     repeat((conv=>whnf);first|apply qza|apply qzb|apply qzc|apply qzd|apply qze|intro(_:Nat)|intro(_:OA)_)
     conv=>whnf
     refine fun gA kA nA pA=>?_
     repeat((conv=>whnf);first|apply qza|apply qzb|apply qzc|apply qzd|apply qze|intro(_:Nat)|intro(_:OA)_)
     conv=>whnf
     intro g2 hg
     exact hfin gA _ kA pA hg
   ·simp only [Value.slice.injEq,true_and] at he9
    obtain⟨rfl,rfl⟩:=he9
    repeat((conv=>whnf);first|apply qza|apply qzb|apply qzc|apply qzd|apply qze|intro(_:Nat)|intro(_:OA)_)
    conv=>whnf
    refine .inr ⟨bk,ecs.flatten,rest,⟨rfl,hF9.1,hF9.2.1,hF9.2.2.1,hF9.2.2.2.1,hF9.2.2.2.2.1,hF9.2.2.2.2.2.1,hF9.2.2.2.2.2.2.1,hF9.2.2.2.2.2.2.2,by unfold maxLen;omega,by omega⟩,fun gL hless oa3 cap3=>?_⟩
    repeat((conv=>whnf);first|apply qza|apply qzb|apply qzc|apply qzd|apply qze|intro(_:Nat)|intro(_:OA)_)
    conv=>whnf
    refine fun gA kA nA pA=>?_
    repeat((conv=>whnf);first|apply qza|apply qzb|apply qzc|apply qzd|apply qze|intro(_:Nat)|intro(_:OA)_)
    conv=>whnf
    intro g2 hg
    have hgL:=hless.le hg3 (fun h=>by have:=g.wf _ h;omega)
    refine⟨_,_,by rw [hE]<;>rfl,by rw [hWd];exact qTA _ _ _ _ hg (qYI (x:=⟨m.version,m.epoch,false⟩) ⟨i1,i2,i3⟩ (hk9 gL hless) kA pA ⟨hok.version,hok.epoch⟩),?_⟩
    rw [hMm]
    exact⟨_,_,_,rfl,{hok with answer:=qYN ⟨by decide,hok.i⟩},hop,qMA _ _ _ _ (GW.trans hgL (GW.trans kA hg)) hcf⟩
  have z4:¬ m.pc=2:=of_decide_eq_false z4
  have hgo:swGo w m:=⟨hs,by omega,fun h=>absurd h z4⟩
  repeat((conv=>whnf);first|apply qza|apply qzb|apply qzc|apply qzd|apply qze|intro(_:Nat)|intro(_:OA)_)
  refine .inr ((qEQ _ hw0 hb).mono fun v g3 hg3 hO=>?_)
  obtain⟨cs,T,rfl,hT⟩:=hO
  have hF:=qCO hT
  obtain⟨oa',ca',ob',cb',oc',cc',od',cd',oe',ce',rfl⟩:=qoA hF
  repeat((conv=>whnf);first|apply qza|apply qzb|apply qzc|apply qzd|apply qze|intro(_:Nat)|intro(_:OA)_)
  conv=>whnf
  refine⟨fun z6=>?_,fun z6=>?_⟩
  rotate_left
  ·have z6:¬ m.pc=0:=of_decide_eq_false z6
   have h1:m.pc=1:=by omega
   obtain⟨hWd,hMm,hE⟩:=sw1 hgo h1
   repeat((conv=>whnf);first|apply qza|apply qzb|apply qzc|apply qzd|apply qze|intro(_:Nat)|intro(_:OA)_)
   conv=>whnf
   refine dT (by omega) ?_
   repeat'((conv=>whnf);first|apply qza|apply qzb|apply qzc|apply qzd|apply qze|intro(_:Nat)|intro(_:OA)_|refine⟨_,fun gp hle hin=>qwR gp (hin.2.2.2.2.1 10 _ rfl),?_⟩|refine And.intro ?_ ?_|fail)
   all_goals (conv=>whnf)
   all_goals (first|exact Eq.refl _|(
    intro g2 hg
    refine⟨_,_,by rw [hE]<;>rfl,by rw [hWd];exact qTA _ _ _ _ hg hF,?_⟩
    rw [hMm]
    exact⟨_,_,_,rfl,{hok with pc:=show InR (2:Int) by decide,epoch:=i1},hop,qMA _ _ _ _ (GW.trans hg3 hg) hcf⟩))
  have z6:m.pc=0:=of_decide_eq_true z6
  repeat((conv=>whnf);first|apply qza|apply qzb|apply qzc|apply qzd|apply qze|intro(_:Nat)|intro(_:OA)_)
  refine .inr ((Ok.sub hg3 ((qUK g hcf).mono fun v g' hg' hB=>(⟨hg',qsJ hcf hg' hB⟩:g≤g'∧_))).mono fun v g4 hg4 hB=>?_)
  obtain⟨gB,kB,dB,hgB,x,y,z,er,ei,rfl,hsS,hei,hcase⟩:=hB
  rcases hcase with ⟨rfl,rfl,hz,rfl,rfl⟩|⟨he0,hz,rfl,rfl,rfl⟩
  ·rw [show q6I m.op.config=qaA m.op.config by unfold q6I;rw [hz]] at hsS
   obtain⟨hWd,hMm,hE⟩:=qaR hgo z6 hz
   obtain⟨_,_,_,he2,⟨sa,ta,hsa,_⟩,⟨sb,tb,rfl,_⟩,⟨sd,td,hsd,_⟩⟩:=id hsS
   cases he2
   cases hsa
   cases hsd
   repeat((conv=>whnf);first|apply qza|apply qzb|apply qzc|apply qzd|apply qze|intro(_:Nat)|intro(_:OA)_)
   conv=>whnf
   refine⟨fun _=>?_,fun h=>nomatch h⟩
   repeat((conv=>whnf);first|apply qza|apply qzb|apply qzc|apply qzd|apply qze|intro(_:Nat)|intro(_:OA)_)
   refine .inr ((Ok.sub kB (qFQ gB hsS (by simpa [qaA] using hsz))).mono fun v g5 hg5 hC=>?_)
   obtain⟨gC,kC,dC,hC⟩:=hC
   rcases hC with ⟨hz2,va,vb,vd,oV,nV,cV,rfl,hVe⟩|⟨hz2,rfl⟩
   rotate_left
   ·exact absurd (q0E hz) hz2
   obtain⟨_,_,_,_,he3,⟨_,_,_,he4,⟨wa,xa,rfl,_⟩,⟨wb,xb,rfl,_⟩,⟨wd,xd,rfl,_⟩⟩,⟨_,_,he5,_⟩⟩:=id hVe
   simp only [List.cons.injEq,and_true] at he3
   obtain⟨rfl,rfl,rfl,rfl,_⟩:=he3
   cases he4
   cases he5
   have hT5:=quT (GW.trans hg4 hg5) hT
   have hne:w.versions≠[]:=fun h=>by
    obtain⟨v0,gr0,en0,hS⟩:=suitB_iff.1 hs
    have:=hS.ver.2
    rw [h] at this;simp at this
   have hb2:=hb.1.2.1
   obtain⟨bk,cap,ecs,rest,he9,hF9,hk9⟩:=qVK hT5 hne
   have hbk0:bk<g3.w.heap.size:=by
    obtain⟨bk3,cap3,_,_,he3,hF3,_⟩:=qVK hT hne
    rw [he3] at he9
    simp only [Value.slice.injEq,Option.some.injEq,Addr.mk.injEq] at he9
    have:=g3.wf _ hF3.2.1
    omega
   simp only [Value.slice.injEq,true_and] at he9
   obtain⟨rfl,rfl⟩:=he9
   repeat((conv=>whnf);first|apply qza|apply qzb|apply qzc|apply qzd|apply qze|intro(_:Nat)|intro(_:OA)_)
   conv=>whnf
   refine⟨fun _=>?_,fun h=>nomatch h⟩
   repeat((conv=>whnf);first|apply qza|apply qzb|apply qzc|apply qzd|apply qze|intro(_:Nat)|intro(_:OA)_)
   conv=>whnf
   refine⟨qDN,?_⟩
   repeat((conv=>whnf);first|apply qza|apply qzb|apply qzc|apply qzd|apply qze|intro(_:Nat)|intro(_:OA)_)
   conv=>whnf
   refine .inr ⟨bk,ecs.flatten,rest,⟨rfl,hF9.1,hF9.2.1,hF9.2.2.1,hF9.2.2.2.1,hF9.2.2.2.2.1,hF9.2.2.2.2.2.1,hF9.2.2.2.2.2.2.1,hF9.2.2.2.2.2.2.2,by unfold maxLen;omega,by omega⟩,fun gL hless oa3 cap3=>?_⟩
   repeat((conv=>whnf);first|apply qza|apply qzb|apply qzc|apply qzd|apply qze|intro(_:Nat)|intro(_:OA)_)
   conv=>whnf
   refine fun gA kA nA pA=>?_
   repeat((conv=>whnf);first|apply qza|apply qzb|apply qzc|apply qzd|apply qze|intro(_:Nat)|intro(_:OA)_)
   conv=>whnf
   intro g2 hg
   have hnC:¬ gC.g bk:=fun h=>by
    have h9:=hF9.1
    rcases dC _ h with h|h
    ·rcases dB _ h with h|h
     ·have:=g.wf _ h;omega
     ·omega
    ·have:=hg4.1;omega
   have hgL:=hless.le (GW.trans hg3 (GW.trans hg4 hg5)) (fun h=>by have:=g.wf _ h;omega)
   have hCL:=hless.le kC hnC
   refine⟨_,_,by rw [hE]<;>rfl,by rw [hWd];exact qTA _ _ _ _ hg (qmR (x:=qGA (qaA m.op.config)) ⟨i1,i2,i3⟩ hb2 (hk9 gL hless) kA pA rfl (q9B _ _ _ _ (GW.trans hCL kA) hVe)),?_⟩
   rw [hMm]
   exact⟨_,_,_,rfl,{hok with version:=i2,cluster:=z0,end_:=z0,other:=z0,slot:=z0,i:=show InR (w.versions.length:Int) by unfold InR;omega,pc:=show InR (1:Int) by decide},hop,qMA _ _ _ _ (GW.trans hgL (GW.trans kA hg)) hcf⟩
  ·obtain⟨e2,i2',hz2⟩:∃ e2 i2',qHA m.op.config=some (e2,i2'):=by
    cases hh:qHA m.op.config with
    | none=>exact absurd hh hz
    | some p=>exact⟨p.1,p.2,rfl⟩
   have hee:er=e2:=by
    rw [hz2] at hei
    change Value.tuple #[.int .i64 e2,.int .i64 i2']=_ at hei
    injection hei with h
    have:=congrArg (fun a:Array Value=>a[0]?) h
    simpa using this.symm
   subst hee
   obtain⟨hWd,hMm,hE⟩:=q5O hgo z6 hz2
   repeat((conv=>whnf);first|apply qza|apply qzb|apply qzc|apply qzd|apply qze|intro(_:Nat)|intro(_:OA)_)
   conv=>whnf
   refine⟨fun hx=>absurd (beqT hx) he0,fun _=>?_⟩
   repeat((conv=>whnf);first|apply qza|apply qzb|apply qzc|apply qzd|apply qze|intro(_:Nat)|intro(_:OA)_)
   conv=>whnf
   refine⟨qnL,?_⟩
   repeat((conv=>whnf);first|apply qza|apply qzb|apply qzc|apply qzd|apply qze|intro(_:Nat)|intro(_:OA)_)
   conv=>whnf
   intro g2 hg
   have hne9:=q8A hz2
   refine⟨_,_,by rw [hE]<;>rfl,by rw [hWd];exact qTA _ _ _ _ (GW.trans hg4 hg) hF,?_⟩
   rw [hMm]
   exact⟨_,_,_,rfl,{hok with answer:=qoS ⟨by decide,by unfold InR;omega⟩},hop,qMA _ _ _ _ (GW.trans hg3 (GW.trans hg4 hg)) hcf⟩)
/- Swaps: the document's late. -/
open Go.Proofs.YtkogfpniapaigaaGreat.Sx Go.RowKit
theorem qGT (g:GW) {cs ms:List Value} {w:Wd} {m:Mach} (hw:rWo g cs w) (hM:qiD g ms m):OkV Tryz.prog qkH [.agg ⟨cs⟩,.agg ⟨ms⟩] g (.bool (qsG w m)):=by
 obtain⟨a,b,c,d,e,rfl,⟨i1,i2,i3⟩,hP,hV,hL,hC,hR⟩:=hw
 obtain⟨oa,ca,rfl,a1,a2,a0,hP1⟩:=id hP
 obtain⟨ob,cb,rfl,b1,b2,b0,hV1⟩:=id hV
 obtain⟨oc,cc,rfl,c1,c2,c0,hL1⟩:=id hL
 obtain⟨od,cd,rfl,d1,d2,d0,hC1⟩:=id hC
 obtain⟨oe,ce,rfl,e1,e2,e0,hR1⟩:=id hR
 obtain⟨ma,mb,md,rfl,hok,_,⟨_,_,_,he,⟨o1,t1,rfl,_⟩,⟨o2,t2,rfl,_⟩,⟨o3,t3,rfl,_⟩⟩⟩:=hM
 cases he
 exact Ok.of_fn hm noT 0 qMH (args:=[.v (.agg ⟨wQ w oa ca ob cb oc cc od cd oe ce⟩),.v (.agg ⟨mQ m o1 t1 o2 t2 o3 t3⟩)]) (by
  repeat((conv=>whnf);first|apply qza|apply qzb|apply qzc|apply qzd|apply qze|intro(_:Nat))
  conv=>whnf
  refine⟨Nat,fun k=>[.v (.int .i64 k)],fun k=>⟨g,_,_,_⟩,fun k=>k≤w.limbo.length∧(w.limbo.take k).any (fun r=>r.version==m.version)=false,fun k=>w.limbo.length-k,qDA 0 rfl ⟨Nat.zero_le _,rfl⟩ rfl,?_⟩
  rintro k ⟨hk,hp⟩
  repeat((conv=>whnf);first|apply qza|apply qzb|apply qzc|apply qzd|apply qze|intro(_:Nat))
  conv=>whnf
  refine⟨fun hlt=>?_,fun hlt=>?_⟩
  ·have h':k<w.limbo.length:=by have:=of_decide_eq_true hlt;omega
   obtain⟨x,hx⟩:=qBA h'
   obtain⟨a,rfl,ec,hec,⟨rfl,hxi⟩,hc⟩:=hR1 k x hx
   repeat((conv=>whnf);first|apply qza|apply qzb|apply qzc|apply qzd|apply qze|intro(_:Nat))
   conv=>whnf
   refine⟨a,rfl,⟨by omega,by omega⟩,?_⟩
   repeat((conv=>whnf);first|apply qza|apply qzb|apply qzc|apply qzd|apply qze|intro(_:Nat))
   conv=>whnf
   refine⟨_,hc 0 _ rfl,?_⟩
   repeat((conv=>whnf);first|apply qza|apply qzb|apply qzc|apply qzd|apply qze|intro(_:Nat))
   conv=>whnf
   refine⟨fun he=>?_,fun he=>?_⟩
   ·have hz:qsG w m=true:=by
     unfold qsG
     rw [List.any_eq_true.2 ⟨x,List.mem_of_getElem? hx,by simpa using he⟩]
     rfl
    rw [hz]
    repeat((conv=>whnf);first|apply qza|apply qzb|apply qzc|apply qzd|apply qze|intro(_:Nat))
    conv=>whnf
    intro g2 hg
    rfl
   ·repeat((conv=>whnf);first|apply qza|apply qzb|apply qzc|apply qzd|apply qze|intro(_:Nat))
    conv=>whnf
    refine fun fr w hw=>⟨k+1,congrArg (fun z=>[Value.int .i64 z]) (wr1 h' e1 e2).symm,⟨h',qXK hp hx (by simpa using he)⟩,dec h',?_⟩
    exact hw.fit (by simp [fitL,Res.eqv,qAA,conc])
  have hkL:k=w.limbo.length:=by have:=of_decide_eq_false hlt;omega
  rw [hkL,List.take_length] at hp
  have hz:qsG w m=((m.version==w.current)||decide (m.epoch<0)||decide (w.epoch<m.epoch)):=by unfold qsG;rw [hp];simp
  rw [hz]
  repeat((conv=>whnf);first|apply qza|apply qzb|apply qzc|apply qzd|apply qze|intro(_:Nat))
  conv=>whnf
  refine⟨fun zA=>?_,fun zA=>?_⟩
  ·repeat((conv=>whnf);first|apply qza|apply qzb|apply qzc|apply qzd|apply qze|intro(_:Nat))
   conv=>whnf
   intro g2 hg
   rw [zA];rfl
  repeat((conv=>whnf);first|apply qza|apply qzb|apply qzc|apply qzd|apply qze|intro(_:Nat))
  conv=>whnf
  refine⟨fun zB=>?_,fun zB=>?_⟩
  ·repeat((conv=>whnf);first|apply qza|apply qzb|apply qzc|apply qzd|apply qze|intro(_:Nat))
   conv=>whnf
   intro g2 hg
   rw [zA,zB];rfl
  repeat((conv=>whnf);first|apply qza|apply qzb|apply qzc|apply qzd|apply qze|intro(_:Nat))
  conv=>whnf
  intro g2 hg
  rw [zA,zB];rfl)
/- Worlds: counts of a new world. -/
open Go.Proofs.YtkogfpniapaigaaGreat.Sx Go.RowKit
def qzV (n:Int) (v:Value) (g':GW):Prop :=
 ((1≤n∧n≤8)∧∃ oa cap,v=.tuple #[.slice oa n.toNat cap,.int .i64 0]∧rSl 1 rRow g' (.slice oa n.toNat cap) (qAD n.toNat)) ∨
 (¬ (1≤n∧n≤8)∧v=.tuple #[.slice none 0 0,.int .i64 1])
theorem qTP (g:GW) {n:Int}:Ok Tryz.prog qbP [.int .i64 n] g (qzV n) :=
 Ok.of_fn hm noT 0 q1O (args:=[.v (.int .i64 n)]) (by
  repeat((conv=>whnf);first|apply qza|apply qzb|apply qzc|apply qzd|apply qze|intro(_:Nat))
  conv=>whnf
  refine⟨fun z1=>?_,fun z1=>?_⟩
  ·repeat((conv=>whnf);first|apply qza|apply qzb|apply qzc|apply qzd|apply qze|intro(_:Nat))
   conv=>whnf
   intro g2 hg
   exact .inr ⟨by have:=of_decide_eq_true z1;omega,rfl⟩
  repeat((conv=>whnf);first|apply qza|apply qzb|apply qzc|apply qzd|apply qze|intro(_:Nat))
  conv=>whnf
  refine⟨fun z2=>?_,fun z2=>?_⟩
  ·repeat((conv=>whnf);first|apply qza|apply qzb|apply qzc|apply qzd|apply qze|intro(_:Nat))
   conv=>whnf
   intro g2 hg
   exact .inr ⟨by have:=of_decide_eq_true z2;omega,rfl⟩
  have k1:=of_decide_eq_false z1
  have k2:=of_decide_eq_false z2
  obtain⟨N,rfl⟩:=Int.eq_ofNat_of_zero_le (show 0≤n by omega)
  repeat((conv=>whnf);first|apply qza|apply qzb|apply qzc|apply qzd|apply qze|intro(_:Nat))
  conv=>whnf
  refine⟨⟨by omega,by omega,by omega,by omega⟩,fun _=>?_⟩
  repeat((conv=>whnf);first|apply qza|apply qzb|apply qzc|apply qzd|apply qze|intro(_:Nat))
  rename_i q1
  conv=>whnf
  refine⟨Nat×List (List Value)×GW,fun (k,_,_)=>[.v (.int .i64 k)],fun (k,ecs,g')=>⟨g',[.row 0 (some ⟨q1,0,none⟩) N N qKB 1 (rowK ecs [.slice none 0 0] (N-k))],10,g.w.heap.size⟩,fun (k,ecs,g')=>k≤N∧g≤g'∧rEls 1 rRow g' ecs (qAD k),fun (k,_,_)=>N-k,fun fr w hw=>⟨(0,[],g),rfl,⟨Nat.zero_le _,GW.refl _,qiE _⟩,hw.fit (by simp [fitL,Res.eqv,qAA,conc,rowK])⟩,?_⟩
  rintro⟨k,ecs,g'⟩ ⟨hk,hgg,hE⟩
  have hel:ecs.length=k:=by have:=hE.1.1;simpa [qAD] using this
  have hlen:=qFG (m:=N-k) (z:=[.slice none 0 0]) hE.1.2 rfl
  repeat((conv=>whnf);first|apply qza|apply qzb|apply qzc|apply qzd|apply qze|intro(_:Nat))
  conv=>whnf
  refine⟨fun hlt=>?_,fun hlt=>?_⟩
  ·have h':k<N:=by have:=of_decide_eq_true hlt;omega
   repeat((conv=>whnf);first|apply qza|apply qzb|apply qzc|apply qzd|apply qze|intro(_:Nat))
   conv=>whnf
   refine⟨⟨by decide,by decide,by decide,by decide⟩,fun _=>?_⟩
   repeat((conv=>whnf);first|apply qza|apply qzb|apply qzc|apply qzd|apply qze|intro(_:Nat))
   conv=>whnf
   refine⟨⟨by omega,by omega⟩,?_⟩
   repeat((conv=>whnf);first|apply qza|apply qzb|apply qzc|apply qzd|apply qze|intro(_:Nat))
   rename_i q2
   conv=>whnf
   refine fun g2 hg2 hn2 hp2=>?_
   have hrow:rSl 1 rU64 g2 (.slice (some ⟨q2,0,none⟩) 6 6) [0,0,0,0,0,0]:=qPD hp2.rd [0,0,0,0,0,0] (fun x=>.int .u64 x) rfl fun x hx=>⟨rfl,by simp at hx;subst hx;decide⟩
   have hset:=qEG (m:=N-k) (z:=[.slice none 0 0]) hE.1.2 rfl (by omega) (ec:=[.slice (some ⟨q2,0,none⟩) 6 6]) rfl hel.symm
   have hT:qAD (k+1)=qAD k++[[0,0,0,0,0,0]]:=by simp [qAD,List.range_succ]
   repeat((conv=>whnf);first|apply qza|apply qzb|apply qzc|apply qzd|apply qze|intro(_:Nat))
   conv=>whnf
   refine⟨⟨by rw [hlen,hel];simp;omega,by decide⟩,?_⟩
   repeat((conv=>whnf);first|apply qza|apply qzb|apply qzc|apply qzd|apply qze|intro(_:Nat))
   conv=>whnf
   refine fun fr w hw=>⟨(k+1,ecs++[[.slice (some ⟨q2,0,none⟩) 6 6]],g2),congrArg (fun z=>[Value.int .i64 z]) (by rw [wr (show InR ((k:Int)+1) by unfold InR;omega)];omega),⟨h',GW.trans hgg hg2,by rw [hT];exact qQD (qBD q1A hg2 hE) rfl ⟨_,rfl,hrow⟩⟩,dec h',hw.fit ?_⟩
   rw [show N-(k+1)=N-k-1 by omega,← hset]
   simp [fitL,Res.eqv,qAA,conc]
  have hkN:k=N:=by have:=of_decide_eq_false hlt;omega
  subst hkN
  repeat((conv=>whnf);first|apply qza|apply qzb|apply qzc|apply qzd|apply qze|intro(_:Nat))
  conv=>whnf
  refine fun g2 hg2 hn2 hp2=>?_
  rw [Nat.sub_self,qlF] at hp2
  have hSl:=qfH (qBD q1A hg2 hE) hp2 (by simp [qAD])
  repeat((conv=>whnf);first|apply qza|apply qzb|apply qzc|apply qzd|apply qze|intro(_:Nat))
  conv=>whnf
  intro g2 hg
  exact .inl ⟨⟨by omega,by omega⟩,_,_,rfl,hSl.mono q1A hg⟩)
/- Slots and counts: the document's new ones. -/
open Go.Proofs.YtkogfpniapaigaaGreat.Sx Go.RowKit
theorem q3R (g:GW) {n:Int}:Ok Tryz.prog qlG [.int .i64 n] g (q3T n) :=
 Ok.of_fn hm noT 0 qWG (args:=[.v (.int .i64 n)]) (by
  repeat((conv=>whnf);first|apply qza|apply qzb|apply qzc|apply qzd|apply qze|intro(_:Nat)|intro(_:OA)_)
  rename_i q0
  conv=>whnf
  refine⟨fun z1=>?_,fun z1=>?_⟩
  ·repeat((conv=>whnf);first|apply qza|apply qzb|apply qzc|apply qzd|apply qze|intro(_:Nat)|intro(_:OA)_)
   conv=>whnf
   intro g2 hg
   exact .inr ⟨by have:=of_decide_eq_true z1;omega,rfl⟩
  repeat((conv=>whnf);first|apply qza|apply qzb|apply qzc|apply qzd|apply qze|intro(_:Nat)|intro(_:OA)_)
  conv=>whnf
  refine⟨fun z2=>?_,fun z2=>?_⟩
  ·repeat((conv=>whnf);first|apply qza|apply qzb|apply qzc|apply qzd|apply qze|intro(_:Nat)|intro(_:OA)_)
   conv=>whnf
   intro g2 hg
   exact .inr ⟨by have:=of_decide_eq_true z2;omega,rfl⟩
  have k1:=of_decide_eq_false z1
  have k2:=of_decide_eq_false z2
  obtain⟨N,rfl⟩:=Int.eq_ofNat_of_zero_le (show 0≤n by omega)
  repeat((conv=>whnf);first|apply qza|apply qzb|apply qzc|apply qzd|apply qze|intro(_:Nat)|intro(_:OA)_)
  rename_i q1
  conv=>whnf
  refine⟨Nat×Option Addr×Nat,fun (k,_,_)=>[.v (.int .i64 ((k:Int)+1))],fun (k,oX,cX)=>⟨g,[.row 10 oX k cX qNA 1 (upE k).flatten,.blk 1 q1 qSA [.v (.int .u64 1),.row 10 oX k cX,.v (.int .i64 0)],.blk 0 q0 qSA [.v (.int .u64 0),.v (.slice none 0 0),.v (.int .i64 0)]],20,g.w.heap.size⟩,fun (k,_,_)=>k+1≤N,fun (k,_,_)=>N-(k+1),fun fr w hw=>⟨(0,none,0),rfl,by show 0+1≤N;omega,(hw.nil_row (nx':=20) 10 qNA 1).fit (by simp [fitL,Res.eqv,qAA,conc,upE])⟩,?_⟩
  rintro⟨k,oX,cX⟩ hk
  replace hk:k+1≤N:=hk
  repeat((conv=>whnf);first|apply qza|apply qzb|apply qzc|apply qzd|apply qze|intro(_:Nat)|intro(_:OA)_)
  conv=>whnf
  refine⟨fun hlt=>?_,fun hlt=>?_⟩
  ·have h':k+1<N:=by have h9:(k:Int)+1<N:=of_decide_eq_true hlt;omega
   repeat((conv=>whnf);first|apply qza|apply qzb|apply qzc|apply qzd|apply qze|intro(_:Nat)|intro(_:OA)_)
   conv=>whnf
   refine⟨⟨by unfold maxLen;omega,by omega⟩,fun oa2 cap2=>?_⟩
   repeat((conv=>whnf);first|apply qza|apply qzb|apply qzc|apply qzd|apply qze|intro(_:Nat)|intro(_:OA)_)
   conv=>whnf
   refine fun fr w hw=>⟨(k+1,oa2,cap2),congrArg (fun z=>[Value.int .i64 z]) (show((k+1:Nat):Int)+1=IntKind.i64.wrap ((k:Int)+1+1) by rw [wr (x:=(k:Int)+1+1) (by unfold InR;omega)];omega),(show k+1+1≤N by omega),(by show N-(k+1+1)<N-(k+1);omega),hw.fit (by rw [qzP];simp [fitL,Res.eqv,qAA,conc])⟩
  have hkN:k+1=N:=by have h9:¬ (k:Int)+1<N:=of_decide_eq_false hlt;omega
  subst hkN
  repeat((conv=>whnf);first|apply qza|apply qzb|apply qzc|apply qzd|apply qze|intro(_:Nat)|intro(_:OA)_)
  conv=>whnf
  refine⟨⟨by unfold maxLen;omega,by omega⟩,fun oa3 cap3=>?_⟩
  repeat((conv=>whnf);first|apply qza|apply qzb|apply qzc|apply qzd|apply qze|intro(_:Nat)|intro(_:OA)_)
  conv=>whnf
  refine fun g1 hg1 hn1 hp1=>?_
  repeat((conv=>whnf);first|apply qza|apply qzb|apply qzc|apply qzd|apply qze|intro(_:Nat)|intro(_:OA)_)
  conv=>whnf
  intro g2 hg
  refine .inl ⟨⟨by omega,by omega⟩,_,_,rfl,?_⟩
  have hN:k=0∨k=1∨k=2∨k=3:=by omega
  rcases hN with rfl|rfl|rfl|rfl
  all_goals exact(qPD hp1.rd (q6A _).next (fun x=>.int .i64 x) rfl fun x hx=>⟨rfl,by simp [q6A,List.range,List.range.loop] at hx;unfold InR;omega⟩).mono qhA hg)
/- Counts: the document's new ones. -/
open Go.Proofs.YtkogfpniapaigaaGreat.Sx Go.RowKit
/- Worlds: the document's cells of a snapshot. -/
open Go.Proofs.YtkogfpniapaigaaGreat.Sx Go.RowKit
theorem q4R (g:GW) {cs:List Value} {s:Snap} (hs:qnF g cs s) (hsz:SnS s):Ok Tryz.prog qiG [.agg ⟨cs⟩] g (q5T s):=by
 have hs0:=hs
 obtain⟨a,b,d,rfl,hl,hr,hk⟩:=hs
 obtain⟨oa,ca,rfl,a1,a2,a0,hl1⟩:=id hl
 obtain⟨ob,cb,rfl,b1,b2,b0,hr1⟩:=id hr
 obtain⟨od,cd,rfl,d1,d2,d0,hk1⟩:=id hk
 exact Ok.of_fn hm noT 0 qTG (args:=[.v (.agg ⟨[.slice oa s.listens.length ca,.slice ob s.rules.length cb,.slice od s.clusters.length cd]⟩)]) (by
  repeat((conv=>whnf);first|apply qza|apply qzb|apply qzc|apply qzd|apply qze|intro(_:Nat)|intro(_:OA)_)
  conv=>whnf
  refine .inl ⟨_,qyR _ hs0 hsz,?_⟩
  repeat((conv=>whnf);first|apply qza|apply qzb|apply qzc|apply qzd|apply qze|intro(_:Nat)|intro(_:OA)_)
  conv=>whnf
  refine⟨fun z1=>?_,fun z1=>?_⟩
  ·repeat((conv=>whnf);first|apply qza|apply qzb|apply qzc|apply qzd|apply qze|intro(_:Nat)|intro(_:OA)_)
   conv=>whnf
   intro g2 hg
   refine .inr ⟨fun h=>?_,rfl⟩
   rw [qOK h] at z1;cases z1
  have hz:=eqB_iff.1 (nb0 z1)
  have G:=good_iff.1 hz
  have hclL:s.clusters.length≤4:=G.size.2.2.2
  have hcl:∀ x∈s.clusters,(1≤x.slots∧x.slots≤4)∧(1≤x.health.length∧x.health.length≤4):=fun x hx=>(G.cl x hx).2.2
  repeat((conv=>whnf);first|apply qza|apply qzb|apply qzc|apply qzd|apply qze|intro(_:Nat)|intro(_:OA)_)
  rename_i q0 q1 q2
  conv=>whnf
  refine⟨Nat×List (List Value)×Option Addr×Nat×GW,fun (k,_,_,_,_)=>[.v (.int .i64 k)],fun (k,ecs,oX,cX,g')=>⟨g',[.row 10 oX k cX qLA 2 ecs.flatten,.blk 2 q2 qCA [.v (.slice oa s.listens.length ca),.v (.slice ob s.rules.length cb),.v (.slice od s.clusters.length cd),.row 10 oX k cX,.v (.bool false)],.blk 1 q1 qCA [.v (.slice none 0 0),.v (.slice none 0 0),.v (.slice none 0 0),.v (.slice none 0 0),.v (.bool false)],.blk 0 q0 qPA [.v (.slice oa s.listens.length ca),.v (.slice ob s.rules.length cb),.v (.slice od s.clusters.length cd)]],20,g.w.heap.size⟩,fun (k,ecs,_,_,g')=>k≤s.clusters.length∧g≤g'∧rEls 2 rGr g' ecs ((s.clusters.take k).map fun c=>(⟨0,c.health.map fun _=>q6A c.slots.toNat⟩:Group)),fun (k,_,_,_,_)=>s.clusters.length-k,fun fr w hw=>⟨(0,[],none,0,g),rfl,⟨Nat.zero_le _,GW.refl _,qiE _⟩,(hw.nil_row (nx':=20) 10 qLA 2).fit (by simp [fitL,Res.eqv,qAA,conc])⟩,?_⟩
  rintro⟨k,ecs,oX,cX,g'⟩ ⟨hkk,hgg,hE⟩
  repeat((conv=>whnf);first|apply qza|apply qzb|apply qzc|apply qzd|apply qze|intro(_:Nat)|intro(_:OA)_)
  conv=>whnf
  refine⟨fun hlt=>?_,fun hlt=>?_⟩
  ·have h':k<s.clusters.length:=by have:=of_decide_eq_true hlt;omega
   obtain⟨x,hx⟩:=qBA h'
   obtain⟨x1,x2⟩:=List.getElem?_eq_some_iff.1 hx
   have hxc:=hcl x (List.mem_of_getElem? hx)
   obtain⟨a,rfl,ec,hec,⟨hv,rfl,_,_,⟨oh,ch,rfl,t1,t2,_⟩⟩,hc⟩:=hk1 k x hx
   repeat((conv=>whnf);first|apply qza|apply qzb|apply qzc|apply qzd|apply qze|intro(_:Nat)|intro(_:OA)_)
   rename_i qg
   conv=>whnf
   refine⟨Nat×List (List Value)×Option Addr×Nat×GW,fun (n,_,_,_,_)=>[.v (.int .i64 n)],fun (n,ecs2,oE,cE,g2)=>⟨g2,[.row 30 oE n cE qSA 3 ecs2.flatten,.blk 20 qg qLA [.v (.int .u64 0),.row 30 oE n cE],.row 10 oX k cX qLA 2 ecs.flatten,.blk 2 q2 qCA [.v (.slice oa s.listens.length ca),.v (.slice ob s.rules.length cb),.v (.slice (some a) s.clusters.length cd),.row 10 oX k cX,.v (.bool false)],.blk 1 q1 qCA [.v (.slice none 0 0),.v (.slice none 0 0),.v (.slice none 0 0),.v (.slice none 0 0),.v (.bool false)],.blk 0 q0 qPA [.v (.slice oa s.listens.length ca),.v (.slice ob s.rules.length cb),.v (.slice (some a) s.clusters.length cd)]],40,g.w.heap.size⟩,fun (n,ecs2,_,_,g2)=>n≤x.health.length∧g'≤g2∧rEls 3 rEn g2 ecs2 ((x.health.take n).map fun _=>q6A x.slots.toNat),fun (n,_,_,_,_)=>x.health.length-n,fun fr w hw=>⟨(0,[],none,0,g'),rfl,⟨Nat.zero_le _,GW.refl _,qiE _⟩,(hw.nil_row (nx':=40) 30 qSA 3).fit (by simp [fitL,Res.eqv,qAA,conc])⟩,?_⟩
   rintro⟨n,ecs2,oE,cE,g2⟩ ⟨hn,hg2,hE2⟩
   have hcm:=hc.mono (GW.trans hgg hg2)
   repeat((conv=>whnf);first|apply qza|apply qzb|apply qzc|apply qzd|apply qze|intro(_:Nat)|intro(_:OA)_)
   conv=>whnf
   refine⟨_,rfl,⟨by omega,by omega⟩,?_⟩
   repeat((conv=>whnf);first|apply qza|apply qzb|apply qzc|apply qzd|apply qze|intro(_:Nat)|intro(_:OA)_)
   conv=>whnf
   refine⟨_,hcm 3 _ rfl,?_⟩
   repeat((conv=>whnf);first|apply qza|apply qzb|apply qzc|apply qzd|apply qze|intro(_:Nat)|intro(_:OA)_)
   conv=>whnf
   refine⟨fun hln=>?_,fun hln=>?_⟩
   ·have h2:n<x.health.length:=by have:=of_decide_eq_true hln;omega
    repeat((conv=>whnf);first|apply qza|apply qzb|apply qzc|apply qzd|apply qze|intro(_:Nat)|intro(_:OA)_)
    conv=>whnf
    refine⟨_,rfl,⟨by omega,by omega⟩,?_⟩
    repeat((conv=>whnf);first|apply qza|apply qzb|apply qzc|apply qzd|apply qze|intro(_:Nat)|intro(_:OA)_)
    conv=>whnf
    refine⟨_,hcm 2 _ rfl,?_⟩
    repeat((conv=>whnf);first|apply qza|apply qzb|apply qzc|apply qzd|apply qze|intro(_:Nat)|intro(_:OA)_)
    refine .inr ((q3R _).mono fun v g3 hg3 hF=>?_)
    rcases hF with ⟨_,oF,cF,rfl,hF⟩|⟨hF,_⟩
    rotate_left
    ·exact absurd hxc.1 hF
    have hEn:=qKQ hxc.1 hF
    have hT:((x.health.take (n+1)).map fun _=>q6A x.slots.toNat)=((x.health.take n).map fun _=>q6A x.slots.toNat)++[q6A x.slots.toNat]:=by
     rw [List.take_succ_eq_append_getElem h2,List.map_append];rfl
    repeat((conv=>whnf);first|apply qza|apply qzb|apply qzc|apply qzd|apply qze|intro(_:Nat)|intro(_:OA)_)
    conv=>whnf
    refine⟨⟨by unfold maxLen;omega,by omega⟩,fun oa2 cap2=>?_⟩
    repeat((conv=>whnf);first|apply qza|apply qzb|apply qzc|apply qzd|apply qze|intro(_:Nat)|intro(_:OA)_)
    conv=>whnf
    refine fun fr w hw=>⟨(n+1,ecs2++[[.int .u64 1,.slice oF x.slots.toNat cF,.int .i64 0]],oa2,cap2,g3),congrArg (fun z=>[Value.int .i64 z]) (wr1 h2 t1 t2).symm,⟨h2,GW.trans hg2 hg3,by rw [hT];exact qQD (qBD qxC hg3 hE2) rfl hEn⟩,dec h2,hw.fit (by simp [fitL,Res.eqv,qAA,conc])⟩
   have hnL:n=x.health.length:=by have:=of_decide_eq_false hln;omega
   subst hnL
   rw [List.take_length] at hE2
   have hT:((s.clusters.take (k+1)).map fun c=>(⟨0,c.health.map fun _=>q6A c.slots.toNat⟩:Group))=((s.clusters.take k).map fun c=>(⟨0,c.health.map fun _=>q6A c.slots.toNat⟩:Group))++[⟨0,x.health.map fun _=>q6A x.slots.toNat⟩]:=by
    rw [List.take_succ_eq_append_getElem x1,List.map_append,x2];rfl
   repeat((conv=>whnf);first|apply qza|apply qzb|apply qzc|apply qzd|apply qze|intro(_:Nat)|intro(_:OA)_)
   conv=>whnf
   refine fun g3 hg3 hn3 hp3=>?_
   have hSl:=qfH (qBD qxC hg3 hE2) hp3 (by simp)
   repeat((conv=>whnf);first|apply qza|apply qzb|apply qzc|apply qzd|apply qze|intro(_:Nat)|intro(_:OA)_)
   conv=>whnf
   refine⟨⟨by unfold maxLen;omega,by omega⟩,fun oa2 cap2=>?_⟩
   repeat((conv=>whnf);first|apply qza|apply qzb|apply qzc|apply qzd|apply qze|intro(_:Nat)|intro(_:OA)_)
   conv=>whnf
   refine fun fr w hw=>⟨(k+1,ecs++[[.int .u64 0,.slice oE x.health.length cE]],oa2,cap2,g3),congrArg (fun z=>[Value.int .i64 z]) (wr1 h' d1 d2).symm,⟨h',GW.trans hgg (GW.trans hg2 hg3),by rw [hT];exact qQD (qBD qwC (GW.trans hg2 hg3) hE) rfl ⟨_,rfl,show InU 0 by decide,hSl⟩⟩,dec h',hw.fit (by simp [fitL,Res.eqv,qAA,conc])⟩
  have hkL:k=s.clusters.length:=by have:=of_decide_eq_false hlt;omega
  subst hkL
  rw [List.take_length] at hE
  repeat((conv=>whnf);first|apply qza|apply qzb|apply qzc|apply qzd|apply qze|intro(_:Nat)|intro(_:OA)_)
  conv=>whnf
  refine fun g3 hg3 hn3 hp3=>?_
  have hSl:=qfH (qBD qwC hg3 hE) hp3 (by simp)
  repeat((conv=>whnf);first|apply qza|apply qzb|apply qzc|apply qzd|apply qze|intro(_:Nat)|intro(_:OA)_)
  conv=>whnf
  intro g2 hg
  exact .inl ⟨hz,_,_,_,_,_,_,rfl,⟨_,_,_,_,rfl,qkB _ _ _ _ (GW.trans hgg (GW.trans hg3 hg)) hs0,hSl.mono qwC hg⟩⟩)
end Go.Proofs.YtkogfpniapaigaaGreat
