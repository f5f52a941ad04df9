/- Pins: the document's step. -/
import Derived.Test.YthonngjhelcpeaaGreatLW9r
import Derived.Test.YthonngjhelcpeaaGreatPl
import Derived.Test.YthonngjhelcpeaaGreatLW20p20
set_option linter.unusedVariables false
set_option linter.unusedSimpArgs false
namespace Go.Proofs.YthonngjhelcpeaaGreat
open Go.Proofs.YthonngjhelcpeaaGreat.Sx Go.RowKit
set_option maxHeartbeats 16000000
set_option maxRecDepth 100000
theorem qfV {w:Wd} {m:Mach} (h:qSE w m=false∨(m.pc≠0∧m.pc≠1∧m.pc≠2)):pinE w m=ev0∧pinW w m=w∧pinM w m=m:=by
 unfold pinE pinW pinM
 rcases h with h|h
 ·rw [h];exact⟨rfl,rfl,rfl⟩
 ·rw [if_neg (c:=qSE w m=true∧m.pc=1) (by omega)]
  refine⟨?_,rfl,?_⟩
  ·split
   ·rw [if_neg (by omega),if_neg (by omega)]
   ·rfl
  ·split
   ·rw [if_neg (by omega),if_neg (by omega),if_neg (by omega)]
   ·rfl
theorem qtW (g:GW) {cs ms:List Value} {w:Wd} {m:Mach} (hw:rWo g cs w) (hM:qfA g ms m) (hsn:SnW w) (hb:BgW 1000000 w):Ok Tryz.prog q0J [.agg ⟨cs⟩,.agg ⟨ms⟩] g (qDV w m):=by
 obtain⟨oa,ca,ob,cb,oc,cc,od,cd,oe,ce,o1,t1,o2,t2,o3,t3,rfl,rfl,hw0,hM0,⟨i1,i2,i3⟩,hP,hV,hL,hC,hR,⟨a1,a2,a0,hP1⟩,⟨b1,b2,b0,hV1⟩,⟨c1,c2,c0,hL1⟩,⟨d1,d2,d0,hC1⟩,⟨e1,e2,e0,hR1⟩,hok,hop,hcf⟩:=qoB hw hM
 exact Ok.of_fn hm noT 0 qTJ (args:=[.v (.agg ⟨wQ w oa ca ob cb oc cc od cd oe ce⟩),.v (.agg ⟨mQ m o1 t1 o2 t2 o3 t3⟩)]) (by
  repeat((conv=>whnf);first|refine qz ?_|intro(_:Nat))
  conv=>whnf
  refine .inl ⟨_,qmA _ hw0 hM0 hsn hb,?_⟩
  repeat((conv=>whnf);first|refine qz ?_|intro(_:Nat))
  conv=>whnf
  refine⟨fun z1=>?_,fun z1=>?_⟩
  ·repeat((conv=>whnf);first|refine qz ?_|intro(_:Nat))
   conv=>whnf
   intro g2 hg
   obtain⟨hE,hWd,hMm⟩:=qfV (w:=w) (m:=m) (.inl (nb1 z1))
   exact⟨_,_,by rw [hE];rfl,by rw [hWd];exact qDA _ _ _ _ hg hw0,by rw [hMm];exact qXA _ _ _ _ hg hM0⟩
  have hs:=nb0 z1
  repeat((conv=>whnf);first|refine qz ?_|intro(_:Nat))
  conv=>whnf
  refine⟨fun z2=>?_,fun z2=>?_⟩
  ·repeat((conv=>whnf);first|refine qz ?_|intro(_:Nat))
   conv=>whnf
   intro g2 hg
   obtain⟨hE,hWd,hMm⟩:=qfV (w:=w) (m:=m) (.inr (by have:=of_decide_eq_true z2;omega))
   exact⟨_,_,by rw [hE];rfl,by rw [hWd];exact qDA _ _ _ _ hg hw0,by rw [hMm];exact qXA _ _ _ _ hg hM0⟩
  have k2:=of_decide_eq_false z2
  repeat((conv=>whnf);first|refine qz ?_|intro(_:Nat))
  conv=>whnf
  refine⟨fun z3=>?_,fun z3=>?_⟩
  ·repeat((conv=>whnf);first|refine qz ?_|intro(_:Nat))
   conv=>whnf
   intro g2 hg
   obtain⟨hE,hWd,hMm⟩:=qfV (w:=w) (m:=m) (.inr (by have:=of_decide_eq_true z3;omega))
   exact⟨_,_,by rw [hE];rfl,by rw [hWd];exact qDA _ _ _ _ hg hw0,by rw [hMm];exact qXA _ _ _ _ hg hM0⟩
  have k3:=of_decide_eq_false z3
  repeat((conv=>whnf);first|refine qz ?_|intro(_:Nat))
  refine .inr ((qzA _ hw0 hb).mono fun v g3 hg3 hO=>?_)
  obtain⟨cs,T,rfl,hT⟩:=hO
  have hT0:=hT
  obtain⟨p,q,r',s',t',rfl,_,_,h5,h1,h2,h3,h4⟩:=hT0
  obtain⟨oa',ca',rfl⟩:=qQA h5
  obtain⟨ob',cb',rfl⟩:=qQA h1
  obtain⟨oc',cc',rfl⟩:=qQA h2
  obtain⟨od',cd',rfl⟩:=qQA h3
  obtain⟨oe',ce',rfl⟩:=qQA h4
  clear hP hV hL hC hR hP1 hV1 hL1 hC1 hR1 a0 b0 c0 d0 e0 h1 h2 h3 h4 h5
  repeat((conv=>whnf);first|refine qz ?_|intro(_:Nat))
  conv=>whnf
  refine⟨fun z4=>?_,fun z4=>?_⟩
  ·have h0:m.pc=0:=by simpa using z4
   repeat((conv=>whnf);first|refine qz ?_|intro(_:Nat))
   conv=>whnf
   intro g2 hg
   have hE:pinE w m=⟨m.thread,0,1,1,-1,false,w.epoch,false,false,false,ans0⟩:=(qCF hs).1 (.inl h0)
   have hWd:pinW w m=w:=(qBF hs).1 (by omega)
   have hMm:pinM w m={m with epoch:=w.epoch,pc:=1}:=(qJC hs).1 h0
   refine⟨_,_,by rw [hE];rfl,by rw [hWd];exact qDA _ _ _ _ hg (qTA hT),?_⟩
   rw [hMm]
   exact⟨_,_,_,rfl,{hok with epoch:=i1,pc:=show InR (1:Int) by decide},hop,qCA _ _ _ _ (GW.trans hg3 hg) hcf⟩
  have n0:m.pc≠0:=by simpa using z4
  repeat((conv=>whnf);first|refine qz ?_|intro(_:Nat))
  conv=>whnf
  refine⟨fun z5=>?_,fun z5=>?_⟩
  ·have h1:m.pc=1:=by simpa using z5
   obtain⟨_,_,_,hS⟩:=suitB_iff.1 hs
   have hth:=hS.thread
   obtain⟨x,hx⟩:=qAA (l:=w.pins) (i:=m.thread.toNat) (by omega)
   obtain⟨bk,cap,hv,b5,j5,bc,ty5,⟨hA,p1,p2,p3,p4⟩,_,hk5⟩:=qRQ hT hx (x':=IntKind.i64.wrap (m.epoch+1)) (q4G _)
   cases hv
   cases hA
   repeat((conv=>whnf);first|refine qz ?_|intro(_:Nat))
   conv=>whnf
   refine⟨_,rfl,⟨by omega,by omega⟩,?_⟩
   repeat((conv=>whnf);first|refine qz ?_|intro(_:Nat))
   conv=>whnf
   refine⟨bk,m.thread.toNat,bc,ty5,⟨by simp [qsA],p1,p2,p3,p4⟩,?_⟩
   repeat((conv=>whnf);first|refine qz ?_|intro(_:Nat))
   conv=>whnf
   refine fun g6 u6=>?_
   have hF:=qTA (hk5 g6 u6)
   have hle6:g≤g6:=u6.le hg3 (fun h=>by have:=g.wf _ h;omega)
   repeat((conv=>whnf);first|refine qz ?_|intro(_:Nat))
   conv=>whnf
   intro g2 hg
   have hE:pinE w m=⟨m.thread,0,2,2,-1,false,IntKind.i64.wrap (m.epoch+1),false,false,false,ans0⟩:=(qCF hs).2.1 h1
   have hWd:pinW w m={w with pins:=w.pins.set m.thread.toNat (IntKind.i64.wrap (m.epoch+1))}:=(qBF hs).2 h1
   have hMm:pinM w m={m with pc:=2}:=(qJC hs).2.1 h1
   refine⟨_,_,by rw [hE];rfl,by rw [hWd];exact qDA _ _ _ _ hg hF,?_⟩
   rw [hMm]
   exact⟨_,_,_,rfl,{hok with pc:=show InR (2:Int) by decide},hop,qCA _ _ _ _ (GW.trans hle6 hg) hcf⟩
  have n1:m.pc≠1:=by simpa using z5
  have h2:m.pc=2:=by omega
  repeat((conv=>whnf);first|refine qz ?_|intro(_:Nat))
  conv=>whnf
  refine⟨fun z6=>?_,fun z6=>?_⟩
  ·have he:w.epoch≠m.epoch:=by simpa using z6
   repeat((conv=>whnf);first|refine qz ?_|intro(_:Nat))
   conv=>whnf
   intro g2 hg
   have hE:pinE w m=⟨m.thread,0,1,1,-1,false,w.epoch,false,false,false,ans0⟩:=(qCF hs).1 (.inr h2)
   have hWd:pinW w m=w:=(qBF hs).1 n1
   have hMm:pinM w m={m with epoch:=w.epoch,pc:=1}:=by rw [(qJC hs).2.2.1 h2,if_neg he]
   refine⟨_,_,by rw [hE];rfl,by rw [hWd];exact qDA _ _ _ _ hg (qTA hT),?_⟩
   rw [hMm]
   exact⟨_,_,_,rfl,{hok with epoch:=i1,pc:=show InR (1:Int) by decide},hop,qCA _ _ _ _ (GW.trans hg3 hg) hcf⟩
  ·have he:w.epoch=m.epoch:=by simpa using z6
   repeat((conv=>whnf);first|refine qz ?_|intro(_:Nat))
   conv=>whnf
   intro g2 hg
   have hE:pinE w m=⟨m.thread,0,1,1,-1,false,w.epoch,false,false,false,ans0⟩:=(qCF hs).1 (.inr h2)
   have hWd:pinW w m=w:=(qBF hs).1 n1
   have hMm:pinM w m={m with epoch:=w.epoch,pc:=3}:=by rw [(qJC hs).2.2.1 h2,if_pos he]
   refine⟨_,_,by rw [hE];rfl,by rw [hWd];exact qDA _ _ _ _ hg (qTA hT),?_⟩
   rw [hMm]
   exact⟨_,_,_,rfl,{hok with epoch:=i1,pc:=show InR (3:Int) by decide},hop,qCA _ _ _ _ (GW.trans hg3 hg) hcf⟩)
/- Requests: the document's step,elsewhere. -/
open Go.Proofs.YthonngjhelcpeaaGreat.Sx Go.RowKit
theorem qMZ (g:GW) {cs ms:List Value} {w:Wd} {m:Mach} (hw:rWo g cs w) (hM:qfA g ms m) (hsn:SnW w) (hb:BgW 1000000 w) (hp:0≤m.pc∧m.pc<3) (hs:qSE w m=true):Ok Tryz.prog qJA [.agg ⟨cs⟩,.agg ⟨ms⟩] g (HaP w m):=by
 obtain⟨oa,ca,ob,cb,oc,cc,od,cd,oe,ce,o1,t1,o2,t2,o3,t3,rfl,rfl,hw0,hM0,⟨i1,i2,i3⟩,hP,hV,hL,hC,hR,⟨a1,a2,a0,hP1⟩,⟨b1,b2,b0,hV1⟩,⟨c1,c2,c0,hL1⟩,⟨d1,d2,d0,hC1⟩,⟨e1,e2,e0,hR1⟩,hok,hop,hcf⟩:=qoB hw hM
 exact Ok.of_fn hm qyD 5 qLA (args:=[.v (.agg ⟨wQ w oa ca ob cb oc cc od cd oe ce⟩),.v (.agg ⟨mQ m o1 t1 o2 t2 o3 t3⟩)]) (by
  repeat((conv=>whnf);first|refine qz ?_|intro(_:Nat))
  conv=>whnf
  refine .inl ⟨_,qmA _ hw0 hM0 hsn hb,?_⟩
  repeat((conv=>whnf);first|refine qz ?_|intro(_:Nat))
  conv=>whnf
  refine⟨fun hx=>absurd (hs.symm.trans (nb1 hx)) (by decide),fun _=>?_⟩
  repeat((conv=>whnf);first|refine qz ?_|intro(_:Nat))
  conv=>whnf
  refine dF (by omega) ?_
  repeat((conv=>whnf);first|refine qz ?_|intro(_:Nat))
  conv=>whnf
  refine dF (by omega) ?_
  repeat((conv=>whnf);first|refine qz ?_|intro(_:Nat))
  conv=>whnf
  refine dF (by omega) ?_
  repeat((conv=>whnf);first|refine qz ?_|intro(_:Nat))
  conv=>whnf
  refine⟨fun _=>?_,fun _=>?_⟩
  case' refine_1 =>
   repeat((conv=>whnf);first|refine qz ?_|intro(_:Nat))
   conv=>whnf
   refine⟨fun hx=>absurd hx (by simp;omega),fun _=>?_⟩
   repeat((conv=>whnf);first|refine qz ?_|intro(_:Nat))
   conv=>whnf
   refine⟨fun hx=>absurd hx (by simp;omega),fun _=>?_⟩
   repeat((conv=>whnf);first|refine qz ?_|intro(_:Nat))
   conv=>whnf
   refine⟨fun hx=>absurd hx (by simp;omega),fun _=>?_⟩
  all_goals (
   repeat((conv=>whnf);first|refine qz ?_|intro(_:Nat))
   conv=>whnf
   refine dT (by omega) ?_
   repeat((conv=>whnf);first|refine qz ?_|intro(_:Nat))
   refine .inr ((qtW _ hw0 hM0 hsn hb).mono fun v4 g4 hg4 hO=>?_)
   obtain⟨cs4,ms4,rfl,hO,hO2⟩:=hO
   obtain⟨_,_,_,_,_,_,_,_,_,_,rfl⟩:=qMA hO
   obtain⟨_,_,_,_,_,_,rfl⟩:=q6A hO2
   repeat'((conv=>whnf);first|apply qza|apply qzb|apply qzc|apply qzd|apply qze|intro(_:Nat)|refine And.intro ?_ ?_|fail)
   all_goals (conv=>whnf)
   all_goals (first|exact Eq.refl _|(
   intro g2 hg
   obtain⟨k1,k2,k3⟩:=qzT hp
   exact⟨_,_,by rw [k3],by rw [k1];exact qDA _ _ _ _ hg hO,by rw [k2];exact qXA _ _ _ _ hg hO2⟩))))
theorem qNZ (g:GW) {cs ms:List Value} {w:Wd} {m:Mach} (hw:rWo g cs w) (hM:qfA g ms m) (hsn:SnW w) (hb:BgW 1000000 w) (hgo:¬ hGo w m):Ok Tryz.prog qJA [.agg ⟨cs⟩,.agg ⟨ms⟩] g (HaP w m):=by
 obtain⟨oa,ca,ob,cb,oc,cc,od,cd,oe,ce,o1,t1,o2,t2,o3,t3,rfl,rfl,hw0,hM0,⟨i1,i2,i3⟩,hP,hV,hL,hC,hR,⟨a1,a2,a0,hP1⟩,⟨b1,b2,b0,hV1⟩,⟨c1,c2,c0,hL1⟩,⟨d1,d2,d0,hC1⟩,⟨e1,e2,e0,hR1⟩,hok,hop,hcf⟩:=qoB hw hM
 exact Ok.of_fn hm qyD 5 qLA (args:=[.v (.agg ⟨wQ w oa ca ob cb oc cc od cd oe ce⟩),.v (.agg ⟨mQ m o1 t1 o2 t2 o3 t3⟩)]) (by
  repeat((conv=>whnf);first|refine qz ?_|intro(_:Nat))
  conv=>whnf
  refine .inl ⟨_,qmA _ hw0 hM0 hsn hb,?_⟩
  repeat((conv=>whnf);first|refine qz ?_|intro(_:Nat))
  have fin:∀ g2,g≤g2→∃ cs ms,Value.tuple #[.agg ⟨wQ w oa ca ob cb oc cc od cd oe ce⟩,.agg ⟨mQ m o1 t1 o2 t2 o3 t3⟩,.agg ⟨ev0.cs⟩]=.tuple #[.agg ⟨cs⟩,.agg ⟨ms⟩,.agg ⟨(hsE w m).cs⟩]∧rWo g2 cs (hsW w m)∧qfA g2 ms (hsM w m):=by
   intro g2 hg
   obtain⟨k1,k2,k3⟩:=qNX hgo
   exact⟨_,_,by rw [k3]<;>rfl,by rw [k1];exact qDA _ _ _ _ hg hw0,by rw [k2];exact qXA _ _ _ _ hg hM0⟩
  refine And.intro (fun z3=>?_) (fun z3=>?_)
  ·repeat'((conv=>whnf);first|apply qza|apply qzb|apply qzc|apply qzd|apply qze|intro(_:Nat)|refine And.intro ?_ ?_|fail)
   all_goals (conv=>whnf)
   all_goals (first|exact Eq.refl _|exact fin)
  have hs:=nb0 z3
  repeat((conv=>whnf);first|refine qz ?_|intro(_:Nat))
  refine And.intro (fun z1=>?_) (fun z1=>?_)
  ·repeat'((conv=>whnf);first|apply qza|apply qzb|apply qzc|apply qzd|apply qze|intro(_:Nat)|refine And.intro ?_ ?_|fail)
   all_goals (conv=>whnf)
   all_goals (first|exact Eq.refl _|exact fin)
  have z1:=of_decide_eq_false z1
  repeat((conv=>whnf);first|refine qz ?_|intro(_:Nat))
  refine And.intro (fun z2=>?_) (fun z2=>?_)
  ·repeat'((conv=>whnf);first|apply qza|apply qzb|apply qzc|apply qzd|apply qze|intro(_:Nat)|refine And.intro ?_ ?_|fail)
   all_goals (conv=>whnf)
   all_goals (first|exact Eq.refl _|exact fin)
  have z2:=of_decide_eq_false z2
  repeat((conv=>whnf);first|refine qz ?_|intro(_:Nat))
  refine And.intro (fun z4=>?_) (fun z4=>?_)
  ·have z4:=of_decide_eq_true z4
   repeat((conv=>whnf);first|refine qz ?_|intro(_:Nat))
   refine And.intro (fun z5=>?_) (fun z5=>?_)
   ·repeat'((conv=>whnf);first|apply qza|apply qzb|apply qzc|apply qzd|apply qze|intro(_:Nat)|refine And.intro ?_ ?_|fail)
    all_goals (conv=>whnf)
    all_goals (first|exact Eq.refl _|exact fin)
   have z5:=of_decide_eq_false z5
   repeat((conv=>whnf);first|refine qz ?_|intro(_:Nat))
   refine And.intro (fun z6=>?_) (fun z6=>?_)
   rotate_left
   ·have z6:=of_decide_eq_false z6
    exact absurd ⟨hs,by omega,by omega⟩ hgo
   have z6:=of_decide_eq_true z6
   repeat((conv=>whnf);first|refine qz ?_|intro(_:Nat))
   refine And.intro (fun z7=>?_) (fun z7=>?_)
   ·repeat'((conv=>whnf);first|apply qza|apply qzb|apply qzc|apply qzd|apply qze|intro(_:Nat)|refine And.intro ?_ ?_|fail)
    all_goals (conv=>whnf)
    all_goals (first|exact Eq.refl _|exact fin)
   have z7:=beqF z7
   repeat((conv=>whnf);first|refine qz ?_|intro(_:Nat))
   refine And.intro (fun z8=>?_) (fun z8=>?_)
   ·repeat'((conv=>whnf);first|apply qza|apply qzb|apply qzc|apply qzd|apply qze|intro(_:Nat)|refine And.intro ?_ ?_|fail)
    all_goals (conv=>whnf)
    all_goals (first|exact Eq.refl _|exact fin)
   have z8:=beqF z8
   repeat((conv=>whnf);first|refine qz ?_|intro(_:Nat))
   refine And.intro (fun z9=>?_) (fun z9=>?_)
   ·repeat'((conv=>whnf);first|apply qza|apply qzb|apply qzc|apply qzd|apply qze|intro(_:Nat)|refine And.intro ?_ ?_|fail)
    all_goals (conv=>whnf)
    all_goals (first|exact Eq.refl _|exact fin)
   have z9:=beqF z9
   exact absurd ⟨hs,by omega,by omega⟩ hgo
  ·have z4:=of_decide_eq_false z4
   repeat((conv=>whnf);first|refine qz ?_|intro(_:Nat))
   refine And.intro (fun z6=>?_) (fun z6=>?_)
   rotate_left
   ·have z6:=of_decide_eq_false z6
    exact absurd ⟨hs,by omega,by omega⟩ hgo
   have z6:=of_decide_eq_true z6
   repeat((conv=>whnf);first|refine qz ?_|intro(_:Nat))
   refine And.intro (fun z7=>?_) (fun z7=>?_)
   ·repeat'((conv=>whnf);first|apply qza|apply qzb|apply qzc|apply qzd|apply qze|intro(_:Nat)|refine And.intro ?_ ?_|fail)
    all_goals (conv=>whnf)
    all_goals (first|exact Eq.refl _|exact fin)
   have z7:=beqF z7
   repeat((conv=>whnf);first|refine qz ?_|intro(_:Nat))
   refine And.intro (fun z8=>?_) (fun z8=>?_)
   ·repeat'((conv=>whnf);first|apply qza|apply qzb|apply qzc|apply qzd|apply qze|intro(_:Nat)|refine And.intro ?_ ?_|fail)
    all_goals (conv=>whnf)
    all_goals (first|exact Eq.refl _|exact fin)
   have z8:=beqF z8
   repeat((conv=>whnf);first|refine qz ?_|intro(_:Nat))
   refine And.intro (fun z9=>?_) (fun z9=>?_)
   ·repeat'((conv=>whnf);first|apply qza|apply qzb|apply qzc|apply qzd|apply qze|intro(_:Nat)|refine And.intro ?_ ?_|fail)
    all_goals (conv=>whnf)
    all_goals (first|exact Eq.refl _|exact fin)
   have z9:=beqF z9
   exact absurd ⟨hs,by omega,by omega⟩ hgo)
/- Requests: the document's step,place 3. -/
open Go.Proofs.YthonngjhelcpeaaGreat.Sx Go.RowKit
theorem qUZ (g:GW) {cs ms:List Value} {w:Wd} {m:Mach} (hw:rWo g cs w) (hM:qfA g ms m) (hsn:SnW w) (hb:BgW 1000000 w) (hsz:SmO m) (hgo:hGo w m) (h0:m.pc=3):Ok Tryz.prog qJA [.agg ⟨cs⟩,.agg ⟨ms⟩] g (HaP w m):=by
 obtain⟨hW9,hM9,hE9⟩:=qQB hgo (by omega)
 obtain⟨kW,kM,kE⟩:=ha3 h0
 rw [kW] at hW9
 rw [kM] at hM9
 rw [kE] at hE9
 clear kW kM kE
 have hs:=hgo.1
 obtain⟨v,gr,en,hS⟩:=id (suitB_iff.1 hs)
 obtain⟨oa,ca,ob,cb,oc,cc,od,cd,oe,ce,o1,t1,o2,t2,o3,t3,rfl,rfl,hw0,hM0,⟨i1,i2,i3⟩,hP,hV,hL,hC,hR,⟨a1,a2,a0,hP1⟩,⟨b1,b2,b0,hV1⟩,⟨c1,c2,c0,hL1⟩,⟨d1,d2,d0,hC1⟩,⟨e1,e2,e0,hR1⟩,hok,hop,hcf⟩:=qoB hw hM
 exact Ok.of_fn hm qyD 5 qLA (args:=[.v (.agg ⟨wQ w oa ca ob cb oc cc od cd oe ce⟩),.v (.agg ⟨mQ m o1 t1 o2 t2 o3 t3⟩)]) (by
  repeat((conv=>whnf);first|refine qz ?_|intro(_:Nat))
  conv=>whnf
  refine .inl ⟨_,qmA _ hw0 hM0 hsn hb,?_⟩
  repeat((conv=>whnf);first|refine qz ?_|intro(_:Nat))
  conv=>whnf
  refine⟨fun hx=>absurd (hs.symm.trans (nb1 hx)) (by decide),fun _=>?_⟩
  repeat((conv=>whnf);first|refine qz ?_|intro(_:Nat))
  conv=>whnf
  refine dF (by omega) ?_
  repeat((conv=>whnf);first|refine qz ?_|intro(_:Nat))
  conv=>whnf
  refine dF (by omega) ?_
  repeat((conv=>whnf);first|refine qz ?_|intro(_:Nat))
  conv=>whnf
  refine dF (by omega) ?_
  repeat((conv=>whnf);first|refine qz ?_|intro(_:Nat))
  conv=>whnf
  refine⟨fun _=>?_,fun _=>?_⟩
  case' refine_1 =>
   repeat((conv=>whnf);first|refine qz ?_|intro(_:Nat))
   conv=>whnf
   refine⟨fun hx=>absurd hx (by simp [h0]),fun _=>?_⟩
   repeat((conv=>whnf);first|refine qz ?_|intro(_:Nat))
   conv=>whnf
   refine⟨fun hx=>absurd hx (by simp [h0]),fun _=>?_⟩
   repeat((conv=>whnf);first|refine qz ?_|intro(_:Nat))
   conv=>whnf
   refine⟨fun hx=>absurd hx (by simp [h0]),fun _=>?_⟩
  all_goals (
   repeat((conv=>whnf);first|refine qz ?_|intro(_:Nat))
   conv=>whnf
   refine dF (by omega) ?_
   repeat((conv=>whnf);first|refine qz ?_|intro(_:Nat))
   refine .inr ((qzA _ hw0 hb).mono fun v g3 hg3 hO=>?_)
   obtain⟨cs,T,rfl,hT⟩:=hO
   have hF:=qTA hT
   obtain⟨oa',ca',ob',cb',oc',cc',od',cd',oe',ce',rfl⟩:=qMA hF
   repeat((conv=>whnf);first|refine qz ?_|intro(_:Nat))
   conv=>whnf
   refine dT (by omega) ?_
   repeat((conv=>whnf);first|refine qz ?_|intro(_:Nat))
   conv=>whnf
   refine⟨fun _=>?_,fun hx=>absurd hx (by simp [h0])⟩
   repeat((conv=>whnf);first|refine qz ?_|intro(_:Nat))
   unfold hM3 at hM9
   have hpl:InR (qTB w.listens m.op.listen):=q7V (by have:=hb.1.2.2.1;omega)
   repeat'((conv=>whnf);first|apply qza|apply qzb|apply qzc|apply qzd|apply qze|intro(_:Nat)|refine .inl ⟨_,qwC _ m 1 3 w.current,?_⟩|refine .inl ⟨_,qcR _ (hL.mono qxB hg3) _,?_⟩|refine And.intro ?_ ?_|fail)
   all_goals (try exact Eq.refl _)
   ·intro z
    rw [if_pos (of_decide_eq_true z)] at hM9
    repeat'((conv=>whnf);first|apply qza|apply qzb|apply qzc|apply qzd|apply qze|intro(_:Nat)|refine .inl ⟨_,qwC _ m 1 3 w.current,?_⟩|refine And.intro ?_ ?_|fail)
    all_goals (conv=>whnf)
    all_goals (first|exact Eq.refl _|(
    intro g2 hg
    refine⟨_,_,by rw [hE9]<;>rfl,by rw [hW9];exact qDA _ _ _ _ hg hF,?_⟩
    rw [hM9]
    exact⟨_,_,_,rfl,{hok with version:=i2,cluster:=z0,end_:=z0,other:=z0,slot:=z0,listen:=hpl,pc:=show InR (20:Int) by decide,answer:=qxD (by decide)},hop,qCA _ _ _ _ (GW.trans hg3 hg) hcf⟩))
   ·intro z
    rw [if_neg (of_decide_eq_false z)] at hM9
    repeat'((conv=>whnf);first|apply qza|apply qzb|apply qzc|apply qzd|apply qze|intro(_:Nat)|refine .inl ⟨_,qwC _ m 1 3 w.current,?_⟩|refine And.intro ?_ ?_|fail)
    all_goals (conv=>whnf)
    all_goals (first|exact Eq.refl _|(
    intro g2 hg
    refine⟨_,_,by rw [hE9]<;>rfl,by rw [hW9];exact qDA _ _ _ _ hg hF,?_⟩
    rw [hM9]
    exact⟨_,_,_,rfl,{hok with version:=i2,cluster:=z0,end_:=z0,other:=z0,slot:=z0,listen:=hpl,pc:=show InR (4:Int) by decide},hop,qCA _ _ _ _ (GW.trans hg3 hg) hcf⟩))))
/- Requests: the document's step,place 4. -/
open Go.Proofs.YthonngjhelcpeaaGreat.Sx Go.RowKit
theorem qTZ (g:GW) {cs ms:List Value} {w:Wd} {m:Mach} (hw:rWo g cs w) (hM:qfA g ms m) (hsn:SnW w) (hb:BgW 1000000 w) (hsz:SmO m) (hgo:hGo w m) (h0:m.pc=4):Ok Tryz.prog qJA [.agg ⟨cs⟩,.agg ⟨ms⟩] g (HaP w m):=by
 obtain⟨hW9,hM9,hE9⟩:=qQB hgo (by omega)
 obtain⟨kW,kM,kE⟩:=ha4 h0
 rw [kW] at hW9
 rw [kM] at hM9
 rw [kE] at hE9
 clear kW kM kE
 have hs:=hgo.1
 obtain⟨v,gr,en,hS⟩:=id (suitB_iff.1 hs)
 obtain⟨oa,ca,ob,cb,oc,cc,od,cd,oe,ce,o1,t1,o2,t2,o3,t3,rfl,rfl,hw0,hM0,⟨i1,i2,i3⟩,hP,hV,hL,hC,hR,⟨a1,a2,a0,hP1⟩,⟨b1,b2,b0,hV1⟩,⟨c1,c2,c0,hL1⟩,⟨d1,d2,d0,hC1⟩,⟨e1,e2,e0,hR1⟩,hok,hop,hcf⟩:=qoB hw hM
 exact Ok.of_fn hm qyD 5 qLA (args:=[.v (.agg ⟨wQ w oa ca ob cb oc cc od cd oe ce⟩),.v (.agg ⟨mQ m o1 t1 o2 t2 o3 t3⟩)]) (by
  repeat((conv=>whnf);first|refine qz ?_|intro(_:Nat))
  conv=>whnf
  refine .inl ⟨_,qmA _ hw0 hM0 hsn hb,?_⟩
  repeat((conv=>whnf);first|refine qz ?_|intro(_:Nat))
  conv=>whnf
  refine⟨fun hx=>absurd (hs.symm.trans (nb1 hx)) (by decide),fun _=>?_⟩
  repeat((conv=>whnf);first|refine qz ?_|intro(_:Nat))
  conv=>whnf
  refine dF (by omega) ?_
  repeat((conv=>whnf);first|refine qz ?_|intro(_:Nat))
  conv=>whnf
  refine dF (by omega) ?_
  repeat((conv=>whnf);first|refine qz ?_|intro(_:Nat))
  conv=>whnf
  refine dF (by omega) ?_
  repeat((conv=>whnf);first|refine qz ?_|intro(_:Nat))
  have hli:0≤m.listen:=by have:=hgo.2.2;omega
  conv=>whnf
  refine dF (by omega) ?_
  repeat((conv=>whnf);first|refine qz ?_|intro(_:Nat))
  conv=>whnf
  refine dF (by omega) ?_
  repeat((conv=>whnf);first|refine qz ?_|intro(_:Nat))
  refine .inr ((qzA _ hw0 hb).mono fun v g3 hg3 hO=>?_)
  obtain⟨cs,T,rfl,hT⟩:=hO
  have hF:=qTA hT
  obtain⟨oa',ca',ob',cb',oc',cc',od',cd',oe',ce',rfl⟩:=qMA hF
  repeat((conv=>whnf);first|refine qz ?_|intro(_:Nat))
  conv=>whnf
  refine dT (by omega) ?_
  repeat((conv=>whnf);first|refine qz ?_|intro(_:Nat))
  conv=>whnf
  refine⟨fun hx=>absurd hx (by simp [h0]),fun _=>?_⟩
  repeat((conv=>whnf);first|refine qz ?_|intro(_:Nat))
  conv=>whnf
  refine⟨fun _=>?_,fun hx=>absurd hx (by simp [h0])⟩
  repeat((conv=>whnf);first|refine qz ?_|intro(_:Nat))
  obtain⟨x,hx⟩:=qAA (l:=w.listens) (i:=m.listen.toNat) (by have:=hS.listen;omega)
  have hmL:mL w m=x:=by unfold mL;rw [hx];rfl
  have hli2:=hS.listen
  have hlj:0≤m.listen∧m.listen<w.listens.length:=by omega
  obtain⟨al0,rfl⟩:=qGA hL hx
  obtain⟨hxa,hcl0⟩:=qZF hL hx
  rw [hmL] at hW9 hE9
  obtain⟨bk,cap,hv,rcl,b5,j5,bc,ty5,⟨hA,p1,p2,p3,p4⟩,_,hk5⟩:=qSQ hT hx (x':={x with active:=wI (x.active+1)}) (o:=2) (vs:=[.int .i64 (wI (x.active+1))]) (by simp) (by simp [Value.oneCell']) rfl (q4G _)
  cases hv
  obtain⟨_,hclc⟩:=qZF (qwN hF) hx
  repeat'((conv=>whnf);first|apply qza|apply qzb|apply qzc|apply qzd|apply qze|intro(_:Nat)|refine⟨_,rfl,hlj,?_⟩|refine⟨_,(hcl0.mono hg3) 2 _ rfl,?_⟩|refine⟨_,hclc 2 _ rfl,?_⟩|refine And.intro ?_ ?_|fail)
  conv=>whnf
  refine⟨b5,j5,bc,ty5,⟨by first|exact hA|(rw [← hA];rfl)|(rw [← hA,q0A]),p1,p2,p3,p4⟩,?_⟩
  repeat((conv=>whnf);first|refine qz ?_|intro(_:Nat))
  conv=>whnf
  refine fun g6 u6=>?_
  have hFx:=qTA (hk5 g6 u6)
  have hle6:g≤g6:=u6.le hg3 (fun h=>by have:=g.wf _ h;omega)
  have hcw:=u6.rd p2 p4
  rw [← hA] at hcw
  obtain⟨_,hcl'⟩:=qZF (qwN hFx) (i:=m.listen.toNat) (x:={x with active:=wI (x.active+1)}) (by simp only [List.getElem?_set];simp;omega)
  repeat'((conv=>whnf);first|apply qza|apply qzb|apply qzc|apply qzd|apply qze|intro(_:Nat)|refine⟨_,rfl,hlj,?_⟩|refine⟨_,hcl' 2 _ rfl,?_⟩|refine .inl ⟨_,qwC _ {m with pc:=5} 3 5 _,?_⟩|refine And.intro ?_ ?_|fail)
  all_goals (conv=>whnf)
  all_goals (first|exact Eq.refl _|(
  intro g2 hg
  refine⟨_,_,by rw [hE9]<;>rfl,by rw [hW9];exact qDA _ _ _ _ hg hFx,?_⟩
  rw [hM9]
  exact⟨_,_,_,rfl,{hok with pc:=show InR (5:Int) by decide},hop,qCA _ _ _ _ (GW.trans hle6 hg) hcf⟩)))
/- Requests: the document's step,place 5. -/
open Go.Proofs.YthonngjhelcpeaaGreat.Sx Go.RowKit
theorem qSZ (g:GW) {cs ms:List Value} {w:Wd} {m:Mach} (hw:rWo g cs w) (hM:qfA g ms m) (hsn:SnW w) (hb:BgW 1000000 w) (hsz:SmO m) (hgo:hGo w m) (h0:m.pc=5):Ok Tryz.prog qJA [.agg ⟨cs⟩,.agg ⟨ms⟩] g (HaP w m):=by
 obtain⟨hW9,hM9,hE9⟩:=qQB hgo (by omega)
 obtain⟨kW,kM,kE⟩:=ha5 h0
 rw [kW] at hW9
 rw [kM] at hM9
 rw [kE] at hE9
 clear kW kM kE
 have hs:=hgo.1
 obtain⟨v,gr,en,hS⟩:=id (suitB_iff.1 hs)
 obtain⟨oa,ca,ob,cb,oc,cc,od,cd,oe,ce,o1,t1,o2,t2,o3,t3,rfl,rfl,hw0,hM0,⟨i1,i2,i3⟩,hP,hV,hL,hC,hR,⟨a1,a2,a0,hP1⟩,⟨b1,b2,b0,hV1⟩,⟨c1,c2,c0,hL1⟩,⟨d1,d2,d0,hC1⟩,⟨e1,e2,e0,hR1⟩,hok,hop,hcf⟩:=qoB hw hM
 exact Ok.of_fn hm qyD 5 qLA (args:=[.v (.agg ⟨wQ w oa ca ob cb oc cc od cd oe ce⟩),.v (.agg ⟨mQ m o1 t1 o2 t2 o3 t3⟩)]) (by
  repeat((conv=>whnf);first|refine qz ?_|intro(_:Nat))
  conv=>whnf
  refine .inl ⟨_,qmA _ hw0 hM0 hsn hb,?_⟩
  repeat((conv=>whnf);first|refine qz ?_|intro(_:Nat))
  conv=>whnf
  refine⟨fun hx=>absurd (hs.symm.trans (nb1 hx)) (by decide),fun _=>?_⟩
  repeat((conv=>whnf);first|refine qz ?_|intro(_:Nat))
  conv=>whnf
  refine dF (by omega) ?_
  repeat((conv=>whnf);first|refine qz ?_|intro(_:Nat))
  conv=>whnf
  refine dF (by omega) ?_
  repeat((conv=>whnf);first|refine qz ?_|intro(_:Nat))
  conv=>whnf
  refine dF (by omega) ?_
  repeat((conv=>whnf);first|refine qz ?_|intro(_:Nat))
  have hli:0≤m.listen:=by have:=hgo.2.2;omega
  conv=>whnf
  refine dF (by omega) ?_
  repeat((conv=>whnf);first|refine qz ?_|intro(_:Nat))
  conv=>whnf
  refine dF (by omega) ?_
  repeat((conv=>whnf);first|refine qz ?_|intro(_:Nat))
  refine .inr ((qzA _ hw0 hb).mono fun v g3 hg3 hO=>?_)
  obtain⟨cs,T,rfl,hT⟩:=hO
  have hF:=qTA hT
  obtain⟨oa',ca',ob',cb',oc',cc',od',cd',oe',ce',rfl⟩:=qMA hF
  repeat((conv=>whnf);first|refine qz ?_|intro(_:Nat))
  conv=>whnf
  refine dT (by omega) ?_
  repeat((conv=>whnf);first|refine qz ?_|intro(_:Nat))
  conv=>whnf
  refine⟨fun hx=>absurd hx (by simp [h0]),fun _=>?_⟩
  repeat((conv=>whnf);first|refine qz ?_|intro(_:Nat))
  conv=>whnf
  refine⟨fun hx=>absurd hx (by simp [h0]),fun _=>?_⟩
  repeat((conv=>whnf);first|refine qz ?_|intro(_:Nat))
  obtain⟨x,hx⟩:=qAA (l:=w.listens) (i:=m.listen.toNat) (by have:=hS.listen;omega)
  have hmL:mL w m=x:=by unfold mL;rw [hx];rfl
  have hli2:=hS.listen
  have hlj:0≤m.listen∧m.listen<w.listens.length:=by omega
  obtain⟨al0,rfl⟩:=qGA hL hx
  obtain⟨hxa,hcl0⟩:=qZF hL hx
  unfold hM5 at hM9
  unfold hE5 at hE9
  rw [hmL] at hM9 hE9
  cases hdr:x.drain
  ·rw [hdr] at hcl0 hM9 hE9
   simp only [Bool.false_eq_true,if_false] at hM9 hE9
   repeat'((conv=>whnf);first|apply qza|apply qzb|apply qzc|apply qzd|apply qze|intro(_:Nat)|refine⟨_,rfl,hlj,?_⟩|refine⟨_,(hcl0.mono hg3) 1 _ rfl,?_⟩|refine .inl ⟨_,qnV _ false,?_⟩|refine .inl ⟨_,qwC _ m 1 4 0,?_⟩|fail)
   conv=>whnf
   refine⟨fun h=>(nomatch h),fun _=>?_⟩
   repeat'((conv=>whnf);first|apply qza|apply qzb|apply qzc|apply qzd|apply qze|intro(_:Nat)|refine .inl ⟨_,qfU _ (qDA _ _ _ _ hg3 hw0) hS hsn hsz hop,?_⟩|refine And.intro ?_ ?_|fail)
   all_goals (conv=>whnf)
   all_goals (first|exact Eq.refl _|(
   intro g2 hg
   obtain⟨hro,hrp⟩:=qXV hS hok
   refine⟨_,_,by rw [hE9]<;>rfl,by rw [hW9];exact qDA _ _ _ _ hg hF,?_⟩
   rw [hM9]
   exact⟨_,_,_,rfl,hro,by rw [hrp];exact hop,by rw [hrp];exact qCA _ _ _ _ (GW.trans hg3 hg) hcf⟩))
  ·rw [hdr] at hcl0 hM9 hE9
   simp only [if_true] at hM9 hE9
   repeat'((conv=>whnf);first|apply qza|apply qzb|apply qzc|apply qzd|apply qze|intro(_:Nat)|refine⟨_,rfl,hlj,?_⟩|refine⟨_,(hcl0.mono hg3) 1 _ rfl,?_⟩|refine .inl ⟨_,qnV _ true,?_⟩|refine .inl ⟨_,qwC _ m 1 4 1,?_⟩|fail)
   conv=>whnf
   refine⟨fun _=>?_,fun h=>nomatch h⟩
   repeat'((conv=>whnf);first|apply qza|apply qzb|apply qzc|apply qzd|apply qze|intro(_:Nat)|refine .inl ⟨_,q3H _ m 5,?_⟩|refine And.intro ?_ ?_|fail)
   all_goals (conv=>whnf)
   all_goals (first|exact Eq.refl _|(
   intro g2 hg
   refine⟨_,_,by rw [hE9]<;>rfl,by rw [hW9];exact qDA _ _ _ _ hg hF,?_⟩
   rw [hM9]
   exact⟨_,_,_,rfl,{hok with pc:=show InR (20:Int) by decide,answer:=qxD (by decide)},hop,qCA _ _ _ _ (GW.trans hg3 hg) hcf⟩)))
/- Requests: the document's step,place 6. -/
open Go.Proofs.YthonngjhelcpeaaGreat.Sx Go.RowKit
theorem qRZ (g:GW) {cs ms:List Value} {w:Wd} {m:Mach} (hw:rWo g cs w) (hM:qfA g ms m) (hsn:SnW w) (hb:BgW 1000000 w) (hsz:SmO m) (hgo:hGo w m) (h0:m.pc=6):Ok Tryz.prog qJA [.agg ⟨cs⟩,.agg ⟨ms⟩] g (HaP w m):=by
 obtain⟨hW9,hM9,hE9⟩:=qQB hgo (by omega)
 obtain⟨kW,kM,kE⟩:=ha6 h0
 rw [kW] at hW9
 rw [kM] at hM9
 rw [kE] at hE9
 clear kW kM kE
 have hs:=hgo.1
 obtain⟨v,gr,en,hS⟩:=id (suitB_iff.1 hs)
 obtain⟨oa,ca,ob,cb,oc,cc,od,cd,oe,ce,o1,t1,o2,t2,o3,t3,rfl,rfl,hw0,hM0,⟨i1,i2,i3⟩,hP,hV,hL,hC,hR,⟨a1,a2,a0,hP1⟩,⟨b1,b2,b0,hV1⟩,⟨c1,c2,c0,hL1⟩,⟨d1,d2,d0,hC1⟩,⟨e1,e2,e0,hR1⟩,hok,hop,hcf⟩:=qoB hw hM
 exact Ok.of_fn hm qyD 5 qLA (args:=[.v (.agg ⟨wQ w oa ca ob cb oc cc od cd oe ce⟩),.v (.agg ⟨mQ m o1 t1 o2 t2 o3 t3⟩)]) (by
  repeat((conv=>whnf);first|refine qz ?_|intro(_:Nat))
  conv=>whnf
  refine .inl ⟨_,qmA _ hw0 hM0 hsn hb,?_⟩
  repeat((conv=>whnf);first|refine qz ?_|intro(_:Nat))
  conv=>whnf
  refine⟨fun hx=>absurd (hs.symm.trans (nb1 hx)) (by decide),fun _=>?_⟩
  repeat((conv=>whnf);first|refine qz ?_|intro(_:Nat))
  conv=>whnf
  refine dF (by omega) ?_
  repeat((conv=>whnf);first|refine qz ?_|intro(_:Nat))
  conv=>whnf
  refine dF (by omega) ?_
  repeat((conv=>whnf);first|refine qz ?_|intro(_:Nat))
  conv=>whnf
  refine dF (by omega) ?_
  repeat((conv=>whnf);first|refine qz ?_|intro(_:Nat))
  conv=>whnf
  refine⟨fun _=>?_,fun _=>?_⟩
  case' refine_1 =>
   repeat((conv=>whnf);first|refine qz ?_|intro(_:Nat))
   conv=>whnf
   refine⟨fun hx=>absurd hx (by simp [h0]),fun _=>?_⟩
   repeat((conv=>whnf);first|refine qz ?_|intro(_:Nat))
   conv=>whnf
   refine⟨fun hx=>absurd hx (by simp [h0]),fun _=>?_⟩
   repeat((conv=>whnf);first|refine qz ?_|intro(_:Nat))
   conv=>whnf
   refine⟨fun hx=>absurd hx (by simp [h0]),fun _=>?_⟩
  all_goals (
   repeat((conv=>whnf);first|refine qz ?_|intro(_:Nat))
   conv=>whnf
   refine dF (by omega) ?_
   repeat((conv=>whnf);first|refine qz ?_|intro(_:Nat))
   refine .inr ((qzA _ hw0 hb).mono fun v g3 hg3 hO=>?_)
   obtain⟨cs,T,rfl,hT⟩:=hO
   have hF:=qTA hT
   obtain⟨oa',ca',ob',cb',oc',cc',od',cd',oe',ce',rfl⟩:=qMA hF
   repeat((conv=>whnf);first|refine qz ?_|intro(_:Nat))
   conv=>whnf
   refine dF (by omega) ?_
   repeat((conv=>whnf);first|refine qz ?_|intro(_:Nat))
   conv=>whnf
   refine dT (by omega) ?_
   repeat((conv=>whnf);first|refine qz ?_|intro(_:Nat))
   conv=>whnf
   refine⟨fun _=>?_,fun hx=>absurd hx (by simp [h0])⟩
   repeat((conv=>whnf);first|refine qz ?_|intro(_:Nat))
   obtain⟨av0,rfl⟩:=qGA hV hS.ver.2
   obtain⟨oL0,cL0,oR0,cR0,oC0,cC0,oG0,cG0,hcv0,hsn0,hcK0,hcG0⟩:=qrC hV hS.ver.2
   obtain⟨ag0,rfl⟩:=qGA hcG0 hS.clu.2
   obtain⟨oE0,cE0,hcg0,htk0,hcE0⟩:=q5C hcG0 hS.clu.2
   obtain⟨ae0,rfl⟩:=qGA hcE0 hS.end_.2
   obtain⟨oN0,cN0,hce0,hei0,hcN0⟩:=qmC hcE0 hS.end_.2
   obtain⟨b1,k1,b2,k2,va,vb,vd,vn,T2,hq,hcv,hcg,htk,hE2,hPT,hPK⟩:=qXM hT hS.ver.2 hS.clu.2
   cases hq
   have hei:=(qGP hF hS.ver.2 hS.clu.2 hS.end_.2).1
   obtain⟨b5,j5,bc,ty5,⟨hA,p1,p2,p3,p4⟩,_,hk5⟩:=hPT (wU (gr.ticket+1)) (q9Q _)
   obtain⟨hvi,hgi,hki⟩:=hS.idx
   obtain⟨hmV,hmG,hmE⟩:=hS.at_
   have hcl:=hS.cl
   rw [hmG] at hW9 hM9 hE9
   simp only [evV,hmV] at hW9 hE9
   obtain⟨ak0,rfl⟩:=qGA hcK0 hcl.1
   obtain⟨_,_,hrc,hck0⟩:=qIL hcK0 hcl.1
   obtain⟨vh,rfl,_,_,hh⟩:=id hrc
   obtain⟨oh,ch,rfl,_⟩:=id hh
   have hkk:0≤m.cluster∧m.cluster<v.snap.clusters.length:=⟨hS.clu.1,by have:=(List.getElem?_eq_some_iff.1 hcl.1).1;omega⟩
   obtain⟨_,_,_,_,he4,_⟩:=(qtD hS.right hS.ver.2).ends hS.clu.2
   have hsz9:(mC w m).health.length≤17592186044416:=by have:=hcl.2;omega
   repeat'((conv=>whnf);first|apply qza|apply qzb|apply qzc|apply qzd|apply qze|intro(_:Nat)|refine⟨_,rfl,hvi,?_⟩|refine⟨_,(hcv0.mono hg3) 3 _ rfl,?_⟩|refine⟨_,hcv 3 _ rfl,?_⟩|refine⟨_,rfl,hgi,?_⟩|refine⟨_,(hcg0.mono hg3) 0 _ rfl,?_⟩|refine And.intro ?_ ?_|fail)
   conv=>whnf
   refine⟨b5,j5,bc,ty5,⟨by first|exact hA|(rw [← hA];rfl)|(rw [← hA,q0A]),p1,p2,p3,p4⟩,?_⟩
   repeat((conv=>whnf);first|refine qz ?_|intro(_:Nat))
   conv=>whnf
   refine fun g6 u6=>?_
   have hFx:=qTA (hk5 g6 u6)
   have hle6:g≤g6:=u6.le hg3 (fun h=>by have:=g.wf _ h;omega)
   have hcw:=u6.rd p2 p4
   rw [← hA] at hcw
   repeat'((conv=>whnf);first|apply qza|apply qzb|apply qzc|apply qzd|apply qze|intro(_:Nat)|refine .inl ⟨_,q2F _ m 3 6 _ hvi (hcv0.mono hle6),?_⟩|refine⟨_,rfl,hvi,?_⟩|refine⟨_,(hcv0.mono hle6) 2 _ rfl,?_⟩|refine⟨_,rfl,hkk,?_⟩|refine⟨_,⟨rfl,hck0.mono hle6⟩,?_⟩|refine .inl ⟨_,qsW _ (qvC _ _ _ _ hle6 hrc) hsz9 htk0,?_⟩|refine And.intro ?_ ?_|fail)
   all_goals (conv=>whnf)
   all_goals (first|exact Eq.refl _|(
   intro g2 hg
   refine⟨_,_,by rw [hE9]<;>rfl,by rw [hW9];exact qDA _ _ _ _ hg hFx,?_⟩
   rw [hM9]
   exact⟨_,_,_,rfl,{hok with end_:=qqP hsz9,pc:=show InR (9:Int) by decide},hop,qCA _ _ _ _ (GW.trans hle6 hg) hcf⟩))))
/- Requests: the document's step,place 7. -/
open Go.Proofs.YthonngjhelcpeaaGreat.Sx Go.RowKit
theorem qQZ (g:GW) {cs ms:List Value} {w:Wd} {m:Mach} (hw:rWo g cs w) (hM:qfA g ms m) (hsn:SnW w) (hb:BgW 1000000 w) (hsz:SmO m) (hgo:hGo w m) (h0:m.pc=7):Ok Tryz.prog qJA [.agg ⟨cs⟩,.agg ⟨ms⟩] g (HaP w m):=by
 obtain⟨hW9,hM9,hE9⟩:=qQB hgo (by omega)
 obtain⟨kW,kM,kE⟩:=ha7 h0
 rw [kW] at hW9
 rw [kM] at hM9
 rw [kE] at hE9
 clear kW kM kE
 have hs:=hgo.1
 obtain⟨v,gr,en,hS⟩:=id (suitB_iff.1 hs)
 obtain⟨oa,ca,ob,cb,oc,cc,od,cd,oe,ce,o1,t1,o2,t2,o3,t3,rfl,rfl,hw0,hM0,⟨i1,i2,i3⟩,hP,hV,hL,hC,hR,⟨a1,a2,a0,hP1⟩,⟨b1,b2,b0,hV1⟩,⟨c1,c2,c0,hL1⟩,⟨d1,d2,d0,hC1⟩,⟨e1,e2,e0,hR1⟩,hok,hop,hcf⟩:=qoB hw hM
 exact Ok.of_fn hm qyD 5 qLA (args:=[.v (.agg ⟨wQ w oa ca ob cb oc cc od cd oe ce⟩),.v (.agg ⟨mQ m o1 t1 o2 t2 o3 t3⟩)]) (by
  repeat((conv=>whnf);first|refine qz ?_|intro(_:Nat))
  conv=>whnf
  refine .inl ⟨_,qmA _ hw0 hM0 hsn hb,?_⟩
  repeat((conv=>whnf);first|refine qz ?_|intro(_:Nat))
  conv=>whnf
  refine⟨fun hx=>absurd (hs.symm.trans (nb1 hx)) (by decide),fun _=>?_⟩
  repeat((conv=>whnf);first|refine qz ?_|intro(_:Nat))
  conv=>whnf
  refine dF (by omega) ?_
  repeat((conv=>whnf);first|refine qz ?_|intro(_:Nat))
  conv=>whnf
  refine dF (by omega) ?_
  repeat((conv=>whnf);first|refine qz ?_|intro(_:Nat))
  conv=>whnf
  refine dF (by omega) ?_
  repeat((conv=>whnf);first|refine qz ?_|intro(_:Nat))
  conv=>whnf
  refine⟨fun _=>?_,fun _=>?_⟩
  case' refine_1 =>
   repeat((conv=>whnf);first|refine qz ?_|intro(_:Nat))
   conv=>whnf
   refine⟨fun hx=>absurd hx (by simp [h0]),fun _=>?_⟩
   repeat((conv=>whnf);first|refine qz ?_|intro(_:Nat))
   conv=>whnf
   refine⟨fun hx=>absurd hx (by simp [h0]),fun _=>?_⟩
   repeat((conv=>whnf);first|refine qz ?_|intro(_:Nat))
   conv=>whnf
   refine⟨fun hx=>absurd hx (by simp [h0]),fun _=>?_⟩
  all_goals (
   repeat((conv=>whnf);first|refine qz ?_|intro(_:Nat))
   conv=>whnf
   refine dF (by omega) ?_
   repeat((conv=>whnf);first|refine qz ?_|intro(_:Nat))
   refine .inr ((qzA _ hw0 hb).mono fun v g3 hg3 hO=>?_)
   obtain⟨cs,T,rfl,hT⟩:=hO
   have hF:=qTA hT
   obtain⟨oa',ca',ob',cb',oc',cc',od',cd',oe',ce',rfl⟩:=qMA hF
   repeat((conv=>whnf);first|refine qz ?_|intro(_:Nat))
   conv=>whnf
   refine dF (by omega) ?_
   repeat((conv=>whnf);first|refine qz ?_|intro(_:Nat))
   conv=>whnf
   refine dT (by omega) ?_
   repeat((conv=>whnf);first|refine qz ?_|intro(_:Nat))
   conv=>whnf
   refine⟨fun hx=>absurd hx (by simp [h0]),fun _=>?_⟩
   repeat((conv=>whnf);first|refine qz ?_|intro(_:Nat))
   conv=>whnf
   refine⟨fun _=>?_,fun hx=>absurd hx (by simp [h0])⟩
   repeat((conv=>whnf);first|refine qz ?_|intro(_:Nat))
   obtain⟨av0,rfl⟩:=qGA hV hS.ver.2
   obtain⟨oL0,cL0,oR0,cR0,oC0,cC0,oG0,cG0,hcv0,hsn0,hcK0,hcG0⟩:=qrC hV hS.ver.2
   obtain⟨ag0,rfl⟩:=qGA hcG0 hS.clu.2
   obtain⟨oE0,cE0,hcg0,htk0,hcE0⟩:=q5C hcG0 hS.clu.2
   obtain⟨ae0,rfl⟩:=qGA hcE0 hS.end_.2
   obtain⟨oN0,cN0,hce0,hei0,hcN0⟩:=qmC hcE0 hS.end_.2
   obtain⟨hvi,hgi,hki⟩:=hS.idx
   obtain⟨hmV,hmG,hmE⟩:=hS.at_
   rw [hmE] at hM9 hE9
   simp only [evV,hmV] at hE9
   repeat'((conv=>whnf);first|apply qza|apply qzb|apply qzc|apply qzd|apply qze|intro(_:Nat)|refine .inl ⟨_,q9X _ m hvi (hcv0.mono hg3) hgi (hcg0.mono hg3) hki (hce0.mono hg3),?_⟩|refine .inl ⟨_,q2F _ {m with i:=en.active,pc:=8} 1 7 _ hvi (hcv0.mono hg3),?_⟩|refine And.intro ?_ ?_|fail)
   all_goals (conv=>whnf)
   all_goals (first|exact Eq.refl _|(
   intro g2 hg
   refine⟨_,_,by rw [hE9]<;>rfl,by rw [hW9];exact qDA _ _ _ _ hg hF,?_⟩
   rw [hM9]
   exact⟨_,_,_,rfl,{hok with i:=hei0.2.1,pc:=show InR (8:Int) by decide},hop,qCA _ _ _ _ (GW.trans hg3 hg) hcf⟩))))
/- Requests: the document's step,place 8. -/
open Go.Proofs.YthonngjhelcpeaaGreat.Sx Go.RowKit
theorem qPZ (g:GW) {cs ms:List Value} {w:Wd} {m:Mach} (hw:rWo g cs w) (hM:qfA g ms m) (hsn:SnW w) (hb:BgW 1000000 w) (hsz:SmO m) (hgo:hGo w m) (h0:m.pc=8):Ok Tryz.prog qJA [.agg ⟨cs⟩,.agg ⟨ms⟩] g (HaP w m):=by
 obtain⟨hW9,hM9,hE9⟩:=qQB hgo (by omega)
 obtain⟨kW,kM,kE⟩:=ha8 h0
 rw [kW] at hW9
 rw [kM] at hM9
 rw [kE] at hE9
 clear kW kM kE
 have hs:=hgo.1
 obtain⟨v,gr,en,hS⟩:=id (suitB_iff.1 hs)
 obtain⟨oa,ca,ob,cb,oc,cc,od,cd,oe,ce,o1,t1,o2,t2,o3,t3,rfl,rfl,hw0,hM0,⟨i1,i2,i3⟩,hP,hV,hL,hC,hR,⟨a1,a2,a0,hP1⟩,⟨b1,b2,b0,hV1⟩,⟨c1,c2,c0,hL1⟩,⟨d1,d2,d0,hC1⟩,⟨e1,e2,e0,hR1⟩,hok,hop,hcf⟩:=qoB hw hM
 exact Ok.of_fn hm qyD 5 qLA (args:=[.v (.agg ⟨wQ w oa ca ob cb oc cc od cd oe ce⟩),.v (.agg ⟨mQ m o1 t1 o2 t2 o3 t3⟩)]) (by
  repeat((conv=>whnf);first|refine qz ?_|intro(_:Nat))
  conv=>whnf
  refine .inl ⟨_,qmA _ hw0 hM0 hsn hb,?_⟩
  repeat((conv=>whnf);first|refine qz ?_|intro(_:Nat))
  conv=>whnf
  refine⟨fun hx=>absurd (hs.symm.trans (nb1 hx)) (by decide),fun _=>?_⟩
  repeat((conv=>whnf);first|refine qz ?_|intro(_:Nat))
  conv=>whnf
  refine dF (by omega) ?_
  repeat((conv=>whnf);first|refine qz ?_|intro(_:Nat))
  conv=>whnf
  refine dF (by omega) ?_
  repeat((conv=>whnf);first|refine qz ?_|intro(_:Nat))
  conv=>whnf
  refine dF (by omega) ?_
  repeat((conv=>whnf);first|refine qz ?_|intro(_:Nat))
  conv=>whnf
  refine⟨fun _=>?_,fun _=>?_⟩
  case' refine_1 =>
   repeat((conv=>whnf);first|refine qz ?_|intro(_:Nat))
   conv=>whnf
   refine⟨fun hx=>absurd hx (by simp [h0]),fun _=>?_⟩
   repeat((conv=>whnf);first|refine qz ?_|intro(_:Nat))
   conv=>whnf
   refine⟨fun hx=>absurd hx (by simp [h0]),fun _=>?_⟩
   repeat((conv=>whnf);first|refine qz ?_|intro(_:Nat))
   conv=>whnf
   refine⟨fun hx=>absurd hx (by simp [h0]),fun _=>?_⟩
  all_goals (
   repeat((conv=>whnf);first|refine qz ?_|intro(_:Nat))
   conv=>whnf
   refine dF (by omega) ?_
   repeat((conv=>whnf);first|refine qz ?_|intro(_:Nat))
   refine .inr ((qzA _ hw0 hb).mono fun v g3 hg3 hO=>?_)
   obtain⟨cs,T,rfl,hT⟩:=hO
   have hF:=qTA hT
   obtain⟨oa',ca',ob',cb',oc',cc',od',cd',oe',ce',rfl⟩:=qMA hF
   repeat((conv=>whnf);first|refine qz ?_|intro(_:Nat))
   conv=>whnf
   refine dF (by omega) ?_
   repeat((conv=>whnf);first|refine qz ?_|intro(_:Nat))
   conv=>whnf
   refine dT (by omega) ?_
   repeat((conv=>whnf);first|refine qz ?_|intro(_:Nat))
   conv=>whnf
   refine⟨fun hx=>absurd hx (by simp [h0]),fun _=>?_⟩
   repeat((conv=>whnf);first|refine qz ?_|intro(_:Nat))
   conv=>whnf
   refine⟨fun hx=>absurd hx (by simp [h0]),fun _=>?_⟩
   repeat((conv=>whnf);first|refine qz ?_|intro(_:Nat))
   obtain⟨av0,rfl⟩:=qGA hV hS.ver.2
   obtain⟨oL0,cL0,oR0,cR0,oC0,cC0,oG0,cG0,hcv0,hsn0,hcK0,hcG0⟩:=qrC hV hS.ver.2
   obtain⟨ag0,rfl⟩:=qGA hcG0 hS.clu.2
   obtain⟨oE0,cE0,hcg0,htk0,hcE0⟩:=q5C hcG0 hS.clu.2
   obtain⟨ae0,rfl⟩:=qGA hcE0 hS.end_.2
   obtain⟨oN0,cN0,hce0,hei0,hcN0⟩:=qmC hcE0 hS.end_.2
   obtain⟨hvi,hgi,hki⟩:=hS.idx
   obtain⟨hmV,hmG,hmE⟩:=hS.at_
   obtain⟨eo,heo⟩:=qAA (l:=gr.ends) (i:=m.other.toNat) (by have:=hS.other;omega)
   obtain⟨oN2,cN2,hco,heo2,_⟩:=qmC hcE0 heo
   have hmO:mE w m m.other=eo:=by unfold mE;rw [hmG,heo];rfl
   have hoi:=hS.other
   rw [hmO] at hM9 hE9
   simp only [evV,hmV] at hE9
   repeat'((conv=>whnf);first|apply qza|apply qzb|apply qzc|apply qzd|apply qze|intro(_:Nat)|refine⟨_,rfl,hvi,?_⟩|refine⟨_,(hcv0.mono hg3) 3 _ rfl,?_⟩|refine⟨_,rfl,hgi,?_⟩|refine⟨_,(hcg0.mono hg3) 1 _ rfl,?_⟩|refine⟨_,rfl,hoi,?_⟩|refine⟨_,(hco.mono hg3) 2 _ rfl,?_⟩|refine .inl ⟨_,q2F _ m 1 7 _ hvi (hcv0.mono hg3),?_⟩|refine .inl ⟨_,quW _,?_⟩|refine And.intro ?_ ?_|fail)
   all_goals (conv=>whnf)
   all_goals (first|exact Eq.refl _|(
   intro g2 hg
   refine⟨_,_,by rw [hE9]<;>rfl,by rw [hW9];exact qDA _ _ _ _ hg hF,?_⟩
   rw [hM9]
   exact⟨_,_,_,rfl,{hok with end_:=qvT hok.end_ hok.other,pc:=show InR (9:Int) by decide},hop,qCA _ _ _ _ (GW.trans hg3 hg) hcf⟩))))
end Go.Proofs.YthonngjhelcpeaaGreat
