/- Requests: the program's step, place 20. -/
import Derived.Test.YthonngjhelcpeaaGreatLW20h
import Derived.Test.YthonngjhelcpeaaGreatLW9r
import Derived.Test.YthonngjhelcpeaaGreatPl
set_option linter.unusedVariables false
set_option linter.unusedSimpArgs false
namespace Go.Proofs.YthonngjhelcpeaaGreat
open Go.Proofs.YthonngjhelcpeaaGreat.Sx Go.RowKit
set_option maxHeartbeats 16000000
set_option maxRecDepth 100000
theorem qFY (g:GW) {cs ms:List Value} {w:Wd} {m:Mach} (hw:rWo g cs w) (hM:qfA g ms m) (hsn:SnW w) (hb:BgW 1000000 w) (hsz:SmO m) (hgo:hGo w m) (h0:m.pc=20):Ok Tryz.prog qPA [.agg ⟨cs⟩,.agg ⟨ms⟩] g (HaP w m):=by
 obtain⟨hW9,hM9,hE9⟩:=qQB hgo (by omega)
 obtain⟨kW,kM,kE⟩:=ha20 h0
 rw [kW] at hW9
 rw [kM] at hM9
 rw [kE] at hE9
 clear kW kM kE
 have hs:=hgo.1
 obtain⟨v,gr,en,hS⟩:=id (suitB_iff.1 hs)
 obtain⟨oa,ca,ob,cb,oc,cc,od,cd,oe,ce,o1,t1,o2,t2,o3,t3,rfl,rfl,hw0,hM0,⟨i1,i2,i3⟩,hP,hV,hL,hC,hR,⟨a1,a2,a0,hP1⟩,⟨b1,b2,b0,hV1⟩,⟨c1,c2,c0,hL1⟩,⟨d1,d2,d0,hC1⟩,⟨e1,e2,e0,hR1⟩,hok,hop,hcf⟩:=qoB hw hM
 exact Ok.of_fn hm qzD 5 qSA (args:=[.v (.agg ⟨wQ w oa ca ob cb oc cc od cd oe ce⟩),.v (.agg ⟨mQ m o1 t1 o2 t2 o3 t3⟩)]) (by
  repeat((conv=>whnf);first|refine qz ?_|intro(_:Nat))
  conv=>whnf
  refine dT (by omega) ?_
  repeat((conv=>whnf);first|refine qz ?_|intro(_:Nat))
  conv=>whnf
  refine dF (by omega) ?_
  repeat((conv=>whnf);first|refine qz ?_|intro(_:Nat))
  conv=>whnf
  refine dF (by omega) ?_
  repeat((conv=>whnf);first|refine qz ?_|intro(_:Nat))
  conv=>whnf
  refine dF (by omega) ?_
  repeat((conv=>whnf);first|refine qz ?_|intro(_:Nat))
  conv=>whnf
  refine .inl ⟨_,q1A _ hw0 hM0 hsn hb,?_⟩
  repeat((conv=>whnf);first|refine qz ?_|intro(_:Nat))
  conv=>whnf
  refine⟨fun hx=>absurd (hs.symm.trans (nb1 hx)) (by decide),fun _=>?_⟩
  repeat((conv=>whnf);first|refine qz ?_|intro(_:Nat))
  conv=>whnf
  refine⟨fun _=>?_,fun _=>?_⟩
  case' refine_1 =>
   repeat((conv=>whnf);first|refine qz ?_|intro(_:Nat))
   conv=>whnf
   refine⟨fun hx=>absurd hx (by simp [h0]),fun _=>?_⟩
   repeat((conv=>whnf);first|refine qz ?_|intro(_:Nat))
   conv=>whnf
   refine⟨fun hx=>absurd hx (by simp [h0]),fun _=>?_⟩
   repeat((conv=>whnf);first|refine qz ?_|intro(_:Nat))
   conv=>whnf
   refine⟨fun hx=>absurd hx (by simp [h0]),fun _=>?_⟩
  all_goals (
   repeat((conv=>whnf);first|refine qz ?_|intro(_:Nat))
   conv=>whnf
   refine .inl ⟨_,qWB _,?_⟩
   repeat((conv=>whnf);first|refine qz ?_|intro(_:Nat))
   conv=>whnf
   refine⟨20,⟨h0,by decide⟩,?_⟩
   repeat((conv=>whnf);first|refine qz ?_|intro(_:Nat))
   conv=>whnf
   refine⟨fun h=>(nomatch h),fun _=>?_⟩
   repeat((conv=>whnf);first|refine qz ?_|intro(_:Nat))
   refine .inr ((qBB _ hw0 hb).mono fun v g3 hg3 hO=>?_)
   obtain⟨cs,T,rfl,hT⟩:=hO
   have hF:=qTA hT
   obtain⟨oa',ca',ob',cb',oc',cc',od',cd',oe',ce',rfl⟩:=qMA hF
   repeat((conv=>whnf);first|refine qz ?_|intro(_:Nat))
   conv=>whnf
   refine⟨qcF,?_⟩
   repeat((conv=>whnf);first|refine qz ?_|intro(_:Nat))
   refine And.intro (fun z=>?_) (fun z=>?_)
   ·have z:=of_decide_eq_true z
    have hk:qaF m=0:=if_neg (by omega)
    obtain⟨row,hrow,hrl⟩:=hS.row
    obtain⟨y,hy⟩:=qAA (l:=row) (i:=(0:Int).toNat) (by omega)
    have hcn:cnt w m.thread (0:Int)=y:=by unfold cnt;rw [hrow,Option.getD_some,hy];rfl
    have hro:(w.counts[m.thread.toNat]?).getD []=row:=by rw [hrow];rfl
    rw [hk] at hW9 hE9
    simp only [addCnt,hcn,hro] at hW9
    obtain⟨b1,k1,b2,k2,hq,hcr,hcy,b5,j5,bc,ty5,⟨hA,p1,p2,p3,p4⟩,_,hk5⟩:=qTF hT hrow hy (q9Q (y+1))
    cases hq
    have hth:=hS.thread
    have hti:0≤m.thread∧m.thread<w.counts.length:=⟨hth.1,by have:=(List.getElem?_eq_some_iff.1 hrow).1;omega⟩
    have hyi:0≤(0:Int)∧(0:Int)<(row.length:Nat):=by omega
    repeat'((conv=>whnf);first|apply qza|apply qzb|apply qzc|apply qzd|apply qze|intro(_:Nat)|refine⟨_,rfl,hti,?_⟩|refine⟨_,hcr 0 _ rfl,?_⟩|refine⟨_,rfl,hyi,?_⟩|refine⟨_,hcy 0 _ rfl,?_⟩|refine And.intro ?_ ?_|fail)
    conv=>whnf
    refine⟨b5,j5,bc,ty5,⟨by first|exact hA|(rw [← hA];rfl)|(rw [← hA,q0A]),p1,p2,p3,p4⟩,?_⟩
    repeat((conv=>whnf);first|refine qz ?_|intro(_:Nat))
    conv=>whnf
    refine fun g6 u6=>?_
    have hFx:=qTA (hk5 g6 u6)
    have hle6:g≤g6:=u6.le hg3 (fun h=>by have:=g.wf _ h;omega)
    have hcw:=u6.rd p2 p4
    rw [← hA] at hcw
    repeat'((conv=>whnf);first|apply qza|apply qzb|apply qzc|apply qzd|apply qze|intro(_:Nat)|refine⟨_,fun gp hle hin=>qAB gp (hin.cel (id:=6) rfl 10 rfl),?_⟩|refine And.intro ?_ ?_|fail)
    all_goals (conv=>whnf)
    all_goals (first|exact Eq.refl _|(
    intro g2 hg
    refine⟨_,_,by rw [hE9]<;>rfl,by rw [hW9];exact qDA _ _ _ _ hg hFx,?_⟩
    rw [hM9]
    exact⟨_,_,_,rfl,{hok with pc:=show InR (21:Int) by decide},hop,qCA _ _ _ _ (GW.trans hle6 hg) hcf⟩))
   ·have z:=of_decide_eq_false z
    repeat((conv=>whnf);first|refine qz ?_|intro(_:Nat))
    refine And.intro (fun z2=>?_) (fun z2=>?_)
    ·have z2:=of_decide_eq_true z2
     have hk:qaF m=0:=if_neg (by omega)
     obtain⟨row,hrow,hrl⟩:=hS.row
     obtain⟨y,hy⟩:=qAA (l:=row) (i:=(0:Int).toNat) (by omega)
     have hcn:cnt w m.thread (0:Int)=y:=by unfold cnt;rw [hrow,Option.getD_some,hy];rfl
     have hro:(w.counts[m.thread.toNat]?).getD []=row:=by rw [hrow];rfl
     rw [hk] at hW9 hE9
     simp only [addCnt,hcn,hro] at hW9
     obtain⟨b1,k1,b2,k2,hq,hcr,hcy,b5,j5,bc,ty5,⟨hA,p1,p2,p3,p4⟩,_,hk5⟩:=qTF hT hrow hy (q9Q (y+1))
     cases hq
     have hth:=hS.thread
     have hti:0≤m.thread∧m.thread<w.counts.length:=⟨hth.1,by have:=(List.getElem?_eq_some_iff.1 hrow).1;omega⟩
     have hyi:0≤(0:Int)∧(0:Int)<(row.length:Nat):=by omega
     repeat'((conv=>whnf);first|apply qza|apply qzb|apply qzc|apply qzd|apply qze|intro(_:Nat)|refine⟨_,rfl,hti,?_⟩|refine⟨_,hcr 0 _ rfl,?_⟩|refine⟨_,rfl,hyi,?_⟩|refine⟨_,hcy 0 _ rfl,?_⟩|refine And.intro ?_ ?_|fail)
     conv=>whnf
     refine⟨b5,j5,bc,ty5,⟨by first|exact hA|(rw [← hA];rfl)|(rw [← hA,q0A]),p1,p2,p3,p4⟩,?_⟩
     repeat((conv=>whnf);first|refine qz ?_|intro(_:Nat))
     conv=>whnf
     refine fun g6 u6=>?_
     have hFx:=qTA (hk5 g6 u6)
     have hle6:g≤g6:=u6.le hg3 (fun h=>by have:=g.wf _ h;omega)
     have hcw:=u6.rd p2 p4
     rw [← hA] at hcw
     repeat'((conv=>whnf);first|apply qza|apply qzb|apply qzc|apply qzd|apply qze|intro(_:Nat)|refine⟨_,fun gp hle hin=>qAB gp (hin.cel (id:=6) rfl 10 rfl),?_⟩|refine And.intro ?_ ?_|fail)
     all_goals (conv=>whnf)
     all_goals (first|exact Eq.refl _|(
     intro g2 hg
     refine⟨_,_,by rw [hE9]<;>rfl,by rw [hW9];exact qDA _ _ _ _ hg hFx,?_⟩
     rw [hM9]
     exact⟨_,_,_,rfl,{hok with pc:=show InR (21:Int) by decide},hop,qCA _ _ _ _ (GW.trans hle6 hg) hcf⟩))
    ·have z2:=of_decide_eq_false z2
     have hk:qaF m=m.answer.kind:=if_pos (by omega)
     obtain⟨row,hrow,hrl⟩:=hS.row
     obtain⟨y,hy⟩:=qAA (l:=row) (i:=(m.answer.kind).toNat) (by omega)
     have hcn:cnt w m.thread (m.answer.kind)=y:=by unfold cnt;rw [hrow,Option.getD_some,hy];rfl
     have hro:(w.counts[m.thread.toNat]?).getD []=row:=by rw [hrow];rfl
     rw [hk] at hW9 hE9
     simp only [addCnt,hcn,hro] at hW9
     obtain⟨b1,k1,b2,k2,hq,hcr,hcy,b5,j5,bc,ty5,⟨hA,p1,p2,p3,p4⟩,_,hk5⟩:=qTF hT hrow hy (q9Q (y+1))
     cases hq
     have hth:=hS.thread
     have hti:0≤m.thread∧m.thread<w.counts.length:=⟨hth.1,by have:=(List.getElem?_eq_some_iff.1 hrow).1;omega⟩
     have hyi:0≤(m.answer.kind)∧(m.answer.kind)<(row.length:Nat):=by omega
     repeat'((conv=>whnf);first|apply qza|apply qzb|apply qzc|apply qzd|apply qze|intro(_:Nat)|refine⟨_,rfl,hti,?_⟩|refine⟨_,hcr 0 _ rfl,?_⟩|refine⟨_,rfl,hyi,?_⟩|refine⟨_,hcy 0 _ rfl,?_⟩|refine And.intro ?_ ?_|fail)
     conv=>whnf
     refine⟨b5,j5,bc,ty5,⟨by first|exact hA|(rw [← hA];rfl)|(rw [← hA,q0A]),p1,p2,p3,p4⟩,?_⟩
     repeat((conv=>whnf);first|refine qz ?_|intro(_:Nat))
     conv=>whnf
     refine fun g6 u6=>?_
     have hFx:=qTA (hk5 g6 u6)
     have hle6:g≤g6:=u6.le hg3 (fun h=>by have:=g.wf _ h;omega)
     have hcw:=u6.rd p2 p4
     rw [← hA] at hcw
     repeat'((conv=>whnf);first|apply qza|apply qzb|apply qzc|apply qzd|apply qze|intro(_:Nat)|refine⟨_,fun gp hle hin=>qAB gp (hin.cel (id:=6) rfl 10 rfl),?_⟩|refine And.intro ?_ ?_|fail)
     all_goals (conv=>whnf)
     all_goals (first|exact Eq.refl _|(
     intro g2 hg
     refine⟨_,_,by rw [hE9]<;>rfl,by rw [hW9];exact qDA _ _ _ _ hg hFx,?_⟩
     rw [hM9]
     exact⟨_,_,_,rfl,{hok with pc:=show InR (21:Int) by decide},hop,qCA _ _ _ _ (GW.trans hle6 hg) hcf⟩))))
/- Requests: the program's step,place 21. -/
open Go.Proofs.YthonngjhelcpeaaGreat.Sx Go.RowKit
theorem qEY (g:GW) {cs ms:List Value} {w:Wd} {m:Mach} (hw:rWo g cs w) (hM:qfA g ms m) (hsn:SnW w) (hb:BgW 1000000 w) (hsz:SmO m) (hgo:hGo w m) (h0:m.pc=21):Ok Tryz.prog qPA [.agg ⟨cs⟩,.agg ⟨ms⟩] g (HaP w m):=by
 obtain⟨hW9,hM9,hE9⟩:=qQB hgo (by omega)
 obtain⟨kW,kM,kE⟩:=ha21 h0
 rw [kW] at hW9
 rw [kM] at hM9
 rw [kE] at hE9
 clear kW kM kE
 have hs:=hgo.1
 obtain⟨v,gr,en,hS⟩:=id (suitB_iff.1 hs)
 obtain⟨oa,ca,ob,cb,oc,cc,od,cd,oe,ce,o1,t1,o2,t2,o3,t3,rfl,rfl,hw0,hM0,⟨i1,i2,i3⟩,hP,hV,hL,hC,hR,⟨a1,a2,a0,hP1⟩,⟨b1,b2,b0,hV1⟩,⟨c1,c2,c0,hL1⟩,⟨d1,d2,d0,hC1⟩,⟨e1,e2,e0,hR1⟩,hok,hop,hcf⟩:=qoB hw hM
 exact Ok.of_fn hm qzD 5 qSA (args:=[.v (.agg ⟨wQ w oa ca ob cb oc cc od cd oe ce⟩),.v (.agg ⟨mQ m o1 t1 o2 t2 o3 t3⟩)]) (by
  repeat((conv=>whnf);first|refine qz ?_|intro(_:Nat))
  conv=>whnf
  refine dT (by omega) ?_
  repeat((conv=>whnf);first|refine qz ?_|intro(_:Nat))
  conv=>whnf
  refine dF (by omega) ?_
  repeat((conv=>whnf);first|refine qz ?_|intro(_:Nat))
  conv=>whnf
  refine dF (by omega) ?_
  repeat((conv=>whnf);first|refine qz ?_|intro(_:Nat))
  conv=>whnf
  refine dF (by omega) ?_
  repeat((conv=>whnf);first|refine qz ?_|intro(_:Nat))
  conv=>whnf
  refine .inl ⟨_,q1A _ hw0 hM0 hsn hb,?_⟩
  repeat((conv=>whnf);first|refine qz ?_|intro(_:Nat))
  conv=>whnf
  refine⟨fun hx=>absurd (hs.symm.trans (nb1 hx)) (by decide),fun _=>?_⟩
  repeat((conv=>whnf);first|refine qz ?_|intro(_:Nat))
  conv=>whnf
  refine⟨fun _=>?_,fun _=>?_⟩
  case' refine_1 =>
   repeat((conv=>whnf);first|refine qz ?_|intro(_:Nat))
   conv=>whnf
   refine⟨fun hx=>absurd hx (by simp [h0]),fun _=>?_⟩
   repeat((conv=>whnf);first|refine qz ?_|intro(_:Nat))
   conv=>whnf
   refine⟨fun hx=>absurd hx (by simp [h0]),fun _=>?_⟩
   repeat((conv=>whnf);first|refine qz ?_|intro(_:Nat))
   conv=>whnf
   refine⟨fun hx=>absurd hx (by simp [h0]),fun _=>?_⟩
  all_goals (
   repeat((conv=>whnf);first|refine qz ?_|intro(_:Nat))
   conv=>whnf
   refine .inl ⟨_,qWB _,?_⟩
   repeat((conv=>whnf);first|refine qz ?_|intro(_:Nat))
   conv=>whnf
   refine⟨21,⟨h0,by decide⟩,?_⟩
   repeat((conv=>whnf);first|refine qz ?_|intro(_:Nat))
   conv=>whnf
   refine⟨fun h=>(nomatch h),fun _=>?_⟩
   repeat((conv=>whnf);first|refine qz ?_|intro(_:Nat))
   refine .inr ((qBB _ hw0 hb).mono fun v g3 hg3 hO=>?_)
   obtain⟨cs,T,rfl,hT⟩:=hO
   have hF:=qTA hT
   obtain⟨oa',ca',ob',cb',oc',cc',od',cd',oe',ce',rfl⟩:=qMA hF
   obtain⟨row,hrow,hrl⟩:=hS.row
   obtain⟨y,hy⟩:=qAA (l:=row) (i:=(0:Int).toNat) (by omega)
   have hcn:cnt w m.thread (0:Int)=y:=by unfold cnt;rw [hrow,Option.getD_some,hy];rfl
   have hro:(w.counts[m.thread.toNat]?).getD []=row:=by rw [hrow];rfl
   simp only [addCnt,hcn,hro] at hW9
   obtain⟨b1,k1,b2,k2,hq,hcr,hcy,b5,j5,bc,ty5,⟨hA,p1,p2,p3,p4⟩,_,hk5⟩:=qTF hT hrow hy (q9Q (y+1))
   cases hq
   have hth:=hS.thread
   have hti:0≤m.thread∧m.thread<w.counts.length:=⟨hth.1,by have:=(List.getElem?_eq_some_iff.1 hrow).1;omega⟩
   have hyi:0≤(0:Int)∧(0:Int)<(row.length:Nat):=by omega
   repeat((conv=>whnf);first|refine qz ?_|intro(_:Nat))
   conv=>whnf
   refine⟨qHG,?_⟩
   repeat'((conv=>whnf);first|apply qza|apply qzb|apply qzc|apply qzd|apply qze|intro(_:Nat)|refine⟨_,rfl,hti,?_⟩|refine⟨_,hcr 0 _ rfl,?_⟩|refine⟨_,rfl,hyi,?_⟩|refine⟨_,hcy 0 _ rfl,?_⟩|refine And.intro ?_ ?_|fail)
   conv=>whnf
   refine⟨b5,j5,bc,ty5,⟨by first|exact hA|(rw [← hA];rfl)|(rw [← hA,q0A]),p1,p2,p3,p4⟩,?_⟩
   repeat((conv=>whnf);first|refine qz ?_|intro(_:Nat))
   conv=>whnf
   refine fun g6 u6=>?_
   have hFx:=qTA (hk5 g6 u6)
   have hle6:g≤g6:=u6.le hg3 (fun h=>by have:=g.wf _ h;omega)
   have hcw:=u6.rd p2 p4
   rw [← hA] at hcw
   repeat((conv=>whnf);first|refine qz ?_|intro(_:Nat))
   refine And.intro (fun z=>?_) (fun z=>?_)
   ·have z:=beqT z
    rw [if_pos (.inl z)] at hM9
    repeat'((conv=>whnf);first|apply qza|apply qzb|apply qzc|apply qzd|apply qze|intro(_:Nat)|refine⟨_,fun gp hle hin=>qAB gp (hin.cel (id:=6) rfl 10 rfl),?_⟩|refine And.intro ?_ ?_|fail)
    all_goals (conv=>whnf)
    all_goals (first|exact Eq.refl _|(
    intro g2 hg
    refine⟨_,_,by rw [hE9]<;>rfl,by rw [hW9];exact qDA _ _ _ _ hg hFx,?_⟩
    rw [hM9]
    exact⟨_,_,_,rfl,{hok with pc:=show InR (23:Int) by decide},hop,qCA _ _ _ _ (GW.trans hle6 hg) hcf⟩))
   ·have z:=beqF z
    repeat((conv=>whnf);first|refine qz ?_|intro(_:Nat))
    refine And.intro (fun z2=>?_) (fun z2=>?_)
    ·have z2:=of_decide_eq_true z2
     rw [if_pos (.inr z2)] at hM9
     repeat'((conv=>whnf);first|apply qza|apply qzb|apply qzc|apply qzd|apply qze|intro(_:Nat)|refine⟨_,fun gp hle hin=>qAB gp (hin.cel (id:=6) rfl 10 rfl),?_⟩|refine And.intro ?_ ?_|fail)
     all_goals (conv=>whnf)
     all_goals (first|exact Eq.refl _|(
     intro g2 hg
     refine⟨_,_,by rw [hE9]<;>rfl,by rw [hW9];exact qDA _ _ _ _ hg hFx,?_⟩
     rw [hM9]
     exact⟨_,_,_,rfl,{hok with pc:=show InR (23:Int) by decide},hop,qCA _ _ _ _ (GW.trans hle6 hg) hcf⟩))
    ·have z2:=of_decide_eq_false z2
     rw [if_neg (by omega)] at hM9
     repeat'((conv=>whnf);first|apply qza|apply qzb|apply qzc|apply qzd|apply qze|intro(_:Nat)|refine⟨_,fun gp hle hin=>qAB gp (hin.cel (id:=6) rfl 10 rfl),?_⟩|refine And.intro ?_ ?_|fail)
     all_goals (conv=>whnf)
     all_goals (first|exact Eq.refl _|(
     intro g2 hg
     refine⟨_,_,by rw [hE9]<;>rfl,by rw [hW9];exact qDA _ _ _ _ hg hFx,?_⟩
     rw [hM9]
     exact⟨_,_,_,rfl,{hok with pc:=show InR (22:Int) by decide},hop,qCA _ _ _ _ (GW.trans hle6 hg) hcf⟩))))
/- Requests: the program's step,place 22. -/
open Go.Proofs.YthonngjhelcpeaaGreat.Sx Go.RowKit
theorem qDY (g:GW) {cs ms:List Value} {w:Wd} {m:Mach} (hw:rWo g cs w) (hM:qfA g ms m) (hsn:SnW w) (hb:BgW 1000000 w) (hsz:SmO m) (hgo:hGo w m) (h0:m.pc=22):Ok Tryz.prog qPA [.agg ⟨cs⟩,.agg ⟨ms⟩] g (HaP w m):=by
 obtain⟨hW9,hM9,hE9⟩:=qQB hgo (by omega)
 obtain⟨kW,kM,kE⟩:=ha22 h0
 rw [kW] at hW9
 rw [kM] at hM9
 rw [kE] at hE9
 clear kW kM kE
 have hs:=hgo.1
 obtain⟨v,gr,en,hS⟩:=id (suitB_iff.1 hs)
 obtain⟨oa,ca,ob,cb,oc,cc,od,cd,oe,ce,o1,t1,o2,t2,o3,t3,rfl,rfl,hw0,hM0,⟨i1,i2,i3⟩,hP,hV,hL,hC,hR,⟨a1,a2,a0,hP1⟩,⟨b1,b2,b0,hV1⟩,⟨c1,c2,c0,hL1⟩,⟨d1,d2,d0,hC1⟩,⟨e1,e2,e0,hR1⟩,hok,hop,hcf⟩:=qoB hw hM
 exact Ok.of_fn hm qzD 5 qSA (args:=[.v (.agg ⟨wQ w oa ca ob cb oc cc od cd oe ce⟩),.v (.agg ⟨mQ m o1 t1 o2 t2 o3 t3⟩)]) (by
  repeat((conv=>whnf);first|refine qz ?_|intro(_:Nat))
  conv=>whnf
  refine dT (by omega) ?_
  repeat((conv=>whnf);first|refine qz ?_|intro(_:Nat))
  conv=>whnf
  refine dF (by omega) ?_
  repeat((conv=>whnf);first|refine qz ?_|intro(_:Nat))
  conv=>whnf
  refine dF (by omega) ?_
  repeat((conv=>whnf);first|refine qz ?_|intro(_:Nat))
  conv=>whnf
  refine dF (by omega) ?_
  repeat((conv=>whnf);first|refine qz ?_|intro(_:Nat))
  conv=>whnf
  refine .inl ⟨_,q1A _ hw0 hM0 hsn hb,?_⟩
  repeat((conv=>whnf);first|refine qz ?_|intro(_:Nat))
  conv=>whnf
  refine⟨fun hx=>absurd (hs.symm.trans (nb1 hx)) (by decide),fun _=>?_⟩
  repeat((conv=>whnf);first|refine qz ?_|intro(_:Nat))
  have hli:0≤m.listen:=by have:=hgo.2.2;omega
  conv=>whnf
  refine dF (by omega) ?_
  repeat((conv=>whnf);first|refine qz ?_|intro(_:Nat))
  repeat((conv=>whnf);first|refine qz ?_|intro(_:Nat))
  conv=>whnf
  refine .inl ⟨_,qWB _,?_⟩
  repeat((conv=>whnf);first|refine qz ?_|intro(_:Nat))
  conv=>whnf
  refine⟨22,⟨h0,by decide⟩,?_⟩
  repeat((conv=>whnf);first|refine qz ?_|intro(_:Nat))
  conv=>whnf
  refine⟨fun h=>(nomatch h),fun _=>?_⟩
  repeat((conv=>whnf);first|refine qz ?_|intro(_:Nat))
  refine .inr ((qBB _ hw0 hb).mono fun v g3 hg3 hO=>?_)
  obtain⟨cs,T,rfl,hT⟩:=hO
  have hF:=qTA hT
  obtain⟨oa',ca',ob',cb',oc',cc',od',cd',oe',ce',rfl⟩:=qMA hF
  obtain⟨x,hx⟩:=qAA (l:=w.listens) (i:=m.listen.toNat) (by have:=hS.listen;omega)
  have hmL:mL w m=x:=by unfold mL;rw [hx];rfl
  rw [hmL] at hW9 hE9
  have hli2:=hS.listen
  obtain⟨bk,cap,hv,rcl,b5,j5,bc,ty5,⟨hA,p1,p2,p3,p4⟩,_,hk5⟩:=qSQ hT hx (x':={x with active:=wI (x.active-1)}) (o:=2) (vs:=[.int .i64 (wI (x.active-1))]) (by simp) (by simp [Value.oneCell']) rfl (q4G _)
  cases hv
  obtain⟨hxa,hcl⟩:=qZF (qwN hF) hx
  repeat((conv=>whnf);first|refine qz ?_|intro(_:Nat))
  conv=>whnf
  refine⟨qtI,?_⟩
  repeat((conv=>whnf);first|refine qz ?_|intro(_:Nat))
  conv=>whnf
  refine⟨_,rfl,⟨by omega,by omega⟩,?_⟩
  repeat((conv=>whnf);first|refine qz ?_|intro(_:Nat))
  conv=>whnf
  refine⟨_,hcl 2 _ rfl,?_⟩
  repeat((conv=>whnf);first|refine qz ?_|intro(_:Nat))
  conv=>whnf
  refine⟨b5,j5,bc,ty5,⟨hA,p1,p2,p3,p4⟩,?_⟩
  repeat((conv=>whnf);first|refine qz ?_|intro(_:Nat))
  conv=>whnf
  refine fun g6 u6=>?_
  have hFx:=qTA (hk5 g6 u6)
  have hle6:g≤g6:=u6.le hg3 (fun h=>by have:=g.wf _ h;omega)
  obtain⟨_,hcl'⟩:=qZF (qwN hFx) (i:=m.listen.toNat) (x:={x with active:=wI (x.active-1)}) (by simp only [List.getElem?_set];simp;omega)
  repeat((conv=>whnf);first|refine qz ?_|intro(_:Nat))
  conv=>whnf
  refine⟨_,hcl' 2 _ rfl,?_⟩
  repeat((conv=>whnf);first|refine qz ?_|intro(_:Nat))
  conv=>whnf
  refine⟨_,fun gp hle hin=>qAB gp (hin.2.2.1 10 _ rfl),?_⟩
  repeat((conv=>whnf);first|refine qz ?_|intro(_:Nat))
  conv=>whnf
  intro g2 hg
  refine⟨_,_,by rw [hE9];rfl,by rw [hW9];exact qDA _ _ _ _ hg hFx,?_⟩
  rw [hM9]
  exact⟨_,_,_,rfl,{hok with pc:=show InR (23:Int) by decide},hop,qCA _ _ _ _ (GW.trans hle6 hg) hcf⟩)
/- Requests: the program's step,place 23. -/
open Go.Proofs.YthonngjhelcpeaaGreat.Sx Go.RowKit
theorem qCY (g:GW) {cs ms:List Value} {w:Wd} {m:Mach} (hw:rWo g cs w) (hM:qfA g ms m) (hsn:SnW w) (hb:BgW 1000000 w) (hsz:SmO m) (hgo:hGo w m) (h0:m.pc=23):Ok Tryz.prog qPA [.agg ⟨cs⟩,.agg ⟨ms⟩] g (HaP w m):=by
 obtain⟨hW9,hM9,hE9⟩:=qQB hgo (by omega)
 obtain⟨kW,kM,kE⟩:=ha23 h0
 rw [kW] at hW9
 rw [kM] at hM9
 rw [kE] at hE9
 clear kW kM kE
 have hs:=hgo.1
 obtain⟨v,gr,en,hS⟩:=id (suitB_iff.1 hs)
 obtain⟨oa,ca,ob,cb,oc,cc,od,cd,oe,ce,o1,t1,o2,t2,o3,t3,rfl,rfl,hw0,hM0,⟨i1,i2,i3⟩,hP,hV,hL,hC,hR,⟨a1,a2,a0,hP1⟩,⟨b1,b2,b0,hV1⟩,⟨c1,c2,c0,hL1⟩,⟨d1,d2,d0,hC1⟩,⟨e1,e2,e0,hR1⟩,hok,hop,hcf⟩:=qoB hw hM
 exact Ok.of_fn hm qzD 5 qSA (args:=[.v (.agg ⟨wQ w oa ca ob cb oc cc od cd oe ce⟩),.v (.agg ⟨mQ m o1 t1 o2 t2 o3 t3⟩)]) (by
  repeat((conv=>whnf);first|refine qz ?_|intro(_:Nat))
  conv=>whnf
  refine dT (by omega) ?_
  repeat((conv=>whnf);first|refine qz ?_|intro(_:Nat))
  conv=>whnf
  refine dF (by omega) ?_
  repeat((conv=>whnf);first|refine qz ?_|intro(_:Nat))
  conv=>whnf
  refine dF (by omega) ?_
  repeat((conv=>whnf);first|refine qz ?_|intro(_:Nat))
  conv=>whnf
  refine dF (by omega) ?_
  repeat((conv=>whnf);first|refine qz ?_|intro(_:Nat))
  conv=>whnf
  refine .inl ⟨_,q1A _ hw0 hM0 hsn hb,?_⟩
  repeat((conv=>whnf);first|refine qz ?_|intro(_:Nat))
  conv=>whnf
  refine⟨fun hx=>absurd (hs.symm.trans (nb1 hx)) (by decide),fun _=>?_⟩
  repeat((conv=>whnf);first|refine qz ?_|intro(_:Nat))
  conv=>whnf
  refine⟨fun _=>?_,fun _=>?_⟩
  case' refine_1 =>
   repeat((conv=>whnf);first|refine qz ?_|intro(_:Nat))
   conv=>whnf
   refine⟨fun hx=>absurd hx (by simp [h0]),fun _=>?_⟩
   repeat((conv=>whnf);first|refine qz ?_|intro(_:Nat))
   conv=>whnf
   refine⟨fun hx=>absurd hx (by simp [h0]),fun _=>?_⟩
   repeat((conv=>whnf);first|refine qz ?_|intro(_:Nat))
   conv=>whnf
   refine⟨fun hx=>absurd hx (by simp [h0]),fun _=>?_⟩
  all_goals (
   repeat((conv=>whnf);first|refine qz ?_|intro(_:Nat))
   conv=>whnf
   refine .inl ⟨_,qWB _,?_⟩
   repeat((conv=>whnf);first|refine qz ?_|intro(_:Nat))
   conv=>whnf
   refine⟨23,⟨h0,by decide⟩,?_⟩
   repeat((conv=>whnf);first|refine qz ?_|intro(_:Nat))
   conv=>whnf
   refine⟨fun h=>(nomatch h),fun _=>?_⟩
   repeat((conv=>whnf);first|refine qz ?_|intro(_:Nat))
   refine .inr ((qBB _ hw0 hb).mono fun v g3 hg3 hO=>?_)
   obtain⟨cs,T,rfl,hT⟩:=hO
   have hF:=qTA hT
   obtain⟨oa',ca',ob',cb',oc',cc',od',cd',oe',ce',rfl⟩:=qMA hF
   repeat((conv=>whnf);first|refine qz ?_|intro(_:Nat))
   conv=>whnf
   refine⟨qsI,?_⟩
   repeat((conv=>whnf);first|refine qz ?_|intro(_:Nat))
   refine .inr ((qZZ _ hF (qXA _ _ _ _ hg3 hM0) hsn hb).mono fun v4 g4 hg4 hO=>?_)
   obtain⟨cs4,rfl,hO⟩:=hO
   obtain⟨_,_,_,_,_,_,_,_,_,_,rfl⟩:=qMA hO
   repeat'((conv=>whnf);first|apply qza|apply qzb|apply qzc|apply qzd|apply qze|intro(_:Nat)|refine And.intro ?_ ?_|fail)
   all_goals (conv=>whnf)
   all_goals (first|exact Eq.refl _|(
   intro g2 hg
   refine⟨_,_,by rw [hE9]<;>rfl,by rw [hW9];exact qDA _ _ _ _ hg hO,?_⟩
   rw [hM9]
   exact⟨_,_,_,rfl,{hok with},hop,qCA _ _ _ _ (GW.trans (GW.trans hg3 hg4) hg) hcf⟩))))
/- Machines: events of no version,ends;the document's. -/
open Go.Proofs.YthonngjhelcpeaaGreat.Sx Go.RowKit
theorem qwC (g:GW) (m:Mach) {o1 o2 o3:Option Addr} {l1 l2 l3 t1 t2 t3:Nat} (a c v:Int):OkV Tryz.prog qbI [.agg ⟨m.cs (.slice o1 l1 t1) (.slice o2 l2 t2) (.slice o3 l3 t3)⟩,.int .i64 a,.int .i64 c,.int .i64 v] g (.agg ⟨(⟨m.thread,0,a,c,-1,false,v,false,false,false,ans0⟩:Ev).cs⟩) :=
 Ok.of_fn hm noT 0 qDI (args:=[.v (.agg ⟨m.cs (.slice o1 l1 t1) (.slice o2 l2 t2) (.slice o3 l3 t3)⟩),.v (.int .i64 a),.v (.int .i64 c),.v (.int .i64 v)]) (by
  repeat((conv=>whnf);first|refine qz ?_|intro(_:Nat))
  conv=>whnf
  intro g2 hg
  rfl)
/- Requests: the document's words,events,endpoints. -/
open Go.Proofs.YthonngjhelcpeaaGreat.Sx Go.RowKit
theorem qhU (g:GW) {i:Int}:OkV Tryz.prog qlI [.int .i64 i] g (.bool (qCB i)) :=
 Ok.of_fn hm noT 0 qNI (args:=[.v (.int .i64 i)]) (by
  repeat'((conv=>whnf);first|apply qza|apply qzb|apply qzc|apply qzd|apply qze|intro(_:Nat)|refine And.intro (fun _=>?_) (fun _=>?_)|fail)
  all_goals (conv=>whnf)
  all_goals (intro g2 hg;unfold qCB;simp_all)
  all_goals omega)
theorem qqT (g:GW) {w:Int} (hw:InU w):OkV Tryz.prog qbL [.int .u64 w] g (.int .u32 (tagT w)) :=
 Ok.of_fn hm noT 0 q9K (args:=[.v (.int .u64 w)]) (by
  repeat((conv=>whnf);first|refine qz ?_|intro(_:Nat))
  conv=>whnf
  refine⟨by decide,?_⟩
  repeat((conv=>whnf);first|refine qz ?_|intro(_:Nat))
  conv=>whnf
  intro g2 hg
  have h1:0≤tagT w∧tagT w<4294967296:=by
   unfold tagT
   obtain⟨a,b⟩:=hw
   constructor<;>omega
  have e2:w.tdiv 4294967296=tagT w:=by rw [Int.tdiv_eq_ediv_of_nonneg hw.1];rfl
  rw [e2]
  have e3:IntKind.u64.wrap (tagT w)=tagT w:=IntWalk.u64_in _ (by omega)
  rw [e3,IntKind.wrap_u32,Int.emod_eq_of_lt h1.1 h1.2])
theorem qfR (g:GW) {t i:Int} (ht:0≤t∧t<4294967296) (hi:InR i):OkV Tryz.prog qLK [.int .u32 t,.int .i64 i] g (.tuple #[.int .u64 (if qCB i then t*4294967296+(i+1) else 0),.int .i64 (if qCB i then 0 else 1)]) :=
 Ok.of_fn hm noT 0 qoJ (args:=[.v (.int .u32 t),.v (.int .i64 i)]) (by
  repeat((conv=>whnf);first|refine qz ?_|intro(_:Nat))
  conv=>whnf
  refine .inl ⟨_,qhU _,?_⟩
  repeat((conv=>whnf);first|refine qz ?_|intro(_:Nat))
  cases hp:qCB i
  ·conv=>whnf
   refine⟨fun _=>?_,fun h=>nomatch h⟩
   repeat((conv=>whnf);first|refine qz ?_|intro(_:Nat))
   conv=>whnf
   intro g2 hg
   rfl
  ·conv=>whnf
   refine⟨fun h=>(nomatch h),fun _=>?_⟩
   repeat((conv=>whnf);first|refine qz ?_|intro(_:Nat))
   conv=>whnf
   intro g2 hg
   have hp:-1≤i∧i≤2147483646:=by simpa [qCB] using hp
   have e1:IntKind.u64.wrap t=t:=IntWalk.u64_in t (by omega)
   have e2:IntKind.u64.wrap (t*4294967296)=t*4294967296:=IntWalk.u64_in _ (by omega)
   have e3:IntKind.u64.wrap (IntKind.i64.wrap (i+1))=i+1:=by rw [wr (by unfold InR;omega)];exact IntWalk.u64_in _ (by omega)
   have e4:IntKind.u64.wrap (t*4294967296+(i+1))=t*4294967296+(i+1):=IntWalk.u64_in _ (by omega)
   rw [e1,e2,e3,e4];rfl)
theorem qeR (g:GW) {w i:Int} (hw:InU w) (hi:InR i):OkV Tryz.prog qKK [.int .u64 w,.int .i64 i] g (.tuple #[.int .u64 (if qCB i then qXE w i else 0),.int .i64 (if qCB i then 0 else 1)]) :=
 Ok.of_fn hm noT 0 qnJ (args:=[.v (.int .u64 w),.v (.int .i64 i)]) (by
  have h1:0≤tagT w∧tagT w<4294967296:=by
   unfold tagT
   obtain⟨a,b⟩:=hw
   constructor<;>omega
  repeat((conv=>whnf);first|refine qz ?_|intro(_:Nat))
  conv=>whnf
  refine .inl ⟨_,qqT _ hw,?_⟩
  repeat((conv=>whnf);first|refine qz ?_|intro(_:Nat))
  refine And.intro (fun z=>?_) (fun z=>?_)
  ·have z:=of_decide_eq_true z
   have e0:IntKind.u32.wrap (tagT w+1)=tagT w+1:=by rw [IntKind.wrap_u32];exact Int.emod_eq_of_lt (by omega) (by omega)
   repeat((conv=>whnf);first|refine qz ?_|intro(_:Nat))
   conv=>whnf
   refine .inl ⟨_,qqT _ hw,?_⟩
   repeat((conv=>whnf);first|refine qz ?_|intro(_:Nat))
   conv=>whnf
   refine .inl ⟨_,qfR _ (t:=IntKind.u32.wrap (tagT w+1)) (i:=i) (by rw [e0];omega) hi,?_⟩
   repeat((conv=>whnf);first|refine qz ?_|intro(_:Nat))
   conv=>whnf
   intro g2 hg
   rw [e0]
   unfold qXE
   rw [Int.emod_eq_of_lt (by omega) (by omega)]
  ·have z:¬ _:=of_decide_eq_false z
   repeat((conv=>whnf);first|refine qz ?_|intro(_:Nat))
   conv=>whnf
   refine .inl ⟨_,qfR _ (t:=0) (i:=i) (by decide) hi,?_⟩
   repeat((conv=>whnf);first|refine qz ?_|intro(_:Nat))
   conv=>whnf
   intro g2 hg
   unfold qXE
   rw [show tagT w+1=4294967296 by omega];rfl)
theorem qnV (g:GW) (b:Bool):OkV Tryz.prog qSL [.bool b] g (.int .i64 (if b then 1 else 0)) :=
 Ok.of_fn hm noT 0 q0K (args:=[.v (.bool b)]) (by
  cases b
  ·conv=>whnf
   refine⟨fun h=>(nomatch h),fun _=>?_⟩
   repeat((conv=>whnf);first|refine qz ?_|intro(_:Nat))
   conv=>whnf
   intro g2 hg
   rfl
  ·conv=>whnf
   refine⟨fun _=>?_,fun h=>nomatch h⟩
   repeat((conv=>whnf);first|refine qz ?_|intro(_:Nat))
   conv=>whnf
   intro g2 hg
   rfl)
theorem q2F (g:GW) (m:Mach) {o1 o2 o3:Option Addr} {l1 l2 l3 t1 t2 t3:Nat} {e0 e1 e2:Int} {oa oc od oe:Option Addr} {na nv nc nd ne ca cv cc cd ce:Nat} {av:Addr} {q1 q2 q3 q4:Value} {fr:Bool} (a c v:Int) (hi:0≤m.version∧m.version<nv) (hv:Rcs g (av.add (m.version.toNat*5)) [q1,q2,q3,q4,.bool fr]) :
  OkV Tryz.prog qTL [.agg ⟨[.int .i64 e0,.int .i64 e1,.int .i64 e2,.slice oa na ca,.slice (some av) nv cv,.slice oc nc cc,.slice od nd cd,.slice oe ne ce]⟩,.agg ⟨m.cs (.slice o1 l1 t1) (.slice o2 l2 t2) (.slice o3 l3 t3)⟩,.int .i64 a,.int .i64 c,.int .i64 v] g (.agg ⟨(⟨m.thread,0,a,c,m.version,fr,v,false,false,false,ans0⟩:Ev).cs⟩) :=
 Ok.of_fn hm noT 0 q1K (args:=[.v (.agg ⟨[.int .i64 e0,.int .i64 e1,.int .i64 e2,.slice oa na ca,.slice (some av) nv cv,.slice oc nc cc,.slice od nd cd,.slice oe ne ce]⟩),.v (.agg ⟨m.cs (.slice o1 l1 t1) (.slice o2 l2 t2) (.slice o3 l3 t3)⟩),.v (.int .i64 a),.v (.int .i64 c),.v (.int .i64 v)]) (by
  repeat'((conv=>whnf);first|apply qza|apply qzb|apply qzc|apply qzd|apply qze|intro(_:Nat)|refine⟨_,rfl,hi,?_⟩|refine⟨_,hv 4 _ rfl,?_⟩|refine And.intro ?_ ?_|fail)
  all_goals (conv=>whnf)
  all_goals (first|exact Eq.refl _|(intro g2 hg;rfl)))
theorem q9X (g:GW) (m:Mach) {o1 o2 o3:Option Addr} {l1 l2 l3 t1 t2 t3:Nat} {e0 e1 e2:Int} {oa oc od oe:Option Addr} {na nv nc nd ne ca cv cc cd ce:Nat} {av ag ae:Addr} {ng cg nn cn:Nat} {q1 q2 q3 q5 tk:Value} {hd ac:Int} {oN:Option Addr} {lN cN:Nat} (hi:0≤m.version∧m.version<nv) (hv:Rcs g (av.add (m.version.toNat*5)) [q1,q2,q3,.slice (some ag) ng cg,q5]) (hj:0≤m.cluster∧m.cluster<ng) (hg:Rcs g (ag.add (m.cluster.toNat*2)) [tk,.slice (some ae) nn cn]) (hk:0≤m.end_∧m.end_<nn) (he:Rcs g (ae.add (m.end_.toNat*3)) [.int .u64 hd,.slice oN lN cN,.int .i64 ac]) :
  OkV Tryz.prog qUL [.agg ⟨[.int .i64 e0,.int .i64 e1,.int .i64 e2,.slice oa na ca,.slice (some av) nv cv,.slice oc nc cc,.slice od nd cd,.slice oe ne ce]⟩,.agg ⟨m.cs (.slice o1 l1 t1) (.slice o2 l2 t2) (.slice o3 l3 t3)⟩] g (.agg ⟨[.int .u64 hd,.slice oN lN cN,.int .i64 ac]⟩) :=
 Ok.of_fn hm noT 0 q2K (args:=[.v (.agg ⟨[.int .i64 e0,.int .i64 e1,.int .i64 e2,.slice oa na ca,.slice (some av) nv cv,.slice oc nc cc,.slice od nd cd,.slice oe ne ce]⟩),.v (.agg ⟨m.cs (.slice o1 l1 t1) (.slice o2 l2 t2) (.slice o3 l3 t3)⟩)]) (by
  repeat'((conv=>whnf);first|apply qza|apply qzb|apply qzc|apply qzd|apply qze|intro(_:Nat)|refine⟨_,rfl,hi,?_⟩|refine⟨_,hv 3 _ rfl,?_⟩|refine⟨_,rfl,hj,?_⟩|refine⟨_,hg 1 _ rfl,?_⟩|refine⟨_,rfl,hk,?_⟩|refine⟨_,⟨rfl,he⟩,?_⟩|refine And.intro ?_ ?_|fail)
  all_goals (conv=>whnf)
  all_goals (first|exact Eq.refl _|(intro g2 hg;rfl)))
theorem qvW (g:GW) (m:Mach):OkV Tryz.prog qzJ [.int .i64 m.answer.kind] g (.int .i64 (qaF m)) :=
 Ok.of_fn hm noT 0 qSJ (args:=[.v (.int .i64 m.answer.kind)]) (by
  repeat((conv=>whnf);first|refine qz ?_|intro(_:Nat))
  refine And.intro (fun z=>?_) (fun z=>?_)
  rotate_left
  ·have z:=of_decide_eq_false z
   have hk:qaF m=0:=if_neg (by omega)
   repeat((conv=>whnf);first|refine qz ?_|intro(_:Nat))
   conv=>whnf
   intro g2 hg
   rw [hk]
  have z:=of_decide_eq_true z
  repeat((conv=>whnf);first|refine qz ?_|intro(_:Nat))
  refine And.intro (fun z2=>?_) (fun z2=>?_)
  rotate_left
  ·have z2:=of_decide_eq_false z2
   have hk:qaF m=0:=if_neg (by omega)
   repeat((conv=>whnf);first|refine qz ?_|intro(_:Nat))
   conv=>whnf
   intro g2 hg
   rw [hk]
  have z2:=of_decide_eq_true z2
  have hk:qaF m=m.answer.kind:=if_pos (by omega)
  rw [hk]
  rcases(by omega:m.answer.kind=1∨m.answer.kind=2∨m.answer.kind=3∨m.answer.kind=4∨m.answer.kind=5) with h|h|h|h|h
  ·repeat((conv=>whnf);first|refine qz ?_|intro(_:Nat))
   conv=>whnf
   refine⟨1,⟨h,by decide⟩,?_⟩
   repeat((conv=>whnf);first|refine qz ?_|intro(_:Nat))
   conv=>whnf
   intro g2 hg
   rw [h]
  ·repeat((conv=>whnf);first|refine qz ?_|intro(_:Nat))
   conv=>whnf
   refine⟨2,⟨h,by decide⟩,?_⟩
   repeat((conv=>whnf);first|refine qz ?_|intro(_:Nat))
   conv=>whnf
   intro g2 hg
   rw [h]
  ·repeat((conv=>whnf);first|refine qz ?_|intro(_:Nat))
   conv=>whnf
   refine⟨3,⟨h,by decide⟩,?_⟩
   repeat((conv=>whnf);first|refine qz ?_|intro(_:Nat))
   conv=>whnf
   intro g2 hg
   rw [h]
  ·repeat((conv=>whnf);first|refine qz ?_|intro(_:Nat))
   conv=>whnf
   refine⟨4,⟨h,by decide⟩,?_⟩
   repeat((conv=>whnf);first|refine qz ?_|intro(_:Nat))
   conv=>whnf
   intro g2 hg
   rw [h]
  ·repeat((conv=>whnf);first|refine qz ?_|intro(_:Nat))
   conv=>whnf
   refine⟨5,⟨h,by decide⟩,?_⟩
   repeat((conv=>whnf);first|refine qz ?_|intro(_:Nat))
   conv=>whnf
   intro g2 hg
   rw [h])
theorem q3H (g:GW) (m:Mach) {o1 o2 o3:Option Addr} {l1 l2 l3 t1 t2 t3:Nat} (a:Int):OkV Tryz.prog qYE [.agg ⟨m.cs (.slice o1 l1 t1) (.slice o2 l2 t2) (.slice o3 l3 t3)⟩,.int .i64 a] g (.agg ⟨Mach.cs (.slice o1 l1 t1) (.slice o2 l2 t2) (.slice o3 l3 t3) (q0O m a)⟩) :=
 Ok.of_fn hm noT 0 qPE (args:=[.v (.agg ⟨m.cs (.slice o1 l1 t1) (.slice o2 l2 t2) (.slice o3 l3 t3)⟩),.v (.int .i64 a)]) (by
  repeat((conv=>whnf);first|refine qz ?_|intro(_:Nat))
  conv=>whnf
  intro g2 hg
  rfl)
def tHr:List (Nat×FnI):=[(qaI,q5D),(qZI,q4D),(qYI,q3D),(qWH,qpD),(qhD,qoD),(qYE,qdE)]
theorem qyD:q3G Tryz.prog tHr:=by
 intro x hx
 simp only [tHr,List.mem_cons,List.not_mem_nil,or_false] at hx
 rcases hx with rfl|rfl|rfl|rfl|rfl|rfl
 ·exact⟨_,_,qCI⟩
 ·exact⟨_,_,qBI⟩
 ·exact⟨_,_,qAI⟩
 ·exact⟨_,_,qBH⟩
 ·exact⟨_,_,qcD⟩
 ·exact⟨_,_,qPE⟩
/- Requests: the document's routing. -/
open Go.Proofs.YthonngjhelcpeaaGreat.Sx Go.RowKit
theorem qfU (g:GW) {w:Wd} {m:Mach} {v:Version} {gr:Group} {en:EndC} {oa ob oc od oe o1 o2 o3:Option Addr} {ca cb cc cd ce t1 t2 t3:Nat} (hw0:rWo g (wQ w oa ca ob cb oc cc od cd oe ce) w) (hS:SuitP w m v gr en) (hsn:SnW w) (hsz:SmO m) (hop:InR m.op.kind∧InR m.op.d0∧InR m.op.d1∧InR m.op.n) :
  OkV Tryz.prog qhD [.agg ⟨wQ w oa ca ob cb oc cc od cd oe ce⟩,.agg ⟨mQ m o1 t1 o2 t2 o3 t3⟩] g (.agg ⟨Mach.cs (.slice o1 m.op.config.listens.length t1) (.slice o2 m.op.config.routes.length t2) (.slice o3 m.op.config.clusters.length t3) (qEL w m)⟩):=by
 have hV:=qvN hw0
 obtain⟨av0,rfl⟩:=qGA hV hS.ver.2
 obtain⟨oL0,cL0,oR0,cR0,oC0,cC0,oG0,cG0,hcv0,hsn0,hcK0,hcG0⟩:=qrC hV hS.ver.2
 obtain⟨ag0,rfl⟩:=qGA hcG0 hS.clu.2
 obtain⟨oE0,cE0,hcg0,htk0,hcE0⟩:=q5C hcG0 hS.clu.2
 obtain⟨ae0,rfl⟩:=qGA hcE0 hS.end_.2
 obtain⟨oN0,cN0,hce0,hei0,hcN0⟩:=qmC hcE0 hS.end_.2
 obtain⟨hvi,hgi,hki⟩:=hS.idx
 obtain⟨hmV,hmG,hmE⟩:=hS.at_
 have hsv:=hsn v (List.mem_of_getElem? hS.ver.2)
 obtain⟨fc,fe,hfv,hfc⟩:=q4T v.snap m.op.listen m.op.host m.op.path
 have hfi:=(qyW g hsn0 m.op.listen m.op.host m.op.path ⟨fun r hr=>⟨by have:=(hsv.2 r hr).1;omega,by have:=(hsv.2 r hr).2;omega⟩,hsz⟩).to hfv
 have hcv3:=hcv0.sub 0 3
 exact Ok.of_fn hm noT 0 qcD (args:=[.v (.agg ⟨[.int .i64 w.epoch,.int .i64 w.current,.int .i64 w.lock,.slice oa w.pins.length ca,.slice (some av0) w.versions.length cb,.slice oc w.listens.length cc,.slice od w.counts.length cd,.slice oe w.limbo.length ce]⟩),.v (.agg ⟨mQ m o1 t1 o2 t2 o3 t3⟩)]) (by
  simp only [qEL,hmV]
  repeat'((conv=>whnf);first|apply qza|apply qzb|apply qzc|apply qzd|apply qze|intro(_:Nat)|refine⟨_,rfl,hvi,?_⟩|refine⟨_,⟨rfl,hcv3⟩,?_⟩|refine .inl ⟨_,hfi,?_⟩|fail)
  rcases hfc with ⟨rfl,hfo⟩|⟨hne,hfo⟩
  rotate_left
  ·refine And.intro (fun _=>?_) (fun hx=>absurd hx (by simpa using hne))
   repeat'((conv=>whnf);first|apply qza|apply qzb|apply qzc|apply qzd|apply qze|intro(_:Nat)|refine .inl ⟨_,q3H _ m 2,?_⟩|fail)
   conv=>whnf
   intro g2 hg
   simp only [hfo]
  refine And.intro (fun hx=>absurd hx (by simp)) (fun _=>?_)
  have hVP:=qtD hS.right hS.ver.2
  have hfr:=qYN hVP.good hfo
  obtain⟨ck,hck⟩:=qAA (l:=v.snap.clusters) (i:=fc.toNat) (by omega)
  obtain⟨gk,hgk⟩:=qAA (l:=v.groups) (i:=fc.toNat) (by have:=hVP.len;omega)
  have hmC:mC w {m with cluster:=fc}=ck:=by unfold mC;rw [show mV w {m with cluster:=fc}=v from hmV];show(v.snap.clusters[fc.toNat]?).getD _=_;rw [hck];rfl
  obtain⟨ck',hck',he2,_,he4,_,_⟩:=hVP.ends hgk
  cases hck.symm.trans hck'
  have hszk:ck.health.length≤17592186044416:=by omega
  obtain⟨akk,rfl⟩:=qGA hcK0 hck
  obtain⟨_,_,hrc,hckc⟩:=qIL hcK0 hck
  obtain⟨vh,rfl,hpo,_,hh⟩:=id hrc
  obtain⟨oh,ch,rfl,_⟩:=id hh
  simp only [hfo,hmC]
  have hdw:=qzW g hrc hszk hop.2.1 hop.2.2.1
  by_cases hn:qEA ck=[]
  ·have hd5:=hdw.to (v':=.tuple #[.int .i64 (qwD ck m.op.d0),.int .i64 (qwD ck m.op.d1),.int .i64 5]) (by simp [hErr,hn])
   repeat'((conv=>whnf);first|apply qza|apply qzb|apply qzc|apply qzd|apply qze|intro(_:Nat)|refine⟨_,rfl,hfr,?_⟩|refine⟨_,⟨rfl,hckc⟩,?_⟩|refine .inl ⟨_,hd5,?_⟩|fail)
   conv=>whnf
   refine⟨fun _=>?_,fun h=>nomatch h⟩
   repeat'((conv=>whnf);first|apply qza|apply qzb|apply qzc|apply qzd|apply qze|intro(_:Nat)|refine .inl ⟨_,q3H _ {m with cluster:=fc} 3,?_⟩|fail)
   conv=>whnf
   intro g2 hg
   rw [if_pos hn]
  ·have hd0:=hdw.to (v':=.tuple #[.int .i64 (qwD ck m.op.d0),.int .i64 (qwD ck m.op.d1),.int .i64 0]) (by simp [hErr,hn])
   repeat'((conv=>whnf);first|apply qza|apply qzb|apply qzc|apply qzd|apply qze|intro(_:Nat)|refine⟨_,rfl,hfr,?_⟩|refine⟨_,⟨rfl,hckc⟩,?_⟩|refine .inl ⟨_,hd0,?_⟩|fail)
   conv=>whnf
   refine⟨fun h=>(nomatch h),fun _=>?_⟩
   repeat'((conv=>whnf);first|apply qza|apply qzb|apply qzc|apply qzd|apply qze|intro(_:Nat)|refine⟨_,rfl,hfr,?_⟩|refine⟨_,hckc 1 _ rfl,?_⟩|fail)
   refine And.intro (fun z=>?_) (fun z=>?_)
   ·repeat((conv=>whnf);first|refine qz ?_|intro(_:Nat))
    conv=>whnf
    intro g2 hg
    rw [if_neg hn,if_pos (beqT z)]
   ·repeat((conv=>whnf);first|refine qz ?_|intro(_:Nat))
    conv=>whnf
    intro g2 hg
    rw [if_neg hn,if_neg (beqF z)])
theorem qXV {w:Wd} {m:Mach} {v:Version} {gr:Group} {en:EndC} (hS:SuitP w m v gr en) (hok:m.ok):(qEL w m).ok∧(qEL w m).op=m.op:=by
 unfold qEL
 rw [hS.at_.1]
 split
 ·exact⟨{hok with pc:=show InR (20:Int) by decide,answer:=qxD (by decide)},rfl⟩
 ·rename_i c hf
  have hVP:=qtD hS.right hS.ver.2
  have hfr:=qYN hVP.good hf
  obtain⟨ck,hck⟩:=qAA (l:=v.snap.clusters) (i:=c.toNat) (by omega)
  obtain⟨gk,hgk⟩:=qAA (l:=v.groups) (i:=c.toNat) (by have:=hVP.len;omega)
  have hmC:mC w {m with cluster:=c}=ck:=by unfold mC;rw [show mV w {m with cluster:=c}=v from hS.at_.1];show(v.snap.clusters[c.toNat]?).getD _=_;rw [hck];rfl
  rw [hmC]
  obtain⟨ck',hck',he2,_,he4,_,_⟩:=hVP.ends hgk
  cases hck.symm.trans hck'
  have hszk:ck.health.length≤17592186044416:=by omega
  have hcr:InR c:=by have:=hVP.len;have:=hVP.groups;unfold InR;omega
  split
  ·exact⟨{hok with cluster:=hcr,pc:=show InR (20:Int) by decide,answer:=qxD (by decide)},rfl⟩
  ·split
   ·exact⟨{hok with cluster:=hcr,pc:=show InR (6:Int) by decide},rfl⟩
   ·exact⟨{hok with cluster:=hcr,end_:=qaN hszk,other:=qaN hszk,pc:=show InR (7:Int) by decide},rfl⟩
end Go.Proofs.YthonngjhelcpeaaGreat
