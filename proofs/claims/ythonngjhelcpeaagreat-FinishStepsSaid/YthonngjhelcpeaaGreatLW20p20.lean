/- Requests: the program's step, place 20. -/
import Derived.Test.YthonngjhelcpeaaGreatLW9w
import Derived.Test.YthonngjhelcpeaaGreatLW21p3
import Derived.Test.YthonngjhelcpeaaGreatLW21r4
import Derived.Test.YthonngjhelcpeaaGreatLW20p6
import Derived.Test.YthonngjhelcpeaaGreatPl
import Derived.Test.YthonngjhelcpeaaGreatLW9b
import Derived.Test.YthonngjhelcpeaaGreatLW9g
set_option linter.unusedVariables false
set_option linter.unusedSimpArgs false
namespace Go.Proofs.YthonngjhelcpeaaGreat
open Go.Proofs.YthonngjhelcpeaaGreat.Sx Go.RowKit
set_option maxHeartbeats 16000000
set_option maxRecDepth 100000
theorem q2W (g:GW) {cs ms:List Value} {w:Wd} {m:Mach} (hw:rWo g cs w) (hM:qhA g ms m) (hsn:SnW w) (hb:BgW 1000000 w) (hsz:SmO m) (hgo:hGo w m) (h0:m.pc=20):Ok Tryz.prog qLA [.agg ⟨cs⟩,.agg ⟨ms⟩] g (HaP w m):=by
 obtain⟨hW9,hM9,hE9⟩:=qdB hgo (by omega)
 obtain⟨kW,kM,kE⟩:=ha20 h0
 rw [kW] at hW9
 rw [kM] at hM9
 rw [kE] at hE9
 clear kW kM kE
 have hs:=hgo.1
 obtain⟨v,gr,en,hS⟩:=id (suitB_iff.1 hs)
 obtain⟨oa,ca,ob,cb,oc,cc,od,cd,oe,ce,o1,t1,o2,t2,o3,t3,rfl,rfl,hw0,hM0,⟨i1,i2,i3⟩,hP,hV,hL,hC,hR,⟨a1,a2,a0,hP1⟩,⟨b1,b2,b0,hV1⟩,⟨c1,c2,c0,hL1⟩,⟨d1,d2,d0,hC1⟩,⟨e1,e2,e0,hR1⟩,hok,hop,hcf⟩:=q4B hw hM
 exact Ok.of_fn hm quD 5 qNA (args:=[.v (.agg ⟨wQ w oa ca ob cb oc cc od cd oe ce⟩),.v (.agg ⟨mQ m o1 t1 o2 t2 o3 t3⟩)]) (by
  repeat((conv=>whnf);first|apply qza|apply qzb|apply qzc|apply qzd|apply qze|intro(_:Nat))
  conv=>whnf
  refine dT (by omega) ?_
  repeat((conv=>whnf);first|apply qza|apply qzb|apply qzc|apply qzd|apply qze|intro(_:Nat))
  conv=>whnf
  refine dF (by omega) ?_
  repeat((conv=>whnf);first|apply qza|apply qzb|apply qzc|apply qzd|apply qze|intro(_:Nat))
  conv=>whnf
  refine dF (by omega) ?_
  repeat((conv=>whnf);first|apply qza|apply qzb|apply qzc|apply qzd|apply qze|intro(_:Nat))
  conv=>whnf
  refine dF (by omega) ?_
  repeat((conv=>whnf);first|apply qza|apply qzb|apply qzc|apply qzd|apply qze|intro(_:Nat))
  conv=>whnf
  refine .inl ⟨_,qYA _ hw0 hM0 hsn hb,?_⟩
  repeat((conv=>whnf);first|apply qza|apply qzb|apply qzc|apply qzd|apply qze|intro(_:Nat))
  conv=>whnf
  refine⟨fun hx=>absurd (hs.symm.trans (nb1 hx)) (by decide),fun _=>?_⟩
  repeat((conv=>whnf);first|apply qza|apply qzb|apply qzc|apply qzd|apply qze|intro(_:Nat))
  conv=>whnf
  refine⟨fun _=>?_,fun _=>?_⟩
  case' refine_1 =>
   repeat((conv=>whnf);first|apply qza|apply qzb|apply qzc|apply qzd|apply qze|intro(_:Nat))
   conv=>whnf
   refine⟨fun hx=>absurd hx (by simp [h0]),fun _=>?_⟩
   repeat((conv=>whnf);first|apply qza|apply qzb|apply qzc|apply qzd|apply qze|intro(_:Nat))
   conv=>whnf
   refine⟨fun hx=>absurd hx (by simp [h0]),fun _=>?_⟩
   repeat((conv=>whnf);first|apply qza|apply qzb|apply qzc|apply qzd|apply qze|intro(_:Nat))
   conv=>whnf
   refine⟨fun hx=>absurd hx (by simp [h0]),fun _=>?_⟩
  all_goals (
   repeat((conv=>whnf);first|apply qza|apply qzb|apply qzc|apply qzd|apply qze|intro(_:Nat))
   conv=>whnf
   refine .inl ⟨_,qRB _,?_⟩
   repeat((conv=>whnf);first|apply qza|apply qzb|apply qzc|apply qzd|apply qze|intro(_:Nat))
   conv=>whnf
   refine⟨20,⟨h0,by decide⟩,?_⟩
   repeat((conv=>whnf);first|apply qza|apply qzb|apply qzc|apply qzd|apply qze|intro(_:Nat))
   conv=>whnf
   refine⟨fun h=>(nomatch h),fun _=>?_⟩
   repeat((conv=>whnf);first|apply qza|apply qzb|apply qzc|apply qzd|apply qze|intro(_:Nat))
   refine .inr ((qeA _ hw0 hb).mono fun v g3 hg3 hO=>?_)
   obtain⟨cs,T,rfl,hT⟩:=hO
   have hF:=qTA hT
   obtain⟨oa',ca',ob',cb',oc',cc',od',cd',oe',ce',rfl⟩:=qKA hF
   repeat((conv=>whnf);first|apply qza|apply qzb|apply qzc|apply qzd|apply qze|intro(_:Nat))
   conv=>whnf
   refine⟨qQF,?_⟩
   repeat((conv=>whnf);first|apply qza|apply qzb|apply qzc|apply qzd|apply qze|intro(_:Nat))
   refine And.intro (fun z=>?_) (fun z=>?_)
   ·have z:=of_decide_eq_true z
    have hk:qMI m=0:=if_neg (by omega)
    obtain⟨row,hrow,hrl⟩:=hS.row
    obtain⟨y,hy⟩:=qAA (l:=row) (i:=(0:Int).toNat) (by omega)
    have hcn:cnt w m.thread (0:Int)=y:=by unfold cnt;rw [hrow,Option.getD_some,hy];rfl
    have hro:(w.counts[m.thread.toNat]?).getD []=row:=by rw [hrow];rfl
    rw [hk] at hW9 hE9
    simp only [addCnt,hcn,hro] at hW9
    obtain⟨b1,k1,b2,k2,hq,hcr,hcy,b5,j5,bc,ty5,⟨hA,p1,p2,p3,p4⟩,_,hk5⟩:=qNK hT hrow hy (q3T (y+1))
    cases hq
    have hth:=hS.thread
    have hti:0≤m.thread∧m.thread<w.counts.length:=⟨hth.1,by have:=(List.getElem?_eq_some_iff.1 hrow).1;omega⟩
    have hyi:0≤(0:Int)∧(0:Int)<(row.length:Nat):=by omega
    repeat'((conv=>whnf);first|apply qza|apply qzb|apply qzc|apply qzd|apply qze|intro(_:Nat)|refine⟨_,rfl,hti,?_⟩|refine⟨_,hcr 0 _ rfl,?_⟩|refine⟨_,rfl,hyi,?_⟩|refine⟨_,hcy 0 _ rfl,?_⟩|refine And.intro ?_ ?_|fail)
    conv=>whnf
    refine⟨b5,j5,bc,ty5,⟨by first|exact hA|(rw [← hA];rfl)|(rw [← hA,qwA]),p1,p2,p3,p4⟩,?_⟩
    repeat((conv=>whnf);first|apply qza|apply qzb|apply qzc|apply qzd|apply qze|intro(_:Nat))
    conv=>whnf
    refine fun g6 u6=>?_
    have hFx:=qTA (hk5 g6 u6)
    have hle6:g≤g6:=u6.le hg3 (fun h=>by have:=g.wf _ h;omega)
    have hcw:=u6.rd p2 p4
    rw [← hA] at hcw
    repeat'((conv=>whnf);first|apply qza|apply qzb|apply qzc|apply qzd|apply qze|intro(_:Nat)|refine⟨_,fun gp hle hin=>q7A gp (hin.cel (id:=6) rfl 10 rfl),?_⟩|refine And.intro ?_ ?_|fail)
    all_goals (conv=>whnf)
    all_goals (first|exact Eq.refl _|(
    intro g2 hg
    refine⟨_,_,by rw [hE9]<;>rfl,by rw [hW9];exact qDA _ _ _ _ hg hFx,?_⟩
    rw [hM9]
    exact⟨_,_,_,rfl,{hok with pc:=show InR (21:Int) by decide},hop,qCA _ _ _ _ (GW.trans hle6 hg) hcf⟩))
   ·have z:=of_decide_eq_false z
    repeat((conv=>whnf);first|apply qza|apply qzb|apply qzc|apply qzd|apply qze|intro(_:Nat))
    refine And.intro (fun z2=>?_) (fun z2=>?_)
    ·have z2:=of_decide_eq_true z2
     have hk:qMI m=0:=if_neg (by omega)
     obtain⟨row,hrow,hrl⟩:=hS.row
     obtain⟨y,hy⟩:=qAA (l:=row) (i:=(0:Int).toNat) (by omega)
     have hcn:cnt w m.thread (0:Int)=y:=by unfold cnt;rw [hrow,Option.getD_some,hy];rfl
     have hro:(w.counts[m.thread.toNat]?).getD []=row:=by rw [hrow];rfl
     rw [hk] at hW9 hE9
     simp only [addCnt,hcn,hro] at hW9
     obtain⟨b1,k1,b2,k2,hq,hcr,hcy,b5,j5,bc,ty5,⟨hA,p1,p2,p3,p4⟩,_,hk5⟩:=qNK hT hrow hy (q3T (y+1))
     cases hq
     have hth:=hS.thread
     have hti:0≤m.thread∧m.thread<w.counts.length:=⟨hth.1,by have:=(List.getElem?_eq_some_iff.1 hrow).1;omega⟩
     have hyi:0≤(0:Int)∧(0:Int)<(row.length:Nat):=by omega
     repeat'((conv=>whnf);first|apply qza|apply qzb|apply qzc|apply qzd|apply qze|intro(_:Nat)|refine⟨_,rfl,hti,?_⟩|refine⟨_,hcr 0 _ rfl,?_⟩|refine⟨_,rfl,hyi,?_⟩|refine⟨_,hcy 0 _ rfl,?_⟩|refine And.intro ?_ ?_|fail)
     conv=>whnf
     refine⟨b5,j5,bc,ty5,⟨by first|exact hA|(rw [← hA];rfl)|(rw [← hA,qwA]),p1,p2,p3,p4⟩,?_⟩
     repeat((conv=>whnf);first|apply qza|apply qzb|apply qzc|apply qzd|apply qze|intro(_:Nat))
     conv=>whnf
     refine fun g6 u6=>?_
     have hFx:=qTA (hk5 g6 u6)
     have hle6:g≤g6:=u6.le hg3 (fun h=>by have:=g.wf _ h;omega)
     have hcw:=u6.rd p2 p4
     rw [← hA] at hcw
     repeat'((conv=>whnf);first|apply qza|apply qzb|apply qzc|apply qzd|apply qze|intro(_:Nat)|refine⟨_,fun gp hle hin=>q7A gp (hin.cel (id:=6) rfl 10 rfl),?_⟩|refine And.intro ?_ ?_|fail)
     all_goals (conv=>whnf)
     all_goals (first|exact Eq.refl _|(
     intro g2 hg
     refine⟨_,_,by rw [hE9]<;>rfl,by rw [hW9];exact qDA _ _ _ _ hg hFx,?_⟩
     rw [hM9]
     exact⟨_,_,_,rfl,{hok with pc:=show InR (21:Int) by decide},hop,qCA _ _ _ _ (GW.trans hle6 hg) hcf⟩))
    ·have z2:=of_decide_eq_false z2
     have hk:qMI m=m.answer.kind:=if_pos (by omega)
     obtain⟨row,hrow,hrl⟩:=hS.row
     obtain⟨y,hy⟩:=qAA (l:=row) (i:=(m.answer.kind).toNat) (by omega)
     have hcn:cnt w m.thread (m.answer.kind)=y:=by unfold cnt;rw [hrow,Option.getD_some,hy];rfl
     have hro:(w.counts[m.thread.toNat]?).getD []=row:=by rw [hrow];rfl
     rw [hk] at hW9 hE9
     simp only [addCnt,hcn,hro] at hW9
     obtain⟨b1,k1,b2,k2,hq,hcr,hcy,b5,j5,bc,ty5,⟨hA,p1,p2,p3,p4⟩,_,hk5⟩:=qNK hT hrow hy (q3T (y+1))
     cases hq
     have hth:=hS.thread
     have hti:0≤m.thread∧m.thread<w.counts.length:=⟨hth.1,by have:=(List.getElem?_eq_some_iff.1 hrow).1;omega⟩
     have hyi:0≤(m.answer.kind)∧(m.answer.kind)<(row.length:Nat):=by omega
     repeat'((conv=>whnf);first|apply qza|apply qzb|apply qzc|apply qzd|apply qze|intro(_:Nat)|refine⟨_,rfl,hti,?_⟩|refine⟨_,hcr 0 _ rfl,?_⟩|refine⟨_,rfl,hyi,?_⟩|refine⟨_,hcy 0 _ rfl,?_⟩|refine And.intro ?_ ?_|fail)
     conv=>whnf
     refine⟨b5,j5,bc,ty5,⟨by first|exact hA|(rw [← hA];rfl)|(rw [← hA,qwA]),p1,p2,p3,p4⟩,?_⟩
     repeat((conv=>whnf);first|apply qza|apply qzb|apply qzc|apply qzd|apply qze|intro(_:Nat))
     conv=>whnf
     refine fun g6 u6=>?_
     have hFx:=qTA (hk5 g6 u6)
     have hle6:g≤g6:=u6.le hg3 (fun h=>by have:=g.wf _ h;omega)
     have hcw:=u6.rd p2 p4
     rw [← hA] at hcw
     repeat'((conv=>whnf);first|apply qza|apply qzb|apply qzc|apply qzd|apply qze|intro(_:Nat)|refine⟨_,fun gp hle hin=>q7A gp (hin.cel (id:=6) rfl 10 rfl),?_⟩|refine And.intro ?_ ?_|fail)
     all_goals (conv=>whnf)
     all_goals (first|exact Eq.refl _|(
     intro g2 hg
     refine⟨_,_,by rw [hE9]<;>rfl,by rw [hW9];exact qDA _ _ _ _ hg hFx,?_⟩
     rw [hM9]
     exact⟨_,_,_,rfl,{hok with pc:=show InR (21:Int) by decide},hop,qCA _ _ _ _ (GW.trans hle6 hg) hcf⟩))))
/- Requests: the program's step,place 21. -/
open Go.Proofs.YthonngjhelcpeaaGreat.Sx Go.RowKit
theorem q1W (g:GW) {cs ms:List Value} {w:Wd} {m:Mach} (hw:rWo g cs w) (hM:qhA g ms m) (hsn:SnW w) (hb:BgW 1000000 w) (hsz:SmO m) (hgo:hGo w m) (h0:m.pc=21):Ok Tryz.prog qLA [.agg ⟨cs⟩,.agg ⟨ms⟩] g (HaP w m):=by
 obtain⟨hW9,hM9,hE9⟩:=qdB hgo (by omega)
 obtain⟨kW,kM,kE⟩:=ha21 h0
 rw [kW] at hW9
 rw [kM] at hM9
 rw [kE] at hE9
 clear kW kM kE
 have hs:=hgo.1
 obtain⟨v,gr,en,hS⟩:=id (suitB_iff.1 hs)
 obtain⟨oa,ca,ob,cb,oc,cc,od,cd,oe,ce,o1,t1,o2,t2,o3,t3,rfl,rfl,hw0,hM0,⟨i1,i2,i3⟩,hP,hV,hL,hC,hR,⟨a1,a2,a0,hP1⟩,⟨b1,b2,b0,hV1⟩,⟨c1,c2,c0,hL1⟩,⟨d1,d2,d0,hC1⟩,⟨e1,e2,e0,hR1⟩,hok,hop,hcf⟩:=q4B hw hM
 exact Ok.of_fn hm quD 5 qNA (args:=[.v (.agg ⟨wQ w oa ca ob cb oc cc od cd oe ce⟩),.v (.agg ⟨mQ m o1 t1 o2 t2 o3 t3⟩)]) (by
  repeat((conv=>whnf);first|apply qza|apply qzb|apply qzc|apply qzd|apply qze|intro(_:Nat))
  conv=>whnf
  refine dT (by omega) ?_
  repeat((conv=>whnf);first|apply qza|apply qzb|apply qzc|apply qzd|apply qze|intro(_:Nat))
  conv=>whnf
  refine dF (by omega) ?_
  repeat((conv=>whnf);first|apply qza|apply qzb|apply qzc|apply qzd|apply qze|intro(_:Nat))
  conv=>whnf
  refine dF (by omega) ?_
  repeat((conv=>whnf);first|apply qza|apply qzb|apply qzc|apply qzd|apply qze|intro(_:Nat))
  conv=>whnf
  refine dF (by omega) ?_
  repeat((conv=>whnf);first|apply qza|apply qzb|apply qzc|apply qzd|apply qze|intro(_:Nat))
  conv=>whnf
  refine .inl ⟨_,qYA _ hw0 hM0 hsn hb,?_⟩
  repeat((conv=>whnf);first|apply qza|apply qzb|apply qzc|apply qzd|apply qze|intro(_:Nat))
  conv=>whnf
  refine⟨fun hx=>absurd (hs.symm.trans (nb1 hx)) (by decide),fun _=>?_⟩
  repeat((conv=>whnf);first|apply qza|apply qzb|apply qzc|apply qzd|apply qze|intro(_:Nat))
  conv=>whnf
  refine⟨fun _=>?_,fun _=>?_⟩
  case' refine_1 =>
   repeat((conv=>whnf);first|apply qza|apply qzb|apply qzc|apply qzd|apply qze|intro(_:Nat))
   conv=>whnf
   refine⟨fun hx=>absurd hx (by simp [h0]),fun _=>?_⟩
   repeat((conv=>whnf);first|apply qza|apply qzb|apply qzc|apply qzd|apply qze|intro(_:Nat))
   conv=>whnf
   refine⟨fun hx=>absurd hx (by simp [h0]),fun _=>?_⟩
   repeat((conv=>whnf);first|apply qza|apply qzb|apply qzc|apply qzd|apply qze|intro(_:Nat))
   conv=>whnf
   refine⟨fun hx=>absurd hx (by simp [h0]),fun _=>?_⟩
  all_goals (
   repeat((conv=>whnf);first|apply qza|apply qzb|apply qzc|apply qzd|apply qze|intro(_:Nat))
   conv=>whnf
   refine .inl ⟨_,qRB _,?_⟩
   repeat((conv=>whnf);first|apply qza|apply qzb|apply qzc|apply qzd|apply qze|intro(_:Nat))
   conv=>whnf
   refine⟨21,⟨h0,by decide⟩,?_⟩
   repeat((conv=>whnf);first|apply qza|apply qzb|apply qzc|apply qzd|apply qze|intro(_:Nat))
   conv=>whnf
   refine⟨fun h=>(nomatch h),fun _=>?_⟩
   repeat((conv=>whnf);first|apply qza|apply qzb|apply qzc|apply qzd|apply qze|intro(_:Nat))
   refine .inr ((qeA _ hw0 hb).mono fun v g3 hg3 hO=>?_)
   obtain⟨cs,T,rfl,hT⟩:=hO
   have hF:=qTA hT
   obtain⟨oa',ca',ob',cb',oc',cc',od',cd',oe',ce',rfl⟩:=qKA hF
   obtain⟨row,hrow,hrl⟩:=hS.row
   obtain⟨y,hy⟩:=qAA (l:=row) (i:=(0:Int).toNat) (by omega)
   have hcn:cnt w m.thread (0:Int)=y:=by unfold cnt;rw [hrow,Option.getD_some,hy];rfl
   have hro:(w.counts[m.thread.toNat]?).getD []=row:=by rw [hrow];rfl
   simp only [addCnt,hcn,hro] at hW9
   obtain⟨b1,k1,b2,k2,hq,hcr,hcy,b5,j5,bc,ty5,⟨hA,p1,p2,p3,p4⟩,_,hk5⟩:=qNK hT hrow hy (q3T (y+1))
   cases hq
   have hth:=hS.thread
   have hti:0≤m.thread∧m.thread<w.counts.length:=⟨hth.1,by have:=(List.getElem?_eq_some_iff.1 hrow).1;omega⟩
   have hyi:0≤(0:Int)∧(0:Int)<(row.length:Nat):=by omega
   repeat((conv=>whnf);first|apply qza|apply qzb|apply qzc|apply qzd|apply qze|intro(_:Nat))
   conv=>whnf
   refine⟨q7F,?_⟩
   repeat'((conv=>whnf);first|apply qza|apply qzb|apply qzc|apply qzd|apply qze|intro(_:Nat)|refine⟨_,rfl,hti,?_⟩|refine⟨_,hcr 0 _ rfl,?_⟩|refine⟨_,rfl,hyi,?_⟩|refine⟨_,hcy 0 _ rfl,?_⟩|refine And.intro ?_ ?_|fail)
   conv=>whnf
   refine⟨b5,j5,bc,ty5,⟨by first|exact hA|(rw [← hA];rfl)|(rw [← hA,qwA]),p1,p2,p3,p4⟩,?_⟩
   repeat((conv=>whnf);first|apply qza|apply qzb|apply qzc|apply qzd|apply qze|intro(_:Nat))
   conv=>whnf
   refine fun g6 u6=>?_
   have hFx:=qTA (hk5 g6 u6)
   have hle6:g≤g6:=u6.le hg3 (fun h=>by have:=g.wf _ h;omega)
   have hcw:=u6.rd p2 p4
   rw [← hA] at hcw
   repeat((conv=>whnf);first|apply qza|apply qzb|apply qzc|apply qzd|apply qze|intro(_:Nat))
   refine And.intro (fun z=>?_) (fun z=>?_)
   ·have z:=beqT z
    rw [if_pos (.inl z)] at hM9
    repeat'((conv=>whnf);first|apply qza|apply qzb|apply qzc|apply qzd|apply qze|intro(_:Nat)|refine⟨_,fun gp hle hin=>q7A gp (hin.cel (id:=6) rfl 10 rfl),?_⟩|refine And.intro ?_ ?_|fail)
    all_goals (conv=>whnf)
    all_goals (first|exact Eq.refl _|(
    intro g2 hg
    refine⟨_,_,by rw [hE9]<;>rfl,by rw [hW9];exact qDA _ _ _ _ hg hFx,?_⟩
    rw [hM9]
    exact⟨_,_,_,rfl,{hok with pc:=show InR (23:Int) by decide},hop,qCA _ _ _ _ (GW.trans hle6 hg) hcf⟩))
   ·have z:=beqF z
    repeat((conv=>whnf);first|apply qza|apply qzb|apply qzc|apply qzd|apply qze|intro(_:Nat))
    refine And.intro (fun z2=>?_) (fun z2=>?_)
    ·have z2:=of_decide_eq_true z2
     rw [if_pos (.inr z2)] at hM9
     repeat'((conv=>whnf);first|apply qza|apply qzb|apply qzc|apply qzd|apply qze|intro(_:Nat)|refine⟨_,fun gp hle hin=>q7A gp (hin.cel (id:=6) rfl 10 rfl),?_⟩|refine And.intro ?_ ?_|fail)
     all_goals (conv=>whnf)
     all_goals (first|exact Eq.refl _|(
     intro g2 hg
     refine⟨_,_,by rw [hE9]<;>rfl,by rw [hW9];exact qDA _ _ _ _ hg hFx,?_⟩
     rw [hM9]
     exact⟨_,_,_,rfl,{hok with pc:=show InR (23:Int) by decide},hop,qCA _ _ _ _ (GW.trans hle6 hg) hcf⟩))
    ·have z2:=of_decide_eq_false z2
     rw [if_neg (by omega)] at hM9
     repeat'((conv=>whnf);first|apply qza|apply qzb|apply qzc|apply qzd|apply qze|intro(_:Nat)|refine⟨_,fun gp hle hin=>q7A gp (hin.cel (id:=6) rfl 10 rfl),?_⟩|refine And.intro ?_ ?_|fail)
     all_goals (conv=>whnf)
     all_goals (first|exact Eq.refl _|(
     intro g2 hg
     refine⟨_,_,by rw [hE9]<;>rfl,by rw [hW9];exact qDA _ _ _ _ hg hFx,?_⟩
     rw [hM9]
     exact⟨_,_,_,rfl,{hok with pc:=show InR (22:Int) by decide},hop,qCA _ _ _ _ (GW.trans hle6 hg) hcf⟩))))
/- Requests: the program's step,place 22. -/
open Go.Proofs.YthonngjhelcpeaaGreat.Sx Go.RowKit
theorem q0W (g:GW) {cs ms:List Value} {w:Wd} {m:Mach} (hw:rWo g cs w) (hM:qhA g ms m) (hsn:SnW w) (hb:BgW 1000000 w) (hsz:SmO m) (hgo:hGo w m) (h0:m.pc=22):Ok Tryz.prog qLA [.agg ⟨cs⟩,.agg ⟨ms⟩] g (HaP w m):=by
 obtain⟨hW9,hM9,hE9⟩:=qdB hgo (by omega)
 obtain⟨kW,kM,kE⟩:=ha22 h0
 rw [kW] at hW9
 rw [kM] at hM9
 rw [kE] at hE9
 clear kW kM kE
 have hs:=hgo.1
 obtain⟨v,gr,en,hS⟩:=id (suitB_iff.1 hs)
 obtain⟨oa,ca,ob,cb,oc,cc,od,cd,oe,ce,o1,t1,o2,t2,o3,t3,rfl,rfl,hw0,hM0,⟨i1,i2,i3⟩,hP,hV,hL,hC,hR,⟨a1,a2,a0,hP1⟩,⟨b1,b2,b0,hV1⟩,⟨c1,c2,c0,hL1⟩,⟨d1,d2,d0,hC1⟩,⟨e1,e2,e0,hR1⟩,hok,hop,hcf⟩:=q4B hw hM
 exact Ok.of_fn hm quD 5 qNA (args:=[.v (.agg ⟨wQ w oa ca ob cb oc cc od cd oe ce⟩),.v (.agg ⟨mQ m o1 t1 o2 t2 o3 t3⟩)]) (by
  repeat((conv=>whnf);first|apply qza|apply qzb|apply qzc|apply qzd|apply qze|intro(_:Nat))
  conv=>whnf
  refine dT (by omega) ?_
  repeat((conv=>whnf);first|apply qza|apply qzb|apply qzc|apply qzd|apply qze|intro(_:Nat))
  conv=>whnf
  refine dF (by omega) ?_
  repeat((conv=>whnf);first|apply qza|apply qzb|apply qzc|apply qzd|apply qze|intro(_:Nat))
  conv=>whnf
  refine dF (by omega) ?_
  repeat((conv=>whnf);first|apply qza|apply qzb|apply qzc|apply qzd|apply qze|intro(_:Nat))
  conv=>whnf
  refine dF (by omega) ?_
  repeat((conv=>whnf);first|apply qza|apply qzb|apply qzc|apply qzd|apply qze|intro(_:Nat))
  conv=>whnf
  refine .inl ⟨_,qYA _ hw0 hM0 hsn hb,?_⟩
  repeat((conv=>whnf);first|apply qza|apply qzb|apply qzc|apply qzd|apply qze|intro(_:Nat))
  conv=>whnf
  refine⟨fun hx=>absurd (hs.symm.trans (nb1 hx)) (by decide),fun _=>?_⟩
  repeat((conv=>whnf);first|apply qza|apply qzb|apply qzc|apply qzd|apply qze|intro(_:Nat))
  have hli:0≤m.listen:=by have:=hgo.2.2;omega
  conv=>whnf
  refine dF (by omega) ?_
  repeat((conv=>whnf);first|apply qza|apply qzb|apply qzc|apply qzd|apply qze|intro(_:Nat))
  repeat((conv=>whnf);first|apply qza|apply qzb|apply qzc|apply qzd|apply qze|intro(_:Nat))
  conv=>whnf
  refine .inl ⟨_,qRB _,?_⟩
  repeat((conv=>whnf);first|apply qza|apply qzb|apply qzc|apply qzd|apply qze|intro(_:Nat))
  conv=>whnf
  refine⟨22,⟨h0,by decide⟩,?_⟩
  repeat((conv=>whnf);first|apply qza|apply qzb|apply qzc|apply qzd|apply qze|intro(_:Nat))
  conv=>whnf
  refine⟨fun h=>(nomatch h),fun _=>?_⟩
  repeat((conv=>whnf);first|apply qza|apply qzb|apply qzc|apply qzd|apply qze|intro(_:Nat))
  refine .inr ((qeA _ hw0 hb).mono fun v g3 hg3 hO=>?_)
  obtain⟨cs,T,rfl,hT⟩:=hO
  have hF:=qTA hT
  obtain⟨oa',ca',ob',cb',oc',cc',od',cd',oe',ce',rfl⟩:=qKA hF
  obtain⟨x,hx⟩:=qAA (l:=w.listens) (i:=m.listen.toNat) (by have:=hS.listen;omega)
  have hmL:mL w m=x:=by unfold mL;rw [hx];rfl
  rw [hmL] at hW9 hE9
  have hli2:=hS.listen
  obtain⟨bk,cap,hv,rcl,b5,j5,bc,ty5,⟨hA,p1,p2,p3,p4⟩,_,hk5⟩:=qBP hT hx (x':={x with active:=wI (x.active-1)}) (o:=2) (vs:=[.int .i64 (wI (x.active-1))]) (by simp) (by simp [Value.oneCell']) rfl (qqG _)
  cases hv
  obtain⟨hxa,hcl⟩:=qlI (qhM hF) hx
  repeat((conv=>whnf);first|apply qza|apply qzb|apply qzc|apply qzd|apply qze|intro(_:Nat))
  conv=>whnf
  refine⟨qOI,?_⟩
  repeat((conv=>whnf);first|apply qza|apply qzb|apply qzc|apply qzd|apply qze|intro(_:Nat))
  conv=>whnf
  refine⟨_,rfl,⟨by omega,by omega⟩,?_⟩
  repeat((conv=>whnf);first|apply qza|apply qzb|apply qzc|apply qzd|apply qze|intro(_:Nat))
  conv=>whnf
  refine⟨_,hcl 2 _ rfl,?_⟩
  repeat((conv=>whnf);first|apply qza|apply qzb|apply qzc|apply qzd|apply qze|intro(_:Nat))
  conv=>whnf
  refine⟨b5,j5,bc,ty5,⟨hA,p1,p2,p3,p4⟩,?_⟩
  repeat((conv=>whnf);first|apply qza|apply qzb|apply qzc|apply qzd|apply qze|intro(_:Nat))
  conv=>whnf
  refine fun g6 u6=>?_
  have hFx:=qTA (hk5 g6 u6)
  have hle6:g≤g6:=u6.le hg3 (fun h=>by have:=g.wf _ h;omega)
  obtain⟨_,hcl'⟩:=qlI (qhM hFx) (i:=m.listen.toNat) (x:={x with active:=wI (x.active-1)}) (by simp only [List.getElem?_set];simp;omega)
  repeat((conv=>whnf);first|apply qza|apply qzb|apply qzc|apply qzd|apply qze|intro(_:Nat))
  conv=>whnf
  refine⟨_,hcl' 2 _ rfl,?_⟩
  repeat((conv=>whnf);first|apply qza|apply qzb|apply qzc|apply qzd|apply qze|intro(_:Nat))
  conv=>whnf
  refine⟨_,fun gp hle hin=>q7A gp (hin.2.2.1 10 _ rfl),?_⟩
  repeat((conv=>whnf);first|apply qza|apply qzb|apply qzc|apply qzd|apply qze|intro(_:Nat))
  conv=>whnf
  intro g2 hg
  refine⟨_,_,by rw [hE9];rfl,by rw [hW9];exact qDA _ _ _ _ hg hFx,?_⟩
  rw [hM9]
  exact⟨_,_,_,rfl,{hok with pc:=show InR (23:Int) by decide},hop,qCA _ _ _ _ (GW.trans hle6 hg) hcf⟩)
/- Requests: the program's step,place 23. -/
open Go.Proofs.YthonngjhelcpeaaGreat.Sx Go.RowKit
theorem qzW (g:GW) {cs ms:List Value} {w:Wd} {m:Mach} (hw:rWo g cs w) (hM:qhA g ms m) (hsn:SnW w) (hb:BgW 1000000 w) (hsz:SmO m) (hgo:hGo w m) (h0:m.pc=23):Ok Tryz.prog qLA [.agg ⟨cs⟩,.agg ⟨ms⟩] g (HaP w m):=by
 obtain⟨hW9,hM9,hE9⟩:=qdB hgo (by omega)
 obtain⟨kW,kM,kE⟩:=ha23 h0
 rw [kW] at hW9
 rw [kM] at hM9
 rw [kE] at hE9
 clear kW kM kE
 have hs:=hgo.1
 obtain⟨v,gr,en,hS⟩:=id (suitB_iff.1 hs)
 obtain⟨oa,ca,ob,cb,oc,cc,od,cd,oe,ce,o1,t1,o2,t2,o3,t3,rfl,rfl,hw0,hM0,⟨i1,i2,i3⟩,hP,hV,hL,hC,hR,⟨a1,a2,a0,hP1⟩,⟨b1,b2,b0,hV1⟩,⟨c1,c2,c0,hL1⟩,⟨d1,d2,d0,hC1⟩,⟨e1,e2,e0,hR1⟩,hok,hop,hcf⟩:=q4B hw hM
 exact Ok.of_fn hm quD 5 qNA (args:=[.v (.agg ⟨wQ w oa ca ob cb oc cc od cd oe ce⟩),.v (.agg ⟨mQ m o1 t1 o2 t2 o3 t3⟩)]) (by
  repeat((conv=>whnf);first|apply qza|apply qzb|apply qzc|apply qzd|apply qze|intro(_:Nat))
  conv=>whnf
  refine dT (by omega) ?_
  repeat((conv=>whnf);first|apply qza|apply qzb|apply qzc|apply qzd|apply qze|intro(_:Nat))
  conv=>whnf
  refine dF (by omega) ?_
  repeat((conv=>whnf);first|apply qza|apply qzb|apply qzc|apply qzd|apply qze|intro(_:Nat))
  conv=>whnf
  refine dF (by omega) ?_
  repeat((conv=>whnf);first|apply qza|apply qzb|apply qzc|apply qzd|apply qze|intro(_:Nat))
  conv=>whnf
  refine dF (by omega) ?_
  repeat((conv=>whnf);first|apply qza|apply qzb|apply qzc|apply qzd|apply qze|intro(_:Nat))
  conv=>whnf
  refine .inl ⟨_,qYA _ hw0 hM0 hsn hb,?_⟩
  repeat((conv=>whnf);first|apply qza|apply qzb|apply qzc|apply qzd|apply qze|intro(_:Nat))
  conv=>whnf
  refine⟨fun hx=>absurd (hs.symm.trans (nb1 hx)) (by decide),fun _=>?_⟩
  repeat((conv=>whnf);first|apply qza|apply qzb|apply qzc|apply qzd|apply qze|intro(_:Nat))
  conv=>whnf
  refine⟨fun _=>?_,fun _=>?_⟩
  case' refine_1 =>
   repeat((conv=>whnf);first|apply qza|apply qzb|apply qzc|apply qzd|apply qze|intro(_:Nat))
   conv=>whnf
   refine⟨fun hx=>absurd hx (by simp [h0]),fun _=>?_⟩
   repeat((conv=>whnf);first|apply qza|apply qzb|apply qzc|apply qzd|apply qze|intro(_:Nat))
   conv=>whnf
   refine⟨fun hx=>absurd hx (by simp [h0]),fun _=>?_⟩
   repeat((conv=>whnf);first|apply qza|apply qzb|apply qzc|apply qzd|apply qze|intro(_:Nat))
   conv=>whnf
   refine⟨fun hx=>absurd hx (by simp [h0]),fun _=>?_⟩
  all_goals (
   repeat((conv=>whnf);first|apply qza|apply qzb|apply qzc|apply qzd|apply qze|intro(_:Nat))
   conv=>whnf
   refine .inl ⟨_,qRB _,?_⟩
   repeat((conv=>whnf);first|apply qza|apply qzb|apply qzc|apply qzd|apply qze|intro(_:Nat))
   conv=>whnf
   refine⟨23,⟨h0,by decide⟩,?_⟩
   repeat((conv=>whnf);first|apply qza|apply qzb|apply qzc|apply qzd|apply qze|intro(_:Nat))
   conv=>whnf
   refine⟨fun h=>(nomatch h),fun _=>?_⟩
   repeat((conv=>whnf);first|apply qza|apply qzb|apply qzc|apply qzd|apply qze|intro(_:Nat))
   refine .inr ((qeA _ hw0 hb).mono fun v g3 hg3 hO=>?_)
   obtain⟨cs,T,rfl,hT⟩:=hO
   have hF:=qTA hT
   obtain⟨oa',ca',ob',cb',oc',cc',od',cd',oe',ce',rfl⟩:=qKA hF
   repeat((conv=>whnf);first|apply qza|apply qzb|apply qzc|apply qzd|apply qze|intro(_:Nat))
   conv=>whnf
   refine⟨qNI,?_⟩
   repeat((conv=>whnf);first|apply qza|apply qzb|apply qzc|apply qzd|apply qze|intro(_:Nat))
   refine .inr ((qRY _ hF (qQA _ _ _ _ hg3 hM0) hsn hb).mono fun v4 g4 hg4 hO=>?_)
   obtain⟨cs4,rfl,hO⟩:=hO
   obtain⟨_,_,_,_,_,_,_,_,_,_,rfl⟩:=qKA hO
   repeat'((conv=>whnf);first|apply qza|apply qzb|apply qzc|apply qzd|apply qze|intro(_:Nat)|refine And.intro ?_ ?_|fail)
   all_goals (conv=>whnf)
   all_goals (first|exact Eq.refl _|(
   intro g2 hg
   refine⟨_,_,by rw [hE9]<;>rfl,by rw [hW9];exact qDA _ _ _ _ hg hO,?_⟩
   rw [hM9]
   exact⟨_,_,_,rfl,{hok with},hop,qCA _ _ _ _ (GW.trans (GW.trans hg3 hg4) hg) hcf⟩))))
/- Requests: the document's routing. -/
open Go.Proofs.YthonngjhelcpeaaGreat.Sx Go.RowKit
/- Requests: the document's step,elsewhere. -/
open Go.Proofs.YthonngjhelcpeaaGreat.Sx Go.RowKit
/- Requests: the document's step,place 3. -/
open Go.Proofs.YthonngjhelcpeaaGreat.Sx Go.RowKit
/- Requests: the document's step,place 4. -/
open Go.Proofs.YthonngjhelcpeaaGreat.Sx Go.RowKit
/- Requests: the document's step,place 5. -/
open Go.Proofs.YthonngjhelcpeaaGreat.Sx Go.RowKit
/- Requests: the document's step,place 6. -/
open Go.Proofs.YthonngjhelcpeaaGreat.Sx Go.RowKit
/- Requests: the document's step,place 7. -/
open Go.Proofs.YthonngjhelcpeaaGreat.Sx Go.RowKit
/- Requests: the document's step,place 8. -/
open Go.Proofs.YthonngjhelcpeaaGreat.Sx Go.RowKit
/- Requests: the document's step,place 9. -/
open Go.Proofs.YthonngjhelcpeaaGreat.Sx Go.RowKit
/- Requests: the document's step,place 10. -/
open Go.Proofs.YthonngjhelcpeaaGreat.Sx Go.RowKit
/- Requests: the document's step,place 11. -/
open Go.Proofs.YthonngjhelcpeaaGreat.Sx Go.RowKit
/- Requests: the document's step,place 12. -/
open Go.Proofs.YthonngjhelcpeaaGreat.Sx Go.RowKit
/- Requests: the document's step,place 20. -/
open Go.Proofs.YthonngjhelcpeaaGreat.Sx Go.RowKit
/- Requests: the document's step,place 21. -/
open Go.Proofs.YthonngjhelcpeaaGreat.Sx Go.RowKit
/- Requests: the document's step,place 22. -/
open Go.Proofs.YthonngjhelcpeaaGreat.Sx Go.RowKit
/- Requests: the document's step,place 23. -/
open Go.Proofs.YthonngjhelcpeaaGreat.Sx Go.RowKit
/- Requests: a step,at any place: the program's and the document's. -/
open Go.Proofs.YthonngjhelcpeaaGreat.Sx Go.RowKit
theorem qPX {m:Mach} (h:0≤m.pc∧m.pc≤23∧¬ (12<m.pc∧m.pc<20)) (h3:¬ m.pc<3):m.pc=3∨m.pc=4∨m.pc=5∨m.pc=6∨m.pc=7∨m.pc=8∨m.pc=9∨m.pc=10∨m.pc=11∨m.pc=12∨m.pc=20∨m.pc=21∨m.pc=22∨m.pc=23:=by omega
theorem qrV (g:GW) {cs ms:List Value} {w:Wd} {m:Mach} (hw:rWo g cs w) (hM:qhA g ms m) (hsn:SnW w) (hb:BgW 1000000 w) (hsz:SmO m):Ok Tryz.prog qLA [.agg ⟨cs⟩,.agg ⟨ms⟩] g (HaP w m):=by
 by_cases hp:0≤m.pc∧m.pc<3
 ·exact q0X g hw hM hsn hb hp
 ·by_cases hgo:hGo w m
  ·rcases qPX hgo.2.1 (by have:=hgo.2.1;omega) with h|h|h|h|h|h|h|h|h|h|h|h|h|h
   ·exact q8X g hw hM hsn hb hsz hgo h
   ·exact q7X g hw hM hsn hb hsz hgo h
   ·exact q6X g hw hM hsn hb hsz hgo h
   ·exact q5X g hw hM hsn hb hsz hgo h
   ·exact q4X g hw hM hsn hb hsz hgo h
   ·exact q3X g hw hM hsn hb hsz hgo h
   ·exact q2X g hw hM hsn hb hsz hgo h
   ·exact q5W g hw hM hsn hb hsz hgo h
   ·exact q4W g hw hM hsn hb hsz hgo h
   ·exact q3W g hw hM hsn hb hsz hgo h
   ·exact q2W g hw hM hsn hb hsz hgo h
   ·exact q1W g hw hM hsn hb hsz hgo h
   ·exact q0W g hw hM hsn hb hsz hgo h
   ·exact qzW g hw hM hsn hb hsz hgo h
  ·exact q1X g hw hM hsn hb hp hgo
/- Requests: with nobody in between. -/
open Go.Proofs.YthonngjhelcpeaaGreat.Sx Go.RowKit
structure HaSt where
 j:Nat
 g:GW
 w:Wd
 oa:Option Addr
 ca:Nat
 ob:Option Addr
 cb:Nat
 oc:Option Addr
 cc:Nat
 od:Option Addr
 cd:Nat
 oe:Option Addr
 ce:Nat
 m:Mach
 o1:Option Addr
 t1:Nat
 o2:Option Addr
 t2:Nat
 o3:Option Addr
 t3:Nat
abbrev HaSt.wc (x:HaSt):List Value:=[.int .i64 x.w.epoch,.int .i64 x.w.current,.int .i64 x.w.lock,.slice x.oa x.w.pins.length x.ca,.slice x.ob x.w.versions.length x.cb,.slice x.oc x.w.listens.length x.cc,.slice x.od x.w.counts.length x.cd,.slice x.oe x.w.limbo.length x.ce]
abbrev HaSt.mc (x:HaSt):List Value:=x.m.cs (.slice x.o1 x.m.op.config.listens.length x.t1) (.slice x.o2 x.m.op.config.routes.length x.t2) (.slice x.o3 x.m.op.config.clusters.length x.t3)
theorem qJM {K:Nat} {w w':Wd} (h:SnW w) (k:KeptW K w w'):SnW w':=fun v hv=>by
 obtain⟨u,hu,e⟩:=k.2 v hv
 rw [← e];exact h u hu
theorem HWay.sn:∀ {k:Nat} {w:Wd} {m:Mach} {x:Wd} {m':Mach},HWay k w m x m'→SnW w→SnW x
 | 0,_,_,_,_,⟨h1,_⟩,hb=>by rw [h1];exact hb
 | _+1,_,_,_,_,⟨_,h⟩,hb=>HWay.sn h (qJM (K:=0) hb hsW_kept)
/- Counts: their sum. -/
open Go.Proofs.YthonngjhelcpeaaGreat.Sx Go.RowKit
/- Worlds: how many slots are held. -/
open Go.Proofs.YthonngjhelcpeaaGreat.Sx Go.RowKit
theorem sum0 {α:Type} (f:α→Int) (l:List α) (s:Int):s+sumI f (l.take 0)=s:=by simp [sumI]
theorem qhU (g:GW) {cs:List Value} {w:Wd} (hw:rWo g cs w) (hb:BgW 1000 w):Ok Tryz.prog qYQ [.agg ⟨cs⟩] g fun v _=>v=.int .i64 (qHM w):=by
 obtain⟨a,b,c,d,e,rfl,⟨i1,i2,i3⟩,hP,hV,hL,hC,hR⟩:=hw
 obtain⟨oa,ca,rfl,a1,a2,a0,hP1⟩:=id hP
 obtain⟨ob,cb,rfl,b1,b2,b0,hV1⟩:=id hV
 obtain⟨oc,cc,rfl,c1,c2,c0,hL1⟩:=id hL
 obtain⟨od,cd,rfl,d1,d2,d0,hC1⟩:=id hC
 obtain⟨oe,ce,rfl,e1,e2,e0,hR1⟩:=id hR
 obtain⟨⟨_,hbv,_,_,_⟩,_,hbV⟩:=hb
 exact Ok.of_fn hm noT 0 q0P (args:=[.v (.agg ⟨wQ w oa ca ob cb oc cc od cd oe ce⟩)]) (by
  repeat((conv=>whnf);first|apply qza|apply qzb|apply qzc|apply qzd|apply qze|intro(_:Nat))
  conv=>whnf
  refine⟨Nat×GW,fun (i,_)=>[.v (.int .i64 (0+sumI q5E (w.versions.take i))),.v (.int .i64 i)],fun (_,g')=>⟨g',_,_,_⟩,fun (i,g')=>i≤w.versions.length∧g≤g',fun (i,_)=>w.versions.length-i,qFA (0,g) (congrArg (fun z=>[Value.int .i64 z,.int .i64 0]) (sum0 _ _ _)) ⟨Nat.zero_le _,GW.refl _⟩ rfl,?_⟩
  rintro⟨i,g1⟩ ⟨hi,hg1⟩
  have hS:=q4G (f:=q5E) (c:=4*1000*1000) (l:=w.versions) (fun y hy=>qEW (hbV y hy)) i
  have hSl:(w.versions.take i).length≤1000:=by rw [List.length_take];omega
  repeat((conv=>whnf);first|apply qza|apply qzb|apply qzc|apply qzd|apply qze|intro(_:Nat))
  conv=>whnf
  refine⟨fun y1=>?_,fun y1=>?_⟩
  ·have h':i<w.versions.length:=by have h9:(i:Int)<w.versions.length:=of_decide_eq_true y1;omega
   obtain⟨v,hv⟩:=qAA h'
   have hvb:=hbV v (List.mem_of_getElem? hv)
   obtain⟨ad,rfl,ec,hec,⟨va,vb,vd,vn,rfl,hsn,hG⟩,hc⟩:=hV1 i v hv
   obtain⟨og,cg,rfl,p1,p2,p0,hG1⟩:=id hG
   obtain⟨_,_,_,he2,⟨sa,ta,rfl,_⟩,⟨sb,tb,rfl,_⟩,⟨sd,td,rfl,_⟩⟩:=hsn
   cases he2
   repeat((conv=>whnf);first|apply qza|apply qzb|apply qzc|apply qzd|apply qze|intro(_:Nat))
   conv=>whnf
   refine⟨_,rfl,⟨by show(0:Int)≤i;omega,by show(i:Int)<w.versions.length;omega⟩,?_⟩
   repeat((conv=>whnf);first|apply qza|apply qzb|apply qzc|apply qzd|apply qze|intro(_:Nat))
   conv=>whnf
   refine⟨_,⟨rfl,hc.mono hg1⟩,?_⟩
   repeat((conv=>whnf);first|apply qza|apply qzb|apply qzc|apply qzd|apply qze|intro(_:Nat))
   conv=>whnf
   refine⟨Nat×GW,fun (j,_)=>[.v (.int .i64 (0+sumI q5E (w.versions.take i)+sumI qRF (v.groups.take j))),.v (.int .i64 j)],fun (_,g')=>⟨g',_,_,_⟩,fun (j,g')=>j≤v.groups.length∧g1≤g',fun (j,_)=>v.groups.length-j,qFA (0,g1) (congrArg (fun z=>[Value.int .i64 z,.int .i64 0]) (sum0 _ _ _)) ⟨Nat.zero_le _,GW.refl _⟩ rfl,?_⟩
   rintro⟨j,g2⟩ ⟨hj,hg2⟩
   have hT:=q4G (f:=qRF) (c:=4*1000) (l:=v.groups) (fun y hy=>qrS (hvb.2 y hy)) j
   have hTl:(v.groups.take j).length≤1000:=by have:=hvb.1;rw [List.length_take];omega
   repeat((conv=>whnf);first|apply qza|apply qzb|apply qzc|apply qzd|apply qze|intro(_:Nat))
   conv=>whnf
   refine⟨fun y2=>?_,fun y2=>?_⟩
   ·have h2:j<v.groups.length:=by have h9:(j:Int)<v.groups.length:=of_decide_eq_true y2;omega
    obtain⟨x,hx⟩:=qAA h2
    have hxb:=hvb.2 x (List.mem_of_getElem? hx)
    obtain⟨ag,rfl,ecg,hecg,⟨xn,rfl,hti,hE⟩,hcg⟩:=hG1 j x hx
    obtain⟨on,cn,rfl,r1,r2,r0,hE1⟩:=id hE
    repeat((conv=>whnf);first|apply qza|apply qzb|apply qzc|apply qzd|apply qze|intro(_:Nat))
    conv=>whnf
    refine⟨_,rfl,⟨by show(0:Int)≤j;omega,by show(j:Int)<v.groups.length;omega⟩,?_⟩
    repeat((conv=>whnf);first|apply qza|apply qzb|apply qzc|apply qzd|apply qze|intro(_:Nat))
    conv=>whnf
    refine⟨_,⟨rfl,hcg.mono (GW.trans hg1 hg2)⟩,?_⟩
    repeat((conv=>whnf);first|apply qza|apply qzb|apply qzc|apply qzd|apply qze|intro(_:Nat))
    conv=>whnf
    refine⟨Nat×GW,fun (k,_)=>[.v (.int .i64 (0+sumI q5E (w.versions.take i)+sumI qRF (v.groups.take j)+sumI q2B (x.ends.take k))),.v (.int .i64 k)],fun (_,g')=>⟨g',_,_,_⟩,fun (k,g')=>k≤x.ends.length∧g2≤g',fun (k,_)=>x.ends.length-k,qFA (0,g2) (congrArg (fun z=>[Value.int .i64 z,.int .i64 0]) (sum0 _ _ _)) ⟨Nat.zero_le _,GW.refl _⟩ rfl,?_⟩
    rintro⟨k,g3⟩ ⟨hk,hg3⟩
    have hU:=q4G (f:=q2B) (c:=4) (l:=x.ends) (fun y _=>qZP y) k
    have hUl:(x.ends.take k).length≤1000:=by unfold BgG at hxb;rw [List.length_take];omega
    repeat((conv=>whnf);first|apply qza|apply qzb|apply qzc|apply qzd|apply qze|intro(_:Nat))
    conv=>whnf
    refine⟨fun y3=>?_,fun y3=>?_⟩
    ·have h3:k<x.ends.length:=by have h9:(k:Int)<x.ends.length:=of_decide_eq_true y3;omega
     obtain⟨en,hen⟩:=qAA h3
     obtain⟨ae,rfl,ece,hece,hEn,hce⟩:=hE1 k en hen
     have hEn0:=hEn
     obtain⟨⟨n,rfl,hH,hA,hN⟩,hsz⟩:=hEn0
     obtain⟨ox,cx,rfl,s1,s2,s0,hN1⟩:=id hN
     have hg03:=GW.trans hg1 (GW.trans hg2 hg3)
     repeat((conv=>whnf);first|apply qza|apply qzb|apply qzc|apply qzd|apply qze|intro(_:Nat))
     conv=>whnf
     refine⟨_,rfl,⟨by show(0:Int)≤k;omega,by show(k:Int)<x.ends.length;omega⟩,?_⟩
     repeat((conv=>whnf);first|apply qza|apply qzb|apply qzc|apply qzd|apply qze|intro(_:Nat))
     conv=>whnf
     refine⟨_,⟨rfl,hce.mono hg03⟩,?_⟩
     repeat((conv=>whnf);first|apply qza|apply qzb|apply qzc|apply qzd|apply qze|intro(_:Nat))
     refine .inr ((qdS _ (qpE _ _ _ _ hg03 hEn)).mono fun v' g4 hg4 hF=>?_)
     have hst:=qeM q2B hen
     have hbd:=qZP en
     have hgo:∀ z:Int,z=q2B en→[Value.int .i64 (0+sumI q5E (w.versions.take i)+sumI qRF (v.groups.take j)+sumI q2B (x.ends.take (k+1))),Value.int .i64 ((k+1:Nat):Int)]=[Value.int .i64 (0+sumI q5E (w.versions.take i)+sumI qRF (v.groups.take j)+sumI q2B (x.ends.take k)+z),Value.int .i64 (IntKind.i64.wrap ((k:Int)+1))]:=fun z hz=>by
      rw [hst,hz,wr (x:=(k:Int)+1) (by unfold InR;unfold maxLen at r2;omega)]
      simp only [Int.add_assoc,Int.natCast_add,Int.natCast_one]
     unfold quL at hF
     cases hf:qvA en with
     | none =>
      rw [hf] at hF
      subst hF
      have hbF:endB en=false:=by unfold endB;rw [hf];rfl
      have hz:q2B en=0:=by unfold q2B;rw [hbF];rfl
      repeat((conv=>whnf);first|apply qza|apply qzb|apply qzc|apply qzd|apply qze|intro(_:Nat))
      conv=>whnf
      refine .inl ⟨_,(qkR _ (qpE _ _ _ _ (GW.trans hg03 hg4) hEn)).to (congrArg Value.bool hbF),?_⟩
      repeat((conv=>whnf);first|apply qza|apply qzb|apply qzc|apply qzd|apply qze|intro(_:Nat))
      conv=>whnf
      refine⟨fun h=>(nomatch h),fun _=>?_⟩
      repeat((conv=>whnf);first|apply qza|apply qzb|apply qzc|apply qzd|apply qze|intro(_:Nat))
      conv=>whnf
      refine fun fr u hu=>⟨(k+1,g4),(hgo 0 hz.symm).trans (congrArg (fun z=>[Value.int .i64 z,Value.int .i64 (IntKind.i64.wrap ((k:Int)+1))]) (Int.add_zero _)),⟨h3,GW.trans hg3 hg4⟩,by show x.ends.length-(k+1)<x.ends.length-k;omega,hu.fit (by simp [fitL,Res.eqv,qBA,conc])⟩
     | some l =>
      rw [hf] at hF
      obtain⟨oF,cF,rfl,hF⟩:=hF
      have hll:=qbP hf
      repeat((conv=>whnf);first|apply qza|apply qzb|apply qzc|apply qzd|apply qze|intro(_:Nat))
      conv=>whnf
      refine .inl ⟨_,(qkR _ (qpE _ _ _ _ (GW.trans hg03 hg4) hEn)),?_⟩
      repeat((conv=>whnf);first|apply qza|apply qzb|apply qzc|apply qzd|apply qze|intro(_:Nat))
      conv=>whnf
      refine⟨fun y4=>?_,fun y4=>?_⟩
      ·have hbT:endB en=true:=y4
       have hz:q2B en=en.next.length-(l.length:Nat):=by unfold q2B;rw [hbT,hf];rfl
       repeat((conv=>whnf);first|apply qza|apply qzb|apply qzc|apply qzd|apply qze|intro(_:Nat))
       conv=>whnf
       refine fun fr u hu=>⟨(k+1,g4),(hgo _ hz.symm).trans (congrArg (fun z=>[Value.int .i64 z,Value.int .i64 (IntKind.i64.wrap ((k:Int)+1))]) (by rw [wr (x:=(en.next.length:Int)-l.length) (by unfold InR;omega),wr (x:=0+sumI q5E (w.versions.take i)+sumI qRF (v.groups.take j)+sumI q2B (x.ends.take k)+((en.next.length:Int)-l.length)) (by unfold InR;omega)])),⟨h3,GW.trans hg3 hg4⟩,by show x.ends.length-(k+1)<x.ends.length-k;omega,hu.fit (by simp [fitL,Res.eqv,qBA,conc])⟩
      ·have hbF:endB en=false:=y4
       have hz:q2B en=0:=by unfold q2B;rw [hbF];rfl
       repeat((conv=>whnf);first|apply qza|apply qzb|apply qzc|apply qzd|apply qze|intro(_:Nat))
       conv=>whnf
       refine fun fr u hu=>⟨(k+1,g4),(hgo 0 hz.symm).trans (congrArg (fun z=>[Value.int .i64 z,Value.int .i64 (IntKind.i64.wrap ((k:Int)+1))]) (Int.add_zero _)),⟨h3,GW.trans hg3 hg4⟩,by show x.ends.length-(k+1)<x.ends.length-k;omega,hu.fit (by simp [fitL,Res.eqv,qBA,conc])⟩
    have hkL:k=x.ends.length:=by have h9:¬ (k:Int)<x.ends.length:=of_decide_eq_false y3;omega
    subst hkL
    repeat((conv=>whnf);first|apply qza|apply qzb|apply qzc|apply qzd|apply qze|intro(_:Nat))
    conv=>whnf
    refine fun fr u hu=>⟨(j+1,g3),(show [Value.int .i64 (0+sumI q5E (w.versions.take i)+sumI qRF (v.groups.take (j+1))),Value.int .i64 ((j+1:Nat):Int)]=[Value.int .i64 (0+sumI q5E (w.versions.take i)+sumI qRF (v.groups.take j)+sumI q2B (x.ends.take x.ends.length)),Value.int .i64 (IntKind.i64.wrap ((j:Int)+1))] by rw [qeM qRF hx,wr (x:=(j:Int)+1) (by unfold InR;unfold maxLen at p2;omega),List.take_length];simp only [Int.add_assoc,Int.natCast_add,Int.natCast_one];rfl),⟨h2,GW.trans hg2 hg3⟩,by show v.groups.length-(j+1)<v.groups.length-j;omega,hu.fit (by simp [fitL,Res.eqv,qBA,conc])⟩
   have hjL:j=v.groups.length:=by have h9:¬ (j:Int)<v.groups.length:=of_decide_eq_false y2;omega
   subst hjL
   repeat((conv=>whnf);first|apply qza|apply qzb|apply qzc|apply qzd|apply qze|intro(_:Nat))
   conv=>whnf
   refine fun fr u hu=>⟨(i+1,g2),(show [Value.int .i64 (0+sumI q5E (w.versions.take (i+1))),Value.int .i64 ((i+1:Nat):Int)]=[Value.int .i64 (0+sumI q5E (w.versions.take i)+sumI qRF (v.groups.take v.groups.length)),Value.int .i64 (IntKind.i64.wrap ((i:Int)+1))] by rw [qeM q5E hv,wr (x:=(i:Int)+1) (by unfold InR;unfold maxLen at b2;omega),List.take_length];simp only [Int.add_assoc,Int.natCast_add,Int.natCast_one];rfl),⟨h',GW.trans hg1 hg2⟩,by show w.versions.length-(i+1)<w.versions.length-i;omega,hu.fit (by simp [fitL,Res.eqv,qBA,conc])⟩
  have hiL:i=w.versions.length:=by have h9:¬ (i:Int)<w.versions.length:=of_decide_eq_false y1;omega
  subst hiL
  repeat((conv=>whnf);first|apply qza|apply qzb|apply qzc|apply qzd|apply qze|intro(_:Nat))
  conv=>whnf
  intro g2 hg
  show Value.int .i64 (0+sumI q5E (w.versions.take w.versions.length))=_
  rw [List.take_length,Int.zero_add];rfl)
/- Law 20's example. -/
open Go.Proofs.YthonngjhelcpeaaGreat.Sx Go.RowKit
theorem qjX {t h a:Int} {c:List Int}:SnW (wH t h a c):=by
 intro v hv
 have:v=⟨qHL 1 [true],[⟨t,[⟨h,[-1],a⟩]⟩],false⟩:=by simpa [wH] using hv
 subst this
 show SnS (qHL 1 [true])
 refine⟨by decide,fun r hr=>?_⟩
 have:r=⟨0,⟨#[42]⟩,⟨#[47]⟩,0⟩:=by simpa [qHL] using hr
 subst this
 decide
theorem qhW {K:Nat} (hK:6≤K) {t h a:Int} {c:List Int} (hc:c.length=6):BgW K (wH t h a c):=by
 refine⟨⟨by show 1≤K;omega,by show 1≤K;omega,by show 1≤K;omega,by show 1≤K;omega,Nat.zero_le _⟩,fun r hr=>?_,fun v hv=>?_⟩
 ·have:r=c:=by simpa [wH] using hr
  subst this;omega
 have:v=⟨qHL 1 [true],[⟨t,[⟨h,[-1],a⟩]⟩],false⟩:=by simpa [wH] using hv
 subst this
 refine⟨by show 1≤K;omega,fun y hy=>?_⟩
 have:y=⟨t,[⟨h,[-1],a⟩]⟩:=by simpa using hy
 subst this
 show 1≤K;omega
end Go.Proofs.YthonngjhelcpeaaGreat
