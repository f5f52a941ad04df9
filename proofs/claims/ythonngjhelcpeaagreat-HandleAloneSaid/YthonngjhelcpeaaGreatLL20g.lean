/- The law HandleAlone. -/
import Derived.Test.YthonngjhelcpeaaGreatLL20e
import Derived.Test.YthonngjhelcpeaaGreatPP41
set_option linter.unusedVariables false
set_option linter.unusedSimpArgs false
namespace Go.Proofs.YthonngjhelcpeaaGreat
open Go.Proofs.YthonngjhelcpeaaGreat.Sx Go.RowKit
set_option maxHeartbeats 16000000
set_option maxRecDepth 100000
theorem qyM (g:GW) {cs os:List Value} {w:Wd} {th:Int} {o:OpD} (hw:rWo g cs w) (ht:InR th) (hO:rOp g os o):OkV Tryz.prog qtE [.agg ⟨cs⟩,.int .i64 th,.agg ⟨os⟩] g (.bool true):=by
 obtain⟨oa,ca,ob,cb,oc,cc,od,cd,oe,ce,rfl⟩:=qGA hw
 obtain⟨o1,t1,o2,t2,o3,t3,rfl⟩:=qcD hO
 exact Ok.of_fn hm noT 0 qkE (args:=[.v (.agg ⟨wQ w oa ca ob cb oc cc od cd oe ce⟩),.v (.int .i64 th),.v (.agg ⟨oCs o (.slice o1 o.config.listens.length t1) (.slice o2 o.config.routes.length t2) (.slice o3 o.config.clusters.length t3)⟩)]) (by
  repeat((conv=>whnf);first|apply qza|apply qzb|apply qzc|apply qzd|apply qze|intro(_:Nat))
  refine .inr ((q7E _ hw).mono fun v g1 hg1 hB=>?_)
  obtain⟨b,rfl,hB⟩:=hB
  have hw1:=qBA _ _ _ _ hg1 hw
  have hM1:=q0C (qTC _ _ _ _ hg1 hO) ht
  repeat((conv=>whnf);first|apply qza|apply qzb|apply qzc|apply qzd|apply qze|intro(_:Nat))
  conv=>whnf
  refine⟨fun z1=>?_,fun z1=>?_⟩
  ·repeat((conv=>whnf);first|apply qza|apply qzb|apply qzc|apply qzd|apply qze|intro(_:Nat))
   conv=>whnf
   refine .inl ⟨_,qIA _,?_⟩
   repeat((conv=>whnf);first|apply qza|apply qzb|apply qzc|apply qzd|apply qze|intro(_:Nat))
   conv=>whnf
   intro g2 hg
   rfl
  obtain⟨hb,hsn⟩:=hB z1
  have hb':=BgW.up (K':=1000000) hb (by decide)
  repeat((conv=>whnf);first|apply qza|apply qzb|apply qzc|apply qzd|apply qze|intro(_:Nat))
  refine .inr ((q6E _ hw1).mono fun v g2 hg2 hC=>?_)
  obtain⟨b,rfl,hC⟩:=hC
  have hw2:=qBA _ _ _ _ hg2 hw1
  have hM2:=qNA _ _ _ _ hg2 hM1
  repeat((conv=>whnf);first|apply qza|apply qzb|apply qzc|apply qzd|apply qze|intro(_:Nat))
  conv=>whnf
  refine⟨fun z5=>?_,fun z5=>?_⟩
  ·repeat((conv=>whnf);first|apply qza|apply qzb|apply qzc|apply qzd|apply qze|intro(_:Nat))
   conv=>whnf
   refine .inl ⟨_,qIA _,?_⟩
   repeat((conv=>whnf);first|apply qza|apply qzb|apply qzc|apply qzd|apply qze|intro(_:Nat))
   conv=>whnf
   intro g2 hg
   rfl
  have hcalm:=hC (nb0 z5)
  repeat((conv=>whnf);first|apply qza|apply qzb|apply qzc|apply qzd|apply qze|intro(_:Nat))
  conv=>whnf
  refine⟨fun z2=>?_,fun z2=>?_⟩
  ·repeat((conv=>whnf);first|apply qza|apply qzb|apply qzc|apply qzd|apply qze|intro(_:Nat))
   conv=>whnf
   refine .inl ⟨_,qIA _,?_⟩
   repeat((conv=>whnf);first|apply qza|apply qzb|apply qzc|apply qzd|apply qze|intro(_:Nat))
   conv=>whnf
   intro g2 hg
   rfl
  repeat((conv=>whnf);first|apply qza|apply qzb|apply qzc|apply qzd|apply qze|intro(_:Nat))
  conv=>whnf
  refine⟨fun z3=>?_,fun z3=>?_⟩
  ·repeat((conv=>whnf);first|apply qza|apply qzb|apply qzc|apply qzd|apply qze|intro(_:Nat))
   conv=>whnf
   refine .inl ⟨_,qIA _,?_⟩
   repeat((conv=>whnf);first|apply qza|apply qzb|apply qzc|apply qzd|apply qze|intro(_:Nat))
   conv=>whnf
   intro g2 hg
   rfl
  have hsz:SmO (mReq o th):=q8J z2 z3
  repeat((conv=>whnf);first|apply qza|apply qzb|apply qzc|apply qzd|apply qze|intro(_:Nat))
  conv=>whnf
  refine .inl ⟨_,qQA _ hw2 hM2 hsn hb',?_⟩
  repeat((conv=>whnf);first|apply qza|apply qzb|apply qzc|apply qzd|apply qze|intro(_:Nat))
  conv=>whnf
  refine⟨fun z6=>?_,fun z6=>?_⟩
  ·repeat((conv=>whnf);first|apply qza|apply qzb|apply qzc|apply qzd|apply qze|intro(_:Nat))
   conv=>whnf
   refine .inl ⟨_,qIA _,?_⟩
   repeat((conv=>whnf);first|apply qza|apply qzb|apply qzc|apply qzd|apply qze|intro(_:Nat))
   conv=>whnf
   intro g2 hg
   rfl
  have hs:=nb0 z6
  have hI:=qRM (n:=1000000) hs rfl hcalm.la hcalm.ea
  obtain⟨k,x,m',w1,m1,hk,hway,hmid,hkind,hend⟩:=hI.whole (by decide)
  clear hI
  repeat((conv=>whnf);first|apply qza|apply qzb|apply qzc|apply qzd|apply qze|intro(_:Nat))
  refine .inr ((q8E _ hw2 hM2 hsn hb' hsz hway hend.done (by omega)).mono fun v g3 hg3 hA=>?_)
  obtain⟨csx,msx,rfl,hwx,hMx⟩:=hA
  obtain⟨xa,ya,xb,yb,xc,yc,xd,yd,xe,ye,rfl⟩:=qGA hwx
  obtain⟨p1,s1,p2,s2,p3,s3,rfl⟩:=qXA hMx
  have hw3:=qBA _ _ _ _ hg3 hw2
  have hans:=hend.answer
  have hkd:1≤m'.answer.kind∧m'.answer.kind≤5:=by rw [hans];exact hkind
  obtain⟨_,_,_,hS⟩:=suitB_iff.1 hs
  obtain⟨hcp,hsh,hc1,hc8⟩:=qXG hS.right
  have hth:=hS.thread
  have hxv:x.versions.length=w.versions.length:=by rw [hend.versions,q5O hmid]
  have hxp:=qKN hmid hend
  have hsnx:=HWay.sn hway hsn
  have hxl:x.pins.length=w.pins.length:=by rw [hxp,List.length_set]
  have hheld:qSB x=qSB w+if m'.answer.kind=1 then 1 else 0:=by
   rw [hans,← qqK hmid hs];unfold qSB;rw [hend.versions]
  have hbx:=hway.kept (BgW.up (K':=1000) hb (by decide))
  have hFp:=rWo_p hwx
  have hp0:x.pins[th.toNat]?=some 0:=by
   have:th.toNat<w.pins.length:=by have:=hth;simp only [mReq] at this;omega
   rw [hxp];exact List.getElem?_set_self this
  obtain⟨ap,rfl⟩:=qEA hFp hp0
  obtain⟨_,hcp0⟩:=qXI hFp hp0
  repeat((conv=>whnf);first|apply qza|apply qzb|apply qzc|apply qzd|apply qze|intro(_:Nat))
  conv=>whnf
  refine⟨fun hx=>absurd hend.done (by simpa using hx),fun _=>?_⟩
  conv=>whnf
  refine dF (by omega) ?_
  repeat((conv=>whnf);first|apply qza|apply qzb|apply qzc|apply qzd|apply qze|intro(_:Nat))
  conv=>whnf
  refine⟨fun hx=>absurd hxl (nneT hx),fun _=>?_⟩
  repeat((conv=>whnf);first|apply qza|apply qzb|apply qzc|apply qzd|apply qze|intro(_:Nat))
  repeat'((conv=>whnf);first|apply qza|apply qzb|apply qzc|apply qzd|apply qze|intro(_:Nat)|refine⟨_,rfl,⟨hth.1,by have:=hth.2;simp only [mReq] at this;omega⟩,?_⟩|refine⟨_,hcp0 0 _ rfl,?_⟩|fail)
  conv=>whnf
  refine⟨fun hx=>absurd hx (by simp),fun _=>?_⟩
  repeat((conv=>whnf);first|apply qza|apply qzb|apply qzc|apply qzd|apply qze|intro(_:Nat))
  conv=>whnf
  refine dF (by omega) ?_
  repeat((conv=>whnf);first|apply qza|apply qzb|apply qzc|apply qzd|apply qze|intro(_:Nat))
  conv=>whnf
  refine dF (by omega) ?_
  repeat((conv=>whnf);first|apply qza|apply qzb|apply qzc|apply qzd|apply qze|intro(_:Nat))
  conv=>whnf
  refine .inl ⟨_,(q1L _ hwx hsnx).to (congrArg Value.bool hend.right),?_⟩
  repeat((conv=>whnf);first|apply qza|apply qzb|apply qzc|apply qzd|apply qze|intro(_:Nat))
  conv=>whnf
  refine⟨fun h=>(nomatch h),fun _=>?_⟩
  obtain⟨_,hshx,_,_⟩:=qXG hend.right
  repeat((conv=>whnf);first|apply qza|apply qzb|apply qzc|apply qzd|apply qze|intro(_:Nat))
  conv=>whnf
  refine .inl ⟨_,qzT _ (q5V hw3) hsh,?_⟩
  repeat((conv=>whnf);first|apply qza|apply qzb|apply qzc|apply qzd|apply qze|intro(_:Nat))
  conv=>whnf
  refine .inl ⟨_,qzT _ (q5V hwx) hshx,?_⟩
  repeat((conv=>whnf);first|apply qza|apply qzb|apply qzc|apply qzd|apply qze|intro(_:Nat))
  have hsum:=qzW (k:=m1.answer.kind.toNat) (by omega) (qBO _ _) fun j hj=>qOT hmid hend hkind hsh (by have:=hth.2;simp only [mReq] at this ⊢;omega) hj
  rw [← hans] at hsum
  have hpok:=qBO w.counts (6*w.counts.length)
  generalize qNC w.counts (6*w.counts.length)=Pa at *
  generalize qNC x.counts (6*x.counts.length)=Pb at *
  have hbd:=qWV (BgW.up (K':=1000) hb (by decide))
  have hw0:IntKind.i64.wrap (qSB w+0)=qSB w:=by rw [wr (x:=qSB w+0) (by unfold InR;omega)];omega
  have hw1:IntKind.i64.wrap (qSB w+1)=qSB w+1:=wr (by unfold InR;omega)
  refine And.intro (fun z=>?_) (fun z=>?_)
  ·have hk1:m'.answer.kind=1:=beqT z
   rw [hk1] at hsum
   subst hsum
   rw [if_pos hk1] at hheld
   repeat((conv=>whnf);first|apply qza|apply qzb|apply qzc|apply qzd|apply qze|intro(_:Nat))
   conv=>whnf
   refine⟨0,⟨rfl,by decide⟩,?_⟩
   repeat((conv=>whnf);first|apply qza|apply qzb|apply qzc|apply qzd|apply qze|intro(_:Nat))
   conv=>whnf
   refine⟨0,⟨rfl,by decide⟩,?_⟩
   repeat((conv=>whnf);first|apply qza|apply qzb|apply qzc|apply qzd|apply qze|intro(_:Nat))
   conv=>whnf
   refine⟨1,⟨hk1,by decide⟩,?_⟩
   repeat((conv=>whnf);first|apply qza|apply qzb|apply qzc|apply qzd|apply qze|intro(_:Nat))
   conv=>whnf
   refine⟨1,⟨hk1,by decide⟩,?_⟩
   repeat((conv=>whnf);first|apply qza|apply qzb|apply qzc|apply qzd|apply qze|intro(_:Nat))
   conv=>whnf
   refine .inl ⟨_,qIA _,?_⟩
   repeat((conv=>whnf);first|apply qza|apply qzb|apply qzc|apply qzd|apply qze|intro(_:Nat))
   conv=>whnf
   refine⟨fun _=>?_,fun h=>nomatch h⟩
   repeat((conv=>whnf);first|apply qza|apply qzb|apply qzc|apply qzd|apply qze|intro(_:Nat))
   conv=>whnf
   refine⟨fun _=>?_,fun h=>nomatch h⟩
   repeat((conv=>whnf);first|apply qza|apply qzb|apply qzc|apply qzd|apply qze|intro(_:Nat))
   conv=>whnf
   refine⟨fun _=>?_,fun h=>nomatch h⟩
   repeat((conv=>whnf);first|apply qza|apply qzb|apply qzc|apply qzd|apply qze|intro(_:Nat))
   refine And.intro (fun _=>?_) (fun hx=>absurd hx (by simp [C6.set,C6.get]))
   repeat((conv=>whnf);first|apply qza|apply qzb|apply qzc|apply qzd|apply qze|intro(_:Nat))
   refine .inr ((qAB _ hwx hbx).mono fun v g5 hg5 hA=>?_)
   subst hA
   repeat((conv=>whnf);first|apply qza|apply qzb|apply qzc|apply qzd|apply qze|intro(_:Nat))
   refine .inr ((qAB _ (qBA _ _ _ _ hg5 hw3) (BgW.up (K':=1000) hb (by decide))).mono fun v g6 hg6 hA=>?_)
   subst hA
   repeat((conv=>whnf);first|apply qza|apply qzb|apply qzc|apply qzd|apply qze|intro(_:Nat))
   conv=>whnf
   refine⟨fun _=>?_,fun hx=>absurd (by rw [hheld,hw1]) (beqF hx)⟩
   repeat((conv=>whnf);first|apply qza|apply qzb|apply qzc|apply qzd|apply qze|intro(_:Nat))
   conv=>whnf
   intro g2 hg
   simp [hxv]
  ·have hk0:=beqF z
   rcases(show m'.answer.kind=2∨m'.answer.kind=3∨m'.answer.kind=4∨m'.answer.kind=5 by omega) with hk|hk|hk|hk
   ·have hk1:m'.answer.kind=2:=hk
    rw [hk1] at hsum
    subst hsum
    rw [if_neg (by omega)] at hheld
    repeat((conv=>whnf);first|apply qza|apply qzb|apply qzc|apply qzd|apply qze|intro(_:Nat))
    conv=>whnf
    refine⟨0,⟨rfl,by decide⟩,?_⟩
    repeat((conv=>whnf);first|apply qza|apply qzb|apply qzc|apply qzd|apply qze|intro(_:Nat))
    conv=>whnf
    refine⟨0,⟨rfl,by decide⟩,?_⟩
    repeat((conv=>whnf);first|apply qza|apply qzb|apply qzc|apply qzd|apply qze|intro(_:Nat))
    conv=>whnf
    refine⟨2,⟨hk1,by decide⟩,?_⟩
    repeat((conv=>whnf);first|apply qza|apply qzb|apply qzc|apply qzd|apply qze|intro(_:Nat))
    conv=>whnf
    refine⟨2,⟨hk1,by decide⟩,?_⟩
    repeat((conv=>whnf);first|apply qza|apply qzb|apply qzc|apply qzd|apply qze|intro(_:Nat))
    conv=>whnf
    refine .inl ⟨_,qIA _,?_⟩
    repeat((conv=>whnf);first|apply qza|apply qzb|apply qzc|apply qzd|apply qze|intro(_:Nat))
    conv=>whnf
    refine⟨fun _=>?_,fun h=>nomatch h⟩
    repeat((conv=>whnf);first|apply qza|apply qzb|apply qzc|apply qzd|apply qze|intro(_:Nat))
    conv=>whnf
    refine⟨fun _=>?_,fun h=>nomatch h⟩
    repeat((conv=>whnf);first|apply qza|apply qzb|apply qzc|apply qzd|apply qze|intro(_:Nat))
    conv=>whnf
    refine⟨fun _=>?_,fun h=>nomatch h⟩
    repeat((conv=>whnf);first|apply qza|apply qzb|apply qzc|apply qzd|apply qze|intro(_:Nat))
    refine And.intro (fun _=>?_) (fun hx=>absurd hx (by simp [C6.set,C6.get]))
    repeat((conv=>whnf);first|apply qza|apply qzb|apply qzc|apply qzd|apply qze|intro(_:Nat))
    refine .inr ((qAB _ hwx hbx).mono fun v g5 hg5 hA=>?_)
    subst hA
    repeat((conv=>whnf);first|apply qza|apply qzb|apply qzc|apply qzd|apply qze|intro(_:Nat))
    refine .inr ((qAB _ (qBA _ _ _ _ hg5 hw3) (BgW.up (K':=1000) hb (by decide))).mono fun v g6 hg6 hA=>?_)
    subst hA
    repeat((conv=>whnf);first|apply qza|apply qzb|apply qzc|apply qzd|apply qze|intro(_:Nat))
    conv=>whnf
    refine⟨fun _=>?_,fun hx=>absurd (by rw [hheld,hw0,Int.add_zero]) (beqF hx)⟩
    repeat((conv=>whnf);first|apply qza|apply qzb|apply qzc|apply qzd|apply qze|intro(_:Nat))
    conv=>whnf
    intro g2 hg
    simp [hxv]
   ·have hk1:m'.answer.kind=3:=hk
    rw [hk1] at hsum
    subst hsum
    rw [if_neg (by omega)] at hheld
    repeat((conv=>whnf);first|apply qza|apply qzb|apply qzc|apply qzd|apply qze|intro(_:Nat))
    conv=>whnf
    refine⟨0,⟨rfl,by decide⟩,?_⟩
    repeat((conv=>whnf);first|apply qza|apply qzb|apply qzc|apply qzd|apply qze|intro(_:Nat))
    conv=>whnf
    refine⟨0,⟨rfl,by decide⟩,?_⟩
    repeat((conv=>whnf);first|apply qza|apply qzb|apply qzc|apply qzd|apply qze|intro(_:Nat))
    conv=>whnf
    refine⟨3,⟨hk1,by decide⟩,?_⟩
    repeat((conv=>whnf);first|apply qza|apply qzb|apply qzc|apply qzd|apply qze|intro(_:Nat))
    conv=>whnf
    refine⟨3,⟨hk1,by decide⟩,?_⟩
    repeat((conv=>whnf);first|apply qza|apply qzb|apply qzc|apply qzd|apply qze|intro(_:Nat))
    conv=>whnf
    refine .inl ⟨_,qIA _,?_⟩
    repeat((conv=>whnf);first|apply qza|apply qzb|apply qzc|apply qzd|apply qze|intro(_:Nat))
    conv=>whnf
    refine⟨fun _=>?_,fun h=>nomatch h⟩
    repeat((conv=>whnf);first|apply qza|apply qzb|apply qzc|apply qzd|apply qze|intro(_:Nat))
    conv=>whnf
    refine⟨fun _=>?_,fun h=>nomatch h⟩
    repeat((conv=>whnf);first|apply qza|apply qzb|apply qzc|apply qzd|apply qze|intro(_:Nat))
    conv=>whnf
    refine⟨fun _=>?_,fun h=>nomatch h⟩
    repeat((conv=>whnf);first|apply qza|apply qzb|apply qzc|apply qzd|apply qze|intro(_:Nat))
    refine And.intro (fun _=>?_) (fun hx=>absurd hx (by simp [C6.set,C6.get]))
    repeat((conv=>whnf);first|apply qza|apply qzb|apply qzc|apply qzd|apply qze|intro(_:Nat))
    refine .inr ((qAB _ hwx hbx).mono fun v g5 hg5 hA=>?_)
    subst hA
    repeat((conv=>whnf);first|apply qza|apply qzb|apply qzc|apply qzd|apply qze|intro(_:Nat))
    refine .inr ((qAB _ (qBA _ _ _ _ hg5 hw3) (BgW.up (K':=1000) hb (by decide))).mono fun v g6 hg6 hA=>?_)
    subst hA
    repeat((conv=>whnf);first|apply qza|apply qzb|apply qzc|apply qzd|apply qze|intro(_:Nat))
    conv=>whnf
    refine⟨fun _=>?_,fun hx=>absurd (by rw [hheld,hw0,Int.add_zero]) (beqF hx)⟩
    repeat((conv=>whnf);first|apply qza|apply qzb|apply qzc|apply qzd|apply qze|intro(_:Nat))
    conv=>whnf
    intro g2 hg
    simp [hxv]
   ·have hk1:m'.answer.kind=4:=hk
    rw [hk1] at hsum
    subst hsum
    rw [if_neg (by omega)] at hheld
    repeat((conv=>whnf);first|apply qza|apply qzb|apply qzc|apply qzd|apply qze|intro(_:Nat))
    conv=>whnf
    refine⟨0,⟨rfl,by decide⟩,?_⟩
    repeat((conv=>whnf);first|apply qza|apply qzb|apply qzc|apply qzd|apply qze|intro(_:Nat))
    conv=>whnf
    refine⟨0,⟨rfl,by decide⟩,?_⟩
    repeat((conv=>whnf);first|apply qza|apply qzb|apply qzc|apply qzd|apply qze|intro(_:Nat))
    conv=>whnf
    refine⟨4,⟨hk1,by decide⟩,?_⟩
    repeat((conv=>whnf);first|apply qza|apply qzb|apply qzc|apply qzd|apply qze|intro(_:Nat))
    conv=>whnf
    refine⟨4,⟨hk1,by decide⟩,?_⟩
    repeat((conv=>whnf);first|apply qza|apply qzb|apply qzc|apply qzd|apply qze|intro(_:Nat))
    conv=>whnf
    refine .inl ⟨_,qIA _,?_⟩
    repeat((conv=>whnf);first|apply qza|apply qzb|apply qzc|apply qzd|apply qze|intro(_:Nat))
    conv=>whnf
    refine⟨fun _=>?_,fun h=>nomatch h⟩
    repeat((conv=>whnf);first|apply qza|apply qzb|apply qzc|apply qzd|apply qze|intro(_:Nat))
    conv=>whnf
    refine⟨fun _=>?_,fun h=>nomatch h⟩
    repeat((conv=>whnf);first|apply qza|apply qzb|apply qzc|apply qzd|apply qze|intro(_:Nat))
    conv=>whnf
    refine⟨fun _=>?_,fun h=>nomatch h⟩
    repeat((conv=>whnf);first|apply qza|apply qzb|apply qzc|apply qzd|apply qze|intro(_:Nat))
    refine And.intro (fun _=>?_) (fun hx=>absurd hx (by simp [C6.set,C6.get]))
    repeat((conv=>whnf);first|apply qza|apply qzb|apply qzc|apply qzd|apply qze|intro(_:Nat))
    refine .inr ((qAB _ hwx hbx).mono fun v g5 hg5 hA=>?_)
    subst hA
    repeat((conv=>whnf);first|apply qza|apply qzb|apply qzc|apply qzd|apply qze|intro(_:Nat))
    refine .inr ((qAB _ (qBA _ _ _ _ hg5 hw3) (BgW.up (K':=1000) hb (by decide))).mono fun v g6 hg6 hA=>?_)
    subst hA
    repeat((conv=>whnf);first|apply qza|apply qzb|apply qzc|apply qzd|apply qze|intro(_:Nat))
    conv=>whnf
    refine⟨fun _=>?_,fun hx=>absurd (by rw [hheld,hw0,Int.add_zero]) (beqF hx)⟩
    repeat((conv=>whnf);first|apply qza|apply qzb|apply qzc|apply qzd|apply qze|intro(_:Nat))
    conv=>whnf
    intro g2 hg
    simp [hxv]
   ·have hk1:m'.answer.kind=5:=hk
    rw [hk1] at hsum
    subst hsum
    rw [if_neg (by omega)] at hheld
    repeat((conv=>whnf);first|apply qza|apply qzb|apply qzc|apply qzd|apply qze|intro(_:Nat))
    conv=>whnf
    refine⟨0,⟨rfl,by decide⟩,?_⟩
    repeat((conv=>whnf);first|apply qza|apply qzb|apply qzc|apply qzd|apply qze|intro(_:Nat))
    conv=>whnf
    refine⟨0,⟨rfl,by decide⟩,?_⟩
    repeat((conv=>whnf);first|apply qza|apply qzb|apply qzc|apply qzd|apply qze|intro(_:Nat))
    conv=>whnf
    refine⟨5,⟨hk1,by decide⟩,?_⟩
    repeat((conv=>whnf);first|apply qza|apply qzb|apply qzc|apply qzd|apply qze|intro(_:Nat))
    conv=>whnf
    refine⟨5,⟨hk1,by decide⟩,?_⟩
    repeat((conv=>whnf);first|apply qza|apply qzb|apply qzc|apply qzd|apply qze|intro(_:Nat))
    conv=>whnf
    refine .inl ⟨_,qIA _,?_⟩
    repeat((conv=>whnf);first|apply qza|apply qzb|apply qzc|apply qzd|apply qze|intro(_:Nat))
    conv=>whnf
    refine⟨fun _=>?_,fun h=>nomatch h⟩
    repeat((conv=>whnf);first|apply qza|apply qzb|apply qzc|apply qzd|apply qze|intro(_:Nat))
    conv=>whnf
    refine⟨fun _=>?_,fun h=>nomatch h⟩
    repeat((conv=>whnf);first|apply qza|apply qzb|apply qzc|apply qzd|apply qze|intro(_:Nat))
    conv=>whnf
    refine⟨fun _=>?_,fun h=>nomatch h⟩
    repeat((conv=>whnf);first|apply qza|apply qzb|apply qzc|apply qzd|apply qze|intro(_:Nat))
    refine And.intro (fun _=>?_) (fun hx=>absurd hx (by simp [C6.set,C6.get]))
    repeat((conv=>whnf);first|apply qza|apply qzb|apply qzc|apply qzd|apply qze|intro(_:Nat))
    refine .inr ((qAB _ hwx hbx).mono fun v g5 hg5 hA=>?_)
    subst hA
    repeat((conv=>whnf);first|apply qza|apply qzb|apply qzc|apply qzd|apply qze|intro(_:Nat))
    refine .inr ((qAB _ (qBA _ _ _ _ hg5 hw3) (BgW.up (K':=1000) hb (by decide))).mono fun v g6 hg6 hA=>?_)
    subst hA
    repeat((conv=>whnf);first|apply qza|apply qzb|apply qzc|apply qzd|apply qze|intro(_:Nat))
    conv=>whnf
    refine⟨fun _=>?_,fun hx=>absurd (by rw [hheld,hw0,Int.add_zero]) (beqF hx)⟩
    repeat((conv=>whnf);first|apply qza|apply qzb|apply qzc|apply qzd|apply qze|intro(_:Nat))
    conv=>whnf
    intro g2 hg
    simp [hxv])
end Go.Proofs.YthonngjhelcpeaaGreat
