/- The law HandleFull. -/
import Derived.Test.YthonngjhelcpeaaGreatLW20k
import Derived.Test.YthonngjhelcpeaaGreatPP40
set_option linter.unusedVariables false
set_option linter.unusedSimpArgs false
namespace Go.Proofs.YthonngjhelcpeaaGreat
open Go.Proofs.YthonngjhelcpeaaGreat.Sx Go.RowKit
set_option maxHeartbeats 16000000
set_option maxRecDepth 100000
theorem qJO (g:GW) {cs os:List Value} {w:Wd} {th:Int} {o:OpD} (hw:rWo g cs w) (ht:InR th) (hO:rOp g os o):OkV Tryz.prog qNF [.agg ⟨cs⟩,.int .i64 th,.agg ⟨os⟩] g (.bool true):=by
 obtain⟨oa,ca,ob,cb,oc,cc,od,cd,oe,ce,rfl⟩:=qGA hw
 obtain⟨o1,t1,o2,t2,o3,t3,rfl⟩:=qcD hO
 exact Ok.of_fn hm noT 0 qJF (args:=[.v (.agg ⟨wQ w oa ca ob cb oc cc od cd oe ce⟩),.v (.int .i64 th),.v (.agg ⟨oCs o (.slice o1 o.config.listens.length t1) (.slice o2 o.config.routes.length t2) (.slice o3 o.config.clusters.length t3)⟩)]) (by
  repeat((conv=>whnf);first|apply qza|apply qzb|apply qzc|apply qzd|apply qze|intro(_:Nat))
  refine .inr ((q7E _ hw).mono fun v g1 hg1 hB=>?_)
  obtain⟨b,rfl,hB⟩:=hB
  have hw1:=qBA _ _ _ _ hg1 hw
  have hM1:=q0C (qTC _ _ _ _ hg1 hO) ht
  repeat((conv=>whnf);first|apply qza|apply qzb|apply qzc|apply qzd|apply qze|intro(_:Nat))
  conv=>whnf
  refine⟨fun z1=>?_,fun z1=>?_⟩
  ·repeat((conv=>whnf);first|apply qza|apply qzb|apply qzc|apply qzd|apply qze|intro(_:Nat))
   conv=>whnf
   refine .inl ⟨_,qIA _,?_⟩
   repeat((conv=>whnf);first|apply qza|apply qzb|apply qzc|apply qzd|apply qze|intro(_:Nat))
   conv=>whnf
   intro g2 hg
   rfl
  obtain⟨hb,hsn⟩:=hB z1
  have hb':=BgW.up (K':=1000000) hb (by decide)
  repeat((conv=>whnf);first|apply qza|apply qzb|apply qzc|apply qzd|apply qze|intro(_:Nat))
  refine .inr ((q6E _ hw1).mono fun v g2 hg2 hC=>?_)
  obtain⟨b,rfl,hC⟩:=hC
  have hw2:=qBA _ _ _ _ hg2 hw1
  have hM2:=qNA _ _ _ _ hg2 hM1
  repeat((conv=>whnf);first|apply qza|apply qzb|apply qzc|apply qzd|apply qze|intro(_:Nat))
  conv=>whnf
  refine⟨fun z5=>?_,fun z5=>?_⟩
  ·repeat((conv=>whnf);first|apply qza|apply qzb|apply qzc|apply qzd|apply qze|intro(_:Nat))
   conv=>whnf
   refine .inl ⟨_,qIA _,?_⟩
   repeat((conv=>whnf);first|apply qza|apply qzb|apply qzc|apply qzd|apply qze|intro(_:Nat))
   conv=>whnf
   intro g2 hg
   rfl
  have hcalm:=hC (nb0 z5)
  repeat((conv=>whnf);first|apply qza|apply qzb|apply qzc|apply qzd|apply qze|intro(_:Nat))
  conv=>whnf
  refine⟨fun z2=>?_,fun z2=>?_⟩
  ·repeat((conv=>whnf);first|apply qza|apply qzb|apply qzc|apply qzd|apply qze|intro(_:Nat))
   conv=>whnf
   refine .inl ⟨_,qIA _,?_⟩
   repeat((conv=>whnf);first|apply qza|apply qzb|apply qzc|apply qzd|apply qze|intro(_:Nat))
   conv=>whnf
   intro g2 hg
   rfl
  repeat((conv=>whnf);first|apply qza|apply qzb|apply qzc|apply qzd|apply qze|intro(_:Nat))
  conv=>whnf
  refine⟨fun z3=>?_,fun z3=>?_⟩
  ·repeat((conv=>whnf);first|apply qza|apply qzb|apply qzc|apply qzd|apply qze|intro(_:Nat))
   conv=>whnf
   refine .inl ⟨_,qIA _,?_⟩
   repeat((conv=>whnf);first|apply qza|apply qzb|apply qzc|apply qzd|apply qze|intro(_:Nat))
   conv=>whnf
   intro g2 hg
   rfl
  have hsz:SmO (mReq o th):=q8J z2 z3
  repeat((conv=>whnf);first|apply qza|apply qzb|apply qzc|apply qzd|apply qze|intro(_:Nat))
  conv=>whnf
  refine .inl ⟨_,qQA _ hw2 hM2 hsn hb',?_⟩
  repeat((conv=>whnf);first|apply qza|apply qzb|apply qzc|apply qzd|apply qze|intro(_:Nat))
  conv=>whnf
  refine⟨fun z6=>?_,fun z6=>?_⟩
  ·repeat((conv=>whnf);first|apply qza|apply qzb|apply qzc|apply qzd|apply qze|intro(_:Nat))
   conv=>whnf
   refine .inl ⟨_,qIA _,?_⟩
   repeat((conv=>whnf);first|apply qza|apply qzb|apply qzc|apply qzd|apply qze|intro(_:Nat))
   conv=>whnf
   intro g2 hg
   rfl
  have hs:=nb0 z6
  have hI:=qRM (n:=1000000) hs rfl hcalm.la hcalm.ea
  obtain⟨k,x,m',w1,m1,hk,hway,hmid,hkind,hend⟩:=hI.whole (by decide)
  clear hI
  repeat((conv=>whnf);first|apply qza|apply qzb|apply qzc|apply qzd|apply qze|intro(_:Nat))
  refine .inr ((q8E _ hw2 hM2 hsn hb' hsz hway hend.done (by omega)).mono fun v g3 hg3 hA=>?_)
  obtain⟨csx,msx,rfl,hwx,hMx⟩:=hA
  obtain⟨xa,ya,xb,yb,xc,yc,xd,yd,xe,ye,rfl⟩:=qGA hwx
  obtain⟨p1,s1,p2,s2,p3,s3,rfl⟩:=qXA hMx
  have hw3:=qBA _ _ _ _ hg3 hw2
  have hans:=hend.answer
  have hlen:=q5O hmid
  obtain⟨hli1,hli2⟩:=q4O hmid hend
  have hxv:x.versions.length=w.versions.length:=by rw [hend.versions,hlen]
  repeat((conv=>whnf);first|apply qza|apply qzb|apply qzc|apply qzd|apply qze|intro(_:Nat))
  refine And.intro (fun z=>?_) (fun z=>?_)
  ·have z:=beqT z
   rcases hmid.out with ⟨hk',_⟩|⟨v,c,ck,gr,gr',en,hP,hen,⟨hk',_⟩|⟨ha,⟨r,hf⟩,_⟩⟩
   ·rw [hans] at z;omega
   ·rw [hans] at z;omega
   rw [ha] at hans
   have e1:m'.answer.version=w.current:=by rw [hans]
   have e2:m'.answer.cluster=c:=by rw [hans]
   have e3:m'.answer.end_=m1.end_:=by rw [hans]
   have e4:m'.answer.slot=m1.slot:=by rw [hans]
   have hv:w.versions[m'.answer.version.toNat]?=some v:=by rw [e1];exact hP.ver
   have hg:v.groups[m'.answer.cluster.toNat]?=some gr:=by rw [e2];exact hP.grp
   have he:gr.ends[m'.answer.end_.toNat]?=some en:=by rw [e3];exact hen.2
   have hc0:=hP.c0
   have hcu:=(q6G (suitB_iff.1 hs).choose_spec.choose_spec.choose_spec.right).choose_spec.2.2.1
   have he0:=hen.1
   have hFv:=qAG hw3
   obtain⟨av,rfl⟩:=qEA hFv hv
   obtain⟨oL,cL,oR,cR,oC,cC,oG,cG,hcv,_,_,hcG⟩:=qgC hFv hv
   obtain⟨ag,rfl⟩:=qEA hcG hg
   obtain⟨oE,cE,hcg,_,hcE⟩:=q8C hcG hg
   obtain⟨ae,rfl⟩:=qEA hcE he
   obtain⟨oN,cN,hce,hei,hcN⟩:=quD hcE he
   have hi1:=(List.getElem?_eq_some_iff.1 hv).1
   have hi2:=(List.getElem?_eq_some_iff.1 hg).1
   have hi3:=(List.getElem?_eq_some_iff.1 he).1
   repeat((conv=>whnf);first|apply qza|apply qzb|apply qzc|apply qzd|apply qze|intro(_:Nat))
   conv=>whnf
   refine⟨_,rfl,⟨by omega,by omega⟩,?_⟩
   repeat((conv=>whnf);first|apply qza|apply qzb|apply qzc|apply qzd|apply qze|intro(_:Nat))
   conv=>whnf
   refine⟨_,hcv 3 _ rfl,?_⟩
   repeat((conv=>whnf);first|apply qza|apply qzb|apply qzc|apply qzd|apply qze|intro(_:Nat))
   conv=>whnf
   refine⟨_,rfl,⟨by omega,by omega⟩,?_⟩
   repeat((conv=>whnf);first|apply qza|apply qzb|apply qzc|apply qzd|apply qze|intro(_:Nat))
   conv=>whnf
   refine⟨_,hcg 1 _ rfl,?_⟩
   repeat((conv=>whnf);first|apply qza|apply qzb|apply qzc|apply qzd|apply qze|intro(_:Nat))
   conv=>whnf
   refine⟨_,rfl,⟨by omega,by omega⟩,?_⟩
   repeat((conv=>whnf);first|apply qza|apply qzb|apply qzc|apply qzd|apply qze|intro(_:Nat))
   conv=>whnf
   refine⟨_,⟨rfl,hce⟩,?_⟩
   repeat((conv=>whnf);first|apply qza|apply qzb|apply qzc|apply qzd|apply qze|intro(_:Nat))
   refine .inr ((qEG _ ⟨⟨_,rfl,hei.1,hei.2.1,hcN⟩,hei.2.2⟩).mono fun v g4 hg4 hA=>?_)
   unfold qOL at hA
   rw [hf] at hA
   obtain⟨of,cf,rfl,hfr⟩:=hA
   obtain⟨af,rfl⟩:=qEA hfr (i:=0) (x:=m1.slot) rfl
   obtain⟨_,hcf⟩:=qXI hfr (i:=0) (x:=m1.slot) rfl
   repeat((conv=>whnf);first|apply qza|apply qzb|apply qzc|apply qzd|apply qze|intro(_:Nat))
   conv=>whnf
   refine .inl ⟨_,qIA _,?_⟩
   repeat((conv=>whnf);first|apply qza|apply qzb|apply qzc|apply qzd|apply qze|intro(_:Nat))
   conv=>whnf
   refine⟨fun _=>?_,fun h=>nomatch h⟩
   repeat((conv=>whnf);first|apply qza|apply qzb|apply qzc|apply qzd|apply qze|intro(_:Nat))
   conv=>whnf
   refine⟨fun _=>?_,fun h=>nomatch h⟩
   repeat((conv=>whnf);first|apply qza|apply qzb|apply qzc|apply qzd|apply qze|intro(_:Nat))
   conv=>whnf
   refine⟨fun _=>?_,fun hx=>absurd hx (by simp)⟩
   repeat((conv=>whnf);first|apply qza|apply qzb|apply qzc|apply qzd|apply qze|intro(_:Nat))
   conv=>whnf
   refine⟨_,rfl,⟨by decide,by simp⟩,?_⟩
   repeat((conv=>whnf);first|apply qza|apply qzb|apply qzc|apply qzd|apply qze|intro(_:Nat))
   conv=>whnf
   refine⟨_,hcf 0 _ rfl,?_⟩
   repeat((conv=>whnf);first|apply qza|apply qzb|apply qzc|apply qzd|apply qze|intro(_:Nat))
   conv=>whnf
   intro g2 hg
   simp [e4]
  ·have z:=beqF z
   have hne:m1.answer.kind≠1:=by rw [← hans];exact z
   have hxl:=hli2 hne
   repeat((conv=>whnf);first|apply qza|apply qzb|apply qzc|apply qzd|apply qze|intro(_:Nat))
   refine And.intro (fun z2=>?_) (fun z2=>?_)
   case' refine_1 =>
    have z2:=beqT z2
    obtain⟨v,c,ck,gr,gr',en,hP,hen,hf⟩:∃ v c ck gr gr' en,HPick w (mReq o th) m1 v c ck gr gr'∧(0≤m1.end_∧gr.ends[m1.end_.toNat]?=some en)∧qoA en=some []:=by
     rcases hmid.out with ⟨hk',_⟩|⟨v,c,ck,gr,gr',en,hP,hen,⟨_,hf,_⟩|⟨ha,_⟩⟩
     ·rw [hans] at z2;omega
     ·exact⟨v,c,ck,gr,gr',en,hP,hen,hf⟩
     ·rw [hans,ha] at z2;exact absurd z2 (show ¬ (1:Int)=4 by decide)
    have e1:m'.version=w.current:=by rw [hend.version,hP.mver]
    have e2:m'.cluster=c:=by rw [hend.cluster,hP.mclu]
    have e3:m'.end_=m1.end_:=hend.end_
    have hv:w.versions[m'.version.toNat]?=some v:=by rw [e1];exact hP.ver
    have hg:v.groups[m'.cluster.toNat]?=some gr:=by rw [e2];exact hP.grp
    have he:gr.ends[m'.end_.toNat]?=some en:=by rw [e3];exact hen.2
    have hc0:=hP.c0
    have hcu:=(q6G (suitB_iff.1 hs).choose_spec.choose_spec.choose_spec.right).choose_spec.2.2.1
    have he0:=hen.1
    have hFv:=qAG hw3
    obtain⟨av,rfl⟩:=qEA hFv hv
    obtain⟨oL,cL,oR,cR,oC,cC,oG,cG,hcv,_,_,hcG⟩:=qgC hFv hv
    obtain⟨ag,rfl⟩:=qEA hcG hg
    obtain⟨oE,cE,hcg,_,hcE⟩:=q8C hcG hg
    obtain⟨ae,rfl⟩:=qEA hcE he
    obtain⟨oN,cN,hce,hei,hcN⟩:=quD hcE he
    have hi1:=(List.getElem?_eq_some_iff.1 hv).1
    have hi2:=(List.getElem?_eq_some_iff.1 hg).1
    have hi3:=(List.getElem?_eq_some_iff.1 he).1
    repeat((conv=>whnf);first|apply qza|apply qzb|apply qzc|apply qzd|apply qze|intro(_:Nat))
    conv=>whnf
    refine⟨_,rfl,⟨by omega,by omega⟩,?_⟩
    repeat((conv=>whnf);first|apply qza|apply qzb|apply qzc|apply qzd|apply qze|intro(_:Nat))
    conv=>whnf
    refine⟨_,hcv 3 _ rfl,?_⟩
    repeat((conv=>whnf);first|apply qza|apply qzb|apply qzc|apply qzd|apply qze|intro(_:Nat))
    conv=>whnf
    refine⟨_,rfl,⟨by omega,by omega⟩,?_⟩
    repeat((conv=>whnf);first|apply qza|apply qzb|apply qzc|apply qzd|apply qze|intro(_:Nat))
    conv=>whnf
    refine⟨_,hcg 1 _ rfl,?_⟩
    repeat((conv=>whnf);first|apply qza|apply qzb|apply qzc|apply qzd|apply qze|intro(_:Nat))
    conv=>whnf
    refine⟨_,rfl,⟨by omega,by omega⟩,?_⟩
    repeat((conv=>whnf);first|apply qza|apply qzb|apply qzc|apply qzd|apply qze|intro(_:Nat))
    conv=>whnf
    refine⟨_,⟨rfl,hce⟩,?_⟩
    repeat((conv=>whnf);first|apply qza|apply qzb|apply qzc|apply qzd|apply qze|intro(_:Nat))
    refine .inr ((qEG _ ⟨⟨_,rfl,hei.1,hei.2.1,hcN⟩,hei.2.2⟩).mono fun v g4 hg4 hA=>?_)
    unfold qOL at hA
    rw [hf] at hA
    obtain⟨of,cf,rfl,hfr⟩:=hA
    replace hwx:=qBA _ _ _ _ hg4 hwx
    replace hw3:=qBA _ _ _ _ hg4 hw3
    repeat((conv=>whnf);first|apply qza|apply qzb|apply qzc|apply qzd|apply qze|intro(_:Nat))
    conv=>whnf
    refine⟨fun h=>(nomatch h),fun _=>?_⟩
    repeat((conv=>whnf);first|apply qza|apply qzb|apply qzc|apply qzd|apply qze|intro(_:Nat))
    conv=>whnf
    refine⟨fun hx=>absurd hx (by simp),fun _=>?_⟩
   all_goals (
    repeat((conv=>whnf);first|apply qza|apply qzb|apply qzc|apply qzd|apply qze|intro(_:Nat))
    conv=>whnf
    refine⟨fun hx=>absurd hli1 (nneT hx),fun _=>?_⟩
    repeat((conv=>whnf);first|apply qza|apply qzb|apply qzc|apply qzd|apply qze|intro(_:Nat))
    conv=>whnf
    refine⟨fun hx=>absurd hxv (nneT hx),fun _=>?_⟩
    have hLx:=quG hwx
    rw [hxl] at hLx
    have hLw:=quG hw3
    have hll:=hb'.1.2.2.1
    have hheld:qSB x=qSB w:=by
     have:=qqK hmid hs
     rw [if_neg hne] at this
     unfold qSB at this ⊢
     rw [hend.versions,this];omega
    have hbx:=hway.kept (BgW.up (K':=1000) hb (by decide))
    repeat((conv=>whnf);first|apply qza|apply qzb|apply qzc|apply qzd|apply qze|intro(_:Nat))
    conv=>whnf
    refine⟨Nat,fun k=>[.v (.int .i64 k)],fun _=>⟨_,_,_,_⟩,fun k=>k≤w.listens.length,fun k=>w.listens.length-k,qJA 0 rfl (Nat.zero_le _) rfl,?_⟩
    intro k hk
    replace hk:k≤w.listens.length:=hk
    repeat((conv=>whnf);first|apply qza|apply qzb|apply qzc|apply qzd|apply qze|intro(_:Nat))
    conv=>whnf
    refine⟨fun hlt=>?_,fun hlt=>?_⟩
    ·have h':k<w.listens.length:=by have:=of_decide_eq_true hlt;omega
     obtain⟨y,hy⟩:=qCA h'
     obtain⟨ax,rfl⟩:=qEA hLx hy
     obtain⟨aw,rfl⟩:=qEA hLw hy
     obtain⟨_,hcx⟩:=qoD hLx hy
     obtain⟨_,hcw⟩:=qoD hLw hy
     repeat((conv=>whnf);first|apply qza|apply qzb|apply qzc|apply qzd|apply qze|intro(_:Nat))
     repeat'((conv=>whnf);first|apply qza|apply qzb|apply qzc|apply qzd|apply qze|intro(_:Nat)|refine⟨_,rfl,⟨by omega,by omega⟩,?_⟩|refine⟨_,⟨rfl,hcx⟩,?_⟩|refine⟨_,⟨rfl,hcw⟩,?_⟩|fail)
     refine And.intro (fun hx=>absurd hx (by simp)) (fun _=>?_)
     repeat((conv=>whnf);first|apply qza|apply qzb|apply qzc|apply qzd|apply qze|intro(_:Nat))
     conv=>whnf
     refine fun fr w' hu=>⟨k+1,congrArg (fun z=>[Value.int .i64 z]) (show((k+1:Nat):Int)=IntKind.i64.wrap ((k:Int)+1) by rw [wr (x:=(k:Int)+1) (by unfold InR;omega)];omega),h',dec h',?_⟩
     exact hu.fit (by simp [fitL,Res.eqv,qDA,conc])
    ·repeat((conv=>whnf);first|apply qza|apply qzb|apply qzc|apply qzd|apply qze|intro(_:Nat))
     conv=>whnf
     refine .inl ⟨_,qIA _,?_⟩
     repeat((conv=>whnf);first|apply qza|apply qzb|apply qzc|apply qzd|apply qze|intro(_:Nat))
     conv=>whnf
     refine⟨fun _=>?_,fun h=>nomatch h⟩
     repeat((conv=>whnf);first|apply qza|apply qzb|apply qzc|apply qzd|apply qze|intro(_:Nat))
     refine .inr ((qAB _ hwx hbx).mono fun v g5 hg5 hA=>?_)
     subst hA
     repeat((conv=>whnf);first|apply qza|apply qzb|apply qzc|apply qzd|apply qze|intro(_:Nat))
     refine .inr ((qAB _ (qBA _ _ _ _ hg5 hw3) (BgW.up (K':=1000) hb (by decide))).mono fun v g6 hg6 hA=>?_)
     subst hA
     repeat((conv=>whnf);first|apply qza|apply qzb|apply qzc|apply qzd|apply qze|intro(_:Nat))
     conv=>whnf
     intro g2 hg
     simp [hheld]))
end Go.Proofs.YthonngjhelcpeaaGreat
