/- Worlds: is one right? The document's answer. -/
import Derived.Test.YthonngjhelcpeaaGreatLW9e
set_option linter.unusedVariables false
set_option linter.unusedSimpArgs false
namespace Go.Proofs.YthonngjhelcpeaaGreat
open Go.Proofs.YthonngjhelcpeaaGreat.Sx Go.RowKit
set_option maxHeartbeats 16000000
set_option maxRecDepth 100000
noncomputable def qbP (w:Wd):Bool:=allI (qFB w.listens) w.listens&&allI (verB w) w.versions&&w.limbo.all (limB w)&&qVG w.limbo
theorem listsB_iff {w:Wd}:qbP w=true↔allI (qFB w.listens) w.listens=true∧allI (verB w) w.versions=true∧w.limbo.all (limB w)=true∧qVG w.limbo=true:=by
 unfold qbP
 simp only [Bool.and_eq_true,and_assoc]
theorem q2E {w:Wd} (h:¬ (allI (qFB w.listens) w.listens=true∧allI (verB w) w.versions=true∧w.limbo.all (limB w)=true∧qVG w.limbo=true)):qbP w=false:=by
 rw [Bool.eq_false_iff];intro hh;exact h (listsB_iff.1 hh)
theorem wdB_lists {w:Wd}:wdB w=true↔qYB w=true∧(0≤w.current∧w.current<w.versions.length)∧qbP w=true:=by
 rw [wdB_iff,listsB_iff]
 constructor
 ·rintro⟨h1,h2,h3,h4,h5,h6⟩;exact⟨h1,h2,h6,h5,h4,h3⟩
 ·rintro⟨h1,h2,h6,h5,h4,h3⟩;exact⟨h1,h2,h3,h4,h5,h6⟩
theorem qLS {w:Wd} (h:wdB w=true) {v:Version} (hv:w.versions[w.current.toNat]?=some v):v.freed=false:=by
 obtain⟨_,⟨h0,_⟩,hl,ha,hvv,_⟩:=wdB_iff.1 h
 have h1:=allI_iff.1 hvv _ v hv
 unfold verB at h1
 simp only [Bool.and_eq_true,beq_iff_eq] at h1
 rw [h1.2,Int.toNat_of_nonneg h0]
 unfold q1O
 rw [List.any_eq_false]
 intro r hr
 have:=List.all_eq_true.1 ha r hr
 unfold limB at this
 simp only [Bool.and_eq_true,decide_eq_true_eq] at this
 have h2:(r.version==w.current)=false:=by simpa using this.1.2
 rw [h2];simp
theorem q3W (g:GW) {cs:List Value} {w:Wd} (hw:rWo g cs w) (hsn:SnW w):OkV Tryz.prog qdI [.agg ⟨cs⟩] g (.bool (qbP w)):=by
 obtain⟨a,b,c,d,e,rfl,⟨i1,i2,i3⟩,hP,hV,hL,hC,hR⟩:=hw
 obtain⟨oa,ca,rfl,a1,a2,a0,hP1⟩:=id hP
 obtain⟨ob,cb,rfl,b1,b2,b0,hV1⟩:=id hV
 obtain⟨oc,cc,rfl,c1,c2,c0,hL1⟩:=id hL
 obtain⟨od,cd,rfl,d1,d2,d0,hC1⟩:=id hC
 obtain⟨oe,ce,rfl,e1,e2,e0,hR1⟩:=id hR
 exact Ok.of_fn hm noT 0 qFI (args:=[.v (.agg ⟨wQ w oa ca ob cb oc cc od cd oe ce⟩)]) (by
  repeat((conv=>whnf);first|refine qz ?_|intro(_:Nat))
  conv=>whnf
  refine⟨Nat,fun k=>[.v (.int .i64 k)],fun _=>⟨g,_,_,_⟩,fun k=>k≤w.listens.length∧AllK (qFB w.listens) w.listens k,fun k=>w.listens.length-k,qHA 0 rfl ⟨Nat.zero_le _,AllK.zero _ _⟩ rfl,?_⟩
  rintro k ⟨hk,hq⟩
  repeat((conv=>whnf);first|refine qz ?_|intro(_:Nat))
  conv=>whnf
  refine⟨fun hlt=>?_,fun hlt=>?_⟩
  ·have h':k<w.listens.length:=by have:=of_decide_eq_true hlt;omega
   obtain⟨x,hx⟩:=qAA h'
   obtain⟨a,rfl,ec,hec,⟨rfl,hxa⟩,hc⟩:=hL1 k x hx
   repeat((conv=>whnf);first|refine qz ?_|intro(_:Nat))
   conv=>whnf
   refine⟨a,rfl,⟨by omega,by omega⟩,?_⟩
   conv=>whnf
   refine⟨_,⟨rfl,hc⟩,?_⟩
   repeat((conv=>whnf);first|refine qz ?_|intro(_:Nat))
   conv=>whnf
   refine .inl ⟨_,q6X _ (x:=x) ⟨rfl,hxa⟩,?_⟩
   repeat((conv=>whnf);first|refine qz ?_|intro(_:Nat))
   conv=>whnf
   refine⟨fun y1=>?_,fun y1=>?_⟩
   ·repeat((conv=>whnf);first|refine qz ?_|intro(_:Nat))
    conv=>whnf
    intro g2 hg
    rw [q2E fun h=>by have h4:=h.1;rw [qZA hx (by unfold qFB;rw [nb1 y1];rfl)] at h4;cases h4]
   repeat((conv=>whnf);first|refine qz ?_|intro(_:Nat))
   conv=>whnf
   refine⟨a,rfl,⟨by omega,by omega⟩,?_⟩
   conv=>whnf
   refine⟨_,hc 0 _ rfl,?_⟩
   repeat((conv=>whnf);first|refine qz ?_|intro(_:Nat))
   conv=>whnf
   refine .inl ⟨_,qcR _ hL _,?_⟩
   repeat((conv=>whnf);first|refine qz ?_|intro(_:Nat))
   conv=>whnf
   refine⟨fun y2=>?_,fun y2=>?_⟩
   ·repeat((conv=>whnf);first|refine qz ?_|intro(_:Nat))
    conv=>whnf
    intro g2 hg
    rw [q2E fun h=>by have h4:=h.1;rw [qZA hx (by unfold qFB;rw [decide_eq_false (bneT y2)];simp)] at h4;cases h4]
   repeat((conv=>whnf);first|refine qz ?_|intro(_:Nat))
   conv=>whnf
   refine fun fr w' hw=>⟨k+1,congrArg (fun z=>[Value.int .i64 z]) (wr1 h' c1 c2).symm,⟨h',hq.succ hx (by unfold qFB;rw [nb0 y1,decide_eq_true (bneF y2)];rfl)⟩,dec h',?_⟩
   exact hw.fit (by simp [fitL,Res.eqv,qBA,conc])
  have hLD:=hq.done (by have:=of_decide_eq_false hlt;omega)
  clear hlt hk hq
  repeat((conv=>whnf);first|refine qz ?_|intro(_:Nat))
  conv=>whnf
  refine⟨Nat,fun k=>[.v (.int .i64 k)],fun _=>⟨g,_,_,_⟩,fun k=>k≤w.versions.length∧AllK (verB w) w.versions k,fun k=>w.versions.length-k,qHA 0 rfl ⟨Nat.zero_le _,AllK.zero _ _⟩ rfl,?_⟩
  rintro k ⟨hk,hq⟩
  repeat((conv=>whnf);first|refine qz ?_|intro(_:Nat))
  conv=>whnf
  refine⟨fun hlt=>?_,fun hlt=>?_⟩
  ·have h':k<w.versions.length:=by have:=of_decide_eq_true hlt;omega
   obtain⟨x,hx⟩:=qAA h'
   obtain⟨a,rfl,ec,hec,hxv,hc⟩:=hV1 k x hx
   have hxv0:=hxv
   obtain⟨va,vb,vd,vn,rfl,⟨_,_,_,hee,⟨oa',ca',rfl,_⟩,⟨ob',cb',rfl,_⟩,⟨od',cd',rfl,_⟩⟩,⟨on',cn',rfl,_⟩⟩:=hxv
   cases hee
   repeat((conv=>whnf);first|refine qz ?_|intro(_:Nat))
   conv=>whnf
   refine⟨a,rfl,⟨by omega,by omega⟩,?_⟩
   conv=>whnf
   refine⟨_,⟨rfl,hc⟩,?_⟩
   repeat((conv=>whnf);first|refine qz ?_|intro(_:Nat))
   conv=>whnf
   refine .inl ⟨_,quS _ hxv0 (hsn x (List.mem_of_getElem? hx)),?_⟩
   repeat((conv=>whnf);first|refine qz ?_|intro(_:Nat))
   conv=>whnf
   refine⟨fun y1=>?_,fun y1=>?_⟩
   ·repeat((conv=>whnf);first|refine qz ?_|intro(_:Nat))
    conv=>whnf
    intro g2 hg
    rw [q2E fun h=>by have h4:=h.2.1;rw [qZA hx (by unfold verB;rw [nb1 y1];rfl)] at h4;cases h4]
   repeat((conv=>whnf);first|refine qz ?_|intro(_:Nat))
   conv=>whnf
   refine⟨a,rfl,⟨by omega,by omega⟩,?_⟩
   conv=>whnf
   refine⟨_,hc 4 _ rfl,?_⟩
   repeat((conv=>whnf);first|refine qz ?_|intro(_:Nat))
   conv=>whnf
   refine .inl ⟨_,qwW _ hR _,?_⟩
   repeat((conv=>whnf);first|refine qz ?_|intro(_:Nat))
   conv=>whnf
   refine⟨fun y2=>?_,fun y2=>?_⟩
   ·repeat((conv=>whnf);first|refine qz ?_|intro(_:Nat))
    conv=>whnf
    intro g2 hg
    rw [q2E fun h=>by have h4:=h.2.1;rw [qZA hx (by unfold verB;rw [nb0 y1];simpa using y2)] at h4;cases h4]
   repeat((conv=>whnf);first|refine qz ?_|intro(_:Nat))
   conv=>whnf
   refine fun fr w' hw=>⟨k+1,congrArg (fun z=>[Value.int .i64 z]) (wr1 h' b1 b2).symm,⟨h',hq.succ hx (by unfold verB;rw [nb0 y1];simpa using y2)⟩,dec h',?_⟩
   exact hw.fit (by simp [fitL,Res.eqv,qBA,conc])
  have hVD:=hq.done (by have:=of_decide_eq_false hlt;omega)
  clear hlt hk hq
  repeat((conv=>whnf);first|refine qz ?_|intro(_:Nat))
  conv=>whnf
  refine⟨Nat,fun k=>[.v (.int .i64 k)],fun _=>⟨g,_,_,_⟩,fun k=>k≤w.limbo.length∧(w.limbo.take k).all (limB w)=true,fun k=>w.limbo.length-k,qHA 0 rfl ⟨Nat.zero_le _,by simp⟩ rfl,?_⟩
  rintro k ⟨hk,hp⟩
  repeat((conv=>whnf);first|refine qz ?_|intro(_:Nat))
  conv=>whnf
  refine⟨fun hlt=>?_,fun hlt=>?_⟩
  ·have h':k<w.limbo.length:=by have:=of_decide_eq_true hlt;omega
   obtain⟨x,hx⟩:=qAA h'
   obtain⟨a,rfl,ec,hec,⟨rfl,xr1,xr2⟩,hc⟩:=hR1 k x hx
   obtain⟨x1,x2⟩:=List.getElem?_eq_some_iff.1 hx
   have hT:(w.limbo.take (k+1)).all (limB w)=limB w x:=by rw [q8B x1,hp,x2];rfl
   repeat((conv=>whnf);first|refine qz ?_|intro(_:Nat))
   conv=>whnf
   refine⟨a,rfl,⟨by omega,by omega⟩,?_⟩
   conv=>whnf
   refine⟨_,⟨rfl,hc⟩,?_⟩
   repeat((conv=>whnf);first|refine qz ?_|intro(_:Nat))
   conv=>whnf
   refine⟨fun y0=>?_,fun y0=>?_⟩
   ·repeat((conv=>whnf);first|refine qz ?_|intro(_:Nat))
    conv=>whnf
    intro g2 hg
    have y0':=of_decide_eq_true y0
    rw [q2E fun h=>by have h4:=h.2.2.2;rw [qVG,qZA hx (by unfold retB;rw [decide_eq_false (by omega)];rfl)] at h4;cases h4]
   repeat((conv=>whnf);first|refine qz ?_|intro(_:Nat))
   conv=>whnf
   refine⟨fun y1=>?_,fun y1=>?_⟩
   ·repeat((conv=>whnf);first|refine qz ?_|intro(_:Nat))
    conv=>whnf
    intro g2 hg
    have y1':=of_decide_eq_true y1
    rw [q2E fun h=>by have h4:=h.2.2.1;rw [qoA x1 (by rw [x2];unfold limB;rw [decide_eq_false (by omega)];rfl)] at h4;cases h4]
   have y1':=of_decide_eq_false y1
   repeat((conv=>whnf);first|refine qz ?_|intro(_:Nat))
   conv=>whnf
   refine⟨fun y2=>?_,fun y2=>?_⟩
   ·repeat((conv=>whnf);first|refine qz ?_|intro(_:Nat))
    conv=>whnf
    intro g2 hg
    have y2':=beqT y2
    rw [q2E fun h=>by have h4:=h.2.2.1;rw [qoA x1 (by rw [x2];unfold limB;rw [decide_eq_false (show ¬ x.version≠w.current by simpa using y2')];simp)] at h4;cases h4]
   have y2':=beqF y2
   repeat((conv=>whnf);first|refine qz ?_|intro(_:Nat))
   conv=>whnf
   refine⟨fun y3=>?_,fun y3=>?_⟩
   ·repeat((conv=>whnf);first|refine qz ?_|intro(_:Nat))
    conv=>whnf
    intro g2 hg
    have y3':=of_decide_eq_true y3
    rw [q2E fun h=>by have h4:=h.2.2.1;rw [qoA x1 (by rw [x2];unfold limB;rw [decide_eq_false (show ¬ x.at_≤w.epoch by omega)];simp)] at h4;cases h4]
   have y3':=of_decide_eq_false y3
   repeat((conv=>whnf);first|refine qz ?_|intro(_:Nat))
   conv=>whnf
   refine fun fr w' hw=>⟨k+1,congrArg (fun z=>[Value.int .i64 z]) (wr1 h' e1 e2).symm,⟨h',by rw [hT];unfold limB;rw [decide_eq_true (show x.version<w.versions.length by omega),decide_eq_true y2',decide_eq_true (show x.at_≤w.epoch by omega)];rfl⟩,dec h',?_⟩
   exact hw.fit (by simp [fitL,Res.eqv,qBA,conc])
  have hkL:=of_decide_eq_false hlt
  rw [List.take_of_length_le (by omega)] at hp
  repeat((conv=>whnf);first|refine qz ?_|intro(_:Nat))
  conv=>whnf
  refine .inl ⟨_,q4X _ hR,?_⟩
  repeat((conv=>whnf);first|refine qz ?_|intro(_:Nat))
  conv=>whnf
  intro g2 hg
  unfold qbP
  rw [hLD,hVD,hp];rfl)
theorem q2X (g:GW) {cs:List Value} {w:Wd} (hw:rWo g cs w) (hsn:SnW w):OkV Tryz.prog qdM [.agg ⟨cs⟩] g (.bool (wdB w)):=by
 have hw0:=hw
 obtain⟨a,b,c,d,e,rfl,⟨i1,i2,i3⟩,hP,hV,hL,hC,hR⟩:=hw
 obtain⟨oa,ca,rfl,a1,a2,a0,hP1⟩:=id hP
 obtain⟨ob,cb,rfl,b1,b2,b0,hV1⟩:=id hV
 obtain⟨oc,cc,rfl,c1,c2,c0,hL1⟩:=id hL
 obtain⟨od,cd,rfl,d1,d2,d0,hC1⟩:=id hC
 obtain⟨oe,ce,rfl,e1,e2,e0,hR1⟩:=id hR
 have gf:¬ GrP w→wdB w=false:=fun h=>q9H fun hh=>h (groundB_iff.1 hh.1).1
 exact Ok.of_fn hm noT 0 qIM (args:=[.v (.agg ⟨wQ w oa ca ob cb oc cc od cd oe ce⟩)]) (by
  repeat((conv=>whnf);first|refine qz ?_|intro(_:Nat))
  conv=>whnf
  refine⟨fun z1=>?_,fun z1=>?_⟩
  ·repeat((conv=>whnf);first|refine qz ?_|intro(_:Nat))
   conv=>whnf
   intro g2 hg
   rw [gf fun h=>by have:=of_decide_eq_true z1;have:=h.1;omega]
  repeat((conv=>whnf);first|refine qz ?_|intro(_:Nat))
  conv=>whnf
  refine⟨fun z2=>?_,fun z2=>?_⟩
  ·repeat((conv=>whnf);first|refine qz ?_|intro(_:Nat))
   conv=>whnf
   intro g2 hg
   rw [gf fun h=>by have:=of_decide_eq_true z2;have:=h.2.1;omega]
  repeat((conv=>whnf);first|refine qz ?_|intro(_:Nat))
  conv=>whnf
  refine⟨fun z3=>?_,fun z3=>?_⟩
  ·repeat((conv=>whnf);first|refine qz ?_|intro(_:Nat))
   conv=>whnf
   intro g2 hg
   rw [gf fun h=>nneT z3 h.2.2.1]
  repeat((conv=>whnf);first|refine qz ?_|intro(_:Nat))
  conv=>whnf
  refine .inl ⟨_,q5X _ hC,?_⟩
  repeat((conv=>whnf);first|refine qz ?_|intro(_:Nat))
  conv=>whnf
  refine⟨fun z4=>?_,fun z4=>?_⟩
  ·repeat((conv=>whnf);first|refine qz ?_|intro(_:Nat))
   conv=>whnf
   intro g2 hg
   rw [gf fun h=>by rw [h.2.2.2.1] at z4;cases z4]
  repeat((conv=>whnf);first|refine qz ?_|intro(_:Nat))
  conv=>whnf
  refine⟨fun z5=>?_,fun z5=>?_⟩
  ·repeat((conv=>whnf);first|refine qz ?_|intro(_:Nat))
   conv=>whnf
   intro g2 hg
   rw [gf fun h=>by have:=of_decide_eq_true z5;have:=h.2.2.2.2.1;omega]
  repeat((conv=>whnf);first|refine qz ?_|intro(_:Nat))
  conv=>whnf
  refine⟨fun z6=>?_,fun z6=>?_⟩
  ·repeat((conv=>whnf);first|refine qz ?_|intro(_:Nat))
   conv=>whnf
   intro g2 hg
   rw [gf fun h=>by have:=of_decide_eq_true z6;have:=h.2.2.2.2.2.1;omega]
  repeat((conv=>whnf);first|refine qz ?_|intro(_:Nat))
  conv=>whnf
  refine⟨fun z7=>?_,fun z7=>?_⟩
  ·repeat((conv=>whnf);first|refine qz ?_|intro(_:Nat))
   conv=>whnf
   intro g2 hg
   rw [gf fun h=>by have:=of_decide_eq_true z7;have:=h.2.2.2.2.2.2;omega]
  repeat((conv=>whnf);first|refine qz ?_|intro(_:Nat))
  conv=>whnf
  refine⟨fun z8=>?_,fun z8=>?_⟩
  ·repeat((conv=>whnf);first|refine qz ?_|intro(_:Nat))
   conv=>whnf
   intro g2 hg
   rw [gf fun h=>by have:=of_decide_eq_true z8;have:=h.2.2.2.2.2.2;omega]
  have k1:=of_decide_eq_false z1
  have k2:=of_decide_eq_false z2
  have k3:=nneF z3
  have k4:=nb0 z4
  have k5:=of_decide_eq_false z5
  have k6:=of_decide_eq_false z6
  have k7:=of_decide_eq_false z7
  have k8:=of_decide_eq_false z8
  clear z1 z2 z3 z4 z5 z6 z7 z8
  have hGr:GrP w:=⟨by omega,by omega,k3,k4,by omega,by omega,by omega⟩
  repeat((conv=>whnf);first|refine qz ?_|intro(_:Nat))
  conv=>whnf
  refine⟨Nat,fun k=>[.v (.int .i64 k)],fun _=>⟨g,_,_,_⟩,fun k=>k≤w.pins.length∧(w.pins.take k).all (qXI w)=true,fun k=>w.pins.length-k,qHA 0 rfl ⟨Nat.zero_le _,by simp⟩ rfl,?_⟩
  rintro k ⟨hk,hp⟩
  repeat((conv=>whnf);first|refine qz ?_|intro(_:Nat))
  conv=>whnf
  refine⟨fun hlt=>?_,fun hlt=>?_⟩
  ·have h':k<w.pins.length:=by have:=of_decide_eq_true hlt;omega
   obtain⟨x,hx⟩:=qAA h'
   obtain⟨a,rfl,ec,hec,⟨rfl,hxr⟩,hc⟩:=hP1 k x hx
   obtain⟨c1',c2'⟩:=List.getElem?_eq_some_iff.1 hx
   have hT:(w.pins.take (k+1)).all (qXI w)=qXI w x:=by rw [q8B c1',hp,c2'];rfl
   have gg:qXI w x=false→wdB w=false:=fun h=>q9H fun hh=>by
    have:=(groundB_iff.1 hh.1).2
    rw [qoA c1' (by rw [c2'];exact h)] at this;cases this
   repeat((conv=>whnf);first|refine qz ?_|intro(_:Nat))
   conv=>whnf
   refine⟨a,rfl,⟨by omega,by omega⟩,?_⟩
   conv=>whnf
   refine⟨_,hc 0 _ rfl,?_⟩
   repeat((conv=>whnf);first|refine qz ?_|intro(_:Nat))
   conv=>whnf
   refine⟨fun y1=>?_,fun y1=>?_⟩
   ·repeat((conv=>whnf);first|refine qz ?_|intro(_:Nat))
    conv=>whnf
    intro g2 hg
    have y1':=of_decide_eq_true y1
    rw [gg (by unfold qXI;rw [decide_eq_false (by omega)];rfl)]
   have y1':=of_decide_eq_false y1
   repeat((conv=>whnf);first|refine qz ?_|intro(_:Nat))
   conv=>whnf
   refine⟨a,rfl,⟨by omega,by omega⟩,?_⟩
   conv=>whnf
   refine⟨_,hc 0 _ rfl,?_⟩
   repeat((conv=>whnf);first|refine qz ?_|intro(_:Nat))
   conv=>whnf
   refine⟨fun y2=>?_,fun y2=>?_⟩
   ·repeat((conv=>whnf);first|refine qz ?_|intro(_:Nat))
    conv=>whnf
    intro g2 hg
    have y2':=of_decide_eq_true y2
    rw [wr (by unfold InR;omega)] at y2'
    rw [gg (by unfold qXI;rw [decide_eq_false (show ¬ x≤w.epoch+1 by omega)];simp)]
   have y2':=of_decide_eq_false y2
   rw [wr (by unfold InR;omega)] at y2'
   repeat((conv=>whnf);first|refine qz ?_|intro(_:Nat))
   conv=>whnf
   refine fun fr w' hw=>⟨k+1,congrArg (fun z=>[Value.int .i64 z]) (wr1 h' a1 a2).symm,⟨h',by rw [hT];unfold qXI;rw [decide_eq_true (show 0≤x by omega),decide_eq_true (show x≤w.epoch+1 by omega)];rfl⟩,dec h',?_⟩
   exact hw.fit (by simp [fitL,Res.eqv,qBA,conc])
  have:=of_decide_eq_false hlt
  rw [List.take_of_length_le (by omega)] at hp
  have hG:=groundB_iff.2 ⟨hGr,hp⟩
  clear hlt hk this hp
  repeat((conv=>whnf);first|refine qz ?_|intro(_:Nat))
  conv=>whnf
  refine⟨fun z1=>?_,fun z1=>?_⟩
  ·repeat((conv=>whnf);first|refine qz ?_|intro(_:Nat))
   conv=>whnf
   intro g2 hg
   rw [q9H fun h=>by have:=of_decide_eq_true z1;have:=h.2.1;omega]
  repeat((conv=>whnf);first|refine qz ?_|intro(_:Nat))
  conv=>whnf
  refine⟨fun z2=>?_,fun z2=>?_⟩
  ·repeat((conv=>whnf);first|refine qz ?_|intro(_:Nat))
   conv=>whnf
   intro g2 hg
   rw [q9H fun h=>by have:=of_decide_eq_true z2;have:=h.2.1;omega]
  repeat((conv=>whnf);first|refine qz ?_|intro(_:Nat))
  conv=>whnf
  refine .inl ⟨_,q3W _ hw0 hsn,?_⟩
  repeat((conv=>whnf);first|refine qz ?_|intro(_:Nat))
  conv=>whnf
  refine⟨fun z3=>?_,fun z3=>?_⟩
  ·repeat((conv=>whnf);first|refine qz ?_|intro(_:Nat))
   conv=>whnf
   intro g2 hg
   rw [show wdB w=false from Bool.eq_false_iff.2 fun h=>by rw [(wdB_lists.1 h).2.2] at z3;cases z3]
  have k1':=of_decide_eq_false z1
  have k2':=of_decide_eq_false z2
  have hW:=wdB_lists.2 ⟨hG,⟨by omega,by omega⟩,nb0 z3⟩
  obtain⟨x,hx⟩:=qAA (l:=w.versions) (i:=w.current.toNat) (by omega)
  obtain⟨a,rfl,ec,hec,⟨va,vb,vd,vn,rfl,_⟩,hc⟩:=hV1 _ x hx
  repeat((conv=>whnf);first|refine qz ?_|intro(_:Nat))
  conv=>whnf
  refine⟨a,rfl,⟨by omega,by omega⟩,?_⟩
  conv=>whnf
  refine⟨_,hc 4 _ rfl,?_⟩
  repeat((conv=>whnf);first|refine qz ?_|intro(_:Nat))
  conv=>whnf
  intro g2 hg
  rw [qLS hW hx,hW];rfl)
/- Worlds: those that are the same are found the same. -/
open Go.Proofs.YthonngjhelcpeaaGreat.Sx Go.RowKit
theorem qsS (g:GW) {v v':Value} {l:List Int} (hl:rSl 1 rInt g v l) (hl':rSl 1 rInt g v' l):OkV Tryz.prog qCG [v,v'] g (.bool true) :=
 Ok.of_fn hm noT 0 quF (args:=[.v v,.v v']) (by
  obtain⟨oa,ca,rfl,a1,a2,a0,ha⟩:=hl
  obtain⟨ob,cb,rfl,b1,b2,b0,hb⟩:=hl'
  repeat((conv=>whnf);first|refine qz ?_|intro(_:Nat))
  conv=>whnf
  refine⟨fun hx=>absurd hx (by simp),fun _=>?_⟩
  repeat((conv=>whnf);first|refine qz ?_|intro(_:Nat))
  conv=>whnf
  refine⟨Nat,fun k=>[.v (.int .i64 k)],fun _=>⟨g,_,_,_⟩,fun k=>k≤l.length,fun k=>l.length-k,qHA 0 rfl (Nat.zero_le _) rfl,?_⟩
  intro k hk
  repeat((conv=>whnf);first|refine qz ?_|intro(_:Nat))
  conv=>whnf
  refine⟨fun hlt=>?_,fun hlt=>?_⟩
  ·have h':k<l.length:=by have:=of_decide_eq_true hlt;omega
   obtain⟨x,hx⟩:=qAA h'
   obtain⟨a,rfl,ec,hec,⟨rfl,_⟩,hc⟩:=ha k x hx
   obtain⟨b,rfl,ec',hec',⟨rfl,_⟩,hc'⟩:=hb k x hx
   repeat((conv=>whnf);first|refine qz ?_|intro(_:Nat))
   conv=>whnf
   refine⟨a,rfl,⟨by omega,by omega⟩,?_⟩
   conv=>whnf
   refine⟨_,hc 0 _ rfl,?_⟩
   repeat((conv=>whnf);first|refine qz ?_|intro(_:Nat))
   conv=>whnf
   refine⟨b,rfl,⟨by omega,by omega⟩,?_⟩
   conv=>whnf
   refine⟨_,hc' 0 _ rfl,?_⟩
   repeat((conv=>whnf);first|refine qz ?_|intro(_:Nat))
   conv=>whnf
   refine⟨fun hx=>absurd hx (by simp),fun _=>?_⟩
   repeat((conv=>whnf);first|refine qz ?_|intro(_:Nat))
   conv=>whnf
   refine fun fr w hw=>⟨k+1,congrArg (fun z=>[Value.int .i64 z]) (wr1 h' a1 a2).symm,h',dec h',?_⟩
   exact hw.fit (by simp [fitL,Res.eqv,qBA,conc])
  ·repeat((conv=>whnf);first|refine qz ?_|intro(_:Nat))
   conv=>whnf
   intro g2 hg
   rfl)
theorem qbR (g:GW) {v v':Value} {l:List Retired} (hl:rSl 3 qwA g v l) (hl':rSl 3 qwA g v' l):OkV Tryz.prog q4J [v,v'] g (.bool true) :=
 Ok.of_fn hm noT 0 qXJ (args:=[.v v,.v v']) (by
  obtain⟨oa,ca,rfl,a1,a2,a0,ha⟩:=hl
  obtain⟨ob,cb,rfl,b1,b2,b0,hb⟩:=hl'
  repeat((conv=>whnf);first|refine qz ?_|intro(_:Nat))
  conv=>whnf
  refine⟨fun hx=>absurd hx (by simp),fun _=>?_⟩
  repeat((conv=>whnf);first|refine qz ?_|intro(_:Nat))
  conv=>whnf
  refine⟨Nat,fun k=>[.v (.int .i64 k)],fun _=>⟨g,_,_,_⟩,fun k=>k≤l.length,fun k=>l.length-k,qHA 0 rfl (Nat.zero_le _) rfl,?_⟩
  intro k hk
  repeat((conv=>whnf);first|refine qz ?_|intro(_:Nat))
  conv=>whnf
  refine⟨fun hlt=>?_,fun hlt=>?_⟩
  ·have h':k<l.length:=by have:=of_decide_eq_true hlt;omega
   obtain⟨x,hx⟩:=qAA h'
   obtain⟨a,rfl,ec,hec,⟨rfl,_⟩,hc⟩:=ha k x hx
   obtain⟨b,rfl,ec',hec',⟨rfl,_⟩,hc'⟩:=hb k x hx
   repeat((conv=>whnf);first|refine qz ?_|intro(_:Nat))
   conv=>whnf
   refine⟨a,rfl,⟨by omega,by omega⟩,?_⟩
   conv=>whnf
   refine⟨_,⟨rfl,hc⟩,?_⟩
   repeat((conv=>whnf);first|refine qz ?_|intro(_:Nat))
   conv=>whnf
   refine⟨b,rfl,⟨by omega,by omega⟩,?_⟩
   conv=>whnf
   refine⟨_,⟨rfl,hc'⟩,?_⟩
   repeat((conv=>whnf);first|refine qz ?_|intro(_:Nat))
   conv=>whnf
   refine⟨fun hx=>absurd hx (by simp),fun _=>?_⟩
   repeat((conv=>whnf);first|refine qz ?_|intro(_:Nat))
   conv=>whnf
   refine fun fr w hw=>⟨k+1,congrArg (fun z=>[Value.int .i64 z]) (wr1 h' a1 a2).symm,h',dec h',?_⟩
   exact hw.fit (by simp [fitL,Res.eqv,qBA,conc])
  ·repeat((conv=>whnf);first|refine qz ?_|intro(_:Nat))
   conv=>whnf
   intro g2 hg
   rfl)
theorem qMQ (g:GW) {v v':Value} {l:List (List Int)} (hl:rSl 1 rRow g v l) (hl':rSl 1 rRow g v' l):OkV Tryz.prog qBK [v,v'] g (.bool true) :=
 Ok.of_fn hm noT 0 qeJ (args:=[.v v,.v v']) (by
  obtain⟨oa,ca,rfl,a1,a2,a0,ha⟩:=hl
  obtain⟨ob,cb,rfl,b1,b2,b0,hb⟩:=hl'
  repeat((conv=>whnf);first|refine qz ?_|intro(_:Nat))
  conv=>whnf
  refine⟨fun hx=>absurd hx (by simp),fun _=>?_⟩
  repeat((conv=>whnf);first|refine qz ?_|intro(_:Nat))
  conv=>whnf
  refine⟨Nat,fun k=>[.v (.int .i64 k)],fun _=>⟨g,_,_,_⟩,fun k=>k≤l.length,fun k=>l.length-k,qHA 0 rfl (Nat.zero_le _) rfl,?_⟩
  intro k hk
  repeat((conv=>whnf);first|refine qz ?_|intro(_:Nat))
  conv=>whnf
  refine⟨fun hlt=>?_,fun hlt=>?_⟩
  ·have h':k<l.length:=by have:=of_decide_eq_true hlt;omega
   obtain⟨x,hx⟩:=qAA h'
   obtain⟨a,rfl,ec,hec,⟨n,rfl,hn⟩,hc⟩:=ha k x hx
   obtain⟨b,rfl,ec',hec',⟨n',rfl,hn'⟩,hc'⟩:=hb k x hx
   obtain⟨oc,cc,rfl,c1,c2,c0,hn1⟩:=hn
   obtain⟨od,cd,rfl,d1,d2,d0,hn1'⟩:=hn'
   repeat((conv=>whnf);first|refine qz ?_|intro(_:Nat))
   conv=>whnf
   refine⟨a,rfl,⟨by omega,by omega⟩,?_⟩
   conv=>whnf
   refine⟨_,hc 0 _ rfl,?_⟩
   repeat((conv=>whnf);first|refine qz ?_|intro(_:Nat))
   conv=>whnf
   refine⟨b,rfl,⟨by omega,by omega⟩,?_⟩
   conv=>whnf
   refine⟨_,hc' 0 _ rfl,?_⟩
   repeat((conv=>whnf);first|refine qz ?_|intro(_:Nat))
   conv=>whnf
   refine⟨fun hx=>absurd hx (by simp),fun _=>?_⟩
   repeat((conv=>whnf);first|refine qz ?_|intro(_:Nat))
   conv=>whnf
   refine⟨Nat,fun n=>[.v (.int .i64 n)],fun _=>⟨g,_,_,_⟩,fun n=>n≤x.length,fun n=>x.length-n,qHA 0 rfl (Nat.zero_le _) rfl,?_⟩
   intro n hn
   repeat((conv=>whnf);first|refine qz ?_|intro(_:Nat))
   conv=>whnf
   refine⟨a,rfl,⟨by omega,by omega⟩,?_⟩
   conv=>whnf
   refine⟨_,hc 0 _ rfl,?_⟩
   repeat((conv=>whnf);first|refine qz ?_|intro(_:Nat))
   conv=>whnf
   refine⟨fun hln=>?_,fun hln=>?_⟩
   ·have h2:n<x.length:=by have:=of_decide_eq_true hln;omega
    obtain⟨y,hy⟩:=qAA h2
    obtain⟨a3,rfl,ec3,hec3,⟨rfl,_⟩,hc3⟩:=hn1 n y hy
    obtain⟨b3,rfl,ec4,hec4,⟨rfl,_⟩,hc4⟩:=hn1' n y hy
    repeat((conv=>whnf);first|refine qz ?_|intro(_:Nat))
    conv=>whnf
    refine⟨a,rfl,⟨by omega,by omega⟩,?_⟩
    conv=>whnf
    refine⟨_,hc 0 _ rfl,?_⟩
    repeat((conv=>whnf);first|refine qz ?_|intro(_:Nat))
    conv=>whnf
    refine⟨a3,rfl,⟨by omega,by omega⟩,?_⟩
    conv=>whnf
    refine⟨_,hc3 0 _ rfl,?_⟩
    repeat((conv=>whnf);first|refine qz ?_|intro(_:Nat))
    conv=>whnf
    refine⟨b,rfl,⟨by omega,by omega⟩,?_⟩
    conv=>whnf
    refine⟨_,hc' 0 _ rfl,?_⟩
    repeat((conv=>whnf);first|refine qz ?_|intro(_:Nat))
    conv=>whnf
    refine⟨b3,rfl,⟨by omega,by omega⟩,?_⟩
    conv=>whnf
    refine⟨_,hc4 0 _ rfl,?_⟩
    repeat((conv=>whnf);first|refine qz ?_|intro(_:Nat))
    conv=>whnf
    refine⟨fun hx=>absurd hx (by simp),fun _=>?_⟩
    repeat((conv=>whnf);first|refine qz ?_|intro(_:Nat))
    conv=>whnf
    refine fun fr w hw=>⟨n+1,congrArg (fun z=>[Value.int .i64 z]) (wr1 h2 c1 c2).symm,h2,dec h2,?_⟩
    exact hw.fit (by simp [fitL,Res.eqv,qBA,conc])
   ·repeat((conv=>whnf);first|refine qz ?_|intro(_:Nat))
    conv=>whnf
    refine fun fr w hw=>⟨k+1,congrArg (fun z=>[Value.int .i64 z]) (wr1 h' a1 a2).symm,h',dec h',?_⟩
    exact hw.fit (by simp [fitL,Res.eqv,qBA,conc])
  ·repeat((conv=>whnf);first|refine qz ?_|intro(_:Nat))
   conv=>whnf
   intro g2 hg
   rfl)
theorem qeU (g:GW) {cs cs':List Value} {x:EndC} (hx:rEn g cs x) (hx':rEn g cs' x):OkV Tryz.prog q5J [.agg ⟨cs⟩,.agg ⟨cs'⟩] g (.bool true):=by
 obtain⟨⟨n,rfl,_,_,hn⟩,_⟩:=hx
 obtain⟨⟨n',rfl,_,_,hn'⟩,_⟩:=hx'
 obtain⟨oa,ca,rfl,a1,a2,a0,ha⟩:=hn
 obtain⟨ob,cb,rfl,b1,b2,b0,hb⟩:=hn'
 exact Ok.of_fn hm noT 0 qYJ (args:=[.v (.agg ⟨[.int .u64 x.head,.slice oa x.next.length ca,.int .i64 x.active]⟩),.v (.agg ⟨[.int .u64 x.head,.slice ob x.next.length cb,.int .i64 x.active]⟩)]) (by
  repeat((conv=>whnf);first|refine qz ?_|intro(_:Nat))
  conv=>whnf
  refine⟨fun hx=>absurd hx (by simp),fun _=>?_⟩
  repeat((conv=>whnf);first|refine qz ?_|intro(_:Nat))
  conv=>whnf
  refine⟨fun hx=>absurd hx (by simp),fun _=>?_⟩
  repeat((conv=>whnf);first|refine qz ?_|intro(_:Nat))
  conv=>whnf
  refine⟨fun hx=>absurd hx (by simp),fun _=>?_⟩
  repeat((conv=>whnf);first|refine qz ?_|intro(_:Nat))
  conv=>whnf
  refine⟨Nat,fun k=>[.v (.int .i64 k)],fun _=>⟨g,_,_,_⟩,fun k=>k≤x.next.length,fun k=>x.next.length-k,qHA 0 rfl (Nat.zero_le _) rfl,?_⟩
  intro k hk
  repeat((conv=>whnf);first|refine qz ?_|intro(_:Nat))
  conv=>whnf
  refine⟨fun hlt=>?_,fun hlt=>?_⟩
  ·have h':k<x.next.length:=by have:=of_decide_eq_true hlt;omega
   obtain⟨y,hy⟩:=qAA h'
   obtain⟨a,rfl,ec,hec,⟨rfl,_⟩,hc⟩:=ha k y hy
   obtain⟨b,rfl,ec',hec',⟨rfl,_⟩,hc'⟩:=hb k y hy
   repeat((conv=>whnf);first|refine qz ?_|intro(_:Nat))
   conv=>whnf
   refine⟨a,rfl,⟨by omega,by omega⟩,?_⟩
   conv=>whnf
   refine⟨_,hc 0 _ rfl,?_⟩
   repeat((conv=>whnf);first|refine qz ?_|intro(_:Nat))
   conv=>whnf
   refine⟨b,rfl,⟨by omega,by omega⟩,?_⟩
   conv=>whnf
   refine⟨_,hc' 0 _ rfl,?_⟩
   repeat((conv=>whnf);first|refine qz ?_|intro(_:Nat))
   conv=>whnf
   refine⟨fun hx=>absurd hx (by simp),fun _=>?_⟩
   repeat((conv=>whnf);first|refine qz ?_|intro(_:Nat))
   conv=>whnf
   refine fun fr w hw=>⟨k+1,congrArg (fun z=>[Value.int .i64 z]) (wr1 h' a1 a2).symm,h',dec h',?_⟩
   exact hw.fit (by simp [fitL,Res.eqv,qBA,conc])
  ·repeat((conv=>whnf);first|refine qz ?_|intro(_:Nat))
   conv=>whnf
   intro g2 hg
   rfl)
theorem qsO (g:GW) {cs cs':List Value} {x:Version} (hx:rVe g cs x) (hx':rVe g cs' x):OkV Tryz.prog qZE [.agg ⟨cs⟩,.agg ⟨cs'⟩] g (.bool true):=by
 obtain⟨va,vb,vd,vn,rfl,hS,hG⟩:=hx
 obtain⟨va',vb',vd',vn',rfl,hS',hG'⟩:=hx'
 have hS0:=hS
 have hS0':=hS'
 obtain⟨_,_,_,he,⟨sa,ta,rfl,_⟩,⟨sb,tb,rfl,_⟩,⟨sd,td,rfl,_⟩⟩:=hS
 cases he
 obtain⟨_,_,_,he,⟨sa',ta',rfl,_⟩,⟨sb',tb',rfl,_⟩,⟨sd',td',rfl,_⟩⟩:=hS'
 cases he
 obtain⟨oa,ca,rfl,a1,a2,a0,ha⟩:=hG
 obtain⟨ob,cb,rfl,b1,b2,b0,hb⟩:=hG'
 exact Ok.of_fn hm noT 0 qQE (args:=[.v (.agg ⟨[.slice sa x.snap.listens.length ta,.slice sb x.snap.rules.length tb,.slice sd x.snap.clusters.length td,.slice oa x.groups.length ca,.bool x.freed]⟩),.v (.agg ⟨[.slice sa' x.snap.listens.length ta',.slice sb' x.snap.rules.length tb',.slice sd' x.snap.clusters.length td',.slice ob x.groups.length cb,.bool x.freed]⟩)]) (by
  repeat((conv=>whnf);first|refine qz ?_|intro(_:Nat))
  conv=>whnf
  refine .inl ⟨_,(qWY _ hS0 hS0').to (congrArg Value.bool (qBP rfl)),?_⟩
  repeat((conv=>whnf);first|refine qz ?_|intro(_:Nat))
  conv=>whnf
  refine⟨fun h=>(nomatch h),fun _=>?_⟩
  repeat((conv=>whnf);first|refine qz ?_|intro(_:Nat))
  conv=>whnf
  refine⟨fun hx=>absurd hx (by simp),fun _=>?_⟩
  repeat((conv=>whnf);first|refine qz ?_|intro(_:Nat))
  conv=>whnf
  refine⟨fun hx=>absurd hx (by simp),fun _=>?_⟩
  repeat((conv=>whnf);first|refine qz ?_|intro(_:Nat))
  conv=>whnf
  refine⟨Nat,fun k=>[.v (.int .i64 k)],fun _=>⟨g,_,_,_⟩,fun k=>k≤x.groups.length,fun k=>x.groups.length-k,qHA 0 rfl (Nat.zero_le _) rfl,?_⟩
  intro k hk
  repeat((conv=>whnf);first|refine qz ?_|intro(_:Nat))
  conv=>whnf
  refine⟨fun hlt=>?_,fun hlt=>?_⟩
  ·have h':k<x.groups.length:=by have:=of_decide_eq_true hlt;omega
   obtain⟨y,hy⟩:=qAA h'
   obtain⟨a,rfl,ec,hec,⟨n,rfl,_,hn⟩,hc⟩:=ha k y hy
   obtain⟨b,rfl,ec',hec',⟨n',rfl,_,hn'⟩,hc'⟩:=hb k y hy
   obtain⟨oc,cc,rfl,c1,c2,c0,hn1⟩:=hn
   obtain⟨od,cd,rfl,d1,d2,d0,hn1'⟩:=hn'
   repeat((conv=>whnf);first|refine qz ?_|intro(_:Nat))
   conv=>whnf
   refine⟨a,rfl,⟨by omega,by omega⟩,?_⟩
   conv=>whnf
   refine⟨_,hc 0 _ rfl,?_⟩
   repeat((conv=>whnf);first|refine qz ?_|intro(_:Nat))
   conv=>whnf
   refine⟨b,rfl,⟨by omega,by omega⟩,?_⟩
   conv=>whnf
   refine⟨_,hc' 0 _ rfl,?_⟩
   repeat((conv=>whnf);first|refine qz ?_|intro(_:Nat))
   conv=>whnf
   refine⟨fun hx=>absurd hx (by simp),fun _=>?_⟩
   repeat((conv=>whnf);first|refine qz ?_|intro(_:Nat))
   conv=>whnf
   refine⟨a,rfl,⟨by omega,by omega⟩,?_⟩
   conv=>whnf
   refine⟨_,hc 1 _ rfl,?_⟩
   repeat((conv=>whnf);first|refine qz ?_|intro(_:Nat))
   conv=>whnf
   refine⟨b,rfl,⟨by omega,by omega⟩,?_⟩
   conv=>whnf
   refine⟨_,hc' 1 _ rfl,?_⟩
   repeat((conv=>whnf);first|refine qz ?_|intro(_:Nat))
   conv=>whnf
   refine⟨fun hx=>absurd hx (by simp),fun _=>?_⟩
   repeat((conv=>whnf);first|refine qz ?_|intro(_:Nat))
   conv=>whnf
   refine⟨Nat,fun n=>[.v (.int .i64 n)],fun _=>⟨g,_,_,_⟩,fun n=>n≤y.ends.length,fun n=>y.ends.length-n,qHA 0 rfl (Nat.zero_le _) rfl,?_⟩
   intro n hn
   repeat((conv=>whnf);first|refine qz ?_|intro(_:Nat))
   conv=>whnf
   refine⟨a,rfl,⟨by omega,by omega⟩,?_⟩
   conv=>whnf
   refine⟨_,hc 1 _ rfl,?_⟩
   repeat((conv=>whnf);first|refine qz ?_|intro(_:Nat))
   conv=>whnf
   refine⟨fun hln=>?_,fun hln=>?_⟩
   ·have h2:n<y.ends.length:=by have:=of_decide_eq_true hln;omega
    obtain⟨z,hz⟩:=qAA h2
    obtain⟨a3,rfl,ec3,hec3,hz3,hc3⟩:=hn1 n z hz
    obtain⟨b3,rfl,ec4,hec4,hz4,hc4⟩:=hn1' n z hz
    have hz30:=hz3
    have hz40:=hz4
    obtain⟨⟨m,rfl,_,_,⟨om,cm,rfl,_⟩⟩,_⟩:=hz3
    obtain⟨⟨m',rfl,_,_,⟨om',cm',rfl,_⟩⟩,_⟩:=hz4
    repeat((conv=>whnf);first|refine qz ?_|intro(_:Nat))
    conv=>whnf
    refine⟨a,rfl,⟨by omega,by omega⟩,?_⟩
    conv=>whnf
    refine⟨_,hc 1 _ rfl,?_⟩
    repeat((conv=>whnf);first|refine qz ?_|intro(_:Nat))
    conv=>whnf
    refine⟨a3,rfl,⟨by omega,by omega⟩,?_⟩
    conv=>whnf
    refine⟨_,⟨rfl,hc3⟩,?_⟩
    repeat((conv=>whnf);first|refine qz ?_|intro(_:Nat))
    conv=>whnf
    refine⟨b,rfl,⟨by omega,by omega⟩,?_⟩
    conv=>whnf
    refine⟨_,hc' 1 _ rfl,?_⟩
    repeat((conv=>whnf);first|refine qz ?_|intro(_:Nat))
    conv=>whnf
    refine⟨b3,rfl,⟨by omega,by omega⟩,?_⟩
    conv=>whnf
    refine⟨_,⟨rfl,hc4⟩,?_⟩
    repeat((conv=>whnf);first|refine qz ?_|intro(_:Nat))
    conv=>whnf
    refine .inl ⟨_,qeU _ hz30 hz40,?_⟩
    repeat((conv=>whnf);first|refine qz ?_|intro(_:Nat))
    conv=>whnf
    refine⟨fun h=>(nomatch h),fun _=>?_⟩
    repeat((conv=>whnf);first|refine qz ?_|intro(_:Nat))
    conv=>whnf
    refine fun fr w hw=>⟨n+1,congrArg (fun z=>[Value.int .i64 z]) (wr1 h2 c1 c2).symm,h2,dec h2,?_⟩
    exact hw.fit (by simp [fitL,Res.eqv,qBA,conc])
   ·repeat((conv=>whnf);first|refine qz ?_|intro(_:Nat))
    conv=>whnf
    refine fun fr w hw=>⟨k+1,congrArg (fun z=>[Value.int .i64 z]) (wr1 h' a1 a2).symm,h',dec h',?_⟩
    exact hw.fit (by simp [fitL,Res.eqv,qBA,conc])
  ·repeat((conv=>whnf);first|refine qz ?_|intro(_:Nat))
   conv=>whnf
   intro g2 hg
   rfl)
theorem qqW (g:GW) {cs cs':List Value} {w:Wd} (hw:rWo g cs w) (hw':rWo g cs' w):OkV Tryz.prog q3J [.agg ⟨cs⟩,.agg ⟨cs'⟩] g (.bool true):=by
 obtain⟨a,b,c,d,e,rfl,_,hP,hV,hL,hC,hR⟩:=hw
 obtain⟨a',b',c',d',e',rfl,_,hP',hV',hL',hC',hR'⟩:=hw'
 obtain⟨oa,ca,rfl,_⟩:=id hP
 obtain⟨ob,cb,rfl,b1,b2,b0,hV1⟩:=id hV
 obtain⟨oc,cc,rfl,c1,c2,c0,hL1⟩:=id hL
 obtain⟨od,cd,rfl,_⟩:=id hC
 obtain⟨oe,ce,rfl,_⟩:=id hR
 obtain⟨oa',ca',rfl,_⟩:=id hP'
 obtain⟨ob',cb',rfl,b1',b2',b0',hV1'⟩:=id hV'
 obtain⟨oc',cc',rfl,c1',c2',c0',hL1'⟩:=id hL'
 obtain⟨od',cd',rfl,_⟩:=id hC'
 obtain⟨oe',ce',rfl,_⟩:=id hR'
 exact Ok.of_fn hm noT 0 qWJ (args:=[.v (.agg ⟨wQ w oa ca ob cb oc cc od cd oe ce⟩),.v (.agg ⟨[.int .i64 w.epoch,.int .i64 w.current,.int .i64 w.lock,.slice oa' w.pins.length ca',.slice ob' w.versions.length cb',.slice oc' w.listens.length cc',.slice od' w.counts.length cd',.slice oe' w.limbo.length ce']⟩)]) (by
  repeat((conv=>whnf);first|refine qz ?_|intro(_:Nat))
  conv=>whnf
  refine⟨fun hx=>absurd hx (by simp),fun _=>?_⟩
  repeat((conv=>whnf);first|refine qz ?_|intro(_:Nat))
  conv=>whnf
  refine⟨fun hx=>absurd hx (by simp),fun _=>?_⟩
  repeat((conv=>whnf);first|refine qz ?_|intro(_:Nat))
  conv=>whnf
  refine⟨fun hx=>absurd hx (by simp),fun _=>?_⟩
  repeat((conv=>whnf);first|refine qz ?_|intro(_:Nat))
  conv=>whnf
  refine .inl ⟨_,qsS _ hP hP',?_⟩
  repeat((conv=>whnf);first|refine qz ?_|intro(_:Nat))
  conv=>whnf
  refine⟨fun h=>(nomatch h),fun _=>?_⟩
  repeat((conv=>whnf);first|refine qz ?_|intro(_:Nat))
  conv=>whnf
  refine⟨fun hx=>absurd hx (by simp),fun _=>?_⟩
  repeat((conv=>whnf);first|refine qz ?_|intro(_:Nat))
  conv=>whnf
  refine⟨fun hx=>absurd hx (by simp),fun _=>?_⟩
  repeat((conv=>whnf);first|refine qz ?_|intro(_:Nat))
  conv=>whnf
  refine .inl ⟨_,qMQ _ hC hC',?_⟩
  repeat((conv=>whnf);first|refine qz ?_|intro(_:Nat))
  conv=>whnf
  refine⟨fun h=>(nomatch h),fun _=>?_⟩
  repeat((conv=>whnf);first|refine qz ?_|intro(_:Nat))
  conv=>whnf
  refine .inl ⟨_,qbR _ hR hR',?_⟩
  repeat((conv=>whnf);first|refine qz ?_|intro(_:Nat))
  conv=>whnf
  refine⟨fun h=>(nomatch h),fun _=>?_⟩
  repeat((conv=>whnf);first|refine qz ?_|intro(_:Nat))
  conv=>whnf
  refine⟨Nat,fun k=>[.v (.int .i64 k)],fun _=>⟨g,_,_,_⟩,fun k=>k≤w.versions.length,fun k=>w.versions.length-k,qHA 0 rfl (Nat.zero_le _) rfl,?_⟩
  intro k hk
  repeat((conv=>whnf);first|refine qz ?_|intro(_:Nat))
  conv=>whnf
  refine⟨fun hlt=>?_,fun hlt=>?_⟩
  ·have h':k<w.versions.length:=by have:=of_decide_eq_true hlt;omega
   obtain⟨x,hx⟩:=qAA h'
   obtain⟨a,rfl,ec,hec,hxe,hc⟩:=hV1 k x hx
   obtain⟨b,rfl,ec',hec',hxe',hc'⟩:=hV1' k x hx
   have h10:=hxe
   have h20:=hxe'
   obtain⟨va,vb,vd,vn,rfl,⟨_,_,_,he,⟨sa,ta,rfl,_⟩,⟨sb,tb,rfl,_⟩,⟨sd,td,rfl,_⟩⟩,⟨sn,tn,rfl,_⟩⟩:=hxe
   cases he
   obtain⟨va',vb',vd',vn',rfl,⟨_,_,_,he,⟨sa',ta',rfl,_⟩,⟨sb',tb',rfl,_⟩,⟨sd',td',rfl,_⟩⟩,⟨sn',tn',rfl,_⟩⟩:=hxe'
   cases he
   repeat((conv=>whnf);first|refine qz ?_|intro(_:Nat))
   conv=>whnf
   refine⟨a,rfl,⟨by omega,by omega⟩,?_⟩
   conv=>whnf
   refine⟨_,⟨rfl,hc⟩,?_⟩
   repeat((conv=>whnf);first|refine qz ?_|intro(_:Nat))
   conv=>whnf
   refine⟨b,rfl,⟨by omega,by omega⟩,?_⟩
   conv=>whnf
   refine⟨_,⟨rfl,hc'⟩,?_⟩
   repeat((conv=>whnf);first|refine qz ?_|intro(_:Nat))
   conv=>whnf
   refine .inl ⟨_,qsO _ h10 h20,?_⟩
   repeat((conv=>whnf);first|refine qz ?_|intro(_:Nat))
   conv=>whnf
   refine⟨fun h=>(nomatch h),fun _=>?_⟩
   repeat((conv=>whnf);first|refine qz ?_|intro(_:Nat))
   conv=>whnf
   refine fun fr w' hw=>⟨k+1,congrArg (fun z=>[Value.int .i64 z]) (wr1 h' b1 b2).symm,h',dec h',?_⟩
   exact hw.fit (by simp [fitL,Res.eqv,qBA,conc])
  clear hlt hk
  repeat((conv=>whnf);first|refine qz ?_|intro(_:Nat))
  conv=>whnf
  refine⟨Nat,fun k=>[.v (.int .i64 k)],fun _=>⟨g,_,_,_⟩,fun k=>k≤w.listens.length,fun k=>w.listens.length-k,qHA 0 rfl (Nat.zero_le _) rfl,?_⟩
  intro k hk
  repeat((conv=>whnf);first|refine qz ?_|intro(_:Nat))
  conv=>whnf
  refine⟨fun hlt=>?_,fun hlt=>?_⟩
  ·have h':k<w.listens.length:=by have:=of_decide_eq_true hlt;omega
   obtain⟨x,hx⟩:=qAA h'
   obtain⟨a,rfl,ec,hec,⟨rfl,_⟩,hc⟩:=hL1 k x hx
   obtain⟨b,rfl,ec',hec',⟨rfl,_⟩,hc'⟩:=hL1' k x hx
   repeat((conv=>whnf);first|refine qz ?_|intro(_:Nat))
   conv=>whnf
   refine⟨a,rfl,⟨by omega,by omega⟩,?_⟩
   conv=>whnf
   refine⟨_,⟨rfl,hc⟩,?_⟩
   repeat((conv=>whnf);first|refine qz ?_|intro(_:Nat))
   conv=>whnf
   refine⟨b,rfl,⟨by omega,by omega⟩,?_⟩
   conv=>whnf
   refine⟨_,⟨rfl,hc'⟩,?_⟩
   repeat((conv=>whnf);first|refine qz ?_|intro(_:Nat))
   conv=>whnf
   refine⟨fun hx=>absurd hx (by simp),fun _=>?_⟩
   repeat((conv=>whnf);first|refine qz ?_|intro(_:Nat))
   conv=>whnf
   refine fun fr w' hw=>⟨k+1,congrArg (fun z=>[Value.int .i64 z]) (wr1 h' c1 c2).symm,h',dec h',?_⟩
   exact hw.fit (by simp [fitL,Res.eqv,qBA,conc])
  repeat((conv=>whnf);first|refine qz ?_|intro(_:Nat))
  conv=>whnf
  intro g2 hg
  rfl)
end Go.Proofs.YthonngjhelcpeaaGreat
