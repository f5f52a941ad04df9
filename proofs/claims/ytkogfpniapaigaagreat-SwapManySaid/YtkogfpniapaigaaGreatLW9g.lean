/- Worlds: is one right? The program's answer. -/
import Derived.Test.YtkogfpniapaigaaGreatLW9b
set_option linter.unusedVariables false
set_option linter.unusedSimpArgs false
namespace Go.Proofs.YtkogfpniapaigaaGreat
open Go.Proofs.YtkogfpniapaigaaGreat.Sx Go.RowKit
set_option maxHeartbeats 16000000
set_option maxRecDepth 100000
def tGr:List (Nat×FnI):=[(qrC,qHB),(qHD,qZB),(qGK,q5E)]
theorem qHV:qDG Tryz.prog tGr:=by
 intro x hx
 simp only [tGr,List.mem_cons,List.not_mem_nil,or_false] at hx
 rcases hx with rfl|rfl|rfl
 ·exact⟨_,_,qlC⟩
 ·exact⟨_,_,qGD⟩
 ·exact⟨_,_,qCK⟩
def GrP (w:Wd):Prop:=1≤w.pins.length∧w.pins.length≤8∧w.counts.length=w.pins.length∧qED w.counts=true∧0≤w.epoch∧w.epoch≤1000000000000∧(w.lock=0∨w.lock=1)
def qdG (w:Wd) (p:Int):Bool:=decide (0≤p)&&decide (p≤w.epoch+1)
theorem groundB_iff {w:Wd}:qCB w=true↔GrP w∧w.pins.all (qdG w)=true:=by
 unfold qCB GrP qdG
 simp only [Bool.and_eq_true,decide_eq_true_eq]
 constructor
 ·rintro⟨⟨⟨⟨⟨⟨⟨h1,h2⟩,h3⟩,h4⟩,h5⟩,h6⟩,h7⟩,h8⟩
  exact⟨⟨h1,h2,h3,h4,h5,h6,h7⟩,h8⟩
 ·rintro⟨⟨h1,h2,h3,h4,h5,h6,h7⟩,h8⟩
  exact⟨⟨⟨⟨⟨⟨⟨h1,h2⟩,h3⟩,h4⟩,h5⟩,h6⟩,h7⟩,h8⟩
theorem qYD {w:Wd} (h:¬ GrP w):qCB w=false:=by
 rw [Bool.eq_false_iff];intro hh;exact h (groundB_iff.1 hh).1
theorem qTO {w:Wd} (h:w.pins.all (qdG w)=false):qCB w=false:=by
 rw [Bool.eq_false_iff];intro hh;rw [(groundB_iff.1 hh).2] at h;cases h
theorem q6R (g:GW) {cs:List Value} {w:Wd} (hw:rWo g cs w):OkV Tryz.prog qjL [.agg ⟨cs⟩] g (.bool (qCB w)):=by
 obtain⟨a,b,c,d,e,rfl,⟨i1,i2,i3⟩,hP,hV,hL,hC,hR⟩:=hw
 obtain⟨oa,ca,rfl,a1,a2,a0,hP1⟩:=id hP
 obtain⟨ob,cb,rfl,b1,b2,b0,hV1⟩:=id hV
 obtain⟨oc,cc,rfl,c1,c2,c0,hL1⟩:=id hL
 obtain⟨od,cd,rfl,d1,d2,d0,hC1⟩:=id hC
 obtain⟨oe,ce,rfl,e1,e2,e0,hR1⟩:=id hR
 exact Ok.of_fn hm qHV 3 qaL (args:=[.v (.agg ⟨wQ w oa ca ob cb oc cc od cd oe ce⟩)]) (by
  repeat((conv=>whnf);first|apply qza|apply qzb|apply qzc|apply qzd|apply qze|intro(_:Nat))
  conv=>whnf
  refine⟨fun z1=>?_,fun z1=>?_⟩
  ·repeat((conv=>whnf);first|apply qza|apply qzb|apply qzc|apply qzd|apply qze|intro(_:Nat))
   conv=>whnf
   intro g2 hg
   rw [qYD fun h=>by have:=of_decide_eq_true z1;have:=h.1;omega]
  repeat((conv=>whnf);first|apply qza|apply qzb|apply qzc|apply qzd|apply qze|intro(_:Nat))
  conv=>whnf
  refine⟨fun z2=>?_,fun z2=>?_⟩
  ·repeat((conv=>whnf);first|apply qza|apply qzb|apply qzc|apply qzd|apply qze|intro(_:Nat))
   conv=>whnf
   intro g2 hg
   rw [qYD fun h=>by have:=of_decide_eq_true z2;have:=h.2.1;omega]
  repeat((conv=>whnf);first|apply qza|apply qzb|apply qzc|apply qzd|apply qze|intro(_:Nat))
  conv=>whnf
  refine⟨fun z3=>?_,fun z3=>?_⟩
  ·repeat((conv=>whnf);first|apply qza|apply qzb|apply qzc|apply qzd|apply qze|intro(_:Nat))
   conv=>whnf
   intro g2 hg
   rw [qYD fun h=>nneT z3 h.2.2.1]
  repeat((conv=>whnf);first|apply qza|apply qzb|apply qzc|apply qzd|apply qze|intro(_:Nat))
  conv=>whnf
  refine .inl ⟨_,qVV _ hC,?_⟩
  repeat((conv=>whnf);first|apply qza|apply qzb|apply qzc|apply qzd|apply qze|intro(_:Nat))
  conv=>whnf
  refine⟨fun z4=>?_,fun z4=>?_⟩
  ·repeat((conv=>whnf);first|apply qza|apply qzb|apply qzc|apply qzd|apply qze|intro(_:Nat))
   conv=>whnf
   intro g2 hg
   rw [qYD fun h=>by rw [h.2.2.2.1] at z4;cases z4]
  repeat((conv=>whnf);first|apply qza|apply qzb|apply qzc|apply qzd|apply qze|intro(_:Nat))
  conv=>whnf
  refine⟨fun z5=>?_,fun z5=>?_⟩
  ·repeat((conv=>whnf);first|apply qza|apply qzb|apply qzc|apply qzd|apply qze|intro(_:Nat))
   conv=>whnf
   intro g2 hg
   rw [qYD fun h=>by have:=of_decide_eq_true z5;have:=h.2.2.2.2.1;omega]
  repeat((conv=>whnf);first|apply qza|apply qzb|apply qzc|apply qzd|apply qze|intro(_:Nat))
  conv=>whnf
  refine⟨fun z6=>?_,fun z6=>?_⟩
  ·repeat((conv=>whnf);first|apply qza|apply qzb|apply qzc|apply qzd|apply qze|intro(_:Nat))
   conv=>whnf
   intro g2 hg
   rw [qYD fun h=>by have:=of_decide_eq_true z6;have:=h.2.2.2.2.2.1;omega]
  repeat((conv=>whnf);first|apply qza|apply qzb|apply qzc|apply qzd|apply qze|intro(_:Nat))
  have k1:=of_decide_eq_false z1
  have k2:=of_decide_eq_false z2
  have k3:=nneF z3
  have k4:=nb0 z4
  have k5:=of_decide_eq_false z5
  have k6:=of_decide_eq_false z6
  clear z1 z2 z3 z4 z5 z6
  conv=>whnf
  refine⟨fun z7=>?_,fun z7=>?_⟩
  case' refine_1 =>
   have z7':=bneT z7
   repeat((conv=>whnf);first|apply qza|apply qzb|apply qzc|apply qzd|apply qze|intro(_:Nat))
   conv=>whnf
   refine⟨fun z8=>?_,fun z8=>?_⟩
   case' refine_1 =>
    have z8':=bneT z8
    repeat((conv=>whnf);first|apply qza|apply qzb|apply qzc|apply qzd|apply qze|intro(_:Nat))
    conv=>whnf
    intro g2 hg
    rw [qYD fun h=>by rcases h.2.2.2.2.2.2 with h|h;exact z7' h;exact z8' h]
   have hlk:w.lock=0∨w.lock=1:=.inr (bneF z8)
   clear z7 z8 z7'
  case' refine_2 =>
   have hlk:w.lock=0∨w.lock=1:=.inl (bneF z7)
   clear z7
  all_goals
   have hGr:GrP w:=⟨by omega,by omega,k3,k4,by omega,by omega,hlk⟩
   repeat((conv=>whnf);first|apply qza|apply qzb|apply qzc|apply qzd|apply qze|intro(_:Nat))
   conv=>whnf
   refine⟨Nat,fun k=>[.v (.int .i64 k)],fun _=>⟨g,_,_,_⟩,fun k=>k≤w.pins.length∧(w.pins.take k).all (qdG w)=true,fun k=>w.pins.length-k,qDA 0 rfl ⟨Nat.zero_le _,by simp⟩ rfl,?_⟩
   rintro k ⟨hk,hp⟩
   repeat((conv=>whnf);first|apply qza|apply qzb|apply qzc|apply qzd|apply qze|intro(_:Nat))
   conv=>whnf
   refine⟨fun hlt=>?_,fun hlt=>?_⟩
   case' refine_1 =>
    have h':k<w.pins.length:=by have:=of_decide_eq_true hlt;omega
    obtain⟨x,hx⟩:=qBA h'
    obtain⟨a,rfl,ec,hec,⟨rfl,hxr⟩,hc⟩:=hP1 k x hx
    obtain⟨c1',c2'⟩:=List.getElem?_eq_some_iff.1 hx
    have hT:(w.pins.take (k+1)).all (qdG w)=qdG w x:=by rw [qrB c1',hp,c2'];rfl
    repeat((conv=>whnf);first|apply qza|apply qzb|apply qzc|apply qzd|apply qze|intro(_:Nat))
    conv=>whnf
    refine⟨a,rfl,⟨by omega,by omega⟩,?_⟩
    conv=>whnf
    refine⟨_,hc 0 _ rfl,?_⟩
    repeat((conv=>whnf);first|apply qza|apply qzb|apply qzc|apply qzd|apply qze|intro(_:Nat))
    conv=>whnf
    refine⟨qKK,?_⟩
    repeat((conv=>whnf);first|apply qza|apply qzb|apply qzc|apply qzd|apply qze|intro(_:Nat))
    conv=>whnf
    refine⟨fun y1=>?_,fun y1=>?_⟩
    case' refine_1 =>
     repeat((conv=>whnf);first|apply qza|apply qzb|apply qzc|apply qzd|apply qze|intro(_:Nat))
     conv=>whnf
     intro g2 hg
     rw [decide_eq_true (show(0:Int)≤(k:Int) by omega)]
     have y1':=of_decide_eq_true y1
     rw [qTO (qnA c1' (by rw [c2'];unfold qdG;rw [decide_eq_false (by omega)];rfl))];rfl
    have y1':=of_decide_eq_false y1
    repeat((conv=>whnf);first|apply qza|apply qzb|apply qzc|apply qzd|apply qze|intro(_:Nat))
    conv=>whnf
    refine⟨fun y2=>?_,fun y2=>?_⟩
    case' refine_1 =>
     repeat((conv=>whnf);first|apply qza|apply qzb|apply qzc|apply qzd|apply qze|intro(_:Nat))
     conv=>whnf
     intro g2 hg
     rw [decide_eq_true (show(0:Int)≤(k:Int) by omega)]
     have y2':=of_decide_eq_true y2
     rw [wr (by unfold InR;omega)] at y2'
     rw [qTO (qnA c1' (by rw [c2'];unfold qdG;rw [decide_eq_false (show ¬ x≤w.epoch+1 by omega)];simp))];rfl
    have y2':=of_decide_eq_false y2
    rw [wr (by unfold InR;omega)] at y2'
    repeat((conv=>whnf);first|apply qza|apply qzb|apply qzc|apply qzd|apply qze|intro(_:Nat))
    conv=>whnf
    refine fun fr w' hw=>⟨k+1,congrArg (fun z=>[Value.int .i64 z]) (wr1 h' a1 a2).symm,⟨h',by rw [hT];unfold qdG;rw [decide_eq_true (show 0≤x by omega),decide_eq_true (show x≤w.epoch+1 by omega)];rfl⟩,dec h',?_⟩
    exact hw.fit (by simp [fitL,Res.eqv,qAA,conc])
   have:=of_decide_eq_false hlt
   rw [List.take_of_length_le (by omega)] at hp
   repeat((conv=>whnf);first|apply qza|apply qzb|apply qzc|apply qzd|apply qze|intro(_:Nat))
   conv=>whnf
   intro g2 hg
   rw [groundB_iff.2 ⟨hGr,hp⟩];rfl)
/- Worlds: is one right? The program's answer. -/
open Go.Proofs.YtkogfpniapaigaaGreat.Sx Go.RowKit
def SnW (w:Wd):Prop:=∀ v∈w.versions,SnS v.snap
theorem wdB_iff {w:Wd}:wdB w=true↔qCB w=true∧(0≤w.current∧w.current<w.versions.length)∧qLE w.limbo=true∧w.limbo.all (limB w)=true∧allI (verB w) w.versions=true∧allI (q2A w.listens) w.listens=true:=by
 unfold wdB
 simp only [Bool.and_eq_true,decide_eq_true_eq]
 constructor
 ·rintro⟨⟨⟨⟨⟨⟨h1,h2⟩,h3⟩,h4⟩,h5⟩,h6⟩,h7⟩
  exact⟨h1,⟨h2,h3⟩,h4,h5,h6,h7⟩
 ·rintro⟨h1,⟨h2,h3⟩,h4,h5,h6,h7⟩
  exact⟨⟨⟨⟨⟨⟨h1,h2⟩,h3⟩,h4⟩,h5⟩,h6⟩,h7⟩
theorem qOG {w:Wd} (h:¬ (qCB w=true∧(0≤w.current∧w.current<w.versions.length)∧qLE w.limbo=true∧w.limbo.all (limB w)=true∧allI (verB w) w.versions=true∧allI (q2A w.listens) w.listens=true)):wdB w=false:=by
 rw [Bool.eq_false_iff];intro hh;exact h (wdB_iff.1 hh)
theorem q3N (g:GW) {cs:List Value} {w:Wd} (hw:rWo g cs w) (hsn:SnW w):OkV Tryz.prog qFE [.agg ⟨cs⟩] g (.bool (wdB w)):=by
 have hw0:=hw
 obtain⟨a,b,c,d,e,rfl,⟨i1,i2,i3⟩,hP,hV,hL,hC,hR⟩:=hw
 obtain⟨oa,ca,rfl,a1,a2,a0,hP1⟩:=id hP
 obtain⟨ob,cb,rfl,b1,b2,b0,hV1⟩:=id hV
 obtain⟨oc,cc,rfl,c1,c2,c0,hL1⟩:=id hL
 obtain⟨od,cd,rfl,d1,d2,d0,hC1⟩:=id hC
 obtain⟨oe,ce,rfl,e1,e2,e0,hR1⟩:=id hR
 exact Ok.of_fn hm noT 0 qUQ (args:=[.v (.agg ⟨wQ w oa ca ob cb oc cc od cd oe ce⟩)]) (by
  repeat((conv=>whnf);first|apply qza|apply qzb|apply qzc|apply qzd|apply qze|intro(_:Nat))
  conv=>whnf
  refine .inl ⟨_,q6R _ hw0,?_⟩
  repeat((conv=>whnf);first|apply qza|apply qzb|apply qzc|apply qzd|apply qze|intro(_:Nat))
  conv=>whnf
  refine⟨fun z1=>?_,fun z1=>?_⟩
  ·repeat((conv=>whnf);first|apply qza|apply qzb|apply qzc|apply qzd|apply qze|intro(_:Nat))
   conv=>whnf
   intro g2 hg
   rw [qOG fun h=>by rw [h.1] at z1;cases z1]
  repeat((conv=>whnf);first|apply qza|apply qzb|apply qzc|apply qzd|apply qze|intro(_:Nat))
  conv=>whnf
  refine⟨fun z2=>?_,fun z2=>?_⟩
  ·repeat((conv=>whnf);first|apply qza|apply qzb|apply qzc|apply qzd|apply qze|intro(_:Nat))
   conv=>whnf
   intro g2 hg
   rw [qOG fun h=>by have:=of_decide_eq_true z2;have:=h.2.1;omega]
  repeat((conv=>whnf);first|apply qza|apply qzb|apply qzc|apply qzd|apply qze|intro(_:Nat))
  conv=>whnf
  refine⟨fun z3=>?_,fun z3=>?_⟩
  ·repeat((conv=>whnf);first|apply qza|apply qzb|apply qzc|apply qzd|apply qze|intro(_:Nat))
   conv=>whnf
   intro g2 hg
   rw [qOG fun h=>by have:=of_decide_eq_true z3;have:=h.2.1;omega]
  repeat((conv=>whnf);first|apply qza|apply qzb|apply qzc|apply qzd|apply qze|intro(_:Nat))
  conv=>whnf
  refine .inl ⟨_,qUV _ hR,?_⟩
  repeat((conv=>whnf);first|apply qza|apply qzb|apply qzc|apply qzd|apply qze|intro(_:Nat))
  conv=>whnf
  refine⟨fun z4=>?_,fun z4=>?_⟩
  ·repeat((conv=>whnf);first|apply qza|apply qzb|apply qzc|apply qzd|apply qze|intro(_:Nat))
   conv=>whnf
   intro g2 hg
   rw [qOG fun h=>by rw [h.2.2.1] at z4;cases z4]
  have k1:=nb0 z1
  have k2:=of_decide_eq_false z2
  have k3:=of_decide_eq_false z3
  have k4:=nb0 z4
  clear z1 z2 z3 z4
  repeat((conv=>whnf);first|apply qza|apply qzb|apply qzc|apply qzd|apply qze|intro(_:Nat))
  rename_i q0 qm
  conv=>whnf
  refine⟨Nat,fun k=>[.v (.int .i64 k)],fun k=>⟨g,[.mp 1 qm .i64 (qJK (w.limbo.take k)),.blk 0 q0 qEA [.v (.int .i64 w.epoch),.v (.int .i64 w.current),.v (.int .i64 w.lock),.v (.slice oa w.pins.length ca),.v (.slice ob w.versions.length cb),.v (.slice oc w.listens.length cc),.v (.slice od w.counts.length cd),.v (.slice oe w.limbo.length ce)]],10,g.w.heap.size⟩,fun k=>k≤w.limbo.length∧(w.limbo.take k).all (limB w)=true,fun k=>w.limbo.length-k,fun fr w' hw=>⟨0,rfl,⟨Nat.zero_le _,by simp⟩,hw.fit (by simp [fitL,Res.eqv,qAA,conc,qJK])⟩,?_⟩
  rintro k ⟨hk,hp⟩
  repeat((conv=>whnf);first|apply qza|apply qzb|apply qzc|apply qzd|apply qze|intro(_:Nat))
  conv=>whnf
  refine⟨fun hlt=>?_,fun hlt=>?_⟩
  ·have h':k<w.limbo.length:=by have:=of_decide_eq_true hlt;omega
   obtain⟨x,hx⟩:=qBA h'
   obtain⟨a,rfl,ec,hec,⟨rfl,xr1,xr2⟩,hc⟩:=hR1 k x hx
   obtain⟨x1,x2⟩:=List.getElem?_eq_some_iff.1 hx
   have hT:(w.limbo.take (k+1)).all (limB w)=limB w x:=by rw [qrB x1,hp,x2];rfl
   have hF:=qBM hx
   repeat((conv=>whnf);first|apply qza|apply qzb|apply qzc|apply qzd|apply qze|intro(_:Nat))
   conv=>whnf
   refine⟨a,rfl,⟨by omega,by omega⟩,?_⟩
   conv=>whnf
   refine⟨_,⟨rfl,hc⟩,?_⟩
   repeat((conv=>whnf);first|apply qza|apply qzb|apply qzc|apply qzd|apply qze|intro(_:Nat))
   conv=>whnf
   refine⟨fun y1=>?_,fun y1=>?_⟩
   ·repeat((conv=>whnf);first|apply qza|apply qzb|apply qzc|apply qzd|apply qze|intro(_:Nat))
    conv=>whnf
    intro g2 hg
    have y1':=of_decide_eq_true y1
    rw [qOG fun h=>by have h4:=h.2.2.2.1;rw [qnA x1 (by rw [x2];unfold limB;rw [decide_eq_false (by omega)];rfl)] at h4;cases h4]
   have y1':=of_decide_eq_false y1
   repeat((conv=>whnf);first|apply qza|apply qzb|apply qzc|apply qzd|apply qze|intro(_:Nat))
   conv=>whnf
   refine⟨fun y2=>?_,fun y2=>?_⟩
   ·repeat((conv=>whnf);first|apply qza|apply qzb|apply qzc|apply qzd|apply qze|intro(_:Nat))
    conv=>whnf
    intro g2 hg
    have y2':=beqT y2
    rw [qOG fun h=>by have h4:=h.2.2.2.1;rw [qnA x1 (by rw [x2];unfold limB;rw [decide_eq_false (show ¬ x.version≠w.current by simpa using y2')];simp)] at h4;cases h4]
   have y2':=beqF y2
   repeat((conv=>whnf);first|apply qza|apply qzb|apply qzc|apply qzd|apply qze|intro(_:Nat))
   conv=>whnf
   refine⟨fun y3=>?_,fun y3=>?_⟩
   ·repeat((conv=>whnf);first|apply qza|apply qzb|apply qzc|apply qzd|apply qze|intro(_:Nat))
    conv=>whnf
    intro g2 hg
    have y3':=of_decide_eq_true y3
    rw [qOG fun h=>by have h4:=h.2.2.2.1;rw [qnA x1 (by rw [x2];unfold limB;rw [decide_eq_false (show ¬ x.at_≤w.epoch by omega)];simp)] at h4;cases h4]
   have y3':=of_decide_eq_false y3
   repeat((conv=>whnf);first|apply qza|apply qzb|apply qzc|apply qzd|apply qze|intro(_:Nat))
   conv=>whnf
   refine fun fr w' hw=>⟨k+1,congrArg (fun z=>[Value.int .i64 z]) (wr1 h' e1 e2).symm,⟨h',by rw [hT];unfold limB;rw [decide_eq_true (show x.version<w.versions.length by omega),decide_eq_true y2',decide_eq_true (show x.at_≤w.epoch by omega)];rfl⟩,dec h',hw.fit ?_⟩
   simp only [hF]
   simp [fitL,Res.eqv,qAA,conc]
  have hkL:=of_decide_eq_false hlt
  rw [List.take_of_length_le (by omega)] at hp
  obtain rfl:k=w.limbo.length:=by omega
  have hlk:=fun n=>qCM (n:=n) (qVT k4) (Nat.le_refl w.limbo.length)
  rw [List.take_length] at hlk
  simp only [List.take_length]
  clear hlt hkL hk
  repeat((conv=>whnf);first|apply qza|apply qzb|apply qzc|apply qzd|apply qze|intro(_:Nat))
  conv=>whnf
  refine⟨Nat,fun k=>[.v (.int .i64 k)],fun _=>⟨g,[.mp 1 qm .i64 (qJK w.limbo),.blk 0 q0 qEA [.v (.int .i64 w.epoch),.v (.int .i64 w.current),.v (.int .i64 w.lock),.v (.slice oa w.pins.length ca),.v (.slice ob w.versions.length cb),.v (.slice oc w.listens.length cc),.v (.slice od w.counts.length cd),.v (.slice oe w.limbo.length ce)]],10,g.w.heap.size⟩,fun k=>k≤w.versions.length∧AllK (verB w) w.versions k,fun k=>w.versions.length-k,fun fr w' hw=>⟨0,rfl,⟨Nat.zero_le _,AllK.zero _ _⟩,hw.fit (by simp [fitL,Res.eqv,qAA,conc])⟩,?_⟩
  rintro k ⟨hk,hq⟩
  repeat((conv=>whnf);first|apply qza|apply qzb|apply qzc|apply qzd|apply qze|intro(_:Nat))
  conv=>whnf
  refine⟨fun hlt=>?_,fun hlt=>?_⟩
  ·have h':k<w.versions.length:=by have:=of_decide_eq_true hlt;omega
   obtain⟨x,hx⟩:=qBA h'
   obtain⟨a,rfl,ec,hec,hxv,hc⟩:=hV1 k x hx
   have hxv0:=hxv
   obtain⟨va,vb,vd,vn,rfl,⟨_,_,_,hee,⟨oa',ca',rfl,_⟩,⟨ob',cb',rfl,_⟩,⟨od',cd',rfl,_⟩⟩,⟨on',cn',rfl,_⟩⟩:=hxv
   cases hee
   repeat((conv=>whnf);first|apply qza|apply qzb|apply qzc|apply qzd|apply qze|intro(_:Nat))
   conv=>whnf
   refine⟨a,rfl,⟨by omega,by omega⟩,?_⟩
   conv=>whnf
   refine⟨_,⟨rfl,hc⟩,?_⟩
   repeat((conv=>whnf);first|apply qza|apply qzb|apply qzc|apply qzd|apply qze|intro(_:Nat))
   conv=>whnf
   refine .inl ⟨_,qFP _ hxv0 (hsn x (List.mem_of_getElem? hx)),?_⟩
   repeat((conv=>whnf);first|apply qza|apply qzb|apply qzc|apply qzd|apply qze|intro(_:Nat))
   conv=>whnf
   refine⟨fun y1=>?_,fun y1=>?_⟩
   ·repeat((conv=>whnf);first|apply qza|apply qzb|apply qzc|apply qzd|apply qze|intro(_:Nat))
    conv=>whnf
    intro g2 hg
    rw [qOG fun h=>by have h4:=h.2.2.2.2.1;rw [qVA hx (by unfold verB;rw [nb1 y1];rfl)] at h4;cases h4]
   repeat((conv=>whnf);first|apply qza|apply qzb|apply qzc|apply qzd|apply qze|intro(_:Nat))
   rcases ho:mGet (k:Int) (qJK w.limbo) with _|u
   ·have hl0:=hlk (k:Int)
    rw [ho] at hl0
    simp only [qQO,Value.bool.injEq] at hl0
    conv=>whnf
    refine⟨none,rfl,?_⟩
    repeat((conv=>whnf);first|apply qza|apply qzb|apply qzc|apply qzd|apply qze|intro(_:Nat))
    conv=>whnf
    refine⟨fun y2=>?_,fun y2=>?_⟩
    ·repeat((conv=>whnf);first|apply qza|apply qzb|apply qzc|apply qzd|apply qze|intro(_:Nat))
     conv=>whnf
     intro g2 hg
     rw [qOG fun h=>by have h4:=h.2.2.2.2.1;rw [qVA hx (by unfold verB;rw [nb0 y1,← hl0];simpa using y2)] at h4;cases h4]
    repeat((conv=>whnf);first|apply qza|apply qzb|apply qzc|apply qzd|apply qze|intro(_:Nat))
    conv=>whnf
    refine fun fr w' hw=>⟨k+1,congrArg (fun z=>[Value.int .i64 z]) (wr1 h' b1 b2).symm,⟨h',hq.succ hx (by unfold verB;rw [nb0 y1,← hl0];simpa using y2)⟩,dec h',?_⟩
    exact hw.fit (by simp [fitL,Res.eqv,qAA,conc])
   ·have hl0:=hlk (k:Int)
    rw [ho] at hl0
    simp only [qQO] at hl0
    subst hl0
    conv=>whnf
    refine⟨_,rfl,?_⟩
    repeat((conv=>whnf);first|apply qza|apply qzb|apply qzc|apply qzd|apply qze|intro(_:Nat))
    conv=>whnf
    refine⟨fun y2=>?_,fun y2=>?_⟩
    ·repeat((conv=>whnf);first|apply qza|apply qzb|apply qzc|apply qzd|apply qze|intro(_:Nat))
     conv=>whnf
     intro g2 hg
     rw [qOG fun h=>by have h4:=h.2.2.2.2.1;rw [qVA hx (by unfold verB;rw [nb0 y1];simpa using y2)] at h4;cases h4]
    repeat((conv=>whnf);first|apply qza|apply qzb|apply qzc|apply qzd|apply qze|intro(_:Nat))
    conv=>whnf
    refine fun fr w' hw=>⟨k+1,congrArg (fun z=>[Value.int .i64 z]) (wr1 h' b1 b2).symm,⟨h',hq.succ hx (by unfold verB;rw [nb0 y1];simpa using y2)⟩,dec h',?_⟩
    exact hw.fit (by simp [fitL,Res.eqv,qAA,conc])
  have hqD:=hq.done (by have:=of_decide_eq_false hlt;omega)
  clear hlt hk hq
  repeat((conv=>whnf);first|apply qza|apply qzb|apply qzc|apply qzd|apply qze|intro(_:Nat))
  conv=>whnf
  refine⟨Nat,fun k=>[.v (.int .i64 k)],fun _=>⟨g,[.mp 1 qm .i64 (qJK w.limbo),.blk 0 q0 qEA [.v (.int .i64 w.epoch),.v (.int .i64 w.current),.v (.int .i64 w.lock),.v (.slice oa w.pins.length ca),.v (.slice ob w.versions.length cb),.v (.slice oc w.listens.length cc),.v (.slice od w.counts.length cd),.v (.slice oe w.limbo.length ce)]],10,g.w.heap.size⟩,fun k=>k≤w.listens.length∧AllK (q2A w.listens) w.listens k,fun k=>w.listens.length-k,fun fr w' hw=>⟨0,rfl,⟨Nat.zero_le _,AllK.zero _ _⟩,hw.fit (by simp [fitL,Res.eqv,qAA,conc])⟩,?_⟩
  rintro k ⟨hk,hq⟩
  repeat((conv=>whnf);first|apply qza|apply qzb|apply qzc|apply qzd|apply qze|intro(_:Nat))
  conv=>whnf
  refine⟨fun hlt=>?_,fun hlt=>?_⟩
  ·have h':k<w.listens.length:=by have:=of_decide_eq_true hlt;omega
   obtain⟨x,hx⟩:=qBA h'
   obtain⟨a,rfl,ec,hec,⟨rfl,hxa⟩,hc⟩:=hL1 k x hx
   repeat((conv=>whnf);first|apply qza|apply qzb|apply qzc|apply qzd|apply qze|intro(_:Nat))
   conv=>whnf
   refine⟨a,rfl,⟨by omega,by omega⟩,?_⟩
   conv=>whnf
   refine⟨_,⟨rfl,hc⟩,?_⟩
   repeat((conv=>whnf);first|apply qza|apply qzb|apply qzc|apply qzd|apply qze|intro(_:Nat))
   conv=>whnf
   refine .inl ⟨_,qWV _ (x:=x) ⟨rfl,hxa⟩,?_⟩
   repeat((conv=>whnf);first|apply qza|apply qzb|apply qzc|apply qzd|apply qze|intro(_:Nat))
   conv=>whnf
   refine⟨fun y1=>?_,fun y1=>?_⟩
   ·repeat((conv=>whnf);first|apply qza|apply qzb|apply qzc|apply qzd|apply qze|intro(_:Nat))
    conv=>whnf
    intro g2 hg
    rw [qOG fun h=>by have h4:=h.2.2.2.2.2;rw [qVA hx (by unfold q2A;rw [nb1 y1];rfl)] at h4;cases h4]
   repeat((conv=>whnf);first|apply qza|apply qzb|apply qzc|apply qzd|apply qze|intro(_:Nat))
   conv=>whnf
   refine .inl ⟨_,qyK _ hL _,?_⟩
   repeat((conv=>whnf);first|apply qza|apply qzb|apply qzc|apply qzd|apply qze|intro(_:Nat))
   conv=>whnf
   refine⟨fun y2=>?_,fun y2=>?_⟩
   ·repeat((conv=>whnf);first|apply qza|apply qzb|apply qzc|apply qzd|apply qze|intro(_:Nat))
    conv=>whnf
    intro g2 hg
    rw [qOG fun h=>by have h4:=h.2.2.2.2.2;rw [qVA hx (by unfold q2A;rw [decide_eq_false (bneT y2)];simp)] at h4;cases h4]
   repeat((conv=>whnf);first|apply qza|apply qzb|apply qzc|apply qzd|apply qze|intro(_:Nat))
   conv=>whnf
   refine fun fr w' hw=>⟨k+1,congrArg (fun z=>[Value.int .i64 z]) (wr1 h' c1 c2).symm,⟨h',hq.succ hx (by unfold q2A;rw [nb0 y1,decide_eq_true (bneF y2)];rfl)⟩,dec h',?_⟩
   exact hw.fit (by simp [fitL,Res.eqv,qAA,conc])
  have hrD:=hq.done (by have:=of_decide_eq_false hlt;omega)
  repeat((conv=>whnf);first|apply qza|apply qzb|apply qzc|apply qzd|apply qze|intro(_:Nat))
  conv=>whnf
  intro g2 hg
  rw [wdB_iff.2 ⟨k1,⟨by omega,by omega⟩,k4,hp,hqD,hrD⟩])
/- Worlds: is one right? The document's answer. -/
open Go.Proofs.YtkogfpniapaigaaGreat.Sx Go.RowKit
noncomputable def qEM (w:Wd):Bool:=allI (q2A w.listens) w.listens&&allI (verB w) w.versions&&w.limbo.all (limB w)&&qLE w.limbo
theorem listsB_iff {w:Wd}:qEM w=true↔allI (q2A w.listens) w.listens=true∧allI (verB w) w.versions=true∧w.limbo.all (limB w)=true∧qLE w.limbo=true:=by
 unfold qEM
 simp only [Bool.and_eq_true,and_assoc]
theorem qnD {w:Wd} (h:¬ (allI (q2A w.listens) w.listens=true∧allI (verB w) w.versions=true∧w.limbo.all (limB w)=true∧qLE w.limbo=true)):qEM w=false:=by
 rw [Bool.eq_false_iff];intro hh;exact h (listsB_iff.1 hh)
theorem wdB_lists {w:Wd}:wdB w=true↔qCB w=true∧(0≤w.current∧w.current<w.versions.length)∧qEM w=true:=by
 rw [wdB_iff,listsB_iff]
 constructor
 ·rintro⟨h1,h2,h3,h4,h5,h6⟩;exact⟨h1,h2,h6,h5,h4,h3⟩
 ·rintro⟨h1,h2,h6,h5,h4,h3⟩;exact⟨h1,h2,h3,h4,h5,h6⟩
theorem qfO {w:Wd} (h:wdB w=true) {v:Version} (hv:w.versions[w.current.toNat]?=some v):v.freed=false:=by
 obtain⟨_,⟨h0,_⟩,hl,ha,hvv,_⟩:=wdB_iff.1 h
 have h1:=allI_iff.1 hvv _ v hv
 unfold verB at h1
 simp only [Bool.and_eq_true,beq_iff_eq] at h1
 rw [h1.2,Int.toNat_of_nonneg h0]
 unfold q1F
 rw [List.any_eq_false]
 intro r hr
 have:=List.all_eq_true.1 ha r hr
 unfold limB at this
 simp only [Bool.and_eq_true,decide_eq_true_eq] at this
 have h2:(r.version==w.current)=false:=by simpa using this.1.2
 rw [h2];simp
theorem qLT (g:GW) {cs:List Value} {w:Wd} (hw:rWo g cs w) (hsn:SnW w):OkV Tryz.prog qgG [.agg ⟨cs⟩] g (.bool (qEM w)):=by
 obtain⟨a,b,c,d,e,rfl,⟨i1,i2,i3⟩,hP,hV,hL,hC,hR⟩:=hw
 obtain⟨oa,ca,rfl,a1,a2,a0,hP1⟩:=id hP
 obtain⟨ob,cb,rfl,b1,b2,b0,hV1⟩:=id hV
 obtain⟨oc,cc,rfl,c1,c2,c0,hL1⟩:=id hL
 obtain⟨od,cd,rfl,d1,d2,d0,hC1⟩:=id hC
 obtain⟨oe,ce,rfl,e1,e2,e0,hR1⟩:=id hR
 exact Ok.of_fn hm noT 0 qRG (args:=[.v (.agg ⟨wQ w oa ca ob cb oc cc od cd oe ce⟩)]) (by
  repeat((conv=>whnf);first|apply qza|apply qzb|apply qzc|apply qzd|apply qze|intro(_:Nat))
  conv=>whnf
  refine⟨Nat,fun k=>[.v (.int .i64 k)],fun _=>⟨g,_,_,_⟩,fun k=>k≤w.listens.length∧AllK (q2A w.listens) w.listens k,fun k=>w.listens.length-k,qDA 0 rfl ⟨Nat.zero_le _,AllK.zero _ _⟩ rfl,?_⟩
  rintro k ⟨hk,hq⟩
  repeat((conv=>whnf);first|apply qza|apply qzb|apply qzc|apply qzd|apply qze|intro(_:Nat))
  conv=>whnf
  refine⟨fun hlt=>?_,fun hlt=>?_⟩
  ·have h':k<w.listens.length:=by have:=of_decide_eq_true hlt;omega
   obtain⟨x,hx⟩:=qBA h'
   obtain⟨a,rfl,ec,hec,⟨rfl,hxa⟩,hc⟩:=hL1 k x hx
   repeat((conv=>whnf);first|apply qza|apply qzb|apply qzc|apply qzd|apply qze|intro(_:Nat))
   conv=>whnf
   refine⟨a,rfl,⟨by omega,by omega⟩,?_⟩
   conv=>whnf
   refine⟨_,⟨rfl,hc⟩,?_⟩
   repeat((conv=>whnf);first|apply qza|apply qzb|apply qzc|apply qzd|apply qze|intro(_:Nat))
   conv=>whnf
   refine .inl ⟨_,qSU _ (x:=x) ⟨rfl,hxa⟩,?_⟩
   repeat((conv=>whnf);first|apply qza|apply qzb|apply qzc|apply qzd|apply qze|intro(_:Nat))
   conv=>whnf
   refine⟨fun y1=>?_,fun y1=>?_⟩
   ·repeat((conv=>whnf);first|apply qza|apply qzb|apply qzc|apply qzd|apply qze|intro(_:Nat))
    conv=>whnf
    intro g2 hg
    rw [qnD fun h=>by have h4:=h.1;rw [qVA hx (by unfold q2A;rw [nb1 y1];rfl)] at h4;cases h4]
   repeat((conv=>whnf);first|apply qza|apply qzb|apply qzc|apply qzd|apply qze|intro(_:Nat))
   conv=>whnf
   refine⟨a,rfl,⟨by omega,by omega⟩,?_⟩
   conv=>whnf
   refine⟨_,hc 0 _ rfl,?_⟩
   repeat((conv=>whnf);first|apply qza|apply qzb|apply qzc|apply qzd|apply qze|intro(_:Nat))
   conv=>whnf
   refine .inl ⟨_,q1R _ hL _,?_⟩
   repeat((conv=>whnf);first|apply qza|apply qzb|apply qzc|apply qzd|apply qze|intro(_:Nat))
   conv=>whnf
   refine⟨fun y2=>?_,fun y2=>?_⟩
   ·repeat((conv=>whnf);first|apply qza|apply qzb|apply qzc|apply qzd|apply qze|intro(_:Nat))
    conv=>whnf
    intro g2 hg
    rw [qnD fun h=>by have h4:=h.1;rw [qVA hx (by unfold q2A;rw [decide_eq_false (bneT y2)];simp)] at h4;cases h4]
   repeat((conv=>whnf);first|apply qza|apply qzb|apply qzc|apply qzd|apply qze|intro(_:Nat))
   conv=>whnf
   refine fun fr w' hw=>⟨k+1,congrArg (fun z=>[Value.int .i64 z]) (wr1 h' c1 c2).symm,⟨h',hq.succ hx (by unfold q2A;rw [nb0 y1,decide_eq_true (bneF y2)];rfl)⟩,dec h',?_⟩
   exact hw.fit (by simp [fitL,Res.eqv,qAA,conc])
  have hLD:=hq.done (by have:=of_decide_eq_false hlt;omega)
  clear hlt hk hq
  repeat((conv=>whnf);first|apply qza|apply qzb|apply qzc|apply qzd|apply qze|intro(_:Nat))
  conv=>whnf
  refine⟨Nat,fun k=>[.v (.int .i64 k)],fun _=>⟨g,_,_,_⟩,fun k=>k≤w.versions.length∧AllK (verB w) w.versions k,fun k=>w.versions.length-k,qDA 0 rfl ⟨Nat.zero_le _,AllK.zero _ _⟩ rfl,?_⟩
  rintro k ⟨hk,hq⟩
  repeat((conv=>whnf);first|apply qza|apply qzb|apply qzc|apply qzd|apply qze|intro(_:Nat))
  conv=>whnf
  refine⟨fun hlt=>?_,fun hlt=>?_⟩
  ·have h':k<w.versions.length:=by have:=of_decide_eq_true hlt;omega
   obtain⟨x,hx⟩:=qBA h'
   obtain⟨a,rfl,ec,hec,hxv,hc⟩:=hV1 k x hx
   have hxv0:=hxv
   obtain⟨va,vb,vd,vn,rfl,⟨_,_,_,hee,⟨oa',ca',rfl,_⟩,⟨ob',cb',rfl,_⟩,⟨od',cd',rfl,_⟩⟩,⟨on',cn',rfl,_⟩⟩:=hxv
   cases hee
   repeat((conv=>whnf);first|apply qza|apply qzb|apply qzc|apply qzd|apply qze|intro(_:Nat))
   conv=>whnf
   refine⟨a,rfl,⟨by omega,by omega⟩,?_⟩
   conv=>whnf
   refine⟨_,⟨rfl,hc⟩,?_⟩
   repeat((conv=>whnf);first|apply qza|apply qzb|apply qzc|apply qzd|apply qze|intro(_:Nat))
   conv=>whnf
   refine .inl ⟨_,qJP _ hxv0 (hsn x (List.mem_of_getElem? hx)),?_⟩
   repeat((conv=>whnf);first|apply qza|apply qzb|apply qzc|apply qzd|apply qze|intro(_:Nat))
   conv=>whnf
   refine⟨fun y1=>?_,fun y1=>?_⟩
   ·repeat((conv=>whnf);first|apply qza|apply qzb|apply qzc|apply qzd|apply qze|intro(_:Nat))
    conv=>whnf
    intro g2 hg
    rw [qnD fun h=>by have h4:=h.2.1;rw [qVA hx (by unfold verB;rw [nb1 y1];rfl)] at h4;cases h4]
   repeat((conv=>whnf);first|apply qza|apply qzb|apply qzc|apply qzd|apply qze|intro(_:Nat))
   conv=>whnf
   refine⟨a,rfl,⟨by omega,by omega⟩,?_⟩
   conv=>whnf
   refine⟨_,hc 4 _ rfl,?_⟩
   repeat((conv=>whnf);first|apply qza|apply qzb|apply qzc|apply qzd|apply qze|intro(_:Nat))
   conv=>whnf
   refine .inl ⟨_,qHT _ hR _,?_⟩
   repeat((conv=>whnf);first|apply qza|apply qzb|apply qzc|apply qzd|apply qze|intro(_:Nat))
   conv=>whnf
   refine⟨fun y2=>?_,fun y2=>?_⟩
   ·repeat((conv=>whnf);first|apply qza|apply qzb|apply qzc|apply qzd|apply qze|intro(_:Nat))
    conv=>whnf
    intro g2 hg
    rw [qnD fun h=>by have h4:=h.2.1;rw [qVA hx (by unfold verB;rw [nb0 y1];simpa using y2)] at h4;cases h4]
   repeat((conv=>whnf);first|apply qza|apply qzb|apply qzc|apply qzd|apply qze|intro(_:Nat))
   conv=>whnf
   refine fun fr w' hw=>⟨k+1,congrArg (fun z=>[Value.int .i64 z]) (wr1 h' b1 b2).symm,⟨h',hq.succ hx (by unfold verB;rw [nb0 y1];simpa using y2)⟩,dec h',?_⟩
   exact hw.fit (by simp [fitL,Res.eqv,qAA,conc])
  have hVD:=hq.done (by have:=of_decide_eq_false hlt;omega)
  clear hlt hk hq
  repeat((conv=>whnf);first|apply qza|apply qzb|apply qzc|apply qzd|apply qze|intro(_:Nat))
  conv=>whnf
  refine⟨Nat,fun k=>[.v (.int .i64 k)],fun _=>⟨g,_,_,_⟩,fun k=>k≤w.limbo.length∧(w.limbo.take k).all (limB w)=true,fun k=>w.limbo.length-k,qDA 0 rfl ⟨Nat.zero_le _,by simp⟩ rfl,?_⟩
  rintro k ⟨hk,hp⟩
  repeat((conv=>whnf);first|apply qza|apply qzb|apply qzc|apply qzd|apply qze|intro(_:Nat))
  conv=>whnf
  refine⟨fun hlt=>?_,fun hlt=>?_⟩
  ·have h':k<w.limbo.length:=by have:=of_decide_eq_true hlt;omega
   obtain⟨x,hx⟩:=qBA h'
   obtain⟨a,rfl,ec,hec,⟨rfl,xr1,xr2⟩,hc⟩:=hR1 k x hx
   obtain⟨x1,x2⟩:=List.getElem?_eq_some_iff.1 hx
   have hT:(w.limbo.take (k+1)).all (limB w)=limB w x:=by rw [qrB x1,hp,x2];rfl
   repeat((conv=>whnf);first|apply qza|apply qzb|apply qzc|apply qzd|apply qze|intro(_:Nat))
   conv=>whnf
   refine⟨a,rfl,⟨by omega,by omega⟩,?_⟩
   conv=>whnf
   refine⟨_,⟨rfl,hc⟩,?_⟩
   repeat((conv=>whnf);first|apply qza|apply qzb|apply qzc|apply qzd|apply qze|intro(_:Nat))
   conv=>whnf
   refine⟨fun y0=>?_,fun y0=>?_⟩
   ·repeat((conv=>whnf);first|apply qza|apply qzb|apply qzc|apply qzd|apply qze|intro(_:Nat))
    conv=>whnf
    intro g2 hg
    have y0':=of_decide_eq_true y0
    rw [qnD fun h=>by have h4:=h.2.2.2;rw [qLE,qVA hx (by unfold retB;rw [decide_eq_false (by omega)];rfl)] at h4;cases h4]
   repeat((conv=>whnf);first|apply qza|apply qzb|apply qzc|apply qzd|apply qze|intro(_:Nat))
   conv=>whnf
   refine⟨fun y1=>?_,fun y1=>?_⟩
   ·repeat((conv=>whnf);first|apply qza|apply qzb|apply qzc|apply qzd|apply qze|intro(_:Nat))
    conv=>whnf
    intro g2 hg
    have y1':=of_decide_eq_true y1
    rw [qnD fun h=>by have h4:=h.2.2.1;rw [qnA x1 (by rw [x2];unfold limB;rw [decide_eq_false (by omega)];rfl)] at h4;cases h4]
   have y1':=of_decide_eq_false y1
   repeat((conv=>whnf);first|apply qza|apply qzb|apply qzc|apply qzd|apply qze|intro(_:Nat))
   conv=>whnf
   refine⟨fun y2=>?_,fun y2=>?_⟩
   ·repeat((conv=>whnf);first|apply qza|apply qzb|apply qzc|apply qzd|apply qze|intro(_:Nat))
    conv=>whnf
    intro g2 hg
    have y2':=beqT y2
    rw [qnD fun h=>by have h4:=h.2.2.1;rw [qnA x1 (by rw [x2];unfold limB;rw [decide_eq_false (show ¬ x.version≠w.current by simpa using y2')];simp)] at h4;cases h4]
   have y2':=beqF y2
   repeat((conv=>whnf);first|apply qza|apply qzb|apply qzc|apply qzd|apply qze|intro(_:Nat))
   conv=>whnf
   refine⟨fun y3=>?_,fun y3=>?_⟩
   ·repeat((conv=>whnf);first|apply qza|apply qzb|apply qzc|apply qzd|apply qze|intro(_:Nat))
    conv=>whnf
    intro g2 hg
    have y3':=of_decide_eq_true y3
    rw [qnD fun h=>by have h4:=h.2.2.1;rw [qnA x1 (by rw [x2];unfold limB;rw [decide_eq_false (show ¬ x.at_≤w.epoch by omega)];simp)] at h4;cases h4]
   have y3':=of_decide_eq_false y3
   repeat((conv=>whnf);first|apply qza|apply qzb|apply qzc|apply qzd|apply qze|intro(_:Nat))
   conv=>whnf
   refine fun fr w' hw=>⟨k+1,congrArg (fun z=>[Value.int .i64 z]) (wr1 h' e1 e2).symm,⟨h',by rw [hT];unfold limB;rw [decide_eq_true (show x.version<w.versions.length by omega),decide_eq_true y2',decide_eq_true (show x.at_≤w.epoch by omega)];rfl⟩,dec h',?_⟩
   exact hw.fit (by simp [fitL,Res.eqv,qAA,conc])
  have hkL:=of_decide_eq_false hlt
  rw [List.take_of_length_le (by omega)] at hp
  repeat((conv=>whnf);first|apply qza|apply qzb|apply qzc|apply qzd|apply qze|intro(_:Nat))
  conv=>whnf
  refine .inl ⟨_,qQU _ hR,?_⟩
  repeat((conv=>whnf);first|apply qza|apply qzb|apply qzc|apply qzd|apply qze|intro(_:Nat))
  conv=>whnf
  intro g2 hg
  unfold qEM
  rw [hLD,hVD,hp];rfl)
theorem qPU (g:GW) {cs:List Value} {w:Wd} (hw:rWo g cs w) (hsn:SnW w):OkV Tryz.prog qXJ [.agg ⟨cs⟩] g (.bool (wdB w)):=by
 have hw0:=hw
 obtain⟨a,b,c,d,e,rfl,⟨i1,i2,i3⟩,hP,hV,hL,hC,hR⟩:=hw
 obtain⟨oa,ca,rfl,a1,a2,a0,hP1⟩:=id hP
 obtain⟨ob,cb,rfl,b1,b2,b0,hV1⟩:=id hV
 obtain⟨oc,cc,rfl,c1,c2,c0,hL1⟩:=id hL
 obtain⟨od,cd,rfl,d1,d2,d0,hC1⟩:=id hC
 obtain⟨oe,ce,rfl,e1,e2,e0,hR1⟩:=id hR
 have gf:¬ GrP w→wdB w=false:=fun h=>qOG fun hh=>h (groundB_iff.1 hh.1).1
 exact Ok.of_fn hm noT 0 qDJ (args:=[.v (.agg ⟨wQ w oa ca ob cb oc cc od cd oe ce⟩)]) (by
  repeat((conv=>whnf);first|apply qza|apply qzb|apply qzc|apply qzd|apply qze|intro(_:Nat))
  conv=>whnf
  refine⟨fun z1=>?_,fun z1=>?_⟩
  ·repeat((conv=>whnf);first|apply qza|apply qzb|apply qzc|apply qzd|apply qze|intro(_:Nat))
   conv=>whnf
   intro g2 hg
   rw [gf fun h=>by have:=of_decide_eq_true z1;have:=h.1;omega]
  repeat((conv=>whnf);first|apply qza|apply qzb|apply qzc|apply qzd|apply qze|intro(_:Nat))
  conv=>whnf
  refine⟨fun z2=>?_,fun z2=>?_⟩
  ·repeat((conv=>whnf);first|apply qza|apply qzb|apply qzc|apply qzd|apply qze|intro(_:Nat))
   conv=>whnf
   intro g2 hg
   rw [gf fun h=>by have:=of_decide_eq_true z2;have:=h.2.1;omega]
  repeat((conv=>whnf);first|apply qza|apply qzb|apply qzc|apply qzd|apply qze|intro(_:Nat))
  conv=>whnf
  refine⟨fun z3=>?_,fun z3=>?_⟩
  ·repeat((conv=>whnf);first|apply qza|apply qzb|apply qzc|apply qzd|apply qze|intro(_:Nat))
   conv=>whnf
   intro g2 hg
   rw [gf fun h=>nneT z3 h.2.2.1]
  repeat((conv=>whnf);first|apply qza|apply qzb|apply qzc|apply qzd|apply qze|intro(_:Nat))
  conv=>whnf
  refine .inl ⟨_,qRU _ hC,?_⟩
  repeat((conv=>whnf);first|apply qza|apply qzb|apply qzc|apply qzd|apply qze|intro(_:Nat))
  conv=>whnf
  refine⟨fun z4=>?_,fun z4=>?_⟩
  ·repeat((conv=>whnf);first|apply qza|apply qzb|apply qzc|apply qzd|apply qze|intro(_:Nat))
   conv=>whnf
   intro g2 hg
   rw [gf fun h=>by rw [h.2.2.2.1] at z4;cases z4]
  repeat((conv=>whnf);first|apply qza|apply qzb|apply qzc|apply qzd|apply qze|intro(_:Nat))
  conv=>whnf
  refine⟨fun z5=>?_,fun z5=>?_⟩
  ·repeat((conv=>whnf);first|apply qza|apply qzb|apply qzc|apply qzd|apply qze|intro(_:Nat))
   conv=>whnf
   intro g2 hg
   rw [gf fun h=>by have:=of_decide_eq_true z5;have:=h.2.2.2.2.1;omega]
  repeat((conv=>whnf);first|apply qza|apply qzb|apply qzc|apply qzd|apply qze|intro(_:Nat))
  conv=>whnf
  refine⟨fun z6=>?_,fun z6=>?_⟩
  ·repeat((conv=>whnf);first|apply qza|apply qzb|apply qzc|apply qzd|apply qze|intro(_:Nat))
   conv=>whnf
   intro g2 hg
   rw [gf fun h=>by have:=of_decide_eq_true z6;have:=h.2.2.2.2.2.1;omega]
  repeat((conv=>whnf);first|apply qza|apply qzb|apply qzc|apply qzd|apply qze|intro(_:Nat))
  conv=>whnf
  refine⟨fun z7=>?_,fun z7=>?_⟩
  ·repeat((conv=>whnf);first|apply qza|apply qzb|apply qzc|apply qzd|apply qze|intro(_:Nat))
   conv=>whnf
   intro g2 hg
   rw [gf fun h=>by have:=of_decide_eq_true z7;have:=h.2.2.2.2.2.2;omega]
  repeat((conv=>whnf);first|apply qza|apply qzb|apply qzc|apply qzd|apply qze|intro(_:Nat))
  conv=>whnf
  refine⟨fun z8=>?_,fun z8=>?_⟩
  ·repeat((conv=>whnf);first|apply qza|apply qzb|apply qzc|apply qzd|apply qze|intro(_:Nat))
   conv=>whnf
   intro g2 hg
   rw [gf fun h=>by have:=of_decide_eq_true z8;have:=h.2.2.2.2.2.2;omega]
  have k1:=of_decide_eq_false z1
  have k2:=of_decide_eq_false z2
  have k3:=nneF z3
  have k4:=nb0 z4
  have k5:=of_decide_eq_false z5
  have k6:=of_decide_eq_false z6
  have k7:=of_decide_eq_false z7
  have k8:=of_decide_eq_false z8
  clear z1 z2 z3 z4 z5 z6 z7 z8
  have hGr:GrP w:=⟨by omega,by omega,k3,k4,by omega,by omega,by omega⟩
  repeat((conv=>whnf);first|apply qza|apply qzb|apply qzc|apply qzd|apply qze|intro(_:Nat))
  conv=>whnf
  refine⟨Nat,fun k=>[.v (.int .i64 k)],fun _=>⟨g,_,_,_⟩,fun k=>k≤w.pins.length∧(w.pins.take k).all (qdG w)=true,fun k=>w.pins.length-k,qDA 0 rfl ⟨Nat.zero_le _,by simp⟩ rfl,?_⟩
  rintro k ⟨hk,hp⟩
  repeat((conv=>whnf);first|apply qza|apply qzb|apply qzc|apply qzd|apply qze|intro(_:Nat))
  conv=>whnf
  refine⟨fun hlt=>?_,fun hlt=>?_⟩
  ·have h':k<w.pins.length:=by have:=of_decide_eq_true hlt;omega
   obtain⟨x,hx⟩:=qBA h'
   obtain⟨a,rfl,ec,hec,⟨rfl,hxr⟩,hc⟩:=hP1 k x hx
   obtain⟨c1',c2'⟩:=List.getElem?_eq_some_iff.1 hx
   have hT:(w.pins.take (k+1)).all (qdG w)=qdG w x:=by rw [qrB c1',hp,c2'];rfl
   have gg:qdG w x=false→wdB w=false:=fun h=>qOG fun hh=>by
    have:=(groundB_iff.1 hh.1).2
    rw [qnA c1' (by rw [c2'];exact h)] at this;cases this
   repeat((conv=>whnf);first|apply qza|apply qzb|apply qzc|apply qzd|apply qze|intro(_:Nat))
   conv=>whnf
   refine⟨a,rfl,⟨by omega,by omega⟩,?_⟩
   conv=>whnf
   refine⟨_,hc 0 _ rfl,?_⟩
   repeat((conv=>whnf);first|apply qza|apply qzb|apply qzc|apply qzd|apply qze|intro(_:Nat))
   conv=>whnf
   refine⟨fun y1=>?_,fun y1=>?_⟩
   ·repeat((conv=>whnf);first|apply qza|apply qzb|apply qzc|apply qzd|apply qze|intro(_:Nat))
    conv=>whnf
    intro g2 hg
    have y1':=of_decide_eq_true y1
    rw [gg (by unfold qdG;rw [decide_eq_false (by omega)];rfl)]
   have y1':=of_decide_eq_false y1
   repeat((conv=>whnf);first|apply qza|apply qzb|apply qzc|apply qzd|apply qze|intro(_:Nat))
   conv=>whnf
   refine⟨a,rfl,⟨by omega,by omega⟩,?_⟩
   conv=>whnf
   refine⟨_,hc 0 _ rfl,?_⟩
   repeat((conv=>whnf);first|apply qza|apply qzb|apply qzc|apply qzd|apply qze|intro(_:Nat))
   conv=>whnf
   refine⟨fun y2=>?_,fun y2=>?_⟩
   ·repeat((conv=>whnf);first|apply qza|apply qzb|apply qzc|apply qzd|apply qze|intro(_:Nat))
    conv=>whnf
    intro g2 hg
    have y2':=of_decide_eq_true y2
    rw [wr (by unfold InR;omega)] at y2'
    rw [gg (by unfold qdG;rw [decide_eq_false (show ¬ x≤w.epoch+1 by omega)];simp)]
   have y2':=of_decide_eq_false y2
   rw [wr (by unfold InR;omega)] at y2'
   repeat((conv=>whnf);first|apply qza|apply qzb|apply qzc|apply qzd|apply qze|intro(_:Nat))
   conv=>whnf
   refine fun fr w' hw=>⟨k+1,congrArg (fun z=>[Value.int .i64 z]) (wr1 h' a1 a2).symm,⟨h',by rw [hT];unfold qdG;rw [decide_eq_true (show 0≤x by omega),decide_eq_true (show x≤w.epoch+1 by omega)];rfl⟩,dec h',?_⟩
   exact hw.fit (by simp [fitL,Res.eqv,qAA,conc])
  have:=of_decide_eq_false hlt
  rw [List.take_of_length_le (by omega)] at hp
  have hG:=groundB_iff.2 ⟨hGr,hp⟩
  clear hlt hk this hp
  repeat((conv=>whnf);first|apply qza|apply qzb|apply qzc|apply qzd|apply qze|intro(_:Nat))
  conv=>whnf
  refine⟨fun z1=>?_,fun z1=>?_⟩
  ·repeat((conv=>whnf);first|apply qza|apply qzb|apply qzc|apply qzd|apply qze|intro(_:Nat))
   conv=>whnf
   intro g2 hg
   rw [qOG fun h=>by have:=of_decide_eq_true z1;have:=h.2.1;omega]
  repeat((conv=>whnf);first|apply qza|apply qzb|apply qzc|apply qzd|apply qze|intro(_:Nat))
  conv=>whnf
  refine⟨fun z2=>?_,fun z2=>?_⟩
  ·repeat((conv=>whnf);first|apply qza|apply qzb|apply qzc|apply qzd|apply qze|intro(_:Nat))
   conv=>whnf
   intro g2 hg
   rw [qOG fun h=>by have:=of_decide_eq_true z2;have:=h.2.1;omega]
  repeat((conv=>whnf);first|apply qza|apply qzb|apply qzc|apply qzd|apply qze|intro(_:Nat))
  conv=>whnf
  refine .inl ⟨_,qLT _ hw0 hsn,?_⟩
  repeat((conv=>whnf);first|apply qza|apply qzb|apply qzc|apply qzd|apply qze|intro(_:Nat))
  conv=>whnf
  refine⟨fun z3=>?_,fun z3=>?_⟩
  ·repeat((conv=>whnf);first|apply qza|apply qzb|apply qzc|apply qzd|apply qze|intro(_:Nat))
   conv=>whnf
   intro g2 hg
   rw [show wdB w=false from Bool.eq_false_iff.2 fun h=>by rw [(wdB_lists.1 h).2.2] at z3;cases z3]
  have k1':=of_decide_eq_false z1
  have k2':=of_decide_eq_false z2
  have hW:=wdB_lists.2 ⟨hG,⟨by omega,by omega⟩,nb0 z3⟩
  obtain⟨x,hx⟩:=qBA (l:=w.versions) (i:=w.current.toNat) (by omega)
  obtain⟨a,rfl,ec,hec,⟨va,vb,vd,vn,rfl,_⟩,hc⟩:=hV1 _ x hx
  repeat((conv=>whnf);first|apply qza|apply qzb|apply qzc|apply qzd|apply qze|intro(_:Nat))
  conv=>whnf
  refine⟨a,rfl,⟨by omega,by omega⟩,?_⟩
  conv=>whnf
  refine⟨_,hc 4 _ rfl,?_⟩
  repeat((conv=>whnf);first|apply qza|apply qzb|apply qzc|apply qzd|apply qze|intro(_:Nat))
  conv=>whnf
  intro g2 hg
  rw [qfO hW hx,hW];rfl)
end Go.Proofs.YtkogfpniapaigaaGreat
