/- Worlds: is one right? The program's answer. -/
import Derived.Test.YthonngjhelcpeaaGreatLS7c
set_option linter.unusedVariables false
set_option linter.unusedSimpArgs false
namespace Go.Proofs.YthonngjhelcpeaaGreat
open Go.Proofs.YthonngjhelcpeaaGreat.Sx Go.RowKit
set_option maxHeartbeats 16000000
set_option maxRecDepth 100000
def SnW (w:Wd):Prop:=∀ v∈w.versions,SnS v.snap
theorem wdB_iff {w:Wd}:wdB w=true↔qcB w=true∧(0≤w.current∧w.current<w.versions.length)∧qJM w.limbo=true∧w.limbo.all (limB w)=true∧allI (verB w) w.versions=true∧allI (qGC w.listens) w.listens=true:=by
 unfold wdB
 simp only [Bool.and_eq_true,decide_eq_true_eq]
 constructor
 ·rintro⟨⟨⟨⟨⟨⟨h1,h2⟩,h3⟩,h4⟩,h5⟩,h6⟩,h7⟩
  exact⟨h1,⟨h2,h3⟩,h4,h5,h6,h7⟩
 ·rintro⟨h1,⟨h2,h3⟩,h4,h5,h6,h7⟩
  exact⟨⟨⟨⟨⟨⟨h1,h2⟩,h3⟩,h4⟩,h5⟩,h6⟩,h7⟩
theorem qDL {w:Wd} (h:¬ (qcB w=true∧(0≤w.current∧w.current<w.versions.length)∧qJM w.limbo=true∧w.limbo.all (limB w)=true∧allI (verB w) w.versions=true∧allI (qGC w.listens) w.listens=true)):wdB w=false:=by
 rw [Bool.eq_false_iff];intro hh;exact h (wdB_iff.1 hh)
theorem q1L (g:GW) {cs:List Value} {w:Wd} (hw:rWo g cs w) (hsn:SnW w):OkV Tryz.prog quS [.agg ⟨cs⟩] g (.bool (wdB w)):=by
 have hw0:=hw
 obtain⟨a,b,c,d,e,rfl,⟨i1,i2,i3⟩,hP,hV,hL,hC,hR⟩:=hw
 obtain⟨oa,ca,rfl,a1,a2,a0,hP1⟩:=id hP
 obtain⟨ob,cb,rfl,b1,b2,b0,hV1⟩:=id hV
 obtain⟨oc,cc,rfl,c1,c2,c0,hL1⟩:=id hL
 obtain⟨od,cd,rfl,d1,d2,d0,hC1⟩:=id hC
 obtain⟨oe,ce,rfl,e1,e2,e0,hR1⟩:=id hR
 exact Ok.of_fn hm noT 0 qNS (args:=[.v (.agg ⟨wQ w oa ca ob cb oc cc od cd oe ce⟩)]) (by
  repeat((conv=>whnf);first|apply qza|apply qzb|apply qzc|apply qzd|apply qze|intro(_:Nat))
  conv=>whnf
  refine .inl ⟨_,quT _ hw0,?_⟩
  repeat((conv=>whnf);first|apply qza|apply qzb|apply qzc|apply qzd|apply qze|intro(_:Nat))
  conv=>whnf
  refine⟨fun z1=>?_,fun z1=>?_⟩
  ·repeat((conv=>whnf);first|apply qza|apply qzb|apply qzc|apply qzd|apply qze|intro(_:Nat))
   conv=>whnf
   intro g2 hg
   rw [qDL fun h=>by rw [h.1] at z1;cases z1]
  repeat((conv=>whnf);first|apply qza|apply qzb|apply qzc|apply qzd|apply qze|intro(_:Nat))
  conv=>whnf
  refine⟨fun z2=>?_,fun z2=>?_⟩
  ·repeat((conv=>whnf);first|apply qza|apply qzb|apply qzc|apply qzd|apply qze|intro(_:Nat))
   conv=>whnf
   intro g2 hg
   rw [qDL fun h=>by have:=of_decide_eq_true z2;have:=h.2.1;omega]
  repeat((conv=>whnf);first|apply qza|apply qzb|apply qzc|apply qzd|apply qze|intro(_:Nat))
  conv=>whnf
  refine⟨fun z3=>?_,fun z3=>?_⟩
  ·repeat((conv=>whnf);first|apply qza|apply qzb|apply qzc|apply qzd|apply qze|intro(_:Nat))
   conv=>whnf
   intro g2 hg
   rw [qDL fun h=>by have:=of_decide_eq_true z3;have:=h.2.1;omega]
  repeat((conv=>whnf);first|apply qza|apply qzb|apply qzc|apply qzd|apply qze|intro(_:Nat))
  conv=>whnf
  refine .inl ⟨_,q4W _ hR,?_⟩
  repeat((conv=>whnf);first|apply qza|apply qzb|apply qzc|apply qzd|apply qze|intro(_:Nat))
  conv=>whnf
  refine⟨fun z4=>?_,fun z4=>?_⟩
  ·repeat((conv=>whnf);first|apply qza|apply qzb|apply qzc|apply qzd|apply qze|intro(_:Nat))
   conv=>whnf
   intro g2 hg
   rw [qDL fun h=>by rw [h.2.2.1] at z4;cases z4]
  have k1:=nb0 z1
  have k2:=of_decide_eq_false z2
  have k3:=of_decide_eq_false z3
  have k4:=nb0 z4
  clear z1 z2 z3 z4
  repeat((conv=>whnf);first|apply qza|apply qzb|apply qzc|apply qzd|apply qze|intro(_:Nat))
  rename_i q0 qm
  conv=>whnf
  refine⟨Nat,fun k=>[.v (.int .i64 k)],fun k=>⟨g,[.mp 1 qm .i64 (qKL (w.limbo.take k)),.blk 0 q0 qMA [.v (.int .i64 w.epoch),.v (.int .i64 w.current),.v (.int .i64 w.lock),.v (.slice oa w.pins.length ca),.v (.slice ob w.versions.length cb),.v (.slice oc w.listens.length cc),.v (.slice od w.counts.length cd),.v (.slice oe w.limbo.length ce)]],10,g.w.heap.size⟩,fun k=>k≤w.limbo.length∧(w.limbo.take k).all (limB w)=true,fun k=>w.limbo.length-k,fun fr w' hw=>⟨0,rfl,⟨Nat.zero_le _,by simp⟩,hw.fit (by simp [fitL,Res.eqv,qDA,conc,qKL])⟩,?_⟩
  rintro k ⟨hk,hp⟩
  repeat((conv=>whnf);first|apply qza|apply qzb|apply qzc|apply qzd|apply qze|intro(_:Nat))
  conv=>whnf
  refine⟨fun hlt=>?_,fun hlt=>?_⟩
  ·have h':k<w.limbo.length:=by have:=of_decide_eq_true hlt;omega
   obtain⟨x,hx⟩:=qCA h'
   obtain⟨a,rfl,ec,hec,⟨rfl,xr1,xr2⟩,hc⟩:=hR1 k x hx
   obtain⟨x1,x2⟩:=List.getElem?_eq_some_iff.1 hx
   have hT:(w.limbo.take (k+1)).all (limB w)=limB w x:=by rw [qvH x1,hp,x2];rfl
   have hF:=qXN hx
   repeat((conv=>whnf);first|apply qza|apply qzb|apply qzc|apply qzd|apply qze|intro(_:Nat))
   conv=>whnf
   refine⟨a,rfl,⟨by omega,by omega⟩,?_⟩
   conv=>whnf
   refine⟨_,⟨rfl,hc⟩,?_⟩
   repeat((conv=>whnf);first|apply qza|apply qzb|apply qzc|apply qzd|apply qze|intro(_:Nat))
   conv=>whnf
   refine⟨fun y1=>?_,fun y1=>?_⟩
   ·repeat((conv=>whnf);first|apply qza|apply qzb|apply qzc|apply qzd|apply qze|intro(_:Nat))
    conv=>whnf
    intro g2 hg
    have y1':=of_decide_eq_true y1
    rw [qDL fun h=>by have h4:=h.2.2.2.1;rw [qED x1 (by rw [x2];unfold limB;rw [decide_eq_false (by omega)];rfl)] at h4;cases h4]
   have y1':=of_decide_eq_false y1
   repeat((conv=>whnf);first|apply qza|apply qzb|apply qzc|apply qzd|apply qze|intro(_:Nat))
   conv=>whnf
   refine⟨fun y2=>?_,fun y2=>?_⟩
   ·repeat((conv=>whnf);first|apply qza|apply qzb|apply qzc|apply qzd|apply qze|intro(_:Nat))
    conv=>whnf
    intro g2 hg
    have y2':=beqT y2
    rw [qDL fun h=>by have h4:=h.2.2.2.1;rw [qED x1 (by rw [x2];unfold limB;rw [decide_eq_false (show ¬ x.version≠w.current by simpa using y2')];simp)] at h4;cases h4]
   have y2':=beqF y2
   repeat((conv=>whnf);first|apply qza|apply qzb|apply qzc|apply qzd|apply qze|intro(_:Nat))
   conv=>whnf
   refine⟨fun y3=>?_,fun y3=>?_⟩
   ·repeat((conv=>whnf);first|apply qza|apply qzb|apply qzc|apply qzd|apply qze|intro(_:Nat))
    conv=>whnf
    intro g2 hg
    have y3':=of_decide_eq_true y3
    rw [qDL fun h=>by have h4:=h.2.2.2.1;rw [qED x1 (by rw [x2];unfold limB;rw [decide_eq_false (show ¬ x.at_≤w.epoch by omega)];simp)] at h4;cases h4]
   have y3':=of_decide_eq_false y3
   repeat((conv=>whnf);first|apply qza|apply qzb|apply qzc|apply qzd|apply qze|intro(_:Nat))
   conv=>whnf
   refine fun fr w' hw=>⟨k+1,congrArg (fun z=>[Value.int .i64 z]) (wr1 h' e1 e2).symm,⟨h',by rw [hT];unfold limB;rw [decide_eq_true (show x.version<w.versions.length by omega),decide_eq_true y2',decide_eq_true (show x.at_≤w.epoch by omega)];rfl⟩,dec h',hw.fit ?_⟩
   simp only [hF]
   simp [fitL,Res.eqv,qDA,conc]
  have hkL:=of_decide_eq_false hlt
  rw [List.take_of_length_le (by omega)] at hp
  obtain rfl:k=w.limbo.length:=by omega
  have hlk:=fun n=>qYN (n:=n) (qRV k4) (Nat.le_refl w.limbo.length)
  rw [List.take_length] at hlk
  simp only [List.take_length]
  clear hlt hkL hk
  repeat((conv=>whnf);first|apply qza|apply qzb|apply qzc|apply qzd|apply qze|intro(_:Nat))
  conv=>whnf
  refine⟨Nat,fun k=>[.v (.int .i64 k)],fun _=>⟨g,[.mp 1 qm .i64 (qKL w.limbo),.blk 0 q0 qMA [.v (.int .i64 w.epoch),.v (.int .i64 w.current),.v (.int .i64 w.lock),.v (.slice oa w.pins.length ca),.v (.slice ob w.versions.length cb),.v (.slice oc w.listens.length cc),.v (.slice od w.counts.length cd),.v (.slice oe w.limbo.length ce)]],10,g.w.heap.size⟩,fun k=>k≤w.versions.length∧AllK (verB w) w.versions k,fun k=>w.versions.length-k,fun fr w' hw=>⟨0,rfl,⟨Nat.zero_le _,AllK.zero _ _⟩,hw.fit (by simp [fitL,Res.eqv,qDA,conc])⟩,?_⟩
  rintro k ⟨hk,hq⟩
  repeat((conv=>whnf);first|apply qza|apply qzb|apply qzc|apply qzd|apply qze|intro(_:Nat))
  conv=>whnf
  refine⟨fun hlt=>?_,fun hlt=>?_⟩
  ·have h':k<w.versions.length:=by have:=of_decide_eq_true hlt;omega
   obtain⟨x,hx⟩:=qCA h'
   obtain⟨a,rfl,ec,hec,hxv,hc⟩:=hV1 k x hx
   have hxv0:=hxv
   obtain⟨va,vb,vd,vn,rfl,⟨_,_,_,hee,⟨oa',ca',rfl,_⟩,⟨ob',cb',rfl,_⟩,⟨od',cd',rfl,_⟩⟩,⟨on',cn',rfl,_⟩⟩:=hxv
   cases hee
   repeat((conv=>whnf);first|apply qza|apply qzb|apply qzc|apply qzd|apply qze|intro(_:Nat))
   conv=>whnf
   refine⟨a,rfl,⟨by omega,by omega⟩,?_⟩
   conv=>whnf
   refine⟨_,⟨rfl,hc⟩,?_⟩
   repeat((conv=>whnf);first|apply qza|apply qzb|apply qzc|apply qzd|apply qze|intro(_:Nat))
   conv=>whnf
   refine .inl ⟨_,qxQ _ hxv0 (hsn x (List.mem_of_getElem? hx)),?_⟩
   repeat((conv=>whnf);first|apply qza|apply qzb|apply qzc|apply qzd|apply qze|intro(_:Nat))
   conv=>whnf
   refine⟨fun y1=>?_,fun y1=>?_⟩
   ·repeat((conv=>whnf);first|apply qza|apply qzb|apply qzc|apply qzd|apply qze|intro(_:Nat))
    conv=>whnf
    intro g2 hg
    rw [qDL fun h=>by have h4:=h.2.2.2.2.1;rw [qMB hx (by unfold verB;rw [nb1 y1];rfl)] at h4;cases h4]
   repeat((conv=>whnf);first|apply qza|apply qzb|apply qzc|apply qzd|apply qze|intro(_:Nat))
   rcases ho:mGet (k:Int) (qKL w.limbo) with _|u
   ·have hl0:=hlk (k:Int)
    rw [ho] at hl0
    simp only [q0P,Value.bool.injEq] at hl0
    conv=>whnf
    refine⟨none,rfl,?_⟩
    repeat((conv=>whnf);first|apply qza|apply qzb|apply qzc|apply qzd|apply qze|intro(_:Nat))
    conv=>whnf
    refine⟨fun y2=>?_,fun y2=>?_⟩
    ·repeat((conv=>whnf);first|apply qza|apply qzb|apply qzc|apply qzd|apply qze|intro(_:Nat))
     conv=>whnf
     intro g2 hg
     rw [qDL fun h=>by have h4:=h.2.2.2.2.1;rw [qMB hx (by unfold verB;rw [nb0 y1,← hl0];simpa using y2)] at h4;cases h4]
    repeat((conv=>whnf);first|apply qza|apply qzb|apply qzc|apply qzd|apply qze|intro(_:Nat))
    conv=>whnf
    refine fun fr w' hw=>⟨k+1,congrArg (fun z=>[Value.int .i64 z]) (wr1 h' b1 b2).symm,⟨h',hq.succ hx (by unfold verB;rw [nb0 y1,← hl0];simpa using y2)⟩,dec h',?_⟩
    exact hw.fit (by simp [fitL,Res.eqv,qDA,conc])
   ·have hl0:=hlk (k:Int)
    rw [ho] at hl0
    simp only [q0P] at hl0
    subst hl0
    conv=>whnf
    refine⟨_,rfl,?_⟩
    repeat((conv=>whnf);first|apply qza|apply qzb|apply qzc|apply qzd|apply qze|intro(_:Nat))
    conv=>whnf
    refine⟨fun y2=>?_,fun y2=>?_⟩
    ·repeat((conv=>whnf);first|apply qza|apply qzb|apply qzc|apply qzd|apply qze|intro(_:Nat))
     conv=>whnf
     intro g2 hg
     rw [qDL fun h=>by have h4:=h.2.2.2.2.1;rw [qMB hx (by unfold verB;rw [nb0 y1];simpa using y2)] at h4;cases h4]
    repeat((conv=>whnf);first|apply qza|apply qzb|apply qzc|apply qzd|apply qze|intro(_:Nat))
    conv=>whnf
    refine fun fr w' hw=>⟨k+1,congrArg (fun z=>[Value.int .i64 z]) (wr1 h' b1 b2).symm,⟨h',hq.succ hx (by unfold verB;rw [nb0 y1];simpa using y2)⟩,dec h',?_⟩
    exact hw.fit (by simp [fitL,Res.eqv,qDA,conc])
  have hqD:=hq.done (by have:=of_decide_eq_false hlt;omega)
  clear hlt hk hq
  repeat((conv=>whnf);first|apply qza|apply qzb|apply qzc|apply qzd|apply qze|intro(_:Nat))
  conv=>whnf
  refine⟨Nat,fun k=>[.v (.int .i64 k)],fun _=>⟨g,[.mp 1 qm .i64 (qKL w.limbo),.blk 0 q0 qMA [.v (.int .i64 w.epoch),.v (.int .i64 w.current),.v (.int .i64 w.lock),.v (.slice oa w.pins.length ca),.v (.slice ob w.versions.length cb),.v (.slice oc w.listens.length cc),.v (.slice od w.counts.length cd),.v (.slice oe w.limbo.length ce)]],10,g.w.heap.size⟩,fun k=>k≤w.listens.length∧AllK (qGC w.listens) w.listens k,fun k=>w.listens.length-k,fun fr w' hw=>⟨0,rfl,⟨Nat.zero_le _,AllK.zero _ _⟩,hw.fit (by simp [fitL,Res.eqv,qDA,conc])⟩,?_⟩
  rintro k ⟨hk,hq⟩
  repeat((conv=>whnf);first|apply qza|apply qzb|apply qzc|apply qzd|apply qze|intro(_:Nat))
  conv=>whnf
  refine⟨fun hlt=>?_,fun hlt=>?_⟩
  ·have h':k<w.listens.length:=by have:=of_decide_eq_true hlt;omega
   obtain⟨x,hx⟩:=qCA h'
   obtain⟨a,rfl,ec,hec,⟨rfl,hxa⟩,hc⟩:=hL1 k x hx
   repeat((conv=>whnf);first|apply qza|apply qzb|apply qzc|apply qzd|apply qze|intro(_:Nat))
   conv=>whnf
   refine⟨a,rfl,⟨by omega,by omega⟩,?_⟩
   conv=>whnf
   refine⟨_,⟨rfl,hc⟩,?_⟩
   repeat((conv=>whnf);first|apply qza|apply qzb|apply qzc|apply qzd|apply qze|intro(_:Nat))
   conv=>whnf
   refine .inl ⟨_,qEX _ (x:=x) ⟨rfl,hxa⟩,?_⟩
   repeat((conv=>whnf);first|apply qza|apply qzb|apply qzc|apply qzd|apply qze|intro(_:Nat))
   conv=>whnf
   refine⟨fun y1=>?_,fun y1=>?_⟩
   ·repeat((conv=>whnf);first|apply qza|apply qzb|apply qzc|apply qzd|apply qze|intro(_:Nat))
    conv=>whnf
    intro g2 hg
    rw [qDL fun h=>by have h4:=h.2.2.2.2.2;rw [qMB hx (by unfold qGC;rw [nb1 y1];rfl)] at h4;cases h4]
   repeat((conv=>whnf);first|apply qza|apply qzb|apply qzc|apply qzd|apply qze|intro(_:Nat))
   conv=>whnf
   refine .inl ⟨_,qrJ _ hL _,?_⟩
   repeat((conv=>whnf);first|apply qza|apply qzb|apply qzc|apply qzd|apply qze|intro(_:Nat))
   conv=>whnf
   refine⟨fun y2=>?_,fun y2=>?_⟩
   ·repeat((conv=>whnf);first|apply qza|apply qzb|apply qzc|apply qzd|apply qze|intro(_:Nat))
    conv=>whnf
    intro g2 hg
    rw [qDL fun h=>by have h4:=h.2.2.2.2.2;rw [qMB hx (by unfold qGC;rw [decide_eq_false (bneT y2)];simp)] at h4;cases h4]
   repeat((conv=>whnf);first|apply qza|apply qzb|apply qzc|apply qzd|apply qze|intro(_:Nat))
   conv=>whnf
   refine fun fr w' hw=>⟨k+1,congrArg (fun z=>[Value.int .i64 z]) (wr1 h' c1 c2).symm,⟨h',hq.succ hx (by unfold qGC;rw [nb0 y1,decide_eq_true (bneF y2)];rfl)⟩,dec h',?_⟩
   exact hw.fit (by simp [fitL,Res.eqv,qDA,conc])
  have hrD:=hq.done (by have:=of_decide_eq_false hlt;omega)
  repeat((conv=>whnf);first|apply qza|apply qzb|apply qzc|apply qzd|apply qze|intro(_:Nat))
  conv=>whnf
  intro g2 hg
  rw [wdB_iff.2 ⟨k1,⟨by omega,by omega⟩,k4,hp,hqD,hrD⟩])
/- Worlds: is one right? The document's answer. -/
open Go.Proofs.YthonngjhelcpeaaGreat.Sx Go.RowKit
/- Worlds: those that are the same are found the same. -/
open Go.Proofs.YthonngjhelcpeaaGreat.Sx Go.RowKit
theorem qyQ (g:GW) {v v':Value} {l:List Int} (hl:rSl 1 rInt g v l) (hl':rSl 1 rInt g v' l):OkV Tryz.prog qOG [v,v'] g (.bool true) :=
 Ok.of_fn hm noT 0 q5F (args:=[.v v,.v v']) (by
  obtain⟨oa,ca,rfl,a1,a2,a0,ha⟩:=hl
  obtain⟨ob,cb,rfl,b1,b2,b0,hb⟩:=hl'
  repeat((conv=>whnf);first|apply qza|apply qzb|apply qzc|apply qzd|apply qze|intro(_:Nat))
  conv=>whnf
  refine⟨fun hx=>absurd hx (by simp),fun _=>?_⟩
  repeat((conv=>whnf);first|apply qza|apply qzb|apply qzc|apply qzd|apply qze|intro(_:Nat))
  conv=>whnf
  refine⟨Nat,fun k=>[.v (.int .i64 k)],fun _=>⟨g,_,_,_⟩,fun k=>k≤l.length,fun k=>l.length-k,qJA 0 rfl (Nat.zero_le _) rfl,?_⟩
  intro k hk
  repeat((conv=>whnf);first|apply qza|apply qzb|apply qzc|apply qzd|apply qze|intro(_:Nat))
  conv=>whnf
  refine⟨fun hlt=>?_,fun hlt=>?_⟩
  ·have h':k<l.length:=by have:=of_decide_eq_true hlt;omega
   obtain⟨x,hx⟩:=qCA h'
   obtain⟨a,rfl,ec,hec,⟨rfl,_⟩,hc⟩:=ha k x hx
   obtain⟨b,rfl,ec',hec',⟨rfl,_⟩,hc'⟩:=hb k x hx
   repeat((conv=>whnf);first|apply qza|apply qzb|apply qzc|apply qzd|apply qze|intro(_:Nat))
   conv=>whnf
   refine⟨a,rfl,⟨by omega,by omega⟩,?_⟩
   conv=>whnf
   refine⟨_,hc 0 _ rfl,?_⟩
   repeat((conv=>whnf);first|apply qza|apply qzb|apply qzc|apply qzd|apply qze|intro(_:Nat))
   conv=>whnf
   refine⟨b,rfl,⟨by omega,by omega⟩,?_⟩
   conv=>whnf
   refine⟨_,hc' 0 _ rfl,?_⟩
   repeat((conv=>whnf);first|apply qza|apply qzb|apply qzc|apply qzd|apply qze|intro(_:Nat))
   conv=>whnf
   refine⟨fun hx=>absurd hx (by simp),fun _=>?_⟩
   repeat((conv=>whnf);first|apply qza|apply qzb|apply qzc|apply qzd|apply qze|intro(_:Nat))
   conv=>whnf
   refine fun fr w hw=>⟨k+1,congrArg (fun z=>[Value.int .i64 z]) (wr1 h' a1 a2).symm,h',dec h',?_⟩
   exact hw.fit (by simp [fitL,Res.eqv,qDA,conc])
  ·repeat((conv=>whnf);first|apply qza|apply qzb|apply qzc|apply qzd|apply qze|intro(_:Nat))
   conv=>whnf
   intro g2 hg
   rfl)
theorem qcP (g:GW) {v v':Value} {l:List Retired} (hl:rSl 3 qaB g v l) (hl':rSl 3 qaB g v' l):OkV Tryz.prog q7I [v,v'] g (.bool true) :=
 Ok.of_fn hm noT 0 qoI (args:=[.v v,.v v']) (by
  obtain⟨oa,ca,rfl,a1,a2,a0,ha⟩:=hl
  obtain⟨ob,cb,rfl,b1,b2,b0,hb⟩:=hl'
  repeat((conv=>whnf);first|apply qza|apply qzb|apply qzc|apply qzd|apply qze|intro(_:Nat))
  conv=>whnf
  refine⟨fun hx=>absurd hx (by simp),fun _=>?_⟩
  repeat((conv=>whnf);first|apply qza|apply qzb|apply qzc|apply qzd|apply qze|intro(_:Nat))
  conv=>whnf
  refine⟨Nat,fun k=>[.v (.int .i64 k)],fun _=>⟨g,_,_,_⟩,fun k=>k≤l.length,fun k=>l.length-k,qJA 0 rfl (Nat.zero_le _) rfl,?_⟩
  intro k hk
  repeat((conv=>whnf);first|apply qza|apply qzb|apply qzc|apply qzd|apply qze|intro(_:Nat))
  conv=>whnf
  refine⟨fun hlt=>?_,fun hlt=>?_⟩
  ·have h':k<l.length:=by have:=of_decide_eq_true hlt;omega
   obtain⟨x,hx⟩:=qCA h'
   obtain⟨a,rfl,ec,hec,⟨rfl,_⟩,hc⟩:=ha k x hx
   obtain⟨b,rfl,ec',hec',⟨rfl,_⟩,hc'⟩:=hb k x hx
   repeat((conv=>whnf);first|apply qza|apply qzb|apply qzc|apply qzd|apply qze|intro(_:Nat))
   conv=>whnf
   refine⟨a,rfl,⟨by omega,by omega⟩,?_⟩
   conv=>whnf
   refine⟨_,⟨rfl,hc⟩,?_⟩
   repeat((conv=>whnf);first|apply qza|apply qzb|apply qzc|apply qzd|apply qze|intro(_:Nat))
   conv=>whnf
   refine⟨b,rfl,⟨by omega,by omega⟩,?_⟩
   conv=>whnf
   refine⟨_,⟨rfl,hc'⟩,?_⟩
   repeat((conv=>whnf);first|apply qza|apply qzb|apply qzc|apply qzd|apply qze|intro(_:Nat))
   conv=>whnf
   refine⟨fun hx=>absurd hx (by simp),fun _=>?_⟩
   repeat((conv=>whnf);first|apply qza|apply qzb|apply qzc|apply qzd|apply qze|intro(_:Nat))
   conv=>whnf
   refine fun fr w hw=>⟨k+1,congrArg (fun z=>[Value.int .i64 z]) (wr1 h' a1 a2).symm,h',dec h',?_⟩
   exact hw.fit (by simp [fitL,Res.eqv,qDA,conc])
  ·repeat((conv=>whnf);first|apply qza|apply qzb|apply qzc|apply qzd|apply qze|intro(_:Nat))
   conv=>whnf
   intro g2 hg
   rfl)
theorem qGO (g:GW) {v v':Value} {l:List (List Int)} (hl:rSl 1 rRow g v l) (hl':rSl 1 rRow g v' l):OkV Tryz.prog q9I [v,v'] g (.bool true) :=
 Ok.of_fn hm noT 0 qqI (args:=[.v v,.v v']) (by
  obtain⟨oa,ca,rfl,a1,a2,a0,ha⟩:=hl
  obtain⟨ob,cb,rfl,b1,b2,b0,hb⟩:=hl'
  repeat((conv=>whnf);first|apply qza|apply qzb|apply qzc|apply qzd|apply qze|intro(_:Nat))
  conv=>whnf
  refine⟨fun hx=>absurd hx (by simp),fun _=>?_⟩
  repeat((conv=>whnf);first|apply qza|apply qzb|apply qzc|apply qzd|apply qze|intro(_:Nat))
  conv=>whnf
  refine⟨Nat,fun k=>[.v (.int .i64 k)],fun _=>⟨g,_,_,_⟩,fun k=>k≤l.length,fun k=>l.length-k,qJA 0 rfl (Nat.zero_le _) rfl,?_⟩
  intro k hk
  repeat((conv=>whnf);first|apply qza|apply qzb|apply qzc|apply qzd|apply qze|intro(_:Nat))
  conv=>whnf
  refine⟨fun hlt=>?_,fun hlt=>?_⟩
  ·have h':k<l.length:=by have:=of_decide_eq_true hlt;omega
   obtain⟨x,hx⟩:=qCA h'
   obtain⟨a,rfl,ec,hec,⟨n,rfl,hn⟩,hc⟩:=ha k x hx
   obtain⟨b,rfl,ec',hec',⟨n',rfl,hn'⟩,hc'⟩:=hb k x hx
   obtain⟨oc,cc,rfl,c1,c2,c0,hn1⟩:=hn
   obtain⟨od,cd,rfl,d1,d2,d0,hn1'⟩:=hn'
   repeat((conv=>whnf);first|apply qza|apply qzb|apply qzc|apply qzd|apply qze|intro(_:Nat))
   conv=>whnf
   refine⟨a,rfl,⟨by omega,by omega⟩,?_⟩
   conv=>whnf
   refine⟨_,hc 0 _ rfl,?_⟩
   repeat((conv=>whnf);first|apply qza|apply qzb|apply qzc|apply qzd|apply qze|intro(_:Nat))
   conv=>whnf
   refine⟨b,rfl,⟨by omega,by omega⟩,?_⟩
   conv=>whnf
   refine⟨_,hc' 0 _ rfl,?_⟩
   repeat((conv=>whnf);first|apply qza|apply qzb|apply qzc|apply qzd|apply qze|intro(_:Nat))
   conv=>whnf
   refine⟨fun hx=>absurd hx (by simp),fun _=>?_⟩
   repeat((conv=>whnf);first|apply qza|apply qzb|apply qzc|apply qzd|apply qze|intro(_:Nat))
   conv=>whnf
   refine⟨Nat,fun n=>[.v (.int .i64 n)],fun _=>⟨g,_,_,_⟩,fun n=>n≤x.length,fun n=>x.length-n,qJA 0 rfl (Nat.zero_le _) rfl,?_⟩
   intro n hn
   repeat((conv=>whnf);first|apply qza|apply qzb|apply qzc|apply qzd|apply qze|intro(_:Nat))
   conv=>whnf
   refine⟨a,rfl,⟨by omega,by omega⟩,?_⟩
   conv=>whnf
   refine⟨_,hc 0 _ rfl,?_⟩
   repeat((conv=>whnf);first|apply qza|apply qzb|apply qzc|apply qzd|apply qze|intro(_:Nat))
   conv=>whnf
   refine⟨fun hln=>?_,fun hln=>?_⟩
   ·have h2:n<x.length:=by have:=of_decide_eq_true hln;omega
    obtain⟨y,hy⟩:=qCA h2
    obtain⟨a3,rfl,ec3,hec3,⟨rfl,_⟩,hc3⟩:=hn1 n y hy
    obtain⟨b3,rfl,ec4,hec4,⟨rfl,_⟩,hc4⟩:=hn1' n y hy
    repeat((conv=>whnf);first|apply qza|apply qzb|apply qzc|apply qzd|apply qze|intro(_:Nat))
    conv=>whnf
    refine⟨a,rfl,⟨by omega,by omega⟩,?_⟩
    conv=>whnf
    refine⟨_,hc 0 _ rfl,?_⟩
    repeat((conv=>whnf);first|apply qza|apply qzb|apply qzc|apply qzd|apply qze|intro(_:Nat))
    conv=>whnf
    refine⟨a3,rfl,⟨by omega,by omega⟩,?_⟩
    conv=>whnf
    refine⟨_,hc3 0 _ rfl,?_⟩
    repeat((conv=>whnf);first|apply qza|apply qzb|apply qzc|apply qzd|apply qze|intro(_:Nat))
    conv=>whnf
    refine⟨b,rfl,⟨by omega,by omega⟩,?_⟩
    conv=>whnf
    refine⟨_,hc' 0 _ rfl,?_⟩
    repeat((conv=>whnf);first|apply qza|apply qzb|apply qzc|apply qzd|apply qze|intro(_:Nat))
    conv=>whnf
    refine⟨b3,rfl,⟨by omega,by omega⟩,?_⟩
    conv=>whnf
    refine⟨_,hc4 0 _ rfl,?_⟩
    repeat((conv=>whnf);first|apply qza|apply qzb|apply qzc|apply qzd|apply qze|intro(_:Nat))
    conv=>whnf
    refine⟨fun hx=>absurd hx (by simp),fun _=>?_⟩
    repeat((conv=>whnf);first|apply qza|apply qzb|apply qzc|apply qzd|apply qze|intro(_:Nat))
    conv=>whnf
    refine fun fr w hw=>⟨n+1,congrArg (fun z=>[Value.int .i64 z]) (wr1 h2 c1 c2).symm,h2,dec h2,?_⟩
    exact hw.fit (by simp [fitL,Res.eqv,qDA,conc])
   ·repeat((conv=>whnf);first|apply qza|apply qzb|apply qzc|apply qzd|apply qze|intro(_:Nat))
    conv=>whnf
    refine fun fr w hw=>⟨k+1,congrArg (fun z=>[Value.int .i64 z]) (wr1 h' a1 a2).symm,h',dec h',?_⟩
    exact hw.fit (by simp [fitL,Res.eqv,qDA,conc])
  ·repeat((conv=>whnf);first|apply qza|apply qzb|apply qzc|apply qzd|apply qze|intro(_:Nat))
   conv=>whnf
   intro g2 hg
   rfl)
theorem qpS (g:GW) {cs cs':List Value} {x:EndC} (hx:rEn g cs x) (hx':rEn g cs' x):OkV Tryz.prog q8I [.agg ⟨cs⟩,.agg ⟨cs'⟩] g (.bool true):=by
 obtain⟨⟨n,rfl,_,_,hn⟩,_⟩:=hx
 obtain⟨⟨n',rfl,_,_,hn'⟩,_⟩:=hx'
 obtain⟨oa,ca,rfl,a1,a2,a0,ha⟩:=hn
 obtain⟨ob,cb,rfl,b1,b2,b0,hb⟩:=hn'
 exact Ok.of_fn hm noT 0 qpI (args:=[.v (.agg ⟨[.int .u64 x.head,.slice oa x.next.length ca,.int .i64 x.active]⟩),.v (.agg ⟨[.int .u64 x.head,.slice ob x.next.length cb,.int .i64 x.active]⟩)]) (by
  repeat((conv=>whnf);first|apply qza|apply qzb|apply qzc|apply qzd|apply qze|intro(_:Nat))
  conv=>whnf
  refine⟨fun hx=>absurd hx (by simp),fun _=>?_⟩
  repeat((conv=>whnf);first|apply qza|apply qzb|apply qzc|apply qzd|apply qze|intro(_:Nat))
  conv=>whnf
  refine⟨fun hx=>absurd hx (by simp),fun _=>?_⟩
  repeat((conv=>whnf);first|apply qza|apply qzb|apply qzc|apply qzd|apply qze|intro(_:Nat))
  conv=>whnf
  refine⟨fun hx=>absurd hx (by simp),fun _=>?_⟩
  repeat((conv=>whnf);first|apply qza|apply qzb|apply qzc|apply qzd|apply qze|intro(_:Nat))
  conv=>whnf
  refine⟨Nat,fun k=>[.v (.int .i64 k)],fun _=>⟨g,_,_,_⟩,fun k=>k≤x.next.length,fun k=>x.next.length-k,qJA 0 rfl (Nat.zero_le _) rfl,?_⟩
  intro k hk
  repeat((conv=>whnf);first|apply qza|apply qzb|apply qzc|apply qzd|apply qze|intro(_:Nat))
  conv=>whnf
  refine⟨fun hlt=>?_,fun hlt=>?_⟩
  ·have h':k<x.next.length:=by have:=of_decide_eq_true hlt;omega
   obtain⟨y,hy⟩:=qCA h'
   obtain⟨a,rfl,ec,hec,⟨rfl,_⟩,hc⟩:=ha k y hy
   obtain⟨b,rfl,ec',hec',⟨rfl,_⟩,hc'⟩:=hb k y hy
   repeat((conv=>whnf);first|apply qza|apply qzb|apply qzc|apply qzd|apply qze|intro(_:Nat))
   conv=>whnf
   refine⟨a,rfl,⟨by omega,by omega⟩,?_⟩
   conv=>whnf
   refine⟨_,hc 0 _ rfl,?_⟩
   repeat((conv=>whnf);first|apply qza|apply qzb|apply qzc|apply qzd|apply qze|intro(_:Nat))
   conv=>whnf
   refine⟨b,rfl,⟨by omega,by omega⟩,?_⟩
   conv=>whnf
   refine⟨_,hc' 0 _ rfl,?_⟩
   repeat((conv=>whnf);first|apply qza|apply qzb|apply qzc|apply qzd|apply qze|intro(_:Nat))
   conv=>whnf
   refine⟨fun hx=>absurd hx (by simp),fun _=>?_⟩
   repeat((conv=>whnf);first|apply qza|apply qzb|apply qzc|apply qzd|apply qze|intro(_:Nat))
   conv=>whnf
   refine fun fr w hw=>⟨k+1,congrArg (fun z=>[Value.int .i64 z]) (wr1 h' a1 a2).symm,h',dec h',?_⟩
   exact hw.fit (by simp [fitL,Res.eqv,qDA,conc])
  ·repeat((conv=>whnf);first|apply qza|apply qzb|apply qzc|apply qzd|apply qze|intro(_:Nat))
   conv=>whnf
   intro g2 hg
   rfl)
theorem qvM (g:GW) {cs cs':List Value} {x:Version} (hx:rVe g cs x) (hx':rVe g cs' x):OkV Tryz.prog qTE [.agg ⟨cs⟩,.agg ⟨cs'⟩] g (.bool true):=by
 obtain⟨va,vb,vd,vn,rfl,hS,hG⟩:=hx
 obtain⟨va',vb',vd',vn',rfl,hS',hG'⟩:=hx'
 have hS0:=hS
 have hS0':=hS'
 obtain⟨_,_,_,he,⟨sa,ta,rfl,_⟩,⟨sb,tb,rfl,_⟩,⟨sd,td,rfl,_⟩⟩:=hS
 cases he
 obtain⟨_,_,_,he,⟨sa',ta',rfl,_⟩,⟨sb',tb',rfl,_⟩,⟨sd',td',rfl,_⟩⟩:=hS'
 cases he
 obtain⟨oa,ca,rfl,a1,a2,a0,ha⟩:=hG
 obtain⟨ob,cb,rfl,b1,b2,b0,hb⟩:=hG'
 exact Ok.of_fn hm noT 0 qNE (args:=[.v (.agg ⟨[.slice sa x.snap.listens.length ta,.slice sb x.snap.rules.length tb,.slice sd x.snap.clusters.length td,.slice oa x.groups.length ca,.bool x.freed]⟩),.v (.agg ⟨[.slice sa' x.snap.listens.length ta',.slice sb' x.snap.rules.length tb',.slice sd' x.snap.clusters.length td',.slice ob x.groups.length cb,.bool x.freed]⟩)]) (by
  repeat((conv=>whnf);first|apply qza|apply qzb|apply qzc|apply qzd|apply qze|intro(_:Nat))
  conv=>whnf
  refine .inl ⟨_,(qMW _ hS0 hS0').to (congrArg Value.bool (qGN rfl)),?_⟩
  repeat((conv=>whnf);first|apply qza|apply qzb|apply qzc|apply qzd|apply qze|intro(_:Nat))
  conv=>whnf
  refine⟨fun h=>(nomatch h),fun _=>?_⟩
  repeat((conv=>whnf);first|apply qza|apply qzb|apply qzc|apply qzd|apply qze|intro(_:Nat))
  conv=>whnf
  refine⟨fun hx=>absurd hx (by simp),fun _=>?_⟩
  repeat((conv=>whnf);first|apply qza|apply qzb|apply qzc|apply qzd|apply qze|intro(_:Nat))
  conv=>whnf
  refine⟨fun hx=>absurd hx (by simp),fun _=>?_⟩
  repeat((conv=>whnf);first|apply qza|apply qzb|apply qzc|apply qzd|apply qze|intro(_:Nat))
  conv=>whnf
  refine⟨Nat,fun k=>[.v (.int .i64 k)],fun _=>⟨g,_,_,_⟩,fun k=>k≤x.groups.length,fun k=>x.groups.length-k,qJA 0 rfl (Nat.zero_le _) rfl,?_⟩
  intro k hk
  repeat((conv=>whnf);first|apply qza|apply qzb|apply qzc|apply qzd|apply qze|intro(_:Nat))
  conv=>whnf
  refine⟨fun hlt=>?_,fun hlt=>?_⟩
  ·have h':k<x.groups.length:=by have:=of_decide_eq_true hlt;omega
   obtain⟨y,hy⟩:=qCA h'
   obtain⟨a,rfl,ec,hec,⟨n,rfl,_,hn⟩,hc⟩:=ha k y hy
   obtain⟨b,rfl,ec',hec',⟨n',rfl,_,hn'⟩,hc'⟩:=hb k y hy
   obtain⟨oc,cc,rfl,c1,c2,c0,hn1⟩:=hn
   obtain⟨od,cd,rfl,d1,d2,d0,hn1'⟩:=hn'
   repeat((conv=>whnf);first|apply qza|apply qzb|apply qzc|apply qzd|apply qze|intro(_:Nat))
   conv=>whnf
   refine⟨a,rfl,⟨by omega,by omega⟩,?_⟩
   conv=>whnf
   refine⟨_,hc 0 _ rfl,?_⟩
   repeat((conv=>whnf);first|apply qza|apply qzb|apply qzc|apply qzd|apply qze|intro(_:Nat))
   conv=>whnf
   refine⟨b,rfl,⟨by omega,by omega⟩,?_⟩
   conv=>whnf
   refine⟨_,hc' 0 _ rfl,?_⟩
   repeat((conv=>whnf);first|apply qza|apply qzb|apply qzc|apply qzd|apply qze|intro(_:Nat))
   conv=>whnf
   refine⟨fun hx=>absurd hx (by simp),fun _=>?_⟩
   repeat((conv=>whnf);first|apply qza|apply qzb|apply qzc|apply qzd|apply qze|intro(_:Nat))
   conv=>whnf
   refine⟨a,rfl,⟨by omega,by omega⟩,?_⟩
   conv=>whnf
   refine⟨_,hc 1 _ rfl,?_⟩
   repeat((conv=>whnf);first|apply qza|apply qzb|apply qzc|apply qzd|apply qze|intro(_:Nat))
   conv=>whnf
   refine⟨b,rfl,⟨by omega,by omega⟩,?_⟩
   conv=>whnf
   refine⟨_,hc' 1 _ rfl,?_⟩
   repeat((conv=>whnf);first|apply qza|apply qzb|apply qzc|apply qzd|apply qze|intro(_:Nat))
   conv=>whnf
   refine⟨fun hx=>absurd hx (by simp),fun _=>?_⟩
   repeat((conv=>whnf);first|apply qza|apply qzb|apply qzc|apply qzd|apply qze|intro(_:Nat))
   conv=>whnf
   refine⟨Nat,fun n=>[.v (.int .i64 n)],fun _=>⟨g,_,_,_⟩,fun n=>n≤y.ends.length,fun n=>y.ends.length-n,qJA 0 rfl (Nat.zero_le _) rfl,?_⟩
   intro n hn
   repeat((conv=>whnf);first|apply qza|apply qzb|apply qzc|apply qzd|apply qze|intro(_:Nat))
   conv=>whnf
   refine⟨a,rfl,⟨by omega,by omega⟩,?_⟩
   conv=>whnf
   refine⟨_,hc 1 _ rfl,?_⟩
   repeat((conv=>whnf);first|apply qza|apply qzb|apply qzc|apply qzd|apply qze|intro(_:Nat))
   conv=>whnf
   refine⟨fun hln=>?_,fun hln=>?_⟩
   ·have h2:n<y.ends.length:=by have:=of_decide_eq_true hln;omega
    obtain⟨z,hz⟩:=qCA h2
    obtain⟨a3,rfl,ec3,hec3,hz3,hc3⟩:=hn1 n z hz
    obtain⟨b3,rfl,ec4,hec4,hz4,hc4⟩:=hn1' n z hz
    have hz30:=hz3
    have hz40:=hz4
    obtain⟨⟨m,rfl,_,_,⟨om,cm,rfl,_⟩⟩,_⟩:=hz3
    obtain⟨⟨m',rfl,_,_,⟨om',cm',rfl,_⟩⟩,_⟩:=hz4
    repeat((conv=>whnf);first|apply qza|apply qzb|apply qzc|apply qzd|apply qze|intro(_:Nat))
    conv=>whnf
    refine⟨a,rfl,⟨by omega,by omega⟩,?_⟩
    conv=>whnf
    refine⟨_,hc 1 _ rfl,?_⟩
    repeat((conv=>whnf);first|apply qza|apply qzb|apply qzc|apply qzd|apply qze|intro(_:Nat))
    conv=>whnf
    refine⟨a3,rfl,⟨by omega,by omega⟩,?_⟩
    conv=>whnf
    refine⟨_,⟨rfl,hc3⟩,?_⟩
    repeat((conv=>whnf);first|apply qza|apply qzb|apply qzc|apply qzd|apply qze|intro(_:Nat))
    conv=>whnf
    refine⟨b,rfl,⟨by omega,by omega⟩,?_⟩
    conv=>whnf
    refine⟨_,hc' 1 _ rfl,?_⟩
    repeat((conv=>whnf);first|apply qza|apply qzb|apply qzc|apply qzd|apply qze|intro(_:Nat))
    conv=>whnf
    refine⟨b3,rfl,⟨by omega,by omega⟩,?_⟩
    conv=>whnf
    refine⟨_,⟨rfl,hc4⟩,?_⟩
    repeat((conv=>whnf);first|apply qza|apply qzb|apply qzc|apply qzd|apply qze|intro(_:Nat))
    conv=>whnf
    refine .inl ⟨_,qpS _ hz30 hz40,?_⟩
    repeat((conv=>whnf);first|apply qza|apply qzb|apply qzc|apply qzd|apply qze|intro(_:Nat))
    conv=>whnf
    refine⟨fun h=>(nomatch h),fun _=>?_⟩
    repeat((conv=>whnf);first|apply qza|apply qzb|apply qzc|apply qzd|apply qze|intro(_:Nat))
    conv=>whnf
    refine fun fr w hw=>⟨n+1,congrArg (fun z=>[Value.int .i64 z]) (wr1 h2 c1 c2).symm,h2,dec h2,?_⟩
    exact hw.fit (by simp [fitL,Res.eqv,qDA,conc])
   ·repeat((conv=>whnf);first|apply qza|apply qzb|apply qzc|apply qzd|apply qze|intro(_:Nat))
    conv=>whnf
    refine fun fr w hw=>⟨k+1,congrArg (fun z=>[Value.int .i64 z]) (wr1 h' a1 a2).symm,h',dec h',?_⟩
    exact hw.fit (by simp [fitL,Res.eqv,qDA,conc])
  ·repeat((conv=>whnf);first|apply qza|apply qzb|apply qzc|apply qzd|apply qze|intro(_:Nat))
   conv=>whnf
   intro g2 hg
   rfl)
theorem q3U (g:GW) {cs cs':List Value} {w:Wd} (hw:rWo g cs w) (hw':rWo g cs' w):OkV Tryz.prog q5I [.agg ⟨cs⟩,.agg ⟨cs'⟩] g (.bool true):=by
 obtain⟨a,b,c,d,e,rfl,_,hP,hV,hL,hC,hR⟩:=hw
 obtain⟨a',b',c',d',e',rfl,_,hP',hV',hL',hC',hR'⟩:=hw'
 obtain⟨oa,ca,rfl,_⟩:=id hP
 obtain⟨ob,cb,rfl,b1,b2,b0,hV1⟩:=id hV
 obtain⟨oc,cc,rfl,c1,c2,c0,hL1⟩:=id hL
 obtain⟨od,cd,rfl,_⟩:=id hC
 obtain⟨oe,ce,rfl,_⟩:=id hR
 obtain⟨oa',ca',rfl,_⟩:=id hP'
 obtain⟨ob',cb',rfl,b1',b2',b0',hV1'⟩:=id hV'
 obtain⟨oc',cc',rfl,c1',c2',c0',hL1'⟩:=id hL'
 obtain⟨od',cd',rfl,_⟩:=id hC'
 obtain⟨oe',ce',rfl,_⟩:=id hR'
 exact Ok.of_fn hm noT 0 qmI (args:=[.v (.agg ⟨wQ w oa ca ob cb oc cc od cd oe ce⟩),.v (.agg ⟨[.int .i64 w.epoch,.int .i64 w.current,.int .i64 w.lock,.slice oa' w.pins.length ca',.slice ob' w.versions.length cb',.slice oc' w.listens.length cc',.slice od' w.counts.length cd',.slice oe' w.limbo.length ce']⟩)]) (by
  repeat((conv=>whnf);first|apply qza|apply qzb|apply qzc|apply qzd|apply qze|intro(_:Nat))
  conv=>whnf
  refine⟨fun hx=>absurd hx (by simp),fun _=>?_⟩
  repeat((conv=>whnf);first|apply qza|apply qzb|apply qzc|apply qzd|apply qze|intro(_:Nat))
  conv=>whnf
  refine⟨fun hx=>absurd hx (by simp),fun _=>?_⟩
  repeat((conv=>whnf);first|apply qza|apply qzb|apply qzc|apply qzd|apply qze|intro(_:Nat))
  conv=>whnf
  refine⟨fun hx=>absurd hx (by simp),fun _=>?_⟩
  repeat((conv=>whnf);first|apply qza|apply qzb|apply qzc|apply qzd|apply qze|intro(_:Nat))
  conv=>whnf
  refine .inl ⟨_,qyQ _ hP hP',?_⟩
  repeat((conv=>whnf);first|apply qza|apply qzb|apply qzc|apply qzd|apply qze|intro(_:Nat))
  conv=>whnf
  refine⟨fun h=>(nomatch h),fun _=>?_⟩
  repeat((conv=>whnf);first|apply qza|apply qzb|apply qzc|apply qzd|apply qze|intro(_:Nat))
  conv=>whnf
  refine⟨fun hx=>absurd hx (by simp),fun _=>?_⟩
  repeat((conv=>whnf);first|apply qza|apply qzb|apply qzc|apply qzd|apply qze|intro(_:Nat))
  conv=>whnf
  refine⟨fun hx=>absurd hx (by simp),fun _=>?_⟩
  repeat((conv=>whnf);first|apply qza|apply qzb|apply qzc|apply qzd|apply qze|intro(_:Nat))
  conv=>whnf
  refine .inl ⟨_,qGO _ hC hC',?_⟩
  repeat((conv=>whnf);first|apply qza|apply qzb|apply qzc|apply qzd|apply qze|intro(_:Nat))
  conv=>whnf
  refine⟨fun h=>(nomatch h),fun _=>?_⟩
  repeat((conv=>whnf);first|apply qza|apply qzb|apply qzc|apply qzd|apply qze|intro(_:Nat))
  conv=>whnf
  refine .inl ⟨_,qcP _ hR hR',?_⟩
  repeat((conv=>whnf);first|apply qza|apply qzb|apply qzc|apply qzd|apply qze|intro(_:Nat))
  conv=>whnf
  refine⟨fun h=>(nomatch h),fun _=>?_⟩
  repeat((conv=>whnf);first|apply qza|apply qzb|apply qzc|apply qzd|apply qze|intro(_:Nat))
  conv=>whnf
  refine⟨Nat,fun k=>[.v (.int .i64 k)],fun _=>⟨g,_,_,_⟩,fun k=>k≤w.versions.length,fun k=>w.versions.length-k,qJA 0 rfl (Nat.zero_le _) rfl,?_⟩
  intro k hk
  repeat((conv=>whnf);first|apply qza|apply qzb|apply qzc|apply qzd|apply qze|intro(_:Nat))
  conv=>whnf
  refine⟨fun hlt=>?_,fun hlt=>?_⟩
  ·have h':k<w.versions.length:=by have:=of_decide_eq_true hlt;omega
   obtain⟨x,hx⟩:=qCA h'
   obtain⟨a,rfl,ec,hec,hxe,hc⟩:=hV1 k x hx
   obtain⟨b,rfl,ec',hec',hxe',hc'⟩:=hV1' k x hx
   have h10:=hxe
   have h20:=hxe'
   obtain⟨va,vb,vd,vn,rfl,⟨_,_,_,he,⟨sa,ta,rfl,_⟩,⟨sb,tb,rfl,_⟩,⟨sd,td,rfl,_⟩⟩,⟨sn,tn,rfl,_⟩⟩:=hxe
   cases he
   obtain⟨va',vb',vd',vn',rfl,⟨_,_,_,he,⟨sa',ta',rfl,_⟩,⟨sb',tb',rfl,_⟩,⟨sd',td',rfl,_⟩⟩,⟨sn',tn',rfl,_⟩⟩:=hxe'
   cases he
   repeat((conv=>whnf);first|apply qza|apply qzb|apply qzc|apply qzd|apply qze|intro(_:Nat))
   conv=>whnf
   refine⟨a,rfl,⟨by omega,by omega⟩,?_⟩
   conv=>whnf
   refine⟨_,⟨rfl,hc⟩,?_⟩
   repeat((conv=>whnf);first|apply qza|apply qzb|apply qzc|apply qzd|apply qze|intro(_:Nat))
   conv=>whnf
   refine⟨b,rfl,⟨by omega,by omega⟩,?_⟩
   conv=>whnf
   refine⟨_,⟨rfl,hc'⟩,?_⟩
   repeat((conv=>whnf);first|apply qza|apply qzb|apply qzc|apply qzd|apply qze|intro(_:Nat))
   conv=>whnf
   refine .inl ⟨_,qvM _ h10 h20,?_⟩
   repeat((conv=>whnf);first|apply qza|apply qzb|apply qzc|apply qzd|apply qze|intro(_:Nat))
   conv=>whnf
   refine⟨fun h=>(nomatch h),fun _=>?_⟩
   repeat((conv=>whnf);first|apply qza|apply qzb|apply qzc|apply qzd|apply qze|intro(_:Nat))
   conv=>whnf
   refine fun fr w' hw=>⟨k+1,congrArg (fun z=>[Value.int .i64 z]) (wr1 h' b1 b2).symm,h',dec h',?_⟩
   exact hw.fit (by simp [fitL,Res.eqv,qDA,conc])
  clear hlt hk
  repeat((conv=>whnf);first|apply qza|apply qzb|apply qzc|apply qzd|apply qze|intro(_:Nat))
  conv=>whnf
  refine⟨Nat,fun k=>[.v (.int .i64 k)],fun _=>⟨g,_,_,_⟩,fun k=>k≤w.listens.length,fun k=>w.listens.length-k,qJA 0 rfl (Nat.zero_le _) rfl,?_⟩
  intro k hk
  repeat((conv=>whnf);first|apply qza|apply qzb|apply qzc|apply qzd|apply qze|intro(_:Nat))
  conv=>whnf
  refine⟨fun hlt=>?_,fun hlt=>?_⟩
  ·have h':k<w.listens.length:=by have:=of_decide_eq_true hlt;omega
   obtain⟨x,hx⟩:=qCA h'
   obtain⟨a,rfl,ec,hec,⟨rfl,_⟩,hc⟩:=hL1 k x hx
   obtain⟨b,rfl,ec',hec',⟨rfl,_⟩,hc'⟩:=hL1' k x hx
   repeat((conv=>whnf);first|apply qza|apply qzb|apply qzc|apply qzd|apply qze|intro(_:Nat))
   conv=>whnf
   refine⟨a,rfl,⟨by omega,by omega⟩,?_⟩
   conv=>whnf
   refine⟨_,⟨rfl,hc⟩,?_⟩
   repeat((conv=>whnf);first|apply qza|apply qzb|apply qzc|apply qzd|apply qze|intro(_:Nat))
   conv=>whnf
   refine⟨b,rfl,⟨by omega,by omega⟩,?_⟩
   conv=>whnf
   refine⟨_,⟨rfl,hc'⟩,?_⟩
   repeat((conv=>whnf);first|apply qza|apply qzb|apply qzc|apply qzd|apply qze|intro(_:Nat))
   conv=>whnf
   refine⟨fun hx=>absurd hx (by simp),fun _=>?_⟩
   repeat((conv=>whnf);first|apply qza|apply qzb|apply qzc|apply qzd|apply qze|intro(_:Nat))
   conv=>whnf
   refine fun fr w' hw=>⟨k+1,congrArg (fun z=>[Value.int .i64 z]) (wr1 h' c1 c2).symm,h',dec h',?_⟩
   exact hw.fit (by simp [fitL,Res.eqv,qDA,conc])
  repeat((conv=>whnf);first|apply qza|apply qzb|apply qzc|apply qzd|apply qze|intro(_:Nat))
  conv=>whnf
  intro g2 hg
  rfl)
end Go.Proofs.YthonngjhelcpeaaGreat
