/- Worlds: versions: are they right? -/
import Derived.Test.YtkbbljngpglnkaaLS7b
import Derived.Test.YtkbbljngpglnkaaPl
set_option linter.unusedVariables false
set_option linter.unusedSimpArgs false
namespace Go.Proofs.Ytkbbljngpglnkaa
open Go.Proofs.Ytkbbljngpglnkaa.Sx Go.RowKit
set_option maxHeartbeats 16000000
set_option maxRecDepth 100000
def tV:List (Nat×FnI):=[(qQB,qXA),(qpB,qbA),(qAH,qFE)]
theorem tV_ok:qaH Try.prog tV:=by
 intro x hx
 simp only [tV,List.mem_cons,List.not_mem_nil,or_false] at hx
 rcases hx with rfl|rfl|rfl
 ·exact⟨_,_,qKB⟩
 ·exact⟨_,_,qlB⟩
 ·exact⟨_,_,q0G⟩
theorem qVL {v:Version} (h:eqB (qzA (quE v.snap)) none=false):qoA v=false:=by unfold qoA;rw [h];rfl
theorem qUL {v:Version} (h:v.groups.length≠v.snap.clusters.length):qoA v=false:=by unfold qoA;rw [decide_eq_false h];simp
theorem qwF {v:Version} {k:Nat} {x:Group} (hx:v.groups[k]?=some x) (h:quF v.snap.clusters k x=false):qoA v=false:=by unfold qoA;rw [qtA hx h];simp
theorem qqM {v:Version} {k:Nat} (h1:eqB (qzA (quE v.snap)) none=true) (h2:v.groups.length=v.snap.clusters.length) (h:AllK (quF v.snap.clusters) v.groups k) (hk:v.groups.length≤k):qoA v=true:=by
 unfold qoA;rw [h1,decide_eq_true h2,h.done hk];rfl
theorem qMM {c:Cluster} {e:EndC}:qWI c e=(endB e&&decide ((e.next.length:Int)=c.slots)):=rfl
theorem qtL (g:GW) {cs:List Value} {x:Version} (hx:rVe g cs x) (hsn:SnS x.snap):OkV Try.prog qAI [.agg ⟨cs⟩] g (.bool (qoA x)):=by
 obtain⟨a,b,d,n,rfl,hS,hG⟩:=hx
 have hS0:=hS
 obtain⟨_,_,_,he,hl,hr,hk⟩:=hS
 cases he
 obtain⟨oa,ca,rfl,a1,a2,a0,hl1⟩:=id hl
 obtain⟨ob,cb,rfl,b1,b2,b0,hr1⟩:=id hr
 obtain⟨od,cd,rfl,d1,d2,d0,hk1⟩:=id hk
 obtain⟨og,cg,rfl,g1,g2,g0,hG1⟩:=id hG
 exact Ok.of_fn hm tV_ok 3 qlH (args:=[.v (.agg ⟨[.slice oa x.snap.listens.length ca,.slice ob x.snap.rules.length cb,.slice od x.snap.clusters.length cd,.slice og x.groups.length cg,.bool x.freed]⟩)]) (by
  repeat((conv=>whnf);first|apply qza|apply qzb|apply qzc|apply qzd|apply qze|intro(_:Nat))
  conv=>whnf
  refine .inl ⟨_,qjP _ hS0 hsn.1,?_⟩
  repeat((conv=>whnf);first|apply qza|apply qzb|apply qzc|apply qzd|apply qze|intro(_:Nat))
  conv=>whnf
  refine⟨fun z1=>?_,fun z1=>?_⟩
  ·repeat((conv=>whnf);first|apply qza|apply qzb|apply qzc|apply qzd|apply qze|intro(_:Nat))
   conv=>whnf
   intro g2 hg
   rw [qVL (nb1 z1)]
  ·have z1':=nb0 z1
   repeat((conv=>whnf);first|apply qza|apply qzb|apply qzc|apply qzd|apply qze|intro(_:Nat))
   conv=>whnf
   refine⟨fun z2=>?_,fun z2=>?_⟩
   ·repeat((conv=>whnf);first|apply qza|apply qzb|apply qzc|apply qzd|apply qze|intro(_:Nat))
    conv=>whnf
    intro g2 hg
    rw [qUL (nneT z2)]
   ·have z2':x.groups.length=x.snap.clusters.length:=nneF z2
    repeat((conv=>whnf);first|apply qza|apply qzb|apply qzc|apply qzd|apply qze|intro(_:Nat))
    rename_i q0
    conv=>whnf
    refine⟨Nat,fun k=>[.v (.int .i64 k)],fun k=>⟨g,[.blk 0 q0 qBA [.v (.slice oa x.snap.listens.length ca),.v (.slice ob x.snap.rules.length cb),.v (.slice od x.snap.clusters.length cd),.v (.slice og x.groups.length cg),.v (.bool x.freed)]],10,g.w.heap.size⟩,fun k=>k≤x.groups.length∧AllK (quF x.snap.clusters) x.groups k,fun k=>x.groups.length-k,fun fr w hw=>⟨0,rfl,⟨Nat.zero_le _,AllK.zero _ _⟩,hw.fit (by simp [fitL,Res.eqv,qAA,conc])⟩,?_⟩
    rintro k ⟨hkk,hp⟩
    repeat((conv=>whnf);first|apply qza|apply qzb|apply qzc|apply qzd|apply qze|intro(_:Nat))
    conv=>whnf
    refine⟨fun hlt=>?_,fun hlt=>?_⟩
    ·have h':k<x.groups.length:=by have:=of_decide_eq_true hlt;omega
     obtain⟨y,hy⟩:=qDA h'
     obtain⟨aG,rfl,ecG,hecG,⟨nE,rfl,htk,hE⟩,hcG⟩:=hG1 k y hy
     obtain⟨oe,ce,rfl,e1,e2,e0,hE1⟩:=id hE
     obtain⟨c,hcK⟩:=qDA (l:=x.snap.clusters) (i:=k) (by omega)
     obtain⟨aC,rfl,ecC,hecC,⟨vH,rfl,c1,c2,hH⟩,hcC⟩:=hk1 k c hcK
     obtain⟨oh,ch,rfl,h1,h2,h0,hH1⟩:=id hH
     have hgB:quF x.snap.clusters k y=(decide (y.ends.length=c.health.length)&&y.ends.all (qWI c)):=by unfold quF;rw [hcK]
     repeat((conv=>whnf);first|apply qza|apply qzb|apply qzc|apply qzd|apply qze|intro(_:Nat))
     conv=>whnf
     refine⟨aG,rfl,⟨by omega,by omega⟩,?_⟩
     conv=>whnf
     refine⟨_,⟨rfl,hcG⟩,?_⟩
     repeat((conv=>whnf);first|apply qza|apply qzb|apply qzc|apply qzd|apply qze|intro(_:Nat))
     conv=>whnf
     refine⟨aC,rfl,⟨by omega,by omega⟩,?_⟩
     conv=>whnf
     refine⟨_,⟨rfl,hcC⟩,?_⟩
     repeat((conv=>whnf);first|apply qza|apply qzb|apply qzc|apply qzd|apply qze|intro(_:Nat))
     conv=>whnf
     refine⟨fun z3=>?_,fun z3=>?_⟩
     ·repeat((conv=>whnf);first|apply qza|apply qzb|apply qzc|apply qzd|apply qze|intro(_:Nat))
      conv=>whnf
      intro g2 hg
      refine congrArg Value.bool (qwF hy ?_).symm
      rw [hgB,decide_eq_false (nneT z3)];rfl
     ·have z3':y.ends.length=c.health.length:=nneF z3
      repeat((conv=>whnf);first|apply qza|apply qzb|apply qzc|apply qzd|apply qze|intro(_:Nat))
      rename_i q1 q2
      conv=>whnf
      refine⟨Nat,fun n=>[.v (.int .i64 n)],fun n=>⟨g,[.blk 11 q2 qgC [.v (.string c.name),.v (.int .i64 c.policy),.v (.int .i64 c.slots),.v (.slice oh c.health.length ch)],.blk 10 q1 qWA [.v (.int .u64 y.ticket),.v (.slice oe y.ends.length ce)],.blk 0 q0 qBA [.v (.slice oa x.snap.listens.length ca),.v (.slice ob x.snap.rules.length cb),.v (.slice (some aC) x.snap.clusters.length cd),.v (.slice (some aG) x.groups.length cg),.v (.bool x.freed)]],20,g.w.heap.size⟩,fun n=>n≤y.ends.length∧(y.ends.take n).all (qWI c)=true,fun n=>y.ends.length-n,fun fr w hw=>⟨0,rfl,⟨Nat.zero_le _,by simp⟩,hw.fit (by simp [fitL,Res.eqv,qAA,conc])⟩,?_⟩
      rintro n ⟨hn,hpn⟩
      repeat((conv=>whnf);first|apply qza|apply qzb|apply qzc|apply qzd|apply qze|intro(_:Nat))
      conv=>whnf
      refine⟨fun hln=>?_,fun hln=>?_⟩
      ·have hn':n<y.ends.length:=by have:=of_decide_eq_true hln;omega
       obtain⟨e,hee⟩:=qDA hn'
       obtain⟨aE,rfl,ecE,hecE,heR,hcE⟩:=hE1 n e hee
       have heR0:=heR
       obtain⟨⟨nx,rfl,u1,u2,hN⟩,u3⟩:=heR
       obtain⟨oN,cN,rfl,n1,n2,n0,hN1⟩:=id hN
       obtain⟨cc1,cc2⟩:=List.getElem?_eq_some_iff.1 hee
       repeat((conv=>whnf);first|apply qza|apply qzb|apply qzc|apply qzd|apply qze|intro(_:Nat))
       conv=>whnf
       refine⟨aE,rfl,⟨by omega,by omega⟩,?_⟩
       conv=>whnf
       refine⟨_,⟨rfl,hcE⟩,?_⟩
       repeat((conv=>whnf);first|apply qza|apply qzb|apply qzc|apply qzd|apply qze|intro(_:Nat))
       conv=>whnf
       refine⟨qBH,?_⟩
       repeat((conv=>whnf);first|apply qza|apply qzb|apply qzc|apply qzd|apply qze|intro(_:Nat))
       conv=>whnf
       refine .inl ⟨_,q7P _ heR0,?_⟩
       repeat((conv=>whnf);first|apply qza|apply qzb|apply qzc|apply qzd|apply qze|intro(_:Nat))
       conv=>whnf
       refine⟨fun z4=>?_,fun z4=>?_⟩
       ·repeat((conv=>whnf);first|apply qza|apply qzb|apply qzc|apply qzd|apply qze|intro(_:Nat))
        conv=>whnf
        refine⟨fun _=>?_,fun hx=>absurd (((decide_eq_true (show(0:Int)≤(n:Int) by omega))).symm.trans hx) (by decide)⟩
        repeat((conv=>whnf);first|apply qza|apply qzb|apply qzc|apply qzd|apply qze|intro(_:Nat))
        conv=>whnf
        intro g2 hg
        refine congrArg Value.bool (qwF hy ?_).symm
        rw [hgB,qSC cc1 (by rw [cc2,qMM,nb1 z4];rfl)];simp
       ·repeat((conv=>whnf);first|apply qza|apply qzb|apply qzc|apply qzd|apply qze|intro(_:Nat))
        conv=>whnf
        refine⟨fun z5=>?_,fun z5=>?_⟩
        ·repeat((conv=>whnf);first|apply qza|apply qzb|apply qzc|apply qzd|apply qze|intro(_:Nat))
         conv=>whnf
         refine⟨fun _=>?_,fun hx=>absurd (((decide_eq_true (show(0:Int)≤(n:Int) by omega))).symm.trans hx) (by decide)⟩
         repeat((conv=>whnf);first|apply qza|apply qzb|apply qzc|apply qzd|apply qze|intro(_:Nat))
         conv=>whnf
         intro g2 hg
         refine congrArg Value.bool (qwF hy ?_).symm
         rw [hgB,qSC cc1 (by rw [cc2,qMM,decide_eq_false (bneT z5)];simp)];simp
        ·repeat((conv=>whnf);first|apply qza|apply qzb|apply qzc|apply qzd|apply qze|intro(_:Nat))
         conv=>whnf
         refine fun fr w hw=>⟨n+1,congrArg (fun z=>[Value.int .i64 z]) (wr1 hn' e1 e2).symm,⟨hn',by rw [qYF cc1,hpn,cc2,qMM,nb0 z4,decide_eq_true (bneF z5)];rfl⟩,dec hn',?_⟩
         exact hw.fit (by simp [fitL,Res.eqv,qAA,conc])
      ·have hnL:=of_decide_eq_false hln
       rw [List.take_of_length_le (by omega)] at hpn
       repeat((conv=>whnf);first|apply qza|apply qzb|apply qzc|apply qzd|apply qze|intro(_:Nat))
       conv=>whnf
       refine⟨fun h=>(nomatch h),fun _=>?_⟩
       repeat((conv=>whnf);first|apply qza|apply qzb|apply qzc|apply qzd|apply qze|intro(_:Nat))
       conv=>whnf
       refine fun fr w hw=>⟨k+1,congrArg (fun z=>[Value.int .i64 z]) (wr1 h' g1 g2).symm,⟨h',hp.succ hy (by rw [hgB,decide_eq_true z3',hpn];rfl)⟩,dec h',?_⟩
       exact hw.fit (by simp [fitL,Res.eqv,qAA,conc])
    ·repeat((conv=>whnf);first|apply qza|apply qzb|apply qzc|apply qzd|apply qze|intro(_:Nat))
     conv=>whnf
     intro g2 hg
     have:=of_decide_eq_false hlt
     rw [qqM z1' z2' hp (by omega)])
/- Worlds: versions: are they right? The document's answer. -/
open Go.Proofs.Ytkbbljngpglnkaa.Sx Go.RowKit
/- Worlds: is one right? The program's answer. -/
open Go.Proofs.Ytkbbljngpglnkaa.Sx Go.RowKit
def tGr:List (Nat×FnI):=[(qcC,qrA),(qBD,qFB),(qVH,qnE)]
theorem qmQ:qaH Try.prog tGr:=by
 intro x hx
 simp only [tGr,List.mem_cons,List.not_mem_nil,or_false] at hx
 rcases hx with rfl|rfl|rfl
 ·exact⟨_,_,qWC⟩
 ·exact⟨_,_,q6C⟩
 ·exact⟨_,_,qTH⟩
def GrP (w:Wd):Prop:=1≤w.pins.length∧w.pins.length≤8∧w.counts.length=w.pins.length∧q5D w.counts=true∧0≤w.epoch∧w.epoch≤1000000000000∧(w.lock=0∨w.lock=1)
def qiJ (w:Wd) (p:Int):Bool:=decide (0≤p)&&decide (p≤w.epoch+1)
theorem groundB_iff {w:Wd}:qqA w=true↔GrP w∧w.pins.all (qiJ w)=true:=by
 unfold qqA GrP qiJ
 simp only [Bool.and_eq_true,decide_eq_true_eq]
 constructor
 ·rintro⟨⟨⟨⟨⟨⟨⟨h1,h2⟩,h3⟩,h4⟩,h5⟩,h6⟩,h7⟩,h8⟩
  exact⟨⟨h1,h2,h3,h4,h5,h6,h7⟩,h8⟩
 ·rintro⟨⟨h1,h2,h3,h4,h5,h6,h7⟩,h8⟩
  exact⟨⟨⟨⟨⟨⟨⟨h1,h2⟩,h3⟩,h4⟩,h5⟩,h6⟩,h7⟩,h8⟩
theorem qLD {w:Wd} (h:¬ GrP w):qqA w=false:=by
 rw [Bool.eq_false_iff];intro hh;exact h (groundB_iff.1 hh).1
theorem q6K {w:Wd} (h:w.pins.all (qiJ w)=false):qqA w=false:=by
 rw [Bool.eq_false_iff];intro hh;rw [(groundB_iff.1 hh).2] at h;cases h
theorem qAO (g:GW) {cs:List Value} {w:Wd} (hw:rWo g cs w):OkV Try.prog qqI [.agg ⟨cs⟩] g (.bool (qqA w)):=by
 obtain⟨a,b,c,d,e,rfl,⟨i1,i2,i3⟩,hP,hV,hL,hC,hR⟩:=hw
 obtain⟨oa,ca,rfl,a1,a2,a0,hP1⟩:=id hP
 obtain⟨ob,cb,rfl,b1,b2,b0,hV1⟩:=id hV
 obtain⟨oc,cc,rfl,c1,c2,c0,hL1⟩:=id hL
 obtain⟨od,cd,rfl,d1,d2,d0,hC1⟩:=id hC
 obtain⟨oe,ce,rfl,e1,e2,e0,hR1⟩:=id hR
 exact Ok.of_fn hm qmQ 3 qfI (args:=[.v (.agg ⟨wQ w oa ca ob cb oc cc od cd oe ce⟩)]) (by
  repeat((conv=>whnf);first|apply qza|apply qzb|apply qzc|apply qzd|apply qze|intro(_:Nat))
  conv=>whnf
  refine⟨fun z1=>?_,fun z1=>?_⟩
  ·repeat((conv=>whnf);first|apply qza|apply qzb|apply qzc|apply qzd|apply qze|intro(_:Nat))
   conv=>whnf
   intro g2 hg
   rw [qLD fun h=>by have:=of_decide_eq_true z1;have:=h.1;omega]
  repeat((conv=>whnf);first|apply qza|apply qzb|apply qzc|apply qzd|apply qze|intro(_:Nat))
  conv=>whnf
  refine⟨fun z2=>?_,fun z2=>?_⟩
  ·repeat((conv=>whnf);first|apply qza|apply qzb|apply qzc|apply qzd|apply qze|intro(_:Nat))
   conv=>whnf
   intro g2 hg
   rw [qLD fun h=>by have:=of_decide_eq_true z2;have:=h.2.1;omega]
  repeat((conv=>whnf);first|apply qza|apply qzb|apply qzc|apply qzd|apply qze|intro(_:Nat))
  conv=>whnf
  refine⟨fun z3=>?_,fun z3=>?_⟩
  ·repeat((conv=>whnf);first|apply qza|apply qzb|apply qzc|apply qzd|apply qze|intro(_:Nat))
   conv=>whnf
   intro g2 hg
   rw [qLD fun h=>nneT z3 h.2.2.1]
  repeat((conv=>whnf);first|apply qza|apply qzb|apply qzc|apply qzd|apply qze|intro(_:Nat))
  conv=>whnf
  refine .inl ⟨_,qwQ _ hC,?_⟩
  repeat((conv=>whnf);first|apply qza|apply qzb|apply qzc|apply qzd|apply qze|intro(_:Nat))
  conv=>whnf
  refine⟨fun z4=>?_,fun z4=>?_⟩
  ·repeat((conv=>whnf);first|apply qza|apply qzb|apply qzc|apply qzd|apply qze|intro(_:Nat))
   conv=>whnf
   intro g2 hg
   rw [qLD fun h=>by rw [h.2.2.2.1] at z4;cases z4]
  repeat((conv=>whnf);first|apply qza|apply qzb|apply qzc|apply qzd|apply qze|intro(_:Nat))
  conv=>whnf
  refine⟨fun z5=>?_,fun z5=>?_⟩
  ·repeat((conv=>whnf);first|apply qza|apply qzb|apply qzc|apply qzd|apply qze|intro(_:Nat))
   conv=>whnf
   intro g2 hg
   rw [qLD fun h=>by have:=of_decide_eq_true z5;have:=h.2.2.2.2.1;omega]
  repeat((conv=>whnf);first|apply qza|apply qzb|apply qzc|apply qzd|apply qze|intro(_:Nat))
  conv=>whnf
  refine⟨fun z6=>?_,fun z6=>?_⟩
  ·repeat((conv=>whnf);first|apply qza|apply qzb|apply qzc|apply qzd|apply qze|intro(_:Nat))
   conv=>whnf
   intro g2 hg
   rw [qLD fun h=>by have:=of_decide_eq_true z6;have:=h.2.2.2.2.2.1;omega]
  repeat((conv=>whnf);first|apply qza|apply qzb|apply qzc|apply qzd|apply qze|intro(_:Nat))
  have k1:=of_decide_eq_false z1
  have k2:=of_decide_eq_false z2
  have k3:=nneF z3
  have k4:=nb0 z4
  have k5:=of_decide_eq_false z5
  have k6:=of_decide_eq_false z6
  clear z1 z2 z3 z4 z5 z6
  conv=>whnf
  refine⟨fun z7=>?_,fun z7=>?_⟩
  case' refine_1 =>
   have z7':=bneT z7
   repeat((conv=>whnf);first|apply qza|apply qzb|apply qzc|apply qzd|apply qze|intro(_:Nat))
   conv=>whnf
   refine⟨fun z8=>?_,fun z8=>?_⟩
   case' refine_1 =>
    have z8':=bneT z8
    repeat((conv=>whnf);first|apply qza|apply qzb|apply qzc|apply qzd|apply qze|intro(_:Nat))
    conv=>whnf
    intro g2 hg
    rw [qLD fun h=>by rcases h.2.2.2.2.2.2 with h|h;exact z7' h;exact z8' h]
   have hlk:w.lock=0∨w.lock=1:=.inr (bneF z8)
   clear z7 z8 z7'
  case' refine_2 =>
   have hlk:w.lock=0∨w.lock=1:=.inl (bneF z7)
   clear z7
  all_goals
   have hGr:GrP w:=⟨by omega,by omega,k3,k4,by omega,by omega,hlk⟩
   repeat((conv=>whnf);first|apply qza|apply qzb|apply qzc|apply qzd|apply qze|intro(_:Nat))
   conv=>whnf
   refine⟨Nat,fun k=>[.v (.int .i64 k)],fun _=>⟨g,_,_,_⟩,fun k=>k≤w.pins.length∧(w.pins.take k).all (qiJ w)=true,fun k=>w.pins.length-k,qSA 0 rfl ⟨Nat.zero_le _,by simp⟩ rfl,?_⟩
   rintro k ⟨hk,hp⟩
   repeat((conv=>whnf);first|apply qza|apply qzb|apply qzc|apply qzd|apply qze|intro(_:Nat))
   conv=>whnf
   refine⟨fun hlt=>?_,fun hlt=>?_⟩
   case' refine_1 =>
    have h':k<w.pins.length:=by have:=of_decide_eq_true hlt;omega
    obtain⟨x,hx⟩:=qDA h'
    obtain⟨a,rfl,ec,hec,⟨rfl,hxr⟩,hc⟩:=hP1 k x hx
    obtain⟨c1',c2'⟩:=List.getElem?_eq_some_iff.1 hx
    have hT:(w.pins.take (k+1)).all (qiJ w)=qiJ w x:=by rw [qYF c1',hp,c2'];rfl
    repeat((conv=>whnf);first|apply qza|apply qzb|apply qzc|apply qzd|apply qze|intro(_:Nat))
    conv=>whnf
    refine⟨a,rfl,⟨by omega,by omega⟩,?_⟩
    conv=>whnf
    refine⟨_,hc 0 _ rfl,?_⟩
    repeat((conv=>whnf);first|apply qza|apply qzb|apply qzc|apply qzd|apply qze|intro(_:Nat))
    conv=>whnf
    refine⟨qYH,?_⟩
    repeat((conv=>whnf);first|apply qza|apply qzb|apply qzc|apply qzd|apply qze|intro(_:Nat))
    conv=>whnf
    refine⟨fun y1=>?_,fun y1=>?_⟩
    case' refine_1 =>
     repeat((conv=>whnf);first|apply qza|apply qzb|apply qzc|apply qzd|apply qze|intro(_:Nat))
     conv=>whnf
     intro g2 hg
     rw [decide_eq_true (show(0:Int)≤(k:Int) by omega)]
     have y1':=of_decide_eq_true y1
     rw [q6K (qSC c1' (by rw [c2'];unfold qiJ;rw [decide_eq_false (by omega)];rfl))];rfl
    have y1':=of_decide_eq_false y1
    repeat((conv=>whnf);first|apply qza|apply qzb|apply qzc|apply qzd|apply qze|intro(_:Nat))
    conv=>whnf
    refine⟨fun y2=>?_,fun y2=>?_⟩
    case' refine_1 =>
     repeat((conv=>whnf);first|apply qza|apply qzb|apply qzc|apply qzd|apply qze|intro(_:Nat))
     conv=>whnf
     intro g2 hg
     rw [decide_eq_true (show(0:Int)≤(k:Int) by omega)]
     have y2':=of_decide_eq_true y2
     rw [wr (by unfold InR;omega)] at y2'
     rw [q6K (qSC c1' (by rw [c2'];unfold qiJ;rw [decide_eq_false (show ¬ x≤w.epoch+1 by omega)];simp))];rfl
    have y2':=of_decide_eq_false y2
    rw [wr (by unfold InR;omega)] at y2'
    repeat((conv=>whnf);first|apply qza|apply qzb|apply qzc|apply qzd|apply qze|intro(_:Nat))
    conv=>whnf
    refine fun fr w' hw=>⟨k+1,congrArg (fun z=>[Value.int .i64 z]) (wr1 h' a1 a2).symm,⟨h',by rw [hT];unfold qiJ;rw [decide_eq_true (show 0≤x by omega),decide_eq_true (show x≤w.epoch+1 by omega)];rfl⟩,dec h',?_⟩
    exact hw.fit (by simp [fitL,Res.eqv,qAA,conc])
   have:=of_decide_eq_false hlt
   rw [List.take_of_length_le (by omega)] at hp
   repeat((conv=>whnf);first|apply qza|apply qzb|apply qzc|apply qzd|apply qze|intro(_:Nat))
   conv=>whnf
   intro g2 hg
   rw [groundB_iff.2 ⟨hGr,hp⟩];rfl)
/- Worlds: is one right? The program's answer. -/
open Go.Proofs.Ytkbbljngpglnkaa.Sx Go.RowKit
def SnW (w:Wd):Prop:=∀ v∈w.versions,SnS v.snap
theorem wdB_iff {w:Wd}:wdB w=true↔qqA w=true∧(0≤w.current∧w.current<w.versions.length)∧qmE w.limbo=true∧w.limbo.all (limB w)=true∧allI (verB w) w.versions=true∧allI (qiB w.listens) w.listens=true:=by
 unfold wdB
 simp only [Bool.and_eq_true,decide_eq_true_eq]
 constructor
 ·rintro⟨⟨⟨⟨⟨⟨h1,h2⟩,h3⟩,h4⟩,h5⟩,h6⟩,h7⟩
  exact⟨h1,⟨h2,h3⟩,h4,h5,h6,h7⟩
 ·rintro⟨h1,⟨h2,h3⟩,h4,h5,h6,h7⟩
  exact⟨⟨⟨⟨⟨⟨h1,h2⟩,h3⟩,h4⟩,h5⟩,h6⟩,h7⟩
theorem qSH {w:Wd} (h:¬ (qqA w=true∧(0≤w.current∧w.current<w.versions.length)∧qmE w.limbo=true∧w.limbo.all (limB w)=true∧allI (verB w) w.versions=true∧allI (qiB w.listens) w.listens=true)):wdB w=false:=by
 rw [Bool.eq_false_iff];intro hh;exact h (wdB_iff.1 hh)
theorem qiP (g:GW) {cs:List Value} {w:Wd} (hw:rWo g cs w) (hsn:SnW w):OkV Try.prog qBJ [.agg ⟨cs⟩] g (.bool (wdB w)):=by
 have hw0:=hw
 obtain⟨a,b,c,d,e,rfl,⟨i1,i2,i3⟩,hP,hV,hL,hC,hR⟩:=hw
 obtain⟨oa,ca,rfl,a1,a2,a0,hP1⟩:=id hP
 obtain⟨ob,cb,rfl,b1,b2,b0,hV1⟩:=id hV
 obtain⟨oc,cc,rfl,c1,c2,c0,hL1⟩:=id hL
 obtain⟨od,cd,rfl,d1,d2,d0,hC1⟩:=id hC
 obtain⟨oe,ce,rfl,e1,e2,e0,hR1⟩:=id hR
 exact Ok.of_fn hm noT 0 qsM (args:=[.v (.agg ⟨wQ w oa ca ob cb oc cc od cd oe ce⟩)]) (by
  repeat((conv=>whnf);first|apply qza|apply qzb|apply qzc|apply qzd|apply qze|intro(_:Nat))
  conv=>whnf
  refine .inl ⟨_,qAO _ hw0,?_⟩
  repeat((conv=>whnf);first|apply qza|apply qzb|apply qzc|apply qzd|apply qze|intro(_:Nat))
  conv=>whnf
  refine⟨fun z1=>?_,fun z1=>?_⟩
  ·repeat((conv=>whnf);first|apply qza|apply qzb|apply qzc|apply qzd|apply qze|intro(_:Nat))
   conv=>whnf
   intro g2 hg
   rw [qSH fun h=>by rw [h.1] at z1;cases z1]
  repeat((conv=>whnf);first|apply qza|apply qzb|apply qzc|apply qzd|apply qze|intro(_:Nat))
  conv=>whnf
  refine⟨fun z2=>?_,fun z2=>?_⟩
  ·repeat((conv=>whnf);first|apply qza|apply qzb|apply qzc|apply qzd|apply qze|intro(_:Nat))
   conv=>whnf
   intro g2 hg
   rw [qSH fun h=>by have:=of_decide_eq_true z2;have:=h.2.1;omega]
  repeat((conv=>whnf);first|apply qza|apply qzb|apply qzc|apply qzd|apply qze|intro(_:Nat))
  conv=>whnf
  refine⟨fun z3=>?_,fun z3=>?_⟩
  ·repeat((conv=>whnf);first|apply qza|apply qzb|apply qzc|apply qzd|apply qze|intro(_:Nat))
   conv=>whnf
   intro g2 hg
   rw [qSH fun h=>by have:=of_decide_eq_true z3;have:=h.2.1;omega]
  repeat((conv=>whnf);first|apply qza|apply qzb|apply qzc|apply qzd|apply qze|intro(_:Nat))
  conv=>whnf
  refine .inl ⟨_,qvQ _ hR,?_⟩
  repeat((conv=>whnf);first|apply qza|apply qzb|apply qzc|apply qzd|apply qze|intro(_:Nat))
  conv=>whnf
  refine⟨fun z4=>?_,fun z4=>?_⟩
  ·repeat((conv=>whnf);first|apply qza|apply qzb|apply qzc|apply qzd|apply qze|intro(_:Nat))
   conv=>whnf
   intro g2 hg
   rw [qSH fun h=>by rw [h.2.2.1] at z4;cases z4]
  have k1:=nb0 z1
  have k2:=of_decide_eq_false z2
  have k3:=of_decide_eq_false z3
  have k4:=nb0 z4
  clear z1 z2 z3 z4
  repeat((conv=>whnf);first|apply qza|apply qzb|apply qzc|apply qzd|apply qze|intro(_:Nat))
  rename_i q0 qm
  conv=>whnf
  refine⟨Nat,fun k=>[.v (.int .i64 k)],fun k=>⟨g,[.mp 1 qm .i64 (qXH (w.limbo.take k)),.blk 0 q0 qIA [.v (.int .i64 w.epoch),.v (.int .i64 w.current),.v (.int .i64 w.lock),.v (.slice oa w.pins.length ca),.v (.slice ob w.versions.length cb),.v (.slice oc w.listens.length cc),.v (.slice od w.counts.length cd),.v (.slice oe w.limbo.length ce)]],10,g.w.heap.size⟩,fun k=>k≤w.limbo.length∧(w.limbo.take k).all (limB w)=true,fun k=>w.limbo.length-k,fun fr w' hw=>⟨0,rfl,⟨Nat.zero_le _,by simp⟩,hw.fit (by simp [fitL,Res.eqv,qAA,conc,qXH])⟩,?_⟩
  rintro k ⟨hk,hp⟩
  repeat((conv=>whnf);first|apply qza|apply qzb|apply qzc|apply qzd|apply qze|intro(_:Nat))
  conv=>whnf
  refine⟨fun hlt=>?_,fun hlt=>?_⟩
  ·have h':k<w.limbo.length:=by have:=of_decide_eq_true hlt;omega
   obtain⟨x,hx⟩:=qDA h'
   obtain⟨a,rfl,ec,hec,⟨rfl,xr1,xr2⟩,hc⟩:=hR1 k x hx
   obtain⟨x1,x2⟩:=List.getElem?_eq_some_iff.1 hx
   have hT:(w.limbo.take (k+1)).all (limB w)=limB w x:=by rw [qYF x1,hp,x2];rfl
   have hF:=qDJ hx
   repeat((conv=>whnf);first|apply qza|apply qzb|apply qzc|apply qzd|apply qze|intro(_:Nat))
   conv=>whnf
   refine⟨a,rfl,⟨by omega,by omega⟩,?_⟩
   conv=>whnf
   refine⟨_,⟨rfl,hc⟩,?_⟩
   repeat((conv=>whnf);first|apply qza|apply qzb|apply qzc|apply qzd|apply qze|intro(_:Nat))
   conv=>whnf
   refine⟨fun y1=>?_,fun y1=>?_⟩
   ·repeat((conv=>whnf);first|apply qza|apply qzb|apply qzc|apply qzd|apply qze|intro(_:Nat))
    conv=>whnf
    intro g2 hg
    have y1':=of_decide_eq_true y1
    rw [qSH fun h=>by have h4:=h.2.2.2.1;rw [qSC x1 (by rw [x2];unfold limB;rw [decide_eq_false (by omega)];rfl)] at h4;cases h4]
   have y1':=of_decide_eq_false y1
   repeat((conv=>whnf);first|apply qza|apply qzb|apply qzc|apply qzd|apply qze|intro(_:Nat))
   conv=>whnf
   refine⟨fun y2=>?_,fun y2=>?_⟩
   ·repeat((conv=>whnf);first|apply qza|apply qzb|apply qzc|apply qzd|apply qze|intro(_:Nat))
    conv=>whnf
    intro g2 hg
    have y2':=beqT y2
    rw [qSH fun h=>by have h4:=h.2.2.2.1;rw [qSC x1 (by rw [x2];unfold limB;rw [decide_eq_false (show ¬ x.version≠w.current by simpa using y2')];simp)] at h4;cases h4]
   have y2':=beqF y2
   repeat((conv=>whnf);first|apply qza|apply qzb|apply qzc|apply qzd|apply qze|intro(_:Nat))
   conv=>whnf
   refine⟨fun y3=>?_,fun y3=>?_⟩
   ·repeat((conv=>whnf);first|apply qza|apply qzb|apply qzc|apply qzd|apply qze|intro(_:Nat))
    conv=>whnf
    intro g2 hg
    have y3':=of_decide_eq_true y3
    rw [qSH fun h=>by have h4:=h.2.2.2.1;rw [qSC x1 (by rw [x2];unfold limB;rw [decide_eq_false (show ¬ x.at_≤w.epoch by omega)];simp)] at h4;cases h4]
   have y3':=of_decide_eq_false y3
   repeat((conv=>whnf);first|apply qza|apply qzb|apply qzc|apply qzd|apply qze|intro(_:Nat))
   conv=>whnf
   refine fun fr w' hw=>⟨k+1,congrArg (fun z=>[Value.int .i64 z]) (wr1 h' e1 e2).symm,⟨h',by rw [hT];unfold limB;rw [decide_eq_true (show x.version<w.versions.length by omega),decide_eq_true y2',decide_eq_true (show x.at_≤w.epoch by omega)];rfl⟩,dec h',hw.fit ?_⟩
   simp only [hF]
   simp [fitL,Res.eqv,qAA,conc]
  have hkL:=of_decide_eq_false hlt
  rw [List.take_of_length_le (by omega)] at hp
  obtain rfl:k=w.limbo.length:=by omega
  have hlk:=fun n=>qEJ (n:=n) (qMP k4) (Nat.le_refl w.limbo.length)
  rw [List.take_length] at hlk
  simp only [List.take_length]
  clear hlt hkL hk
  repeat((conv=>whnf);first|apply qza|apply qzb|apply qzc|apply qzd|apply qze|intro(_:Nat))
  conv=>whnf
  refine⟨Nat,fun k=>[.v (.int .i64 k)],fun _=>⟨g,[.mp 1 qm .i64 (qXH w.limbo),.blk 0 q0 qIA [.v (.int .i64 w.epoch),.v (.int .i64 w.current),.v (.int .i64 w.lock),.v (.slice oa w.pins.length ca),.v (.slice ob w.versions.length cb),.v (.slice oc w.listens.length cc),.v (.slice od w.counts.length cd),.v (.slice oe w.limbo.length ce)]],10,g.w.heap.size⟩,fun k=>k≤w.versions.length∧AllK (verB w) w.versions k,fun k=>w.versions.length-k,fun fr w' hw=>⟨0,rfl,⟨Nat.zero_le _,AllK.zero _ _⟩,hw.fit (by simp [fitL,Res.eqv,qAA,conc])⟩,?_⟩
  rintro k ⟨hk,hq⟩
  repeat((conv=>whnf);first|apply qza|apply qzb|apply qzc|apply qzd|apply qze|intro(_:Nat))
  conv=>whnf
  refine⟨fun hlt=>?_,fun hlt=>?_⟩
  ·have h':k<w.versions.length:=by have:=of_decide_eq_true hlt;omega
   obtain⟨x,hx⟩:=qDA h'
   obtain⟨a,rfl,ec,hec,hxv,hc⟩:=hV1 k x hx
   have hxv0:=hxv
   obtain⟨va,vb,vd,vn,rfl,⟨_,_,_,hee,⟨oa',ca',rfl,_⟩,⟨ob',cb',rfl,_⟩,⟨od',cd',rfl,_⟩⟩,⟨on',cn',rfl,_⟩⟩:=hxv
   cases hee
   repeat((conv=>whnf);first|apply qza|apply qzb|apply qzc|apply qzd|apply qze|intro(_:Nat))
   conv=>whnf
   refine⟨a,rfl,⟨by omega,by omega⟩,?_⟩
   conv=>whnf
   refine⟨_,⟨rfl,hc⟩,?_⟩
   repeat((conv=>whnf);first|apply qza|apply qzb|apply qzc|apply qzd|apply qze|intro(_:Nat))
   conv=>whnf
   refine .inl ⟨_,qtL _ hxv0 (hsn x (List.mem_of_getElem? hx)),?_⟩
   repeat((conv=>whnf);first|apply qza|apply qzb|apply qzc|apply qzd|apply qze|intro(_:Nat))
   conv=>whnf
   refine⟨fun y1=>?_,fun y1=>?_⟩
   ·repeat((conv=>whnf);first|apply qza|apply qzb|apply qzc|apply qzd|apply qze|intro(_:Nat))
    conv=>whnf
    intro g2 hg
    rw [qSH fun h=>by have h4:=h.2.2.2.2.1;rw [qtA hx (by unfold verB;rw [nb1 y1];rfl)] at h4;cases h4]
   repeat((conv=>whnf);first|apply qza|apply qzb|apply qzc|apply qzd|apply qze|intro(_:Nat))
   rcases ho:mGet (k:Int) (qXH w.limbo) with _|u
   ·have hl0:=hlk (k:Int)
    rw [ho] at hl0
    simp only [q1K,Value.bool.injEq] at hl0
    conv=>whnf
    refine⟨none,rfl,?_⟩
    repeat((conv=>whnf);first|apply qza|apply qzb|apply qzc|apply qzd|apply qze|intro(_:Nat))
    conv=>whnf
    refine⟨fun y2=>?_,fun y2=>?_⟩
    ·repeat((conv=>whnf);first|apply qza|apply qzb|apply qzc|apply qzd|apply qze|intro(_:Nat))
     conv=>whnf
     intro g2 hg
     rw [qSH fun h=>by have h4:=h.2.2.2.2.1;rw [qtA hx (by unfold verB;rw [nb0 y1,← hl0];simpa using y2)] at h4;cases h4]
    repeat((conv=>whnf);first|apply qza|apply qzb|apply qzc|apply qzd|apply qze|intro(_:Nat))
    conv=>whnf
    refine fun fr w' hw=>⟨k+1,congrArg (fun z=>[Value.int .i64 z]) (wr1 h' b1 b2).symm,⟨h',hq.succ hx (by unfold verB;rw [nb0 y1,← hl0];simpa using y2)⟩,dec h',?_⟩
    exact hw.fit (by simp [fitL,Res.eqv,qAA,conc])
   ·have hl0:=hlk (k:Int)
    rw [ho] at hl0
    simp only [q1K] at hl0
    subst hl0
    conv=>whnf
    refine⟨_,rfl,?_⟩
    repeat((conv=>whnf);first|apply qza|apply qzb|apply qzc|apply qzd|apply qze|intro(_:Nat))
    conv=>whnf
    refine⟨fun y2=>?_,fun y2=>?_⟩
    ·repeat((conv=>whnf);first|apply qza|apply qzb|apply qzc|apply qzd|apply qze|intro(_:Nat))
     conv=>whnf
     intro g2 hg
     rw [qSH fun h=>by have h4:=h.2.2.2.2.1;rw [qtA hx (by unfold verB;rw [nb0 y1];simpa using y2)] at h4;cases h4]
    repeat((conv=>whnf);first|apply qza|apply qzb|apply qzc|apply qzd|apply qze|intro(_:Nat))
    conv=>whnf
    refine fun fr w' hw=>⟨k+1,congrArg (fun z=>[Value.int .i64 z]) (wr1 h' b1 b2).symm,⟨h',hq.succ hx (by unfold verB;rw [nb0 y1];simpa using y2)⟩,dec h',?_⟩
    exact hw.fit (by simp [fitL,Res.eqv,qAA,conc])
  have hqD:=hq.done (by have:=of_decide_eq_false hlt;omega)
  clear hlt hk hq
  repeat((conv=>whnf);first|apply qza|apply qzb|apply qzc|apply qzd|apply qze|intro(_:Nat))
  conv=>whnf
  refine⟨Nat,fun k=>[.v (.int .i64 k)],fun _=>⟨g,[.mp 1 qm .i64 (qXH w.limbo),.blk 0 q0 qIA [.v (.int .i64 w.epoch),.v (.int .i64 w.current),.v (.int .i64 w.lock),.v (.slice oa w.pins.length ca),.v (.slice ob w.versions.length cb),.v (.slice oc w.listens.length cc),.v (.slice od w.counts.length cd),.v (.slice oe w.limbo.length ce)]],10,g.w.heap.size⟩,fun k=>k≤w.listens.length∧AllK (qiB w.listens) w.listens k,fun k=>w.listens.length-k,fun fr w' hw=>⟨0,rfl,⟨Nat.zero_le _,AllK.zero _ _⟩,hw.fit (by simp [fitL,Res.eqv,qAA,conc])⟩,?_⟩
  rintro k ⟨hk,hq⟩
  repeat((conv=>whnf);first|apply qza|apply qzb|apply qzc|apply qzd|apply qze|intro(_:Nat))
  conv=>whnf
  refine⟨fun hlt=>?_,fun hlt=>?_⟩
  ·have h':k<w.listens.length:=by have:=of_decide_eq_true hlt;omega
   obtain⟨x,hx⟩:=qDA h'
   obtain⟨a,rfl,ec,hec,⟨rfl,hxa⟩,hc⟩:=hL1 k x hx
   repeat((conv=>whnf);first|apply qza|apply qzb|apply qzc|apply qzd|apply qze|intro(_:Nat))
   conv=>whnf
   refine⟨a,rfl,⟨by omega,by omega⟩,?_⟩
   conv=>whnf
   refine⟨_,⟨rfl,hc⟩,?_⟩
   repeat((conv=>whnf);first|apply qza|apply qzb|apply qzc|apply qzd|apply qze|intro(_:Nat))
   conv=>whnf
   refine .inl ⟨_,qxQ _ (x:=x) ⟨rfl,hxa⟩,?_⟩
   repeat((conv=>whnf);first|apply qza|apply qzb|apply qzc|apply qzd|apply qze|intro(_:Nat))
   conv=>whnf
   refine⟨fun y1=>?_,fun y1=>?_⟩
   ·repeat((conv=>whnf);first|apply qza|apply qzb|apply qzc|apply qzd|apply qze|intro(_:Nat))
    conv=>whnf
    intro g2 hg
    rw [qSH fun h=>by have h4:=h.2.2.2.2.2;rw [qtA hx (by unfold qiB;rw [nb1 y1];rfl)] at h4;cases h4]
   repeat((conv=>whnf);first|apply qza|apply qzb|apply qzc|apply qzd|apply qze|intro(_:Nat))
   conv=>whnf
   refine .inl ⟨_,q3H _ hL _,?_⟩
   repeat((conv=>whnf);first|apply qza|apply qzb|apply qzc|apply qzd|apply qze|intro(_:Nat))
   conv=>whnf
   refine⟨fun y2=>?_,fun y2=>?_⟩
   ·repeat((conv=>whnf);first|apply qza|apply qzb|apply qzc|apply qzd|apply qze|intro(_:Nat))
    conv=>whnf
    intro g2 hg
    rw [qSH fun h=>by have h4:=h.2.2.2.2.2;rw [qtA hx (by unfold qiB;rw [decide_eq_false (bneT y2)];simp)] at h4;cases h4]
   repeat((conv=>whnf);first|apply qza|apply qzb|apply qzc|apply qzd|apply qze|intro(_:Nat))
   conv=>whnf
   refine fun fr w' hw=>⟨k+1,congrArg (fun z=>[Value.int .i64 z]) (wr1 h' c1 c2).symm,⟨h',hq.succ hx (by unfold qiB;rw [nb0 y1,decide_eq_true (bneF y2)];rfl)⟩,dec h',?_⟩
   exact hw.fit (by simp [fitL,Res.eqv,qAA,conc])
  have hrD:=hq.done (by have:=of_decide_eq_false hlt;omega)
  repeat((conv=>whnf);first|apply qza|apply qzb|apply qzc|apply qzd|apply qze|intro(_:Nat))
  conv=>whnf
  intro g2 hg
  rw [wdB_iff.2 ⟨k1,⟨by omega,by omega⟩,k4,hp,hqD,hrD⟩])
/- Worlds: is one right? The document's answer. -/
open Go.Proofs.Ytkbbljngpglnkaa.Sx Go.RowKit
/- Worlds: how many slots are held. -/
open Go.Proofs.Ytkbbljngpglnkaa.Sx Go.RowKit
/- Collectors: all endpoints of a version. -/
open Go.Proofs.Ytkbbljngpglnkaa.Sx Go.RowKit
def EndsP (v:Version) (x:Value) (g':GW):Prop:=∃ oa cap,x=.slice oa (qfC v).length cap∧rSl 3 rEn g' (.slice oa (qfC v).length cap) (qfC v)
def qjC (v:Version) (k:Nat):List EndC:=(v.groups.take k).flatMap fun g=>g.ends
theorem qLG {v:Version} (hb:BgV 1000000 v):∀ k,k≤v.groups.length→(qjC v k).length≤k*1000000
 | 0,_=>by simp [qjC]
 | k+1,h=>by
  obtain⟨x,hx⟩:=qDA (l:=v.groups) (i:=k) (by omega)
  have h1:=qLG hb k (by omega)
  have h2:x.ends.length≤1000000:=hb.2 x (List.mem_of_getElem? hx)
  have:qjC v (k+1)=qjC v k++x.ends:=by
   unfold qjC
   rw [List.take_add_one,hx];simp
  rw [this,List.length_append,Nat.succ_mul];omega
theorem qTJ {v:Version} {k:Nat} {x:Group} (hx:v.groups[k]?=some x):qjC v (k+1)=qjC v k++x.ends:=by
 unfold qjC
 rw [List.take_add_one,hx];simp
def ecR (g:GW) (ecs:List (List Value)) (l:List EndC):Prop:=ecs.length=l.length∧(∀ e∈ecs,e.length=3)∧∀ (i:Nat) x ec,l[i]?=some x→ecs[i]?=some ec→rEn g ec x
theorem ecR.app {g:GW} {e1 e2:List (List Value)} {l1 l2:List EndC} (h1:ecR g e1 l1) (h2:ecR g e2 l2):ecR g (e1++e2) (l1++l2):=by
 obtain⟨a1,b1,c1⟩:=h1
 obtain⟨a2,b2,c2⟩:=h2
 refine⟨by simp [a1,a2],fun e he=>(List.mem_append.1 he).elim (b1 e) (b2 e),fun i x ec hx hec=>?_⟩
 rcases Nat.lt_or_ge i l1.length with h|h
 ·rw [List.getElem?_append_left h] at hx
  rw [List.getElem?_append_left (by omega)] at hec
  exact c1 i x ec hx hec
 ·rw [List.getElem?_append_right h] at hx
  rw [List.getElem?_append_right (by omega),a1] at hec
  exact c2 _ x ec hx hec
theorem ecR.one {g:GW} {ecs:List (List Value)} {l:List EndC} (h:ecR g ecs l):∀ u∈ecs.flatten,u.oneCell'=true:=fun u hu=>by
 obtain⟨e,he,hue⟩:=List.mem_flatten.1 hu
 obtain⟨i,hi⟩:=List.mem_iff_getElem?.1 he
 have hl:=(List.getElem?_eq_some_iff.1 hi).1
 obtain⟨x,hx⟩:=qDA (l:=l) (i:=i) (by rw [← h.1];exact hl)
 obtain⟨⟨n,rfl,_,_,⟨_,_,rfl,_⟩⟩,_⟩:=h.2.2 i x e hx hi
 simp only [List.mem_cons,List.not_mem_nil,or_false] at hue
 rcases hue with rfl|rfl|rfl<;>rfl
theorem qZM (g:GW) {cs:List Value} {v:Version} (hv:rVe g cs v) (hb:BgV 1000000 v):Ok Try.prog qtI [.agg ⟨cs⟩] g (EndsP v):=by
 obtain⟨va,vb,vd,vn,rfl,hsn,hG⟩:=hv
 obtain⟨og,cg,rfl,p1,p2,p0,hG1⟩:=id hG
 obtain⟨_,_,_,he2,⟨sa,ta,rfl,_⟩,⟨sb,tb,rfl,_⟩,⟨sd,td,rfl,_⟩⟩:=hsn
 cases he2
 have hgl:=hb.1
 exact Ok.of_fn hm noT 0 qjI (args:=[.v (.agg ⟨[.slice sa v.snap.listens.length ta,.slice sb v.snap.rules.length tb,.slice sd v.snap.clusters.length td,.slice og v.groups.length cg,.bool v.freed]⟩)]) (by
  repeat((conv=>whnf);first|apply qza|apply qzb|apply qzc|apply qzd|apply qze|intro(_:Nat)|intro(_:OA)_)
  rename_i q0
  conv=>whnf
  refine⟨Nat×(Option Addr×Nat×List (List Value)),fun (k,oX,cX,ecs)=>[.row 20 oX (qjC v k).length cX,.v (.int .i64 k)],fun (k,oX,cX,ecs)=>⟨g,.row 20 oX (qjC v k).length cX qZA 3 ecs.flatten :: .blk 0 q0 qBA [.v (.slice sa v.snap.listens.length ta),.v (.slice sb v.snap.rules.length tb),.v (.slice sd v.snap.clusters.length td),.v (.slice og v.groups.length cg),.v (.bool v.freed)] :: [],40,g.w.heap.size⟩,fun (k,oX,cX,ecs)=>k≤v.groups.length∧ecR g ecs (qjC v k),fun (k,_)=>v.groups.length-k,?_,?_⟩
  ·intro fr w hw
   exact⟨(0,none,0,[]),rfl,⟨Nat.zero_le _,rfl,by simp,fun i x ec hx=>by simp [qjC] at hx⟩,(hw.nil_row (nx':=40) 20 qZA 3).fit (by simp [fitL,Res.eqv,qAA,conc,qjC])⟩
  rintro⟨k,oX,cX,ecs⟩ ⟨hk,hR⟩
  have hk:k≤v.groups.length:=hk
  have hR:ecR g ecs (qjC v k):=hR
  have hlen:=qLG hb k hk
  conv=>whnf
  refine⟨fun hlt=>?_,fun hlt=>?_⟩
  ·have h':k<v.groups.length:=by have h9:(k:Int)<v.groups.length:=of_decide_eq_true hlt;omega
   obtain⟨x,hx⟩:=qDA h'
   obtain⟨a,rfl,ec,hec,⟨xn,rfl,hti,hE⟩,hcc⟩:=hG1 k x hx
   have hxl:x.ends.length≤1000000:=hb.2 x (List.mem_of_getElem? hx)
   obtain⟨on,cn,rfl,r1,r2,r0,hE1⟩:=id hE
   obtain⟨ecx,hrd,hcl,hcs,hcR⟩:=qlL hE
   have hRx:ecR g ecx x.ends:=⟨hcl,hcs,hcR⟩
   repeat((conv=>whnf);first|apply qza|apply qzb|apply qzc|apply qzd|apply qze|intro(_:Nat)|intro(_:OA)_)
   conv=>whnf
   refine⟨a,rfl,⟨by show(0:Int)≤k;omega,by show(k:Int)<v.groups.length;omega⟩,?_⟩
   repeat((conv=>whnf);first|apply qza|apply qzb|apply qzc|apply qzd|apply qze|intro(_:Nat)|intro(_:OA)_)
   conv=>whnf
   refine⟨_,⟨rfl,hcc⟩,?_⟩
   repeat((conv=>whnf);first|apply qza|apply qzb|apply qzc|apply qzd|apply qze|intro(_:Nat)|intro(_:OA)_)
   rename_i q1
   conv=>whnf
   refine⟨ecx.flatten,⟨hrd,hRx.one⟩,?_⟩
   repeat((conv=>whnf);first|apply qza|apply qzb|apply qzc|apply qzd|apply qze|intro(_:Nat)|intro(_:OA)_)
   conv=>whnf
   refine⟨⟨by unfold maxLen;omega,by omega⟩,fun oa2 cap2=>?_⟩
   repeat((conv=>whnf);first|apply qza|apply qzb|apply qzc|apply qzd|apply qze|intro(_:Nat)|intro(_:OA)_)
   conv=>whnf
   refine fun fr w hw=>⟨(k+1,oa2,cap2,ecs++ecx),?_,⟨h',by rw [qTJ hx];exact hR.app hRx⟩,dec h',hw.fit ?_⟩
   ·simp only [qTJ hx,List.length_append]
    exact congrArg (fun z=>[Value.slice oa2 ((qjC v k).length+x.ends.length) cap2,.int .i64 z]) (wr1 h' p1 p2).symm
   ·simp only [qTJ hx,List.length_append,List.flatten_append]
    simp [fitL,Res.eqv,qAA,conc]
  have hz1:k=v.groups.length:=by have h9:¬ (k:Int)<v.groups.length:=of_decide_eq_false hlt;omega
  subst hz1
  have hte:qjC v v.groups.length=qfC v:=by unfold qjC qfC;rw [List.take_length]
  rw [hte] at hR
  repeat((conv=>whnf);first|apply qza|apply qzb|apply qzc|apply qzd|apply qze|intro(_:Nat)|intro(_:OA)_)
  conv=>whnf
  refine fun g1 hg1 hn1 hp1=>?_
  conv=>whnf
  intro g2 hg
  rw [hte] at *
  refine⟨_,_,rfl,?_⟩
  exact(qjE hp1.rd (qfC v) ecs rfl hR.2.1 rfl hR.1 fun i x ec hx hec=>qSE _ _ _ _ hg1 (hR.2.2 i x ec hx hec)).mono qSE hg)
theorem qkJ (g:GW) {cs:List Value} {v:Version} (hv:rVe g cs v) (hb:BgV 1000000 v):OkV Try.prog qpD [.agg ⟨cs⟩] g (.int .i64 (qfC v).length):=by
 have hv0:=hv
 obtain⟨va,vb,vd,vn,rfl,hsn,hG⟩:=hv
 obtain⟨og,cg,rfl,p1,p2,p0,hG1⟩:=id hG
 obtain⟨_,_,_,he2,⟨sa,ta,rfl,_⟩,⟨sb,tb,rfl,_⟩,⟨sd,td,rfl,_⟩⟩:=hsn
 cases he2
 exact Ok.of_fn hm noT 0 qkI (args:=[.v (.agg ⟨[.slice sa v.snap.listens.length ta,.slice sb v.snap.rules.length tb,.slice sd v.snap.clusters.length td,.slice og v.groups.length cg,.bool v.freed]⟩)]) (by
  repeat((conv=>whnf);first|apply qza|apply qzb|apply qzc|apply qzd|apply qze|intro(_:Nat))
  refine .inr ((qZM _ hv0 hb).mono fun x g1 hg1 hE=>?_)
  obtain⟨oe,ce,rfl,hEs⟩:=hE
  repeat((conv=>whnf);first|apply qza|apply qzb|apply qzc|apply qzd|apply qze|intro(_:Nat))
  conv=>whnf
  intro g2 hg
  rfl)
/- Worlds: those that are the same are found the same. -/
open Go.Proofs.Ytkbbljngpglnkaa.Sx Go.RowKit
end Go.Proofs.Ytkbbljngpglnkaa
