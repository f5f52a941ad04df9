/- Machines: which ones suit a world. -/
import Derived.Test.YtkbbljngpglnkaaGreatLW24a
import Derived.Test.YtkbbljngpglnkaaGreatPl
import Derived.Test.YtkbbljngpglnkaaGreatLW9b
set_option linter.unusedVariables false
set_option linter.unusedSimpArgs false
namespace Go.Proofs.YtkbbljngpglnkaaGreat
open Go.Proofs.YtkbbljngpglnkaaGreat.Sx Go.RowKit
set_option maxHeartbeats 16000000
set_option maxRecDepth 100000
theorem qXD (g:GW) (i n:Int):OkV Tryz.prog qaR [.int .i64 i,.int .i64 n] g (.bool (inB i n)) :=
 Ok.of_fn hm noT 0 q9Q (args:=[.v (.int .i64 i),.v (.int .i64 n)]) (by
  repeat((conv=>whnf);first|apply qza|apply qzb|apply qzc|apply qzd|apply qze|intro(_:Nat))
  conv=>whnf
  refine⟨fun h=>?_,fun h=>?_⟩
  ·repeat((conv=>whnf);first|apply qza|apply qzb|apply qzc|apply qzd|apply qze|intro(_:Nat))
   conv=>whnf
   intro g2 hg
   unfold inB;rw [h];rfl
  ·repeat((conv=>whnf);first|apply qza|apply qzb|apply qzc|apply qzd|apply qze|intro(_:Nat))
   conv=>whnf
   intro g2 hg
   unfold inB;rw [h];rfl)
theorem qyA (g:GW) {cs ms:List Value} {w:Wd} {m:Mach} (hw:rWo g cs w) (hM:qjC g ms m) (hsn:SnW w) (hb:BgW 1000000 w):OkV Tryz.prog qzN [.agg ⟨cs⟩,.agg ⟨ms⟩] g (.bool (qkA w m)):=by
 have hw0:=hw
 obtain⟨a,b,c,d,e,rfl,⟨i1,i2,i3⟩,hP,hV,hL,hC,hR⟩:=hw
 obtain⟨oa,ca,rfl,a1,a2,a0,hP1⟩:=id hP
 obtain⟨ob,cb,rfl,b1,b2,b0,hV1⟩:=id hV
 obtain⟨oc,cc,rfl,c1,c2,c0,hL1⟩:=id hL
 obtain⟨od,cd,rfl,d1,d2,d0,hC1⟩:=id hC
 obtain⟨oe,ce,rfl,e1,e2,e0,hR1⟩:=id hR
 obtain⟨ma,mb,md,rfl,hok,_,⟨_,_,_,he,⟨o1,t1,rfl,_⟩,⟨o2,t2,rfl,_⟩,⟨o3,t3,rfl,_⟩⟩⟩:=hM
 cases he
 have hLl:=hb.1.2.2.1
 exact Ok.of_fn hm noT 0 qVN (args:=[.v (.agg ⟨wQ w oa ca ob cb oc cc od cd oe ce⟩),.v (.agg ⟨mQ m o1 t1 o2 t2 o3 t3⟩)]) (by
  repeat((conv=>whnf);first|apply qza|apply qzb|apply qzc|apply qzd|apply qze|intro(_:Nat))
  conv=>whnf
  refine .inl ⟨_,qQM _ hw0 hsn,?_⟩
  repeat((conv=>whnf);first|apply qza|apply qzb|apply qzc|apply qzd|apply qze|intro(_:Nat))
  conv=>whnf
  refine⟨fun z1=>?_,fun z1=>?_⟩
  ·repeat((conv=>whnf);first|apply qza|apply qzb|apply qzc|apply qzd|apply qze|intro(_:Nat))
   conv=>whnf
   intro g2 hg
   rw [qWD fun ⟨v,gr,en,h⟩=>by rw [h.right] at z1;cases z1]
  repeat((conv=>whnf);first|apply qza|apply qzb|apply qzc|apply qzd|apply qze|intro(_:Nat))
  conv=>whnf
  refine .inl ⟨_,qXD _ _ _,?_⟩
  repeat((conv=>whnf);first|apply qza|apply qzb|apply qzc|apply qzd|apply qze|intro(_:Nat))
  conv=>whnf
  refine⟨fun z2=>?_,fun z2=>?_⟩
  ·repeat((conv=>whnf);first|apply qza|apply qzb|apply qzc|apply qzd|apply qze|intro(_:Nat))
   conv=>whnf
   intro g2 hg
   rw [qWD fun ⟨v,gr,en,h⟩=>by rw [inB_iff.2 h.thread] at z2;cases z2]
  repeat((conv=>whnf);first|apply qza|apply qzb|apply qzc|apply qzd|apply qze|intro(_:Nat))
  conv=>whnf
  refine⟨fun z3=>?_,fun z3=>?_⟩
  ·repeat((conv=>whnf);first|apply qza|apply qzb|apply qzc|apply qzd|apply qze|intro(_:Nat))
   conv=>whnf
   intro g2 hg
   rw [qWD fun ⟨v,gr,en,h⟩=>by rw [h.done] at z3;cases z3]
  repeat((conv=>whnf);first|apply qza|apply qzb|apply qzc|apply qzd|apply qze|intro(_:Nat))
  conv=>whnf
  refine .inl ⟨_,qXD _ _ _,?_⟩
  repeat((conv=>whnf);first|apply qza|apply qzb|apply qzc|apply qzd|apply qze|intro(_:Nat))
  conv=>whnf
  refine⟨fun z4=>?_,fun z4=>?_⟩
  ·repeat((conv=>whnf);first|apply qza|apply qzb|apply qzc|apply qzd|apply qze|intro(_:Nat))
   conv=>whnf
   intro g2 hg
   rw [qWD fun ⟨v,gr,en,h⟩=>by
    have:=(List.getElem?_eq_some_iff.1 h.ver.2).1
    rw [inB_iff.2 ⟨h.ver.1,by have:=h.ver.1;omega⟩] at z4;cases z4]
  have k4:=inB_iff.1 (nb0 z4)
  obtain⟨v,hv⟩:=qBA (l:=w.versions) (i:=m.version.toNat) (by omega)
  obtain⟨aV,rfl,ecV,hecV,⟨va,vb,vd,vn,rfl,hS,hG⟩,hcV⟩:=hV1 _ v hv
  obtain⟨og,cg,rfl,g1,g2,g0,hG1⟩:=id hG
  repeat((conv=>whnf);first|apply qza|apply qzb|apply qzc|apply qzd|apply qze|intro(_:Nat))
  conv=>whnf
  refine⟨aV,rfl,⟨by omega,by omega⟩,?_⟩
  conv=>whnf
  refine⟨_,hcV 3 _ rfl,?_⟩
  repeat((conv=>whnf);first|apply qza|apply qzb|apply qzc|apply qzd|apply qze|intro(_:Nat))
  conv=>whnf
  refine .inl ⟨_,qXD _ _ _,?_⟩
  repeat((conv=>whnf);first|apply qza|apply qzb|apply qzc|apply qzd|apply qze|intro(_:Nat))
  conv=>whnf
  refine⟨fun z5=>?_,fun z5=>?_⟩
  ·repeat((conv=>whnf);first|apply qza|apply qzb|apply qzc|apply qzd|apply qze|intro(_:Nat))
   conv=>whnf
   intro g2 hg
   rw [qWD fun ⟨v',gr,en,h⟩=>by
    have:=h.ver.2
    rw [hv] at this;cases this
    have:=(List.getElem?_eq_some_iff.1 h.clu.2).1
    rw [inB_iff.2 ⟨h.clu.1,by have:=h.clu.1;omega⟩] at z5;cases z5]
  have k5:=inB_iff.1 (nb0 z5)
  obtain⟨gr,hgr⟩:=qBA (l:=v.groups) (i:=m.cluster.toNat) (by omega)
  obtain⟨aG,rfl,ecG,hecG,⟨ve,rfl,_,hE⟩,hcG⟩:=hG1 _ gr hgr
  obtain⟨oq,cq,rfl,q1,q2,q0,hE1⟩:=id hE
  repeat((conv=>whnf);first|apply qza|apply qzb|apply qzc|apply qzd|apply qze|intro(_:Nat))
  conv=>whnf
  refine⟨aG,rfl,⟨by omega,by omega⟩,?_⟩
  conv=>whnf
  refine⟨_,hcG 1 _ rfl,?_⟩
  repeat((conv=>whnf);first|apply qza|apply qzb|apply qzc|apply qzd|apply qze|intro(_:Nat))
  conv=>whnf
  refine .inl ⟨_,qXD _ _ _,?_⟩
  repeat((conv=>whnf);first|apply qza|apply qzb|apply qzc|apply qzd|apply qze|intro(_:Nat))
  conv=>whnf
  refine⟨fun z6=>?_,fun z6=>?_⟩
  ·repeat((conv=>whnf);first|apply qza|apply qzb|apply qzc|apply qzd|apply qze|intro(_:Nat))
   conv=>whnf
   intro g2 hg
   rw [qWD fun ⟨v',gr',en,h⟩=>by
    have:=h.ver.2
    rw [hv] at this;cases this
    have:=h.clu.2
    rw [hgr] at this;cases this
    have:=(List.getElem?_eq_some_iff.1 h.end_.2).1
    rw [inB_iff.2 ⟨h.end_.1,by have:=h.end_.1;omega⟩] at z6;cases z6]
  have k6:=inB_iff.1 (nb0 z6)
  repeat((conv=>whnf);first|apply qza|apply qzb|apply qzc|apply qzd|apply qze|intro(_:Nat))
  conv=>whnf
  refine .inl ⟨_,qXD _ _ _,?_⟩
  repeat((conv=>whnf);first|apply qza|apply qzb|apply qzc|apply qzd|apply qze|intro(_:Nat))
  conv=>whnf
  refine⟨fun z7=>?_,fun z7=>?_⟩
  ·repeat((conv=>whnf);first|apply qza|apply qzb|apply qzc|apply qzd|apply qze|intro(_:Nat))
   conv=>whnf
   intro g2 hg
   rw [qWD fun ⟨v',gr',en,h⟩=>by
    have:=h.ver.2
    rw [hv] at this;cases this
    have:=h.clu.2
    rw [hgr] at this;cases this
    rw [inB_iff.2 h.other] at z7;cases z7]
  have k7:=inB_iff.1 (nb0 z7)
  obtain⟨en,hen⟩:=qBA (l:=gr.ends) (i:=m.end_.toNat) (by omega)
  obtain⟨aE,rfl,ecE,hecE,⟨⟨vx,rfl,_,_,hN⟩,_⟩,hcE⟩:=hE1 _ en hen
  obtain⟨ox,cx,rfl,x1,x2,x0,hN1⟩:=id hN
  repeat((conv=>whnf);first|apply qza|apply qzb|apply qzc|apply qzd|apply qze|intro(_:Nat))
  conv=>whnf
  refine⟨aE,rfl,⟨by omega,by omega⟩,?_⟩
  conv=>whnf
  refine⟨_,hcE 1 _ rfl,?_⟩
  repeat((conv=>whnf);first|apply qza|apply qzb|apply qzc|apply qzd|apply qze|intro(_:Nat))
  conv=>whnf
  refine .inl ⟨_,qXD _ _ _,?_⟩
  repeat((conv=>whnf);first|apply qza|apply qzb|apply qzc|apply qzd|apply qze|intro(_:Nat))
  conv=>whnf
  refine⟨fun z8=>?_,fun z8=>?_⟩
  ·repeat((conv=>whnf);first|apply qza|apply qzb|apply qzc|apply qzd|apply qze|intro(_:Nat))
   conv=>whnf
   intro g2 hg
   rw [qWD fun ⟨v',gr',en',h⟩=>by
    have:=h.ver.2
    rw [hv] at this;cases this
    have:=h.clu.2
    rw [hgr] at this;cases this
    have:=h.end_.2
    rw [hen] at this;cases this
    rw [inB_iff.2 h.slot] at z8;cases z8]
  have k8:=inB_iff.1 (nb0 z8)
  have hl2:IntKind.i64.wrap ((w.listens.length:Int)+1)=(w.listens.length:Int)+1:=wr (by unfold InR;omega)
  have hmL:=hok.listen
  have hl3:(IntKind.i64.wrap (m.listen+1)=m.listen+1∨IntKind.i64.wrap (m.listen+1)<0):=by
   rcases Int.lt_or_le m.listen 9223372036854775807 with h|h
   ·exact .inl (wr (by unfold InR at hmL ⊢;omega))
   ·obtain h:m.listen=9223372036854775807:=by unfold InR at hmL;omega
    rw [h];exact .inr (by decide)
  repeat((conv=>whnf);first|apply qza|apply qzb|apply qzc|apply qzd|apply qze|intro(_:Nat))
  conv=>whnf
  refine .inl ⟨_,qXD _ _ _,?_⟩
  repeat((conv=>whnf);first|apply qza|apply qzb|apply qzc|apply qzd|apply qze|intro(_:Nat))
  conv=>whnf
  refine⟨fun z9=>?_,fun z9=>?_⟩
  case' refine_2 =>
   repeat((conv=>whnf);first|apply qza|apply qzb|apply qzc|apply qzd|apply qze|intro(_:Nat))
   conv=>whnf
   intro g2 hg
   rw [qWD fun ⟨v',gr',en',h⟩=>by
    rw [inB_iff.2 (by rw [hl2,wr (by have:=h.listen;unfold InR;omega)];have:=h.listen;omega)] at z9;cases z9]
  have k9:=inB_iff.1 z9
  rw [hl2] at k9
  repeat((conv=>whnf);first|apply qza|apply qzb|apply qzc|apply qzd|apply qze|intro(_:Nat))
  conv=>whnf
  refine⟨fun z10=>?_,fun z10=>?_⟩
  case' refine_2 =>
   repeat((conv=>whnf);first|apply qza|apply qzb|apply qzc|apply qzd|apply qze|intro(_:Nat))
   conv=>whnf
   intro g2 hg
   have:=of_decide_eq_false z10
   rw [qWD fun ⟨v',gr',en',h⟩=>by have:=h.i;omega]
  have k10:=of_decide_eq_true z10
  repeat((conv=>whnf);first|apply qza|apply qzb|apply qzc|apply qzd|apply qze|intro(_:Nat))
  conv=>whnf
  intro g2 hg
  by_cases hk:0≤m.k
  ·rw [decide_eq_true hk,suitB_iff.2 ⟨v,gr,en,⟨nb0 z1,inB_iff.1 (nb0 z2),z3,⟨k4.1,hv⟩,⟨k5.1,hgr⟩,⟨k6.1,hen⟩,k7,k8,⟨by omega,by omega⟩,k10,hk⟩⟩]
  ·rw [decide_eq_false hk,qWD fun ⟨v',gr',en',h⟩=>hk h.k])
/- Machines: which ones suit a world;the document's answer. -/
open Go.Proofs.YtkbbljngpglnkaaGreat.Sx Go.RowKit
/- Collectors: may a machine be at its place? -/
open Go.Proofs.YtkbbljngpglnkaaGreat.Sx Go.RowKit
noncomputable def mayB (w:Wd) (m:Mach):Bool:=@decide (cMay w m) (Classical.propDecidable _)
theorem qcE {w:Wd} {m:Mach} (h:cMay w m):mayB w m=true:=@decide_eq_true _ (Classical.propDecidable _) h
theorem qeO {w:Wd} {m:Mach} (h:¬ cMay w m):mayB w m=false:=@decide_eq_false _ (Classical.propDecidable _) h
theorem qnT {w:Wd} {m:Mach} (h:mayB w m=true):cMay w m:=@of_decide_eq_true _ (Classical.propDecidable _) h
theorem qWJ {w:Wd} {m:Mach} {P:Prop} [Decidable P] (h:cMay w m↔P):mayB w m=decide P:=by
 by_cases hp:P
 ·rw [qcE (h.2 hp),decide_eq_true hp]
 ·rw [qeO fun k=>hp (h.1 k),decide_eq_false hp]
theorem qFF (g:GW) {cs ms:List Value} {w:Wd} {m:Mach} (hw:rWo g cs w) (hM:qjC g ms m) (hs:qkA w m=true) (hb:BgW 1000000 w):OkV Tryz.prog qWL [.agg ⟨cs⟩,.agg ⟨ms⟩] g (.bool (mayB w m)):=by
 obtain⟨a,b,c,d,e,rfl,⟨i1,i2,i3⟩,hP,hV,hL,hC,hR⟩:=hw
 obtain⟨oa,ca,rfl,a1,a2,a0,hP1⟩:=id hP
 obtain⟨ob,cb,rfl,b1,b2,b0,hV1⟩:=id hV
 obtain⟨oc,cc,rfl,c1,c2,c0,hL1⟩:=id hL
 obtain⟨od,cd,rfl,d1,d2,d0,hC1⟩:=id hC
 obtain⟨oe,ce,rfl,e1,e2,e0,hR1⟩:=id hR
 obtain⟨ma,mb,md,rfl,hok,_,⟨_,_,_,he,⟨o1,t1,rfl,_⟩,⟨o2,t2,rfl,_⟩,⟨o3,t3,rfl,_⟩⟩⟩:=hM
 cases he
 obtain⟨v,gr,en,hS⟩:=suitB_iff.1 hs
 exact Ok.of_fn hm noT 0 q4K (args:=[.v (.agg ⟨wQ w oa ca ob cb oc cc od cd oe ce⟩),.v (.agg ⟨mQ m o1 t1 o2 t2 o3 t3⟩)]) (by
  repeat((conv=>whnf);first|apply qza|apply qzb|apply qzc|apply qzd|apply qze|intro(_:Nat))
  conv=>whnf
  refine⟨fun z1=>?_,fun z1=>?_⟩
  ·have z1:m.pc=2:=of_decide_eq_true z1
   repeat((conv=>whnf);first|apply qza|apply qzb|apply qzc|apply qzd|apply qze|intro(_:Nat))
   conv=>whnf
   intro g2 hg
   rw [qWJ (P:=m.i<w.pins.length) ⟨fun h=>h.1 z1,fun h=>⟨fun _=>h,by omega,by omega,by omega,by omega⟩⟩]
  have z1:¬ m.pc=2:=of_decide_eq_false z1
  repeat((conv=>whnf);first|apply qza|apply qzb|apply qzc|apply qzd|apply qze|intro(_:Nat))
  conv=>whnf
  refine⟨fun z2=>?_,fun z2=>?_⟩
  ·have z2:m.pc=5:=of_decide_eq_true z2
   obtain⟨av,rfl,ecv,hecv,hVv,hcv⟩:=hV1 _ v hS.ver.2
   have hv0:=hVv
   have hvb:=hb.2.2 v (List.mem_of_getElem? hS.ver.2)
   have hvl:=(List.getElem?_eq_some_iff.1 hS.ver.2).1
   have hv1:=hS.ver.1
   obtain⟨va,vb,vd,vn,rfl,hsn,hG⟩:=hVv
   obtain⟨og,cg,rfl,_⟩:=id hG
   obtain⟨_,_,_,he2,⟨sa,ta,rfl,_⟩,⟨sb,tb,rfl,_⟩,⟨sd,td,rfl,_⟩⟩:=hsn
   cases he2
   repeat'((conv=>whnf);first|apply qza|apply qzb|apply qzc|apply qzd|apply qze|intro(_:Nat)|refine⟨_,rfl,⟨by omega,by omega⟩,?_⟩|refine⟨_,⟨rfl,hcv⟩,?_⟩|refine .inl ⟨_,qbO _ hv0 hvb,?_⟩|fail)
   conv=>whnf
   intro g2 hg
   rw [qWJ (P:=m.k<(q3A v).length) ⟨fun h=>by have:=h.2.1 z2;rwa [hS.at_.1] at this,fun h=>⟨by omega,fun _=>by rw [hS.at_.1];exact h,by omega,by omega,by omega⟩⟩]
  have z2:¬ m.pc=5:=of_decide_eq_false z2
  repeat((conv=>whnf);first|apply qza|apply qzb|apply qzc|apply qzd|apply qze|intro(_:Nat))
  conv=>whnf
  refine⟨fun z3=>?_,fun z3=>?_⟩
  ·have z3:m.pc=6:=of_decide_eq_true z3
   have hi0:=hS.i
   repeat((conv=>whnf);first|apply qza|apply qzb|apply qzc|apply qzd|apply qze|intro(_:Nat))
   conv=>whnf
   refine⟨fun y1=>?_,fun y1=>?_⟩
   ·have hi:m.i<w.limbo.length:=of_decide_eq_true y1
    obtain⟨r,hr⟩:=qBA (l:=w.limbo) (i:=m.i.toNat) (by omega)
    obtain⟨ar,rfl,ecr,hecr,⟨rfl,_⟩,hcr⟩:=hR1 _ r hr
    repeat'((conv=>whnf);first|apply qza|apply qzb|apply qzc|apply qzd|apply qze|intro(_:Nat)|refine⟨_,rfl,⟨by omega,by omega⟩,?_⟩|refine⟨_,hcr 0 _ rfl,?_⟩|refine⟨_,hcr 2 _ rfl,?_⟩|fail)
    conv=>whnf
    refine⟨fun y2=>?_,fun y2=>?_⟩
    ·have hv:r.version=m.version:=of_decide_eq_true y2
     repeat'((conv=>whnf);first|apply qza|apply qzb|apply qzc|apply qzd|apply qze|intro(_:Nat)|refine⟨_,rfl,⟨by omega,by omega⟩,?_⟩|refine⟨_,hcr 0 _ rfl,?_⟩|refine⟨_,hcr 2 _ rfl,?_⟩|fail)
     conv=>whnf
     intro g2 hg
     rw [qWJ (P:=r.gone=false) ⟨fun h=>by have:=(h.2.2.1 z3).2.2;rwa [qVG hr] at this,fun h=>⟨by omega,by omega,fun _=>⟨hi,by rw [qVG hr];exact hv,by rw [qVG hr];exact h⟩,by omega,by omega⟩⟩]
     cases r.gone<;>rfl
    ·have hv:¬ r.version=m.version:=of_decide_eq_false y2
     repeat'((conv=>whnf);first|apply qza|apply qzb|apply qzc|apply qzd|apply qze|intro(_:Nat)|fail)
     conv=>whnf
     intro g2 hg
     rw [qeO fun h=>hv (by have:=(h.2.2.1 z3).2.1;rwa [qVG hr] at this)]
   ·have hi:¬ m.i<w.limbo.length:=of_decide_eq_false y1
    repeat'((conv=>whnf);first|apply qza|apply qzb|apply qzc|apply qzd|apply qze|intro(_:Nat)|fail)
    conv=>whnf
    intro g2 hg
    rw [qeO fun h=>hi (h.2.2.1 z3).1]
  have z3:¬ m.pc=6:=of_decide_eq_false z3
  repeat((conv=>whnf);first|apply qza|apply qzb|apply qzc|apply qzd|apply qze|intro(_:Nat))
  conv=>whnf
  refine⟨fun z4=>?_,fun z4=>?_⟩
  ·have z4:m.pc=9:=of_decide_eq_true z4
   repeat((conv=>whnf);first|apply qza|apply qzb|apply qzc|apply qzd|apply qze|intro(_:Nat))
   conv=>whnf
   intro g2 hg
   rw [qWJ (P:=m.i<w.listens.length) ⟨fun h=>h.2.2.2.1 z4,fun h=>⟨by omega,by omega,by omega,fun _=>h,by omega⟩⟩]
  have z4:¬ m.pc=9:=of_decide_eq_false z4
  repeat((conv=>whnf);first|apply qza|apply qzb|apply qzc|apply qzd|apply qze|intro(_:Nat))
  conv=>whnf
  refine⟨fun z5=>?_,fun z5=>?_⟩
  ·have z5:m.pc=10:=of_decide_eq_true z5
   repeat((conv=>whnf);first|apply qza|apply qzb|apply qzc|apply qzd|apply qze|intro(_:Nat))
   conv=>whnf
   refine⟨fun z6=>?_,fun z6=>?_⟩
   ·have hi:m.i<w.listens.length:=of_decide_eq_true z6
    have hi0:=hS.i
    obtain⟨r,hr⟩:=qBA (l:=w.listens) (i:=m.i.toNat) (by omega)
    obtain⟨ar,rfl,ecr,hecr,⟨rfl,_⟩,hcr⟩:=hL1 _ r hr
    repeat((conv=>whnf);first|apply qza|apply qzb|apply qzc|apply qzd|apply qze|intro(_:Nat))
    conv=>whnf
    refine⟨_,rfl,⟨by omega,by omega⟩,?_⟩
    repeat((conv=>whnf);first|apply qza|apply qzb|apply qzc|apply qzd|apply qze|intro(_:Nat))
    conv=>whnf
    refine⟨_,hcr 1 _ rfl,?_⟩
    repeat((conv=>whnf);first|apply qza|apply qzb|apply qzc|apply qzd|apply qze|intro(_:Nat))
    conv=>whnf
    intro g2 hg
    rw [qWJ (P:=r.drain=true) ⟨fun h=>by have:=(h.2.2.2.2 z5).2;rwa [qUG hr] at this,fun h=>⟨by omega,by omega,by omega,by omega,fun _=>⟨hi,by rw [qUG hr];exact h⟩⟩⟩]
    cases r.drain<;>rfl
   ·have hi:¬ m.i<w.listens.length:=of_decide_eq_false z6
    repeat((conv=>whnf);first|apply qza|apply qzb|apply qzc|apply qzd|apply qze|intro(_:Nat))
    conv=>whnf
    intro g2 hg
    rw [qeO fun h=>hi (h.2.2.2.2 z5).1]
  have z5:¬ m.pc=10:=of_decide_eq_false z5
  repeat((conv=>whnf);first|apply qza|apply qzb|apply qzc|apply qzd|apply qze|intro(_:Nat))
  conv=>whnf
  intro g2 hg
  rw [qcE ⟨by omega,by omega,by omega,by omega,by omega⟩])
/- Worlds: what is cloned: rows. -/
open Go.Proofs.YtkbbljngpglnkaaGreat.Sx Go.RowKit
abbrev wT:WTy:=⟨qzA,qeA,qaA,qCA,qOA,qJE,qUB,quB⟩
abbrev cI1 (x:Int):List Value:=[.int .i64 x]
abbrev cU1 (x:Int):List Value:=[.int .u64 x]
abbrev cLi (x:Listen):List Value:=[.string x.name,.bool x.drain,.int .i64 x.active,.bool x.closed]
abbrev cRe (x:Retired):List Value:=[.int .i64 x.version,.int .i64 x.at_,.bool x.gone]
theorem qOR {α:Type} {l:List α} {f:α→List Value} (h:∀ x∈l,(f x).all Value.oneCell'=true):∀ u∈(l.map f).flatten,u.oneCell'=true:=oneF h
theorem qKQ (g0 g:GW) (h0:g0≤g) {v:Value} {l:List Int} (hl:rSl 1 rInt g v l) (hlen:l.length≤17592186044416):Ok Tryz.prog qZE [v] g fun v' g'=>oSl qzA 1 (oLf rInt) g' g0.w.heap.size (NEW g g') v' l:=by
 obtain⟨oa,ca,rfl,a1,a2,a0,hr⟩:=id hl
 have hR:∀ x∈l,InR x:=fun x hx=>by
  obtain⟨i,hi⟩:=List.getElem?_of_mem hx
  obtain⟨_,_,_,_,⟨_,h⟩,_⟩:=hr i x hi
  exact h
 have hrd:=qUO hl cI1 fun _ _ h=>h.1
 exact Ok.of_fn hm noT 0 qNE (args:=[.v (.slice oa l.length ca)]) (by
  cases oa with
  | none =>
   repeat((conv=>whnf);first|apply qza|apply qzb|apply qzc|apply qzd|apply qze|intro(_:Nat)|intro(_:OA)_)
   conv=>whnf
   refine⟨fun _=>?_,fun h=>nomatch h⟩
   repeat((conv=>whnf);first|apply qza|apply qzb|apply qzc|apply qzd|apply qze|intro(_:Nat)|intro(_:OA)_)
   conv=>whnf
   intro g2 hg
   exact .inl ⟨List.length_eq_zero_iff.1 (a0 rfl).1,none,rfl⟩
  | some a =>
   repeat((conv=>whnf);first|apply qza|apply qzb|apply qzc|apply qzd|apply qze|intro(_:Nat)|intro(_:OA)_)
   conv=>whnf
   refine⟨fun h=>(nomatch h),fun _=>?_⟩
   repeat((conv=>whnf);first|apply qza|apply qzb|apply qzc|apply qzd|apply qze|intro(_:Nat)|intro(_:OA)_)
   conv=>whnf
   refine⟨⟨rfl,rfl,rfl,rfl,Nat.zero_le _⟩,?_⟩
   conv=>whnf
   refine⟨_,⟨hrd,qOR fun _ _=>rfl⟩,?_⟩
   repeat((conv=>whnf);first|apply qza|apply qzb|apply qzc|apply qzd|apply qze|intro(_:Nat)|intro(_:OA)_)
   conv=>whnf
   refine⟨⟨by unfold maxLen;omega,by omega⟩,fun oa2 cap2=>?_⟩
   repeat((conv=>whnf);first|apply qza|apply qzb|apply qzc|apply qzd|apply qze|intro(_:Nat)|intro(_:OA)_)
   conv=>whnf
   refine fun g1 hg1 hn1 hp1=>?_
   conv=>whnf
   intro g2 hg
   simp only [Nat.zero_add,List.nil_append] at hp1
   have hE:=qaH (sz:=1) (r:=rInt) g g g0.w.heap.size cI1 l fun x hx=>⟨rfl,rfl,hR x hx⟩
   have:=qGF (q1A qSC) hg (qfF (q1A qSC) hE (GW.refl _) hg1 (hp1.lo_le h0.1) rfl hn1)
   rwa [Nat.zero_add])
theorem ok_cU (g0 g:GW) (h0:g0≤g) {v:Value} {l:List Int} (hl:rSl 1 rU64 g v l) (hlen:l.length≤17592186044416):Ok Tryz.prog qxC [v] g fun v' g'=>oSl qJE 1 (oLf rU64) g' g0.w.heap.size (NEW g g') v' l:=by
 obtain⟨oa,ca,rfl,a1,a2,a0,hr⟩:=id hl
 have hR:∀ x∈l,InU x:=fun x hx=>by
  obtain⟨i,hi⟩:=List.getElem?_of_mem hx
  obtain⟨_,_,_,_,⟨_,h⟩,_⟩:=hr i x hi
  exact h
 have hrd:=qUO hl cU1 fun _ _ h=>h.1
 exact Ok.of_fn hm noT 0 qtC (args:=[.v (.slice oa l.length ca)]) (by
  cases oa with
  | none =>
   repeat((conv=>whnf);first|apply qza|apply qzb|apply qzc|apply qzd|apply qze|intro(_:Nat)|intro(_:OA)_)
   conv=>whnf
   refine⟨fun _=>?_,fun h=>nomatch h⟩
   repeat((conv=>whnf);first|apply qza|apply qzb|apply qzc|apply qzd|apply qze|intro(_:Nat)|intro(_:OA)_)
   conv=>whnf
   intro g2 hg
   exact .inl ⟨List.length_eq_zero_iff.1 (a0 rfl).1,none,rfl⟩
  | some a =>
   repeat((conv=>whnf);first|apply qza|apply qzb|apply qzc|apply qzd|apply qze|intro(_:Nat)|intro(_:OA)_)
   conv=>whnf
   refine⟨fun h=>(nomatch h),fun _=>?_⟩
   repeat((conv=>whnf);first|apply qza|apply qzb|apply qzc|apply qzd|apply qze|intro(_:Nat)|intro(_:OA)_)
   conv=>whnf
   refine⟨⟨rfl,rfl,rfl,rfl,Nat.zero_le _⟩,?_⟩
   conv=>whnf
   refine⟨_,⟨hrd,qOR fun _ _=>rfl⟩,?_⟩
   repeat((conv=>whnf);first|apply qza|apply qzb|apply qzc|apply qzd|apply qze|intro(_:Nat)|intro(_:OA)_)
   conv=>whnf
   refine⟨⟨by unfold maxLen;omega,by omega⟩,fun oa2 cap2=>?_⟩
   repeat((conv=>whnf);first|apply qza|apply qzb|apply qzc|apply qzd|apply qze|intro(_:Nat)|intro(_:OA)_)
   conv=>whnf
   refine fun g1 hg1 hn1 hp1=>?_
   conv=>whnf
   intro g2 hg
   simp only [Nat.zero_add,List.nil_append] at hp1
   have hE:=qaH (sz:=1) (r:=rU64) g g g0.w.heap.size cU1 l fun x hx=>⟨rfl,rfl,hR x hx⟩
   have:=qGF (q1A qUH) hg (qfF (q1A qUH) hE (GW.refl _) hg1 (hp1.lo_le h0.1) rfl hn1)
   rwa [Nat.zero_add])
theorem qfT (g0 g:GW) (h0:g0≤g) {v:Value} {l:List Listen} (hl:rSl 4 qPB g v l) (hlen:l.length≤1000000):Ok Tryz.prog qfB [v] g fun v' g'=>oSl qOA 4 (oLf qPB) g' g0.w.heap.size (NEW g g') v' l:=by
 obtain⟨oa,ca,rfl,a1,a2,a0,hr⟩:=id hl
 have hR:∀ x∈l,InR x.active:=fun x hx=>by
  obtain⟨i,hi⟩:=List.getElem?_of_mem hx
  obtain⟨_,_,_,_,⟨_,h⟩,_⟩:=hr i x hi
  exact h
 have hrd:=qUO hl cLi fun _ _ h=>h.1
 exact Ok.of_fn hm noT 0 qeB (args:=[.v (.slice oa l.length ca)]) (by
  cases oa with
  | none =>
   repeat((conv=>whnf);first|apply qza|apply qzb|apply qzc|apply qzd|apply qze|intro(_:Nat)|intro(_:OA)_)
   conv=>whnf
   refine⟨fun _=>?_,fun h=>nomatch h⟩
   repeat((conv=>whnf);first|apply qza|apply qzb|apply qzc|apply qzd|apply qze|intro(_:Nat)|intro(_:OA)_)
   conv=>whnf
   intro g2 hg
   exact .inl ⟨List.length_eq_zero_iff.1 (a0 rfl).1,none,rfl⟩
  | some a =>
   repeat((conv=>whnf);first|apply qza|apply qzb|apply qzc|apply qzd|apply qze|intro(_:Nat)|intro(_:OA)_)
   conv=>whnf
   refine⟨fun h=>(nomatch h),fun _=>?_⟩
   repeat((conv=>whnf);first|apply qza|apply qzb|apply qzc|apply qzd|apply qze|intro(_:Nat)|intro(_:OA)_)
   conv=>whnf
   refine⟨⟨rfl,rfl,rfl,rfl,Nat.zero_le _⟩,?_⟩
   conv=>whnf
   refine⟨_,⟨hrd,qOR fun _ _=>rfl⟩,?_⟩
   repeat((conv=>whnf);first|apply qza|apply qzb|apply qzc|apply qzd|apply qze|intro(_:Nat)|intro(_:OA)_)
   conv=>whnf
   refine⟨⟨by unfold maxLen;omega,by omega⟩,fun oa2 cap2=>?_⟩
   repeat((conv=>whnf);first|apply qza|apply qzb|apply qzc|apply qzd|apply qze|intro(_:Nat)|intro(_:OA)_)
   conv=>whnf
   refine fun g1 hg1 hn1 hp1=>?_
   conv=>whnf
   intro g2 hg
   simp only [Nat.zero_add,List.nil_append] at hp1
   have hE:=qaH (sz:=4) (r:=qPB) g g g0.w.heap.size cLi l fun x hx=>⟨rfl,rfl,hR x hx⟩
   have:=qGF (q1A qXB) hg (qfF (q1A qXB) hE (GW.refl _) hg1 (hp1.lo_le h0.1) rfl hn1)
   rwa [Nat.zero_add])
theorem qeT (g0 g:GW) (h0:g0≤g) {v:Value} {l:List Retired} (hl:rSl 3 qfA g v l) (hlen:l.length≤1000000):Ok Tryz.prog qSB [v] g fun v' g'=>oSl quB 3 (oLf qfA) g' g0.w.heap.size (NEW g g') v' l:=by
 obtain⟨oa,ca,rfl,a1,a2,a0,hr⟩:=id hl
 have hR:∀ x∈l,InR x.version∧InR x.at_:=fun x hx=>by
  obtain⟨i,hi⟩:=List.getElem?_of_mem hx
  obtain⟨_,_,_,_,⟨_,h⟩,_⟩:=hr i x hi
  exact h
 have hrd:=qUO hl cRe fun _ _ h=>h.1
 exact Ok.of_fn hm noT 0 qRB (args:=[.v (.slice oa l.length ca)]) (by
  cases oa with
  | none =>
   repeat((conv=>whnf);first|apply qza|apply qzb|apply qzc|apply qzd|apply qze|intro(_:Nat)|intro(_:OA)_)
   conv=>whnf
   refine⟨fun _=>?_,fun h=>nomatch h⟩
   repeat((conv=>whnf);first|apply qza|apply qzb|apply qzc|apply qzd|apply qze|intro(_:Nat)|intro(_:OA)_)
   conv=>whnf
   intro g2 hg
   exact .inl ⟨List.length_eq_zero_iff.1 (a0 rfl).1,none,rfl⟩
  | some a =>
   repeat((conv=>whnf);first|apply qza|apply qzb|apply qzc|apply qzd|apply qze|intro(_:Nat)|intro(_:OA)_)
   conv=>whnf
   refine⟨fun h=>(nomatch h),fun _=>?_⟩
   repeat((conv=>whnf);first|apply qza|apply qzb|apply qzc|apply qzd|apply qze|intro(_:Nat)|intro(_:OA)_)
   conv=>whnf
   refine⟨⟨rfl,rfl,rfl,rfl,Nat.zero_le _⟩,?_⟩
   conv=>whnf
   refine⟨_,⟨hrd,qOR fun _ _=>rfl⟩,?_⟩
   repeat((conv=>whnf);first|apply qza|apply qzb|apply qzc|apply qzd|apply qze|intro(_:Nat)|intro(_:OA)_)
   conv=>whnf
   refine⟨⟨by unfold maxLen;omega,by omega⟩,fun oa2 cap2=>?_⟩
   repeat((conv=>whnf);first|apply qza|apply qzb|apply qzc|apply qzd|apply qze|intro(_:Nat)|intro(_:OA)_)
   conv=>whnf
   refine fun g1 hg1 hn1 hp1=>?_
   conv=>whnf
   intro g2 hg
   simp only [Nat.zero_add,List.nil_append] at hp1
   have hE:=qaH (sz:=3) (r:=qfA) g g g0.w.heap.size cRe l fun x hx=>⟨rfl,rfl,hR x hx⟩
   have:=qGF (q1A qAB) hg (qfF (q1A qAB) hE (GW.refl _) hg1 (hp1.lo_le h0.1) rfl hn1)
   rwa [Nat.zero_add])
/- Worlds: what is cloned: endpoints,groups,versions,rows. -/
open Go.Proofs.YtkbbljngpglnkaaGreat.Sx Go.RowKit
theorem qeS (g0 g:GW) (h0:g0≤g) {cs:List Value} {x:EndC} (hx:rEn g cs x):Ok Tryz.prog qCC [.agg ⟨[]⟩,.agg ⟨cs⟩] g fun v g'=>∃ cs',v=.agg ⟨cs'⟩∧oEn wT true g' g0.w.heap.size (NEW g g') cs' x:=by
 obtain⟨⟨n,rfl,hH,hA,hN⟩,hsz⟩:=hx
 obtain⟨oa,ca,rfl,a1,a2,a0,hr⟩:=id hN
 exact Ok.of_fn hm noT 0 qbG (args:=[.v (.agg ⟨[]⟩),.v (.agg ⟨[.int .u64 x.head,.slice oa x.next.length ca,.int .i64 x.active]⟩)]) (by
  repeat((conv=>whnf);first|apply qza|apply qzb|apply qzc|apply qzd|apply qze|intro(_:Nat))
  refine .inr ((qKQ g0 _ h0 hN hsz).mono fun v g1 hg1 hO=>?_)
  obtain⟨oV,cV,rfl⟩:=q4C hO
  repeat((conv=>whnf);first|apply qza|apply qzb|apply qzc|apply qzd|apply qze|intro(_:Nat))
  conv=>whnf
  intro g2 hg
  exact⟨_,rfl,_,rfl,⟨hH,hA,hsz⟩,.inl (qGF (q1A qSC) hg hO)⟩)
theorem qbS (g0 g:GW) (h0:g0≤g) {v:Value} {l:List EndC} (hl:rSl 3 rEn g v l) (hlen:l.length≤1000000) :Ok Tryz.prog qTC [v,.func (.func qCC) #[] #[],.agg ⟨[]⟩] g fun v' g'=>oSl qeA 3 (oEn wT true) g' g0.w.heap.size (NEW g g') v' l:=by
 obtain⟨oa,ca,rfl,a1,a2,a0,hr⟩:=id hl
 exact Ok.of_fn hm noT 0 qPC (args:=[.v (.slice oa l.length ca),.v (.func (.func qCC) #[] #[]),.v (.agg ⟨[]⟩)]) (by
  repeat((conv=>whnf);first|apply qza|apply qzb|apply qzc|apply qzd|apply qze|intro(_:Nat))
  conv=>whnf
  refine⟨⟨by omega,by omega,by omega,by omega⟩,fun _=>?_⟩
  repeat((conv=>whnf);first|apply qza|apply qzb|apply qzc|apply qzd|apply qze|intro(_:Nat))
  rename_i q0 q1
  conv=>whnf
  refine⟨Nat×List (List Value)×GW,fun (k,_,_)=>[.v (.int .i64 k)],fun (k,ecs,g')=>⟨g',[.row 1 (some ⟨q1,0,none⟩) l.length l.length qeA 3 (rowK ecs [.int .u64 0,.slice none 0 0,.int .i64 0] (l.length-k)),.blk 0 q0 qOC []],10,g.w.heap.size⟩,fun (k,ecs,g')=>k≤l.length∧g≤g'∧oEls 3 (oEn wT true) g g' g0.w.heap.size ecs (l.take k),fun (k,_,_)=>l.length-k,fun fr w hw=>⟨(0,[],g),rfl,⟨Nat.zero_le _,GW.refl _,qoI _ _ _⟩,hw.fit (by simp [fitL,Res.eqv,qAA,conc,rowK])⟩,?_⟩
  rintro⟨k,ecs,g'⟩ ⟨hk,hgg,hE⟩
  have hE0:=hE
  obtain⟨_,⟨hel,hes⟩,_⟩:=hE0
  rw [List.length_take,Nat.min_eq_left hk] at hel
  repeat((conv=>whnf);first|apply qza|apply qzb|apply qzc|apply qzd|apply qze|intro(_:Nat))
  conv=>whnf
  refine⟨fun hlt=>?_,fun hlt=>?_⟩
  ·have h':k<l.length:=by have:=of_decide_eq_true hlt;omega
   obtain⟨x,hx⟩:=qBA h'
   obtain⟨x1,x2⟩:=List.getElem?_eq_some_iff.1 hx
   obtain⟨a,rfl,ec,hec,hxe,hc⟩:=hr k x hx
   have hxe0:=hxe
   obtain⟨⟨nx,rfl,u1,u2,⟨oN,cN,rfl,_⟩⟩,u3⟩:=hxe
   repeat((conv=>whnf);first|apply qza|apply qzb|apply qzc|apply qzd|apply qze|intro(_:Nat))
   conv=>whnf
   refine⟨a,rfl,⟨by omega,by omega⟩,?_⟩
   conv=>whnf
   refine⟨_,⟨rfl,hc.mono hgg⟩,?_⟩
   repeat((conv=>whnf);first|apply qza|apply qzb|apply qzc|apply qzd|apply qze|intro(_:Nat))
   conv=>whnf
   refine⟨.of (by kernel_rfl),?_⟩
   refine .inr ((qeS g0 _ (GW.trans h0 hgg) (qvE _ _ _ _ hgg hxe0)).mono fun v g1 hg1 hO=>?_)
   obtain⟨cs',rfl,hO⟩:=hO
   have hO0:=hO
   obtain⟨nv,rfl,_,hO1⟩:=hO0
   obtain⟨oW,cW,rfl,_⟩:=q7R hO1
   have hlenR:=q1F (m:=l.length-k) (z:=[.int .u64 0,.slice none 0 0,.int .i64 0]) hes rfl
   have hT:l.take (k+1)=l.take k++[x]:=by rw [List.take_succ_eq_append_getElem x1,x2]
   have hset:=q0F (m:=l.length-k) (z:=[.int .u64 0,.slice none 0 0,.int .i64 0]) hes rfl (by omega) (ec:=[.int .u64 x.head,.slice oW x.next.length cW,.int .i64 x.active]) rfl hel.symm
   repeat((conv=>whnf);first|apply qza|apply qzb|apply qzc|apply qzd|apply qze|intro(_:Nat))
   conv=>whnf
   refine⟨⟨by omega,by omega⟩,?_⟩
   repeat((conv=>whnf);first|apply qza|apply qzb|apply qzc|apply qzd|apply qze|intro(_:Nat))
   conv=>whnf
   refine⟨⟨by rw [hlenR,hel];simp;omega,by decide⟩,?_⟩
   repeat((conv=>whnf);first|apply qza|apply qzb|apply qzc|apply qzd|apply qze|intro(_:Nat))
   conv=>whnf
   refine fun fr w hw=>⟨(k+1,ecs++[[.int .u64 x.head,.slice oW x.next.length cW,.int .i64 x.active]],g1),congrArg (fun z=>[Value.int .i64 z]) (wr1 h' a1 a2).symm,⟨h',GW.trans hgg hg1,by rw [hT];exact qZH qXM hgg hg1 hE rfl hO⟩,dec h',hw.fit ?_⟩
   rw [show l.length-(k+1)=l.length-k-1 by omega]
   simp [fitL,Res.eqv,qAA,conc,← hset]
  have hkL:k=l.length:=by have:=of_decide_eq_false hlt;omega
  subst hkL
  rw [List.take_length] at hE
  repeat((conv=>whnf);first|apply qza|apply qzb|apply qzc|apply qzd|apply qze|intro(_:Nat))
  conv=>whnf
  refine fun g1 hg1 hn1 hp1=>?_
  rw [Nat.sub_self,qYF] at hp1
  conv=>whnf
  intro g2 hg
  exact qGF qXM hg (qfF qXM hE hgg hg1 (hp1.lo_le h0.1) rfl hn1))
theorem qLQ (g0 g:GW) (h0:g0≤g) {cs:List Value} {x:Group} (hx:rGr g cs x) (hb:BgG 1000000 x):Ok Tryz.prog qaB [.agg ⟨[]⟩,.agg ⟨cs⟩] g fun v g'=>∃ cs',v=.agg ⟨cs'⟩∧oGr wT true g' g0.w.heap.size (NEW g g') cs' x:=by
 obtain⟨n,rfl,hH,hN⟩:=hx
 obtain⟨oa,ca,rfl,a1,a2,a0,hr⟩:=id hN
 exact Ok.of_fn hm noT 0 qTF (args:=[.v (.agg ⟨[]⟩),.v (.agg ⟨[.int .u64 x.ticket,.slice oa x.ends.length ca]⟩)]) (by
  repeat((conv=>whnf);first|apply qza|apply qzb|apply qzc|apply qzd|apply qze|intro(_:Nat))
  refine .inr ((qbS g0 _ h0 hN hb).mono fun v g1 hg1 hO=>?_)
  obtain⟨oV,cV,rfl⟩:=q4C hO
  repeat((conv=>whnf);first|apply qza|apply qzb|apply qzc|apply qzd|apply qze|intro(_:Nat))
  conv=>whnf
  intro g2 hg
  exact⟨_,rfl,_,rfl,hH,qGF qXM hg hO⟩)
theorem qJQ (g0 g:GW) (h0:g0≤g) {v:Value} {l:List Group} (hl:rSl 2 rGr g v l) (hlen:l.length≤1000000) (hb:∀ y∈l,BgG 1000000 y):Ok Tryz.prog qAC [v,.func (.func qaB) #[] #[],.agg ⟨[]⟩] g fun v' g'=>oSl qaA 2 (oGr wT true) g' g0.w.heap.size (NEW g g') v' l:=by
 obtain⟨oa,ca,rfl,a1,a2,a0,hr⟩:=id hl
 exact Ok.of_fn hm noT 0 q9B (args:=[.v (.slice oa l.length ca),.v (.func (.func qaB) #[] #[]),.v (.agg ⟨[]⟩)]) (by
  repeat((conv=>whnf);first|apply qza|apply qzb|apply qzc|apply qzd|apply qze|intro(_:Nat))
  conv=>whnf
  refine⟨⟨by omega,by omega,by omega,by omega⟩,fun _=>?_⟩
  repeat((conv=>whnf);first|apply qza|apply qzb|apply qzc|apply qzd|apply qze|intro(_:Nat))
  rename_i q0 q1
  conv=>whnf
  refine⟨Nat×List (List Value)×GW,fun (k,_,_)=>[.v (.int .i64 k)],fun (k,ecs,g')=>⟨g',[.row 1 (some ⟨q1,0,none⟩) l.length l.length qaA 2 (rowK ecs [.int .u64 0,.slice none 0 0] (l.length-k)),.blk 0 q0 qOC []],10,g.w.heap.size⟩,fun (k,ecs,g')=>k≤l.length∧g≤g'∧oEls 2 (oGr wT true) g g' g0.w.heap.size ecs (l.take k),fun (k,_,_)=>l.length-k,fun fr w hw=>⟨(0,[],g),rfl,⟨Nat.zero_le _,GW.refl _,qoI _ _ _⟩,hw.fit (by simp [fitL,Res.eqv,qAA,conc,rowK])⟩,?_⟩
  rintro⟨k,ecs,g'⟩ ⟨hk,hgg,hE⟩
  have hE0:=hE
  obtain⟨_,⟨hel,hes⟩,_⟩:=hE0
  rw [List.length_take,Nat.min_eq_left hk] at hel
  repeat((conv=>whnf);first|apply qza|apply qzb|apply qzc|apply qzd|apply qze|intro(_:Nat))
  conv=>whnf
  refine⟨fun hlt=>?_,fun hlt=>?_⟩
  ·have h':k<l.length:=by have:=of_decide_eq_true hlt;omega
   obtain⟨x,hx⟩:=qBA h'
   obtain⟨x1,x2⟩:=List.getElem?_eq_some_iff.1 hx
   obtain⟨a,rfl,ec,hec,hxe,hc⟩:=hr k x hx
   have hxe0:=hxe
   obtain⟨nx,rfl,u1,⟨oN,cN,rfl,_⟩⟩:=hxe
   repeat((conv=>whnf);first|apply qza|apply qzb|apply qzc|apply qzd|apply qze|intro(_:Nat))
   conv=>whnf
   refine⟨a,rfl,⟨by omega,by omega⟩,?_⟩
   conv=>whnf
   refine⟨_,⟨rfl,hc.mono hgg⟩,?_⟩
   repeat((conv=>whnf);first|apply qza|apply qzb|apply qzc|apply qzd|apply qze|intro(_:Nat))
   conv=>whnf
   refine⟨.of (by kernel_rfl),?_⟩
   refine .inr ((qLQ g0 _ (GW.trans h0 hgg) (quE _ _ _ _ hgg hxe0) (hb x (List.mem_of_getElem? hx))).mono fun v g1 hg1 hO=>?_)
   obtain⟨cs',rfl,hO⟩:=hO
   have hO0:=hO
   obtain⟨nv,rfl,_,hO1⟩:=hO0
   obtain⟨oW,cW,rfl⟩:=q4C hO1
   have hlenR:=q1F (m:=l.length-k) (z:=[.int .u64 0,.slice none 0 0]) hes rfl
   have hT:l.take (k+1)=l.take k++[x]:=by rw [List.take_succ_eq_append_getElem x1,x2]
   have hset:=q0F (m:=l.length-k) (z:=[.int .u64 0,.slice none 0 0]) hes rfl (by omega) (ec:=[.int .u64 x.ticket,.slice oW x.ends.length cW]) rfl hel.symm
   repeat((conv=>whnf);first|apply qza|apply qzb|apply qzc|apply qzd|apply qze|intro(_:Nat))
   conv=>whnf
   refine⟨⟨by omega,by omega⟩,?_⟩
   repeat((conv=>whnf);first|apply qza|apply qzb|apply qzc|apply qzd|apply qze|intro(_:Nat))
   conv=>whnf
   refine⟨⟨by rw [hlenR,hel];simp;omega,by decide⟩,?_⟩
   repeat((conv=>whnf);first|apply qza|apply qzb|apply qzc|apply qzd|apply qze|intro(_:Nat))
   conv=>whnf
   refine fun fr w hw=>⟨(k+1,ecs++[[.int .u64 x.ticket,.slice oW x.ends.length cW]],g1),congrArg (fun z=>[Value.int .i64 z]) (wr1 h' a1 a2).symm,⟨h',GW.trans hgg hg1,by rw [hT];exact qZH qWK hgg hg1 hE rfl hO⟩,dec h',hw.fit ?_⟩
   rw [show l.length-(k+1)=l.length-k-1 by omega]
   simp [fitL,Res.eqv,qAA,conc,← hset]
  have hkL:k=l.length:=by have:=of_decide_eq_false hlt;omega
  subst hkL
  rw [List.take_length] at hE
  repeat((conv=>whnf);first|apply qza|apply qzb|apply qzc|apply qzd|apply qze|intro(_:Nat))
  conv=>whnf
  refine fun g1 hg1 hn1 hp1=>?_
  rw [Nat.sub_self,qYF] at hp1
  conv=>whnf
  intro g2 hg
  exact qGF qWK hg (qfF qWK hE hgg hg1 (hp1.lo_le h0.1) rfl hn1))
theorem qqN (g0 g:GW) (h0:g0≤g) {cs:List Value} {x:Version} (hx:rVe g0 cs x) (hb:BgV 1000000 x):Ok Tryz.prog qFB [.agg ⟨[]⟩,.agg ⟨cs⟩] g fun v g'=>∃ cs',v=.agg ⟨cs'⟩∧oVe wT true g' g0.w.heap.size (NEW g g') cs' x:=by
 obtain⟨a,b,d,n,rfl,hS,hN⟩:=hx
 have hS0:=hS
 obtain⟨_,_,_,he,⟨oa',ca',rfl,_⟩,⟨ob',cb',rfl,_⟩,⟨od',cd',rfl,_⟩⟩:=hS
 cases he
 obtain⟨oa,ca,rfl,a1,a2,a0,hr⟩:=id hN
 exact Ok.of_fn hm noT 0 qoE (args:=[.v (.agg ⟨[]⟩),.v (.agg ⟨[.slice oa' x.snap.listens.length ca',.slice ob' x.snap.rules.length cb',.slice od' x.snap.clusters.length cd',.slice oa x.groups.length ca,.bool x.freed]⟩)]) (by
  repeat((conv=>whnf);first|apply qza|apply qzb|apply qzc|apply qzd|apply qze|intro(_:Nat))
  refine .inr ((qJQ g0 _ h0 (hN.mono quE h0) hb.1 hb.2).mono fun v g1 hg1 hO=>?_)
  obtain⟨oV,cV,rfl⟩:=q4C hO
  repeat((conv=>whnf);first|apply qza|apply qzb|apply qzc|apply qzd|apply qze|intro(_:Nat))
  conv=>whnf
  intro g2 hg
  exact⟨_,rfl,_,_,_,_,rfl,qiC _ _ _ _ (GW.le_vw (GW.trans h0 (GW.trans hg1 hg)) (Nat.le_refl _)) hS0,qGF qWK hg hO⟩)
theorem qpN (g0 g:GW) (h0:g0≤g) {v:Value} {l:List Version} (hl:rSl 5 rVe g0 v l) (hlen:l.length≤1000000) (hb:∀ y∈l,BgV 1000000 y):Ok Tryz.prog qrB [v,.func (.func qFB) #[] #[],.agg ⟨[]⟩] g fun v' g'=>oSl qCA 5 (oVe wT true) g' g0.w.heap.size (NEW g g') v' l:=by
 obtain⟨oa,ca,rfl,a1,a2,a0,hr⟩:=id hl
 exact Ok.of_fn hm noT 0 qqB (args:=[.v (.slice oa l.length ca),.v (.func (.func qFB) #[] #[]),.v (.agg ⟨[]⟩)]) (by
  repeat((conv=>whnf);first|apply qza|apply qzb|apply qzc|apply qzd|apply qze|intro(_:Nat))
  conv=>whnf
  refine⟨⟨by omega,by omega,by omega,by omega⟩,fun _=>?_⟩
  repeat((conv=>whnf);first|apply qza|apply qzb|apply qzc|apply qzd|apply qze|intro(_:Nat))
  rename_i q0 q1
  conv=>whnf
  refine⟨Nat×List (List Value)×GW,fun (k,_,_)=>[.v (.int .i64 k)],fun (k,ecs,g')=>⟨g',[.row 1 (some ⟨q1,0,none⟩) l.length l.length qCA 5 (rowK ecs [.slice none 0 0,.slice none 0 0,.slice none 0 0,.slice none 0 0,.bool false] (l.length-k)),.blk 0 q0 qOC []],10,g.w.heap.size⟩,fun (k,ecs,g')=>k≤l.length∧g≤g'∧oEls 5 (oVe wT true) g g' g0.w.heap.size ecs (l.take k),fun (k,_,_)=>l.length-k,fun fr w hw=>⟨(0,[],g),rfl,⟨Nat.zero_le _,GW.refl _,qoI _ _ _⟩,hw.fit (by simp [fitL,Res.eqv,qAA,conc,rowK])⟩,?_⟩
  rintro⟨k,ecs,g'⟩ ⟨hk,hgg,hE⟩
  have hE0:=hE
  obtain⟨_,⟨hel,hes⟩,_⟩:=hE0
  rw [List.length_take,Nat.min_eq_left hk] at hel
  repeat((conv=>whnf);first|apply qza|apply qzb|apply qzc|apply qzd|apply qze|intro(_:Nat))
  conv=>whnf
  refine⟨fun hlt=>?_,fun hlt=>?_⟩
  ·have h':k<l.length:=by have:=of_decide_eq_true hlt;omega
   obtain⟨x,hx⟩:=qBA h'
   obtain⟨x1,x2⟩:=List.getElem?_eq_some_iff.1 hx
   obtain⟨a,rfl,ec,hec,hxe,hc⟩:=hr k x hx
   have hxe0:=hxe
   obtain⟨sa,sb,sd,nx,rfl,⟨_,_,_,hee,⟨oa',ca',rfl,_⟩,⟨ob',cb',rfl,_⟩,⟨od',cd',rfl,_⟩⟩,⟨oN,cN,rfl,_⟩⟩:=hxe
   cases hee
   repeat((conv=>whnf);first|apply qza|apply qzb|apply qzc|apply qzd|apply qze|intro(_:Nat))
   conv=>whnf
   refine⟨a,rfl,⟨by omega,by omega⟩,?_⟩
   conv=>whnf
   refine⟨_,⟨rfl,hc.mono (GW.trans h0 hgg)⟩,?_⟩
   repeat((conv=>whnf);first|apply qza|apply qzb|apply qzc|apply qzd|apply qze|intro(_:Nat))
   conv=>whnf
   refine⟨.of (by kernel_rfl),?_⟩
   refine .inr ((qqN g0 _ (GW.trans h0 hgg) hxe0 (hb x (List.mem_of_getElem? hx))).mono fun v g1 hg1 hO=>?_)
   obtain⟨cs',rfl,hO⟩:=hO
   have hO0:=hO
   obtain⟨ua,ub,ud,nv,rfl,⟨_,_,_,hee,⟨oa2,ca2,rfl,_⟩,⟨ob2,cb2,rfl,_⟩,⟨od2,cd2,rfl,_⟩⟩,hO1⟩:=hO0
   cases hee
   obtain⟨oW,cW,rfl⟩:=q4C hO1
   have hlenR:=q1F (m:=l.length-k) (z:=[.slice none 0 0,.slice none 0 0,.slice none 0 0,.slice none 0 0,.bool false]) hes rfl
   have hT:l.take (k+1)=l.take k++[x]:=by rw [List.take_succ_eq_append_getElem x1,x2]
   have hset:=q0F (m:=l.length-k) (z:=[.slice none 0 0,.slice none 0 0,.slice none 0 0,.slice none 0 0,.bool false]) hes rfl (by omega) (ec:=[.slice oa2 x.snap.listens.length ca2,.slice ob2 x.snap.rules.length cb2,.slice od2 x.snap.clusters.length cd2,.slice oW x.groups.length cW,.bool x.freed]) rfl hel.symm
   repeat((conv=>whnf);first|apply qza|apply qzb|apply qzc|apply qzd|apply qze|intro(_:Nat))
   conv=>whnf
   refine⟨⟨by omega,by omega⟩,?_⟩
   repeat((conv=>whnf);first|apply qza|apply qzb|apply qzc|apply qzd|apply qze|intro(_:Nat))
   conv=>whnf
   refine⟨⟨by rw [hlenR,hel];simp;omega,by decide⟩,?_⟩
   repeat((conv=>whnf);first|apply qza|apply qzb|apply qzc|apply qzd|apply qze|intro(_:Nat))
   conv=>whnf
   refine fun fr w hw=>⟨(k+1,ecs++[[.slice oa2 x.snap.listens.length ca2,.slice ob2 x.snap.rules.length cb2,.slice od2 x.snap.clusters.length cd2,.slice oW x.groups.length cW,.bool x.freed]],g1),congrArg (fun z=>[Value.int .i64 z]) (wr1 h' a1 a2).symm,⟨h',GW.trans hgg hg1,by rw [hT];exact qZH qRI hgg hg1 hE rfl hO⟩,dec h',hw.fit ?_⟩
   rw [show l.length-(k+1)=l.length-k-1 by omega]
   simp [fitL,Res.eqv,qAA,conc,← hset]
  have hkL:k=l.length:=by have:=of_decide_eq_false hlt;omega
  subst hkL
  rw [List.take_length] at hE
  repeat((conv=>whnf);first|apply qza|apply qzb|apply qzc|apply qzd|apply qze|intro(_:Nat))
  conv=>whnf
  refine fun g1 hg1 hn1 hp1=>?_
  rw [Nat.sub_self,qYF] at hp1
  conv=>whnf
  intro g2 hg
  exact qGF qRI hg (qfF qRI hE hgg hg1 (hp1.lo_le h0.1) rfl hn1))
theorem qdS (g0 g:GW) (h0:g0≤g) {v:Value} {x:List Int} (hx:rSl 1 rU64 g v x) (hb:x.length≤17592186044416):Ok Tryz.prog qBC [.agg ⟨[]⟩,v] g fun v' g'=>oSl qJE 1 (oLf rU64) g' g0.w.heap.size (NEW g g') v' x:=by
 obtain⟨oa,ca,rfl,a1,a2,a0,hr⟩:=id hx
 exact Ok.of_fn hm noT 0 qaG (args:=[.v (.agg ⟨[]⟩),.v (.slice oa x.length ca)]) (by
  repeat((conv=>whnf);first|apply qza|apply qzb|apply qzc|apply qzd|apply qze|intro(_:Nat))
  refine .inr ((ok_cU g0 _ h0 hx hb).mono fun v g1 hg1 hO=>?_)
  obtain⟨oV,cV,rfl⟩:=q4C hO
  repeat((conv=>whnf);first|apply qza|apply qzb|apply qzc|apply qzd|apply qze|intro(_:Nat))
  conv=>whnf
  intro g2 hg
  exact qGF (q1A qUH) hg hO)
theorem qaS (g0 g:GW) (h0:g0≤g) {v:Value} {l:List (List Int)} (hl:rSl 1 rRow g v l) (hlen:l.length≤1000000) (hb:∀ y∈l,y.length≤1000000):Ok Tryz.prog qLC [v,.func (.func qBC) #[] #[],.agg ⟨[]⟩] g fun v' g'=>oSl qUB 1 (oRo wT) g' g0.w.heap.size (NEW g g') v' l:=by
 obtain⟨oa,ca,rfl,a1,a2,a0,hr⟩:=id hl
 exact Ok.of_fn hm noT 0 qJC (args:=[.v (.slice oa l.length ca),.v (.func (.func qBC) #[] #[]),.v (.agg ⟨[]⟩)]) (by
  repeat((conv=>whnf);first|apply qza|apply qzb|apply qzc|apply qzd|apply qze|intro(_:Nat))
  conv=>whnf
  refine⟨⟨by omega,by omega,by omega,by omega⟩,fun _=>?_⟩
  repeat((conv=>whnf);first|apply qza|apply qzb|apply qzc|apply qzd|apply qze|intro(_:Nat))
  rename_i q0 q1
  conv=>whnf
  refine⟨Nat×List (List Value)×GW,fun (k,_,_)=>[.v (.int .i64 k)],fun (k,ecs,g')=>⟨g',[.row 1 (some ⟨q1,0,none⟩) l.length l.length qUB 1 (rowK ecs [.slice none 0 0] (l.length-k)),.blk 0 q0 qOC []],10,g.w.heap.size⟩,fun (k,ecs,g')=>k≤l.length∧g≤g'∧oEls 1 (oRo wT) g g' g0.w.heap.size ecs (l.take k),fun (k,_,_)=>l.length-k,fun fr w hw=>⟨(0,[],g),rfl,⟨Nat.zero_le _,GW.refl _,qoI _ _ _⟩,hw.fit (by simp [fitL,Res.eqv,qAA,conc,rowK])⟩,?_⟩
  rintro⟨k,ecs,g'⟩ ⟨hk,hgg,hE⟩
  have hE0:=hE
  obtain⟨_,⟨hel,hes⟩,_⟩:=hE0
  rw [List.length_take,Nat.min_eq_left hk] at hel
  repeat((conv=>whnf);first|apply qza|apply qzb|apply qzc|apply qzd|apply qze|intro(_:Nat))
  conv=>whnf
  refine⟨fun hlt=>?_,fun hlt=>?_⟩
  ·have h':k<l.length:=by have:=of_decide_eq_true hlt;omega
   obtain⟨x,hx⟩:=qBA h'
   obtain⟨x1,x2⟩:=List.getElem?_eq_some_iff.1 hx
   obtain⟨a,rfl,ec,hec,hxe,hc⟩:=hr k x hx
   have hxe0:=hxe
   obtain⟨nx,rfl,hN⟩:=hxe
   have hN0:=hN
   obtain⟨oN,cN,rfl,_⟩:=hN
   repeat((conv=>whnf);first|apply qza|apply qzb|apply qzc|apply qzd|apply qze|intro(_:Nat))
   conv=>whnf
   refine⟨a,rfl,⟨by omega,by omega⟩,?_⟩
   conv=>whnf
   refine⟨_,hc.mono hgg 0 _ rfl,?_⟩
   repeat((conv=>whnf);first|apply qza|apply qzb|apply qzc|apply qzd|apply qze|intro(_:Nat))
   conv=>whnf
   refine⟨.of (by kernel_rfl),?_⟩
   refine .inr ((qdS g0 _ (GW.trans h0 hgg) (hN0.mono q8I hgg) (by have:=hb x (List.mem_of_getElem? hx);omega)).mono fun v g1 hg1 hO=>?_)
   obtain⟨oW,cW,rfl⟩:=q4C hO
   have hlenR:=q1F (m:=l.length-k) (z:=[.slice none 0 0]) hes rfl
   have hT:l.take (k+1)=l.take k++[x]:=by rw [List.take_succ_eq_append_getElem x1,x2]
   have hset:=q0F (m:=l.length-k) (z:=[.slice none 0 0]) hes rfl (by omega) (ec:=[.slice oW x.length cW]) rfl hel.symm
   repeat((conv=>whnf);first|apply qza|apply qzb|apply qzc|apply qzd|apply qze|intro(_:Nat))
   conv=>whnf
   refine⟨⟨by omega,by omega⟩,?_⟩
   repeat((conv=>whnf);first|apply qza|apply qzb|apply qzc|apply qzd|apply qze|intro(_:Nat))
   conv=>whnf
   refine⟨⟨by rw [hlenR,hel];simp;omega,by decide⟩,?_⟩
   repeat((conv=>whnf);first|apply qza|apply qzb|apply qzc|apply qzd|apply qze|intro(_:Nat))
   conv=>whnf
   refine fun fr w hw=>⟨(k+1,ecs++[[.slice oW x.length cW]],g1),congrArg (fun z=>[Value.int .i64 z]) (wr1 h' a1 a2).symm,⟨h',GW.trans hgg hg1,by rw [hT];exact qZH qSI hgg hg1 hE rfl ⟨_,rfl,hO⟩⟩,dec h',hw.fit ?_⟩
   rw [show l.length-(k+1)=l.length-k-1 by omega]
   simp [fitL,Res.eqv,qAA,conc,← hset]
  have hkL:k=l.length:=by have:=of_decide_eq_false hlt;omega
  subst hkL
  rw [List.take_length] at hE
  repeat((conv=>whnf);first|apply qza|apply qzb|apply qzc|apply qzd|apply qze|intro(_:Nat))
  conv=>whnf
  refine fun g1 hg1 hn1 hp1=>?_
  rw [Nat.sub_self,qYF] at hp1
  conv=>whnf
  intro g2 hg
  exact qGF qSI hg (qfF qSI hE hgg hg1 (hp1.lo_le h0.1) rfl hn1))
end Go.Proofs.YtkbbljngpglnkaaGreat
