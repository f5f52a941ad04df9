/- Machines: which ones suit a world. -/
import Derived.Test.YthonngjhelcpeaaGreatLW9n
import Derived.Test.YthonngjhelcpeaaGreatPl
import Derived.Test.YthonngjhelcpeaaGreatLW9g
set_option linter.unusedVariables false
set_option linter.unusedSimpArgs false
namespace Go.Proofs.YthonngjhelcpeaaGreat
open Go.Proofs.YthonngjhelcpeaaGreat.Sx Go.RowKit
set_option maxHeartbeats 16000000
set_option maxRecDepth 100000
theorem qOE (g:GW) (i n:Int):OkV Tryz.prog q5V [.int .i64 i,.int .i64 n] g (.bool (inB i n)) :=
 Ok.of_fn hm noT 0 qSV (args:=[.v (.int .i64 i),.v (.int .i64 n)]) (by
  repeat((conv=>whnf);first|refine qz ?_|intro(_:Nat))
  conv=>whnf
  refine⟨fun h=>?_,fun h=>?_⟩
  ·repeat((conv=>whnf);first|refine qz ?_|intro(_:Nat))
   conv=>whnf
   intro g2 hg
   unfold inB;rw [h];rfl
  ·repeat((conv=>whnf);first|refine qz ?_|intro(_:Nat))
   conv=>whnf
   intro g2 hg
   unfold inB;rw [h];rfl)
theorem qKF (g:GW) (i n:Int):OkV Tryz.prog qVL [.int .i64 i,.int .i64 n] g (.bool (inB i n)) :=
 Ok.of_fn hm noT 0 qAL (args:=[.v (.int .i64 i),.v (.int .i64 n)]) (by
  repeat((conv=>whnf);first|refine qz ?_|intro(_:Nat))
  conv=>whnf
  refine⟨fun h=>?_,fun h=>?_⟩
  ·repeat((conv=>whnf);first|refine qz ?_|intro(_:Nat))
   conv=>whnf
   intro g2 hg
   unfold inB;rw [h];rfl
  ·repeat((conv=>whnf);first|refine qz ?_|intro(_:Nat))
   conv=>whnf
   intro g2 hg
   unfold inB;rw [h];rfl)
theorem qYA (g:GW) {cs ms:List Value} {w:Wd} {m:Mach} (hw:rWo g cs w) (hM:qhA g ms m) (hsn:SnW w) (hb:BgW 1000000 w):OkV Tryz.prog q4R [.agg ⟨cs⟩,.agg ⟨ms⟩] g (.bool (q2C w m)):=by
 have hw0:=hw
 obtain⟨a,b,c,d,e,rfl,⟨i1,i2,i3⟩,hP,hV,hL,hC,hR⟩:=hw
 obtain⟨oa,ca,rfl,a1,a2,a0,hP1⟩:=id hP
 obtain⟨ob,cb,rfl,b1,b2,b0,hV1⟩:=id hV
 obtain⟨oc,cc,rfl,c1,c2,c0,hL1⟩:=id hL
 obtain⟨od,cd,rfl,d1,d2,d0,hC1⟩:=id hC
 obtain⟨oe,ce,rfl,e1,e2,e0,hR1⟩:=id hR
 obtain⟨ma,mb,md,rfl,hok,_,⟨_,_,_,he,⟨o1,t1,rfl,_⟩,⟨o2,t2,rfl,_⟩,⟨o3,t3,rfl,_⟩⟩⟩:=hM
 cases he
 have hLl:=hb.1.2.2.1
 exact Ok.of_fn hm noT 0 qWR (args:=[.v (.agg ⟨wQ w oa ca ob cb oc cc od cd oe ce⟩),.v (.agg ⟨mQ m o1 t1 o2 t2 o3 t3⟩)]) (by
  repeat((conv=>whnf);first|refine qz ?_|intro(_:Nat))
  conv=>whnf
  refine .inl ⟨_,qyX _ hw0 hsn,?_⟩
  repeat((conv=>whnf);first|refine qz ?_|intro(_:Nat))
  conv=>whnf
  refine⟨fun z1=>?_,fun z1=>?_⟩
  ·repeat((conv=>whnf);first|refine qz ?_|intro(_:Nat))
   conv=>whnf
   intro g2 hg
   rw [q5A fun ⟨v,gr,en,h⟩=>by rw [h.right] at z1;cases z1]
  repeat((conv=>whnf);first|refine qz ?_|intro(_:Nat))
  conv=>whnf
  refine .inl ⟨_,qOE _ _ _,?_⟩
  repeat((conv=>whnf);first|refine qz ?_|intro(_:Nat))
  conv=>whnf
  refine⟨fun z2=>?_,fun z2=>?_⟩
  ·repeat((conv=>whnf);first|refine qz ?_|intro(_:Nat))
   conv=>whnf
   intro g2 hg
   rw [q5A fun ⟨v,gr,en,h⟩=>by rw [inB_iff.2 h.thread] at z2;cases z2]
  repeat((conv=>whnf);first|refine qz ?_|intro(_:Nat))
  conv=>whnf
  refine⟨fun z3=>?_,fun z3=>?_⟩
  ·repeat((conv=>whnf);first|refine qz ?_|intro(_:Nat))
   conv=>whnf
   intro g2 hg
   rw [q5A fun ⟨v,gr,en,h⟩=>by rw [h.done] at z3;cases z3]
  repeat((conv=>whnf);first|refine qz ?_|intro(_:Nat))
  conv=>whnf
  refine .inl ⟨_,qOE _ _ _,?_⟩
  repeat((conv=>whnf);first|refine qz ?_|intro(_:Nat))
  conv=>whnf
  refine⟨fun z4=>?_,fun z4=>?_⟩
  ·repeat((conv=>whnf);first|refine qz ?_|intro(_:Nat))
   conv=>whnf
   intro g2 hg
   rw [q5A fun ⟨v,gr,en,h⟩=>by
    have:=(List.getElem?_eq_some_iff.1 h.ver.2).1
    rw [inB_iff.2 ⟨h.ver.1,by have:=h.ver.1;omega⟩] at z4;cases z4]
  have k4:=inB_iff.1 (nb0 z4)
  obtain⟨v,hv⟩:=qAA (l:=w.versions) (i:=m.version.toNat) (by omega)
  obtain⟨aV,rfl,ecV,hecV,⟨va,vb,vd,vn,rfl,hS,hG⟩,hcV⟩:=hV1 _ v hv
  obtain⟨og,cg,rfl,g1,g2,g0,hG1⟩:=id hG
  repeat((conv=>whnf);first|refine qz ?_|intro(_:Nat))
  conv=>whnf
  refine⟨aV,rfl,⟨by omega,by omega⟩,?_⟩
  conv=>whnf
  refine⟨_,hcV 3 _ rfl,?_⟩
  repeat((conv=>whnf);first|refine qz ?_|intro(_:Nat))
  conv=>whnf
  refine .inl ⟨_,qOE _ _ _,?_⟩
  repeat((conv=>whnf);first|refine qz ?_|intro(_:Nat))
  conv=>whnf
  refine⟨fun z5=>?_,fun z5=>?_⟩
  ·repeat((conv=>whnf);first|refine qz ?_|intro(_:Nat))
   conv=>whnf
   intro g2 hg
   rw [q5A fun ⟨v',gr,en,h⟩=>by
    have:=h.ver.2
    rw [hv] at this;cases this
    have:=(List.getElem?_eq_some_iff.1 h.clu.2).1
    rw [inB_iff.2 ⟨h.clu.1,by have:=h.clu.1;omega⟩] at z5;cases z5]
  have k5:=inB_iff.1 (nb0 z5)
  obtain⟨gr,hgr⟩:=qAA (l:=v.groups) (i:=m.cluster.toNat) (by omega)
  obtain⟨aG,rfl,ecG,hecG,⟨ve,rfl,_,hE⟩,hcG⟩:=hG1 _ gr hgr
  obtain⟨oq,cq,rfl,q1,q2,q0,hE1⟩:=id hE
  repeat((conv=>whnf);first|refine qz ?_|intro(_:Nat))
  conv=>whnf
  refine⟨aG,rfl,⟨by omega,by omega⟩,?_⟩
  conv=>whnf
  refine⟨_,hcG 1 _ rfl,?_⟩
  repeat((conv=>whnf);first|refine qz ?_|intro(_:Nat))
  conv=>whnf
  refine .inl ⟨_,qOE _ _ _,?_⟩
  repeat((conv=>whnf);first|refine qz ?_|intro(_:Nat))
  conv=>whnf
  refine⟨fun z6=>?_,fun z6=>?_⟩
  ·repeat((conv=>whnf);first|refine qz ?_|intro(_:Nat))
   conv=>whnf
   intro g2 hg
   rw [q5A fun ⟨v',gr',en,h⟩=>by
    have:=h.ver.2
    rw [hv] at this;cases this
    have:=h.clu.2
    rw [hgr] at this;cases this
    have:=(List.getElem?_eq_some_iff.1 h.end_.2).1
    rw [inB_iff.2 ⟨h.end_.1,by have:=h.end_.1;omega⟩] at z6;cases z6]
  have k6:=inB_iff.1 (nb0 z6)
  repeat((conv=>whnf);first|refine qz ?_|intro(_:Nat))
  conv=>whnf
  refine .inl ⟨_,qOE _ _ _,?_⟩
  repeat((conv=>whnf);first|refine qz ?_|intro(_:Nat))
  conv=>whnf
  refine⟨fun z7=>?_,fun z7=>?_⟩
  ·repeat((conv=>whnf);first|refine qz ?_|intro(_:Nat))
   conv=>whnf
   intro g2 hg
   rw [q5A fun ⟨v',gr',en,h⟩=>by
    have:=h.ver.2
    rw [hv] at this;cases this
    have:=h.clu.2
    rw [hgr] at this;cases this
    rw [inB_iff.2 h.other] at z7;cases z7]
  have k7:=inB_iff.1 (nb0 z7)
  obtain⟨en,hen⟩:=qAA (l:=gr.ends) (i:=m.end_.toNat) (by omega)
  obtain⟨aE,rfl,ecE,hecE,⟨⟨vx,rfl,_,_,hN⟩,_⟩,hcE⟩:=hE1 _ en hen
  obtain⟨ox,cx,rfl,x1,x2,x0,hN1⟩:=id hN
  repeat((conv=>whnf);first|refine qz ?_|intro(_:Nat))
  conv=>whnf
  refine⟨aE,rfl,⟨by omega,by omega⟩,?_⟩
  conv=>whnf
  refine⟨_,hcE 1 _ rfl,?_⟩
  repeat((conv=>whnf);first|refine qz ?_|intro(_:Nat))
  conv=>whnf
  refine .inl ⟨_,qOE _ _ _,?_⟩
  repeat((conv=>whnf);first|refine qz ?_|intro(_:Nat))
  conv=>whnf
  refine⟨fun z8=>?_,fun z8=>?_⟩
  ·repeat((conv=>whnf);first|refine qz ?_|intro(_:Nat))
   conv=>whnf
   intro g2 hg
   rw [q5A fun ⟨v',gr',en',h⟩=>by
    have:=h.ver.2
    rw [hv] at this;cases this
    have:=h.clu.2
    rw [hgr] at this;cases this
    have:=h.end_.2
    rw [hen] at this;cases this
    rw [inB_iff.2 h.slot] at z8;cases z8]
  have k8:=inB_iff.1 (nb0 z8)
  have hl2:IntKind.i64.wrap ((w.listens.length:Int)+1)=(w.listens.length:Int)+1:=wr (by unfold InR;omega)
  have hmL:=hok.listen
  have hl3:(IntKind.i64.wrap (m.listen+1)=m.listen+1∨IntKind.i64.wrap (m.listen+1)<0):=by
   rcases Int.lt_or_le m.listen 9223372036854775807 with h|h
   ·exact .inl (wr (by unfold InR at hmL ⊢;omega))
   ·obtain h:m.listen=9223372036854775807:=by unfold InR at hmL;omega
    rw [h];exact .inr (by decide)
  repeat((conv=>whnf);first|refine qz ?_|intro(_:Nat))
  conv=>whnf
  refine .inl ⟨_,qOE _ _ _,?_⟩
  repeat((conv=>whnf);first|refine qz ?_|intro(_:Nat))
  conv=>whnf
  refine⟨fun z9=>?_,fun z9=>?_⟩
  case' refine_2 =>
   repeat((conv=>whnf);first|refine qz ?_|intro(_:Nat))
   conv=>whnf
   intro g2 hg
   rw [q5A fun ⟨v',gr',en',h⟩=>by
    rw [inB_iff.2 (by rw [hl2,wr (by have:=h.listen;unfold InR;omega)];have:=h.listen;omega)] at z9;cases z9]
  have k9:=inB_iff.1 z9
  rw [hl2] at k9
  repeat((conv=>whnf);first|refine qz ?_|intro(_:Nat))
  conv=>whnf
  refine⟨fun z10=>?_,fun z10=>?_⟩
  case' refine_2 =>
   repeat((conv=>whnf);first|refine qz ?_|intro(_:Nat))
   conv=>whnf
   intro g2 hg
   have:=of_decide_eq_false z10
   rw [q5A fun ⟨v',gr',en',h⟩=>by have:=h.i;omega]
  have k10:=of_decide_eq_true z10
  repeat((conv=>whnf);first|refine qz ?_|intro(_:Nat))
  conv=>whnf
  intro g2 hg
  by_cases hk:0≤m.k
  ·rw [decide_eq_true hk,suitB_iff.2 ⟨v,gr,en,⟨nb0 z1,inB_iff.1 (nb0 z2),z3,⟨k4.1,hv⟩,⟨k5.1,hgr⟩,⟨k6.1,hen⟩,k7,k8,⟨by omega,by omega⟩,k10,hk⟩⟩]
  ·rw [decide_eq_false hk,q5A fun ⟨v',gr',en',h⟩=>hk h.k])
/- Machines: which ones suit a world;the document's answer. -/
open Go.Proofs.YthonngjhelcpeaaGreat.Sx Go.RowKit
theorem qNE (g:GW) {cs ms:List Value} {w:Wd} {m:Mach} (hw:rWo g cs w) (hM:qhA g ms m) (hsn:SnW w) (hb:BgW 1000000 w):OkV Tryz.prog q8H [.agg ⟨cs⟩,.agg ⟨ms⟩] g (.bool (q2C w m)):=by
 have hw0:=hw
 obtain⟨a,b,c,d,e,rfl,⟨i1,i2,i3⟩,hP,hV,hL,hC,hR⟩:=hw
 obtain⟨oa,ca,rfl,a1,a2,a0,hP1⟩:=id hP
 obtain⟨ob,cb,rfl,b1,b2,b0,hV1⟩:=id hV
 obtain⟨oc,cc,rfl,c1,c2,c0,hL1⟩:=id hL
 obtain⟨od,cd,rfl,d1,d2,d0,hC1⟩:=id hC
 obtain⟨oe,ce,rfl,e1,e2,e0,hR1⟩:=id hR
 obtain⟨ma,mb,md,rfl,hok,_,⟨_,_,_,he,⟨o1,t1,rfl,_⟩,⟨o2,t2,rfl,_⟩,⟨o3,t3,rfl,_⟩⟩⟩:=hM
 cases he
 have hLl:=hb.1.2.2.1
 exact Ok.of_fn hm noT 0 qoH (args:=[.v (.agg ⟨wQ w oa ca ob cb oc cc od cd oe ce⟩),.v (.agg ⟨mQ m o1 t1 o2 t2 o3 t3⟩)]) (by
  repeat((conv=>whnf);first|refine qz ?_|intro(_:Nat))
  conv=>whnf
  refine .inl ⟨_,qrW _ hw0 hsn,?_⟩
  repeat((conv=>whnf);first|refine qz ?_|intro(_:Nat))
  conv=>whnf
  refine⟨fun z1=>?_,fun z1=>?_⟩
  ·repeat((conv=>whnf);first|refine qz ?_|intro(_:Nat))
   conv=>whnf
   intro g2 hg
   rw [q5A fun ⟨v,gr,en,h⟩=>by rw [h.right] at z1;cases z1]
  repeat((conv=>whnf);first|refine qz ?_|intro(_:Nat))
  conv=>whnf
  refine .inl ⟨_,qKF _ _ _,?_⟩
  repeat((conv=>whnf);first|refine qz ?_|intro(_:Nat))
  conv=>whnf
  refine⟨fun z2=>?_,fun z2=>?_⟩
  ·repeat((conv=>whnf);first|refine qz ?_|intro(_:Nat))
   conv=>whnf
   intro g2 hg
   rw [q5A fun ⟨v,gr,en,h⟩=>by rw [inB_iff.2 h.thread] at z2;cases z2]
  repeat((conv=>whnf);first|refine qz ?_|intro(_:Nat))
  conv=>whnf
  refine⟨fun z3=>?_,fun z3=>?_⟩
  ·repeat((conv=>whnf);first|refine qz ?_|intro(_:Nat))
   conv=>whnf
   intro g2 hg
   rw [q5A fun ⟨v,gr,en,h⟩=>by rw [h.done] at z3;cases z3]
  repeat((conv=>whnf);first|refine qz ?_|intro(_:Nat))
  conv=>whnf
  refine .inl ⟨_,qKF _ _ _,?_⟩
  repeat((conv=>whnf);first|refine qz ?_|intro(_:Nat))
  conv=>whnf
  refine⟨fun z4=>?_,fun z4=>?_⟩
  ·repeat((conv=>whnf);first|refine qz ?_|intro(_:Nat))
   conv=>whnf
   intro g2 hg
   rw [q5A fun ⟨v,gr,en,h⟩=>by
    have:=(List.getElem?_eq_some_iff.1 h.ver.2).1
    rw [inB_iff.2 ⟨h.ver.1,by have:=h.ver.1;omega⟩] at z4;cases z4]
  have k4:=inB_iff.1 (nb0 z4)
  obtain⟨v,hv⟩:=qAA (l:=w.versions) (i:=m.version.toNat) (by omega)
  obtain⟨aV,rfl,ecV,hecV,⟨va,vb,vd,vn,rfl,hS,hG⟩,hcV⟩:=hV1 _ v hv
  obtain⟨og,cg,rfl,g1,g2,g0,hG1⟩:=id hG
  repeat((conv=>whnf);first|refine qz ?_|intro(_:Nat))
  conv=>whnf
  refine⟨aV,rfl,⟨by omega,by omega⟩,?_⟩
  conv=>whnf
  refine⟨_,hcV 3 _ rfl,?_⟩
  repeat((conv=>whnf);first|refine qz ?_|intro(_:Nat))
  conv=>whnf
  refine .inl ⟨_,qKF _ _ _,?_⟩
  repeat((conv=>whnf);first|refine qz ?_|intro(_:Nat))
  conv=>whnf
  refine⟨fun z5=>?_,fun z5=>?_⟩
  ·repeat((conv=>whnf);first|refine qz ?_|intro(_:Nat))
   conv=>whnf
   intro g2 hg
   rw [q5A fun ⟨v',gr,en,h⟩=>by
    have:=h.ver.2
    rw [hv] at this;cases this
    have:=(List.getElem?_eq_some_iff.1 h.clu.2).1
    rw [inB_iff.2 ⟨h.clu.1,by have:=h.clu.1;omega⟩] at z5;cases z5]
  have k5:=inB_iff.1 (nb0 z5)
  obtain⟨gr,hgr⟩:=qAA (l:=v.groups) (i:=m.cluster.toNat) (by omega)
  obtain⟨aG,rfl,ecG,hecG,⟨ve,rfl,_,hE⟩,hcG⟩:=hG1 _ gr hgr
  obtain⟨oq,cq,rfl,q1,q2,q0,hE1⟩:=id hE
  repeat((conv=>whnf);first|refine qz ?_|intro(_:Nat))
  conv=>whnf
  refine⟨aV,rfl,⟨by omega,by omega⟩,?_⟩
  conv=>whnf
  refine⟨_,hcV 3 _ rfl,?_⟩
  repeat((conv=>whnf);first|refine qz ?_|intro(_:Nat))
  conv=>whnf
  refine⟨aG,rfl,⟨by omega,by omega⟩,?_⟩
  conv=>whnf
  refine⟨_,hcG 1 _ rfl,?_⟩
  repeat((conv=>whnf);first|refine qz ?_|intro(_:Nat))
  conv=>whnf
  refine .inl ⟨_,qKF _ _ _,?_⟩
  repeat((conv=>whnf);first|refine qz ?_|intro(_:Nat))
  conv=>whnf
  refine⟨fun z6=>?_,fun z6=>?_⟩
  ·repeat((conv=>whnf);first|refine qz ?_|intro(_:Nat))
   conv=>whnf
   intro g2 hg
   rw [q5A fun ⟨v',gr',en,h⟩=>by
    have:=h.ver.2
    rw [hv] at this;cases this
    have:=h.clu.2
    rw [hgr] at this;cases this
    have:=(List.getElem?_eq_some_iff.1 h.end_.2).1
    rw [inB_iff.2 ⟨h.end_.1,by have:=h.end_.1;omega⟩] at z6;cases z6]
  have k6:=inB_iff.1 (nb0 z6)
  repeat((conv=>whnf);first|refine qz ?_|intro(_:Nat))
  conv=>whnf
  refine .inl ⟨_,qKF _ _ _,?_⟩
  repeat((conv=>whnf);first|refine qz ?_|intro(_:Nat))
  conv=>whnf
  refine⟨fun z7=>?_,fun z7=>?_⟩
  ·repeat((conv=>whnf);first|refine qz ?_|intro(_:Nat))
   conv=>whnf
   intro g2 hg
   rw [q5A fun ⟨v',gr',en,h⟩=>by
    have:=h.ver.2
    rw [hv] at this;cases this
    have:=h.clu.2
    rw [hgr] at this;cases this
    rw [inB_iff.2 h.other] at z7;cases z7]
  have k7:=inB_iff.1 (nb0 z7)
  obtain⟨en,hen⟩:=qAA (l:=gr.ends) (i:=m.end_.toNat) (by omega)
  obtain⟨aE,rfl,ecE,hecE,⟨⟨vx,rfl,_,_,hN⟩,_⟩,hcE⟩:=hE1 _ en hen
  obtain⟨ox,cx,rfl,x1,x2,x0,hN1⟩:=id hN
  repeat((conv=>whnf);first|refine qz ?_|intro(_:Nat))
  conv=>whnf
  refine⟨aE,rfl,⟨by omega,by omega⟩,?_⟩
  conv=>whnf
  refine⟨_,hcE 1 _ rfl,?_⟩
  repeat((conv=>whnf);first|refine qz ?_|intro(_:Nat))
  conv=>whnf
  refine .inl ⟨_,qKF _ _ _,?_⟩
  repeat((conv=>whnf);first|refine qz ?_|intro(_:Nat))
  conv=>whnf
  refine⟨fun z8=>?_,fun z8=>?_⟩
  ·repeat((conv=>whnf);first|refine qz ?_|intro(_:Nat))
   conv=>whnf
   intro g2 hg
   rw [q5A fun ⟨v',gr',en',h⟩=>by
    have:=h.ver.2
    rw [hv] at this;cases this
    have:=h.clu.2
    rw [hgr] at this;cases this
    have:=h.end_.2
    rw [hen] at this;cases this
    rw [inB_iff.2 h.slot] at z8;cases z8]
  have k8:=inB_iff.1 (nb0 z8)
  repeat((conv=>whnf);first|refine qz ?_|intro(_:Nat))
  conv=>whnf
  refine⟨fun z9=>?_,fun z9=>?_⟩
  case' refine_2 =>
   repeat((conv=>whnf);first|refine qz ?_|intro(_:Nat))
   conv=>whnf
   intro g2 hg
   have:=of_decide_eq_false z9
   rw [q5A fun ⟨v',gr',en',h⟩=>by have:=h.listen;omega]
  have k9:=of_decide_eq_true z9
  repeat((conv=>whnf);first|refine qz ?_|intro(_:Nat))
  conv=>whnf
  refine⟨fun z10=>?_,fun z10=>?_⟩
  case' refine_2 =>
   repeat((conv=>whnf);first|refine qz ?_|intro(_:Nat))
   conv=>whnf
   intro g2 hg
   have:=of_decide_eq_false z10
   rw [q5A fun ⟨v',gr',en',h⟩=>by have:=h.listen;omega]
  have k10:=of_decide_eq_true z10
  repeat((conv=>whnf);first|refine qz ?_|intro(_:Nat))
  conv=>whnf
  refine⟨fun z11=>?_,fun z11=>?_⟩
  case' refine_2 =>
   repeat((conv=>whnf);first|refine qz ?_|intro(_:Nat))
   conv=>whnf
   intro g2 hg
   have:=of_decide_eq_false z11
   rw [q5A fun ⟨v',gr',en',h⟩=>by have:=h.i;omega]
  have k11:=of_decide_eq_true z11
  repeat((conv=>whnf);first|refine qz ?_|intro(_:Nat))
  conv=>whnf
  intro g2 hg
  by_cases hk:0≤m.k
  ·rw [decide_eq_true hk,suitB_iff.2 ⟨v,gr,en,⟨nb0 z1,inB_iff.1 (nb0 z2),z3,⟨k4.1,hv⟩,⟨k5.1,hgr⟩,⟨k6.1,hen⟩,k7,k8,⟨by omega,by omega⟩,k11,hk⟩⟩]
  ·rw [decide_eq_false hk,q5A fun ⟨v',gr',en',h⟩=>hk h.k])
/- Worlds: what is cloned: rows. -/
open Go.Proofs.YthonngjhelcpeaaGreat.Sx Go.RowKit
abbrev wT:WTy:=⟨qOA,qqA,qXA,qEA,qcA,qeD,qeB,qRC⟩
abbrev cI1 (x:Int):List Value:=[.int .i64 x]
abbrev cU1 (x:Int):List Value:=[.int .u64 x]
abbrev cLi (x:Listen):List Value:=[.string x.name,.bool x.drain,.int .i64 x.active,.bool x.closed]
abbrev cRe (x:Retired):List Value:=[.int .i64 x.version,.int .i64 x.at_,.bool x.gone]
theorem q5O {α:Type} {l:List α} {f:α→List Value} (h:∀ x∈l,(f x).all Value.oneCell'=true):∀ u∈(l.map f).flatten,u.oneCell'=true:=oneF h
theorem qeU (g0 g:GW) (h0:g0≤g) {v:Value} {l:List Int} (hl:rSl 1 rInt g v l) (hlen:l.length≤17592186044416):Ok Tryz.prog qMF [v] g fun v' g'=>oSl qOA 1 (oLf rInt) g' g0.w.heap.size (NEW g g') v' l:=by
 obtain⟨oa,ca,rfl,a1,a2,a0,hr⟩:=id hl
 have hR:∀ x∈l,InR x:=fun x hx=>by
  obtain⟨i,hi⟩:=List.getElem?_of_mem hx
  obtain⟨_,_,_,_,⟨_,h⟩,_⟩:=hr i x hi
  exact h
 have hrd:=qIK hl cI1 fun _ _ h=>h.1
 exact Ok.of_fn hm noT 0 qDF (args:=[.v (.slice oa l.length ca)]) (by
  cases oa with
  | none =>
   repeat((conv=>whnf);first|refine qz ?_|intro(_:Nat)|intro(_:OA)_)
   conv=>whnf
   refine⟨fun _=>?_,fun h=>nomatch h⟩
   repeat((conv=>whnf);first|refine qz ?_|intro(_:Nat)|intro(_:OA)_)
   conv=>whnf
   intro g2 hg
   exact .inl ⟨List.length_eq_zero_iff.1 (a0 rfl).1,none,rfl⟩
  | some a =>
   repeat((conv=>whnf);first|refine qz ?_|intro(_:Nat)|intro(_:OA)_)
   conv=>whnf
   refine⟨fun h=>(nomatch h),fun _=>?_⟩
   repeat((conv=>whnf);first|refine qz ?_|intro(_:Nat)|intro(_:OA)_)
   conv=>whnf
   refine⟨⟨rfl,rfl,rfl,rfl,Nat.zero_le _⟩,?_⟩
   conv=>whnf
   refine⟨_,⟨hrd,q5O fun _ _=>rfl⟩,?_⟩
   repeat((conv=>whnf);first|refine qz ?_|intro(_:Nat)|intro(_:OA)_)
   conv=>whnf
   refine⟨⟨by unfold maxLen;omega,by omega⟩,fun oa2 cap2=>?_⟩
   repeat((conv=>whnf);first|refine qz ?_|intro(_:Nat)|intro(_:OA)_)
   conv=>whnf
   refine fun g1 hg1 hn1 hp1=>?_
   conv=>whnf
   intro g2 hg
   simp only [Nat.zero_add,List.nil_append] at hp1
   have hE:=q5C (sz:=1) (r:=rInt) g g g0.w.heap.size cI1 l fun x hx=>⟨rfl,rfl,hR x hx⟩
   have:=qMG (qnA qiB) hg (qtD (qnA qiB) hE (GW.refl _) hg1 (hp1.lo_le h0.1) rfl hn1)
   rwa [Nat.zero_add])
theorem ok_cU (g0 g:GW) (h0:g0≤g) {v:Value} {l:List Int} (hl:rSl 1 rU64 g v l) (hlen:l.length≤17592186044416):Ok Tryz.prog qkD [v] g fun v' g'=>oSl qeD 1 (oLf rU64) g' g0.w.heap.size (NEW g g') v' l:=by
 obtain⟨oa,ca,rfl,a1,a2,a0,hr⟩:=id hl
 have hR:∀ x∈l,InU x:=fun x hx=>by
  obtain⟨i,hi⟩:=List.getElem?_of_mem hx
  obtain⟨_,_,_,_,⟨_,h⟩,_⟩:=hr i x hi
  exact h
 have hrd:=qIK hl cU1 fun _ _ h=>h.1
 exact Ok.of_fn hm noT 0 qgD (args:=[.v (.slice oa l.length ca)]) (by
  cases oa with
  | none =>
   repeat((conv=>whnf);first|refine qz ?_|intro(_:Nat)|intro(_:OA)_)
   conv=>whnf
   refine⟨fun _=>?_,fun h=>nomatch h⟩
   repeat((conv=>whnf);first|refine qz ?_|intro(_:Nat)|intro(_:OA)_)
   conv=>whnf
   intro g2 hg
   exact .inl ⟨List.length_eq_zero_iff.1 (a0 rfl).1,none,rfl⟩
  | some a =>
   repeat((conv=>whnf);first|refine qz ?_|intro(_:Nat)|intro(_:OA)_)
   conv=>whnf
   refine⟨fun h=>(nomatch h),fun _=>?_⟩
   repeat((conv=>whnf);first|refine qz ?_|intro(_:Nat)|intro(_:OA)_)
   conv=>whnf
   refine⟨⟨rfl,rfl,rfl,rfl,Nat.zero_le _⟩,?_⟩
   conv=>whnf
   refine⟨_,⟨hrd,q5O fun _ _=>rfl⟩,?_⟩
   repeat((conv=>whnf);first|refine qz ?_|intro(_:Nat)|intro(_:OA)_)
   conv=>whnf
   refine⟨⟨by unfold maxLen;omega,by omega⟩,fun oa2 cap2=>?_⟩
   repeat((conv=>whnf);first|refine qz ?_|intro(_:Nat)|intro(_:OA)_)
   conv=>whnf
   refine fun g1 hg1 hn1 hp1=>?_
   conv=>whnf
   intro g2 hg
   simp only [Nat.zero_add,List.nil_append] at hp1
   have hE:=q5C (sz:=1) (r:=rU64) g g g0.w.heap.size cU1 l fun x hx=>⟨rfl,rfl,hR x hx⟩
   have:=qMG (qnA qqF) hg (qtD (qnA qqF) hE (GW.refl _) hg1 (hp1.lo_le h0.1) rfl hn1)
   rwa [Nat.zero_add])
theorem qQY (g0 g:GW) (h0:g0≤g) {v:Value} {l:List Listen} (hl:rSl 4 qHB g v l) (hlen:l.length≤1000000):Ok Tryz.prog q8B [v] g fun v' g'=>oSl qcA 4 (oLf qHB) g' g0.w.heap.size (NEW g g') v' l:=by
 obtain⟨oa,ca,rfl,a1,a2,a0,hr⟩:=id hl
 have hR:∀ x∈l,InR x.active:=fun x hx=>by
  obtain⟨i,hi⟩:=List.getElem?_of_mem hx
  obtain⟨_,_,_,_,⟨_,h⟩,_⟩:=hr i x hi
  exact h
 have hrd:=qIK hl cLi fun _ _ h=>h.1
 exact Ok.of_fn hm noT 0 q6B (args:=[.v (.slice oa l.length ca)]) (by
  cases oa with
  | none =>
   repeat((conv=>whnf);first|refine qz ?_|intro(_:Nat)|intro(_:OA)_)
   conv=>whnf
   refine⟨fun _=>?_,fun h=>nomatch h⟩
   repeat((conv=>whnf);first|refine qz ?_|intro(_:Nat)|intro(_:OA)_)
   conv=>whnf
   intro g2 hg
   exact .inl ⟨List.length_eq_zero_iff.1 (a0 rfl).1,none,rfl⟩
  | some a =>
   repeat((conv=>whnf);first|refine qz ?_|intro(_:Nat)|intro(_:OA)_)
   conv=>whnf
   refine⟨fun h=>(nomatch h),fun _=>?_⟩
   repeat((conv=>whnf);first|refine qz ?_|intro(_:Nat)|intro(_:OA)_)
   conv=>whnf
   refine⟨⟨rfl,rfl,rfl,rfl,Nat.zero_le _⟩,?_⟩
   conv=>whnf
   refine⟨_,⟨hrd,q5O fun _ _=>rfl⟩,?_⟩
   repeat((conv=>whnf);first|refine qz ?_|intro(_:Nat)|intro(_:OA)_)
   conv=>whnf
   refine⟨⟨by unfold maxLen;omega,by omega⟩,fun oa2 cap2=>?_⟩
   repeat((conv=>whnf);first|refine qz ?_|intro(_:Nat)|intro(_:OA)_)
   conv=>whnf
   refine fun g1 hg1 hn1 hp1=>?_
   conv=>whnf
   intro g2 hg
   simp only [Nat.zero_add,List.nil_append] at hp1
   have hE:=q5C (sz:=4) (r:=qHB) g g g0.w.heap.size cLi l fun x hx=>⟨rfl,rfl,hR x hx⟩
   have:=qMG (qnA qGB) hg (qtD (qnA qGB) hE (GW.refl _) hg1 (hp1.lo_le h0.1) rfl hn1)
   rwa [Nat.zero_add])
theorem qPY (g0 g:GW) (h0:g0≤g) {v:Value} {l:List Retired} (hl:rSl 3 qtA g v l) (hlen:l.length≤1000000):Ok Tryz.prog qwB [v] g fun v' g'=>oSl qRC 3 (oLf qtA) g' g0.w.heap.size (NEW g g') v' l:=by
 obtain⟨oa,ca,rfl,a1,a2,a0,hr⟩:=id hl
 have hR:∀ x∈l,InR x.version∧InR x.at_:=fun x hx=>by
  obtain⟨i,hi⟩:=List.getElem?_of_mem hx
  obtain⟨_,_,_,_,⟨_,h⟩,_⟩:=hr i x hi
  exact h
 have hrd:=qIK hl cRe fun _ _ h=>h.1
 exact Ok.of_fn hm noT 0 qvB (args:=[.v (.slice oa l.length ca)]) (by
  cases oa with
  | none =>
   repeat((conv=>whnf);first|refine qz ?_|intro(_:Nat)|intro(_:OA)_)
   conv=>whnf
   refine⟨fun _=>?_,fun h=>nomatch h⟩
   repeat((conv=>whnf);first|refine qz ?_|intro(_:Nat)|intro(_:OA)_)
   conv=>whnf
   intro g2 hg
   exact .inl ⟨List.length_eq_zero_iff.1 (a0 rfl).1,none,rfl⟩
  | some a =>
   repeat((conv=>whnf);first|refine qz ?_|intro(_:Nat)|intro(_:OA)_)
   conv=>whnf
   refine⟨fun h=>(nomatch h),fun _=>?_⟩
   repeat((conv=>whnf);first|refine qz ?_|intro(_:Nat)|intro(_:OA)_)
   conv=>whnf
   refine⟨⟨rfl,rfl,rfl,rfl,Nat.zero_le _⟩,?_⟩
   conv=>whnf
   refine⟨_,⟨hrd,q5O fun _ _=>rfl⟩,?_⟩
   repeat((conv=>whnf);first|refine qz ?_|intro(_:Nat)|intro(_:OA)_)
   conv=>whnf
   refine⟨⟨by unfold maxLen;omega,by omega⟩,fun oa2 cap2=>?_⟩
   repeat((conv=>whnf);first|refine qz ?_|intro(_:Nat)|intro(_:OA)_)
   conv=>whnf
   refine fun g1 hg1 hn1 hp1=>?_
   conv=>whnf
   intro g2 hg
   simp only [Nat.zero_add,List.nil_append] at hp1
   have hE:=q5C (sz:=3) (r:=qtA) g g g0.w.heap.size cRe l fun x hx=>⟨rfl,rfl,hR x hx⟩
   have:=qMG (qnA q0A) hg (qtD (qnA q0A) hE (GW.refl _) hg1 (hp1.lo_le h0.1) rfl hn1)
   rwa [Nat.zero_add])
/- Worlds: what is cloned: endpoints,groups,versions,rows. -/
open Go.Proofs.YthonngjhelcpeaaGreat.Sx Go.RowKit
theorem q9W (g0 g:GW) (h0:g0≤g) {cs:List Value} {x:EndC} (hx:rEn g cs x):Ok Tryz.prog qgC [.agg ⟨[]⟩,.agg ⟨cs⟩] g fun v g'=>∃ cs',v=.agg ⟨cs'⟩∧oEn wT true g' g0.w.heap.size (NEW g g') cs' x:=by
 obtain⟨⟨n,rfl,hH,hA,hN⟩,hsz⟩:=hx
 obtain⟨oa,ca,rfl,a1,a2,a0,hr⟩:=id hN
 exact Ok.of_fn hm noT 0 qrI (args:=[.v (.agg ⟨[]⟩),.v (.agg ⟨[.int .u64 x.head,.slice oa x.next.length ca,.int .i64 x.active]⟩)]) (by
  repeat((conv=>whnf);first|refine qz ?_|intro(_:Nat))
  refine .inr ((qeU g0 _ h0 hN hsz).mono fun v g1 hg1 hO=>?_)
  obtain⟨oV,cV,rfl⟩:=qZA hO
  repeat((conv=>whnf);first|refine qz ?_|intro(_:Nat))
  conv=>whnf
  intro g2 hg
  exact⟨_,rfl,_,rfl,⟨hH,hA,hsz⟩,.inl (qMG (qnA qiB) hg hO)⟩)
theorem q7W (g0 g:GW) (h0:g0≤g) {v:Value} {l:List EndC} (hl:rSl 3 rEn g v l) (hlen:l.length≤1000000) :Ok Tryz.prog q6C [v,.func (.func qgC) #[] #[],.agg ⟨[]⟩] g fun v' g'=>oSl qqA 3 (oEn wT true) g' g0.w.heap.size (NEW g g') v' l:=by
 obtain⟨oa,ca,rfl,a1,a2,a0,hr⟩:=id hl
 exact Ok.of_fn hm noT 0 q0C (args:=[.v (.slice oa l.length ca),.v (.func (.func qgC) #[] #[]),.v (.agg ⟨[]⟩)]) (by
  repeat((conv=>whnf);first|refine qz ?_|intro(_:Nat))
  conv=>whnf
  refine⟨⟨by omega,by omega,by omega,by omega⟩,fun _=>?_⟩
  repeat((conv=>whnf);first|refine qz ?_|intro(_:Nat))
  rename_i q0 q1
  conv=>whnf
  refine⟨Nat×List (List Value)×GW,fun (k,_,_)=>[.v (.int .i64 k)],fun (k,ecs,g')=>⟨g',[.row 1 (some ⟨q1,0,none⟩) l.length l.length qqA 3 (rowK ecs [.int .u64 0,.slice none 0 0,.int .i64 0] (l.length-k)),.blk 0 q0 qyC []],10,g.w.heap.size⟩,fun (k,ecs,g')=>k≤l.length∧g≤g'∧oEls 3 (oEn wT true) g g' g0.w.heap.size ecs (l.take k),fun (k,_,_)=>l.length-k,fun fr w hw=>⟨(0,[],g),rfl,⟨Nat.zero_le _,GW.refl _,qsE _ _ _⟩,hw.fit (by simp [fitL,Res.eqv,qBA,conc,rowK])⟩,?_⟩
  rintro⟨k,ecs,g'⟩ ⟨hk,hgg,hE⟩
  have hE0:=hE
  obtain⟨_,⟨hel,hes⟩,_⟩:=hE0
  rw [List.length_take,Nat.min_eq_left hk] at hel
  repeat((conv=>whnf);first|refine qz ?_|intro(_:Nat))
  conv=>whnf
  refine⟨fun hlt=>?_,fun hlt=>?_⟩
  ·have h':k<l.length:=by have:=of_decide_eq_true hlt;omega
   obtain⟨x,hx⟩:=qAA h'
   obtain⟨x1,x2⟩:=List.getElem?_eq_some_iff.1 hx
   obtain⟨a,rfl,ec,hec,hxe,hc⟩:=hr k x hx
   have hxe0:=hxe
   obtain⟨⟨nx,rfl,u1,u2,⟨oN,cN,rfl,_⟩⟩,u3⟩:=hxe
   repeat((conv=>whnf);first|refine qz ?_|intro(_:Nat))
   conv=>whnf
   refine⟨a,rfl,⟨by omega,by omega⟩,?_⟩
   conv=>whnf
   refine⟨_,⟨rfl,hc.mono hgg⟩,?_⟩
   repeat((conv=>whnf);first|refine qz ?_|intro(_:Nat))
   conv=>whnf
   refine⟨.of (by kernel_rfl),?_⟩
   refine .inr ((q9W g0 _ (GW.trans h0 hgg) (qpE _ _ _ _ hgg hxe0)).mono fun v g1 hg1 hO=>?_)
   obtain⟨cs',rfl,hO⟩:=hO
   have hO0:=hO
   obtain⟨nv,rfl,_,hO1⟩:=hO0
   obtain⟨oW,cW,rfl,_⟩:=qXW hO1
   have hlenR:=qgH (m:=l.length-k) (z:=[.int .u64 0,.slice none 0 0,.int .i64 0]) hes rfl
   have hT:l.take (k+1)=l.take k++[x]:=by rw [List.take_succ_eq_append_getElem x1,x2]
   have hset:=qfH (m:=l.length-k) (z:=[.int .u64 0,.slice none 0 0,.int .i64 0]) hes rfl (by omega) (ec:=[.int .u64 x.head,.slice oW x.next.length cW,.int .i64 x.active]) rfl hel.symm
   repeat((conv=>whnf);first|refine qz ?_|intro(_:Nat))
   conv=>whnf
   refine⟨⟨by omega,by omega⟩,?_⟩
   repeat((conv=>whnf);first|refine qz ?_|intro(_:Nat))
   conv=>whnf
   refine⟨⟨by rw [hlenR,hel];simp;omega,by decide⟩,?_⟩
   repeat((conv=>whnf);first|refine qz ?_|intro(_:Nat))
   conv=>whnf
   refine fun fr w hw=>⟨(k+1,ecs++[[.int .u64 x.head,.slice oW x.next.length cW,.int .i64 x.active]],g1),congrArg (fun z=>[Value.int .i64 z]) (wr1 h' a1 a2).symm,⟨h',GW.trans hgg hg1,by rw [hT];exact qiD qkI hgg hg1 hE rfl hO⟩,dec h',hw.fit ?_⟩
   rw [show l.length-(k+1)=l.length-k-1 by omega]
   simp [fitL,Res.eqv,qBA,conc,← hset]
  have hkL:k=l.length:=by have:=of_decide_eq_false hlt;omega
  subst hkL
  rw [List.take_length] at hE
  repeat((conv=>whnf);first|refine qz ?_|intro(_:Nat))
  conv=>whnf
  refine fun g1 hg1 hn1 hp1=>?_
  rw [Nat.sub_self,q8G] at hp1
  conv=>whnf
  intro g2 hg
  exact qMG qkI hg (qtD qkI hE hgg hg1 (hp1.lo_le h0.1) rfl hn1))
theorem qfU (g0 g:GW) (h0:g0≤g) {cs:List Value} {x:Group} (hx:rGr g cs x) (hb:BgG 1000000 x):Ok Tryz.prog q0B [.agg ⟨[]⟩,.agg ⟨cs⟩] g fun v g'=>∃ cs',v=.agg ⟨cs'⟩∧oGr wT true g' g0.w.heap.size (NEW g g') cs' x:=by
 obtain⟨n,rfl,hH,hN⟩:=hx
 obtain⟨oa,ca,rfl,a1,a2,a0,hr⟩:=id hN
 exact Ok.of_fn hm noT 0 qwG (args:=[.v (.agg ⟨[]⟩),.v (.agg ⟨[.int .u64 x.ticket,.slice oa x.ends.length ca]⟩)]) (by
  repeat((conv=>whnf);first|refine qz ?_|intro(_:Nat))
  refine .inr ((q7W g0 _ h0 hN hb).mono fun v g1 hg1 hO=>?_)
  obtain⟨oV,cV,rfl⟩:=qZA hO
  repeat((conv=>whnf);first|refine qz ?_|intro(_:Nat))
  conv=>whnf
  intro g2 hg
  exact⟨_,rfl,_,rfl,hH,qMG qkI hg hO⟩)
theorem qdU (g0 g:GW) (h0:g0≤g) {v:Value} {l:List Group} (hl:rSl 2 rGr g v l) (hlen:l.length≤1000000) (hb:∀ y∈l,BgG 1000000 y):Ok Tryz.prog qeC [v,.func (.func q0B) #[] #[],.agg ⟨[]⟩] g fun v' g'=>oSl qXA 2 (oGr wT true) g' g0.w.heap.size (NEW g g') v' l:=by
 obtain⟨oa,ca,rfl,a1,a2,a0,hr⟩:=id hl
 exact Ok.of_fn hm noT 0 qaC (args:=[.v (.slice oa l.length ca),.v (.func (.func q0B) #[] #[]),.v (.agg ⟨[]⟩)]) (by
  repeat((conv=>whnf);first|refine qz ?_|intro(_:Nat))
  conv=>whnf
  refine⟨⟨by omega,by omega,by omega,by omega⟩,fun _=>?_⟩
  repeat((conv=>whnf);first|refine qz ?_|intro(_:Nat))
  rename_i q0 q1
  conv=>whnf
  refine⟨Nat×List (List Value)×GW,fun (k,_,_)=>[.v (.int .i64 k)],fun (k,ecs,g')=>⟨g',[.row 1 (some ⟨q1,0,none⟩) l.length l.length qXA 2 (rowK ecs [.int .u64 0,.slice none 0 0] (l.length-k)),.blk 0 q0 qyC []],10,g.w.heap.size⟩,fun (k,ecs,g')=>k≤l.length∧g≤g'∧oEls 2 (oGr wT true) g g' g0.w.heap.size ecs (l.take k),fun (k,_,_)=>l.length-k,fun fr w hw=>⟨(0,[],g),rfl,⟨Nat.zero_le _,GW.refl _,qsE _ _ _⟩,hw.fit (by simp [fitL,Res.eqv,qBA,conc,rowK])⟩,?_⟩
  rintro⟨k,ecs,g'⟩ ⟨hk,hgg,hE⟩
  have hE0:=hE
  obtain⟨_,⟨hel,hes⟩,_⟩:=hE0
  rw [List.length_take,Nat.min_eq_left hk] at hel
  repeat((conv=>whnf);first|refine qz ?_|intro(_:Nat))
  conv=>whnf
  refine⟨fun hlt=>?_,fun hlt=>?_⟩
  ·have h':k<l.length:=by have:=of_decide_eq_true hlt;omega
   obtain⟨x,hx⟩:=qAA h'
   obtain⟨x1,x2⟩:=List.getElem?_eq_some_iff.1 hx
   obtain⟨a,rfl,ec,hec,hxe,hc⟩:=hr k x hx
   have hxe0:=hxe
   obtain⟨nx,rfl,u1,⟨oN,cN,rfl,_⟩⟩:=hxe
   repeat((conv=>whnf);first|refine qz ?_|intro(_:Nat))
   conv=>whnf
   refine⟨a,rfl,⟨by omega,by omega⟩,?_⟩
   conv=>whnf
   refine⟨_,⟨rfl,hc.mono hgg⟩,?_⟩
   repeat((conv=>whnf);first|refine qz ?_|intro(_:Nat))
   conv=>whnf
   refine⟨.of (by kernel_rfl),?_⟩
   refine .inr ((qfU g0 _ (GW.trans h0 hgg) (qrF _ _ _ _ hgg hxe0) (hb x (List.mem_of_getElem? hx))).mono fun v g1 hg1 hO=>?_)
   obtain⟨cs',rfl,hO⟩:=hO
   have hO0:=hO
   obtain⟨nv,rfl,_,hO1⟩:=hO0
   obtain⟨oW,cW,rfl⟩:=qZA hO1
   have hlenR:=qgH (m:=l.length-k) (z:=[.int .u64 0,.slice none 0 0]) hes rfl
   have hT:l.take (k+1)=l.take k++[x]:=by rw [List.take_succ_eq_append_getElem x1,x2]
   have hset:=qfH (m:=l.length-k) (z:=[.int .u64 0,.slice none 0 0]) hes rfl (by omega) (ec:=[.int .u64 x.ticket,.slice oW x.ends.length cW]) rfl hel.symm
   repeat((conv=>whnf);first|refine qz ?_|intro(_:Nat))
   conv=>whnf
   refine⟨⟨by omega,by omega⟩,?_⟩
   repeat((conv=>whnf);first|refine qz ?_|intro(_:Nat))
   conv=>whnf
   refine⟨⟨by rw [hlenR,hel];simp;omega,by decide⟩,?_⟩
   repeat((conv=>whnf);first|refine qz ?_|intro(_:Nat))
   conv=>whnf
   refine fun fr w hw=>⟨(k+1,ecs++[[.int .u64 x.ticket,.slice oW x.ends.length cW]],g1),congrArg (fun z=>[Value.int .i64 z]) (wr1 h' a1 a2).symm,⟨h',GW.trans hgg hg1,by rw [hT];exact qiD q3L hgg hg1 hE rfl hO⟩,dec h',hw.fit ?_⟩
   rw [show l.length-(k+1)=l.length-k-1 by omega]
   simp [fitL,Res.eqv,qBA,conc,← hset]
  have hkL:k=l.length:=by have:=of_decide_eq_false hlt;omega
  subst hkL
  rw [List.take_length] at hE
  repeat((conv=>whnf);first|refine qz ?_|intro(_:Nat))
  conv=>whnf
  refine fun g1 hg1 hn1 hp1=>?_
  rw [Nat.sub_self,q8G] at hp1
  conv=>whnf
  intro g2 hg
  exact qMG q3L hg (qtD q3L hE hgg hg1 (hp1.lo_le h0.1) rfl hn1))
theorem qsR (g0 g:GW) (h0:g0≤g) {cs:List Value} {x:Version} (hx:rVe g0 cs x) (hb:BgV 1000000 x):Ok Tryz.prog qjB [.agg ⟨[]⟩,.agg ⟨cs⟩] g fun v g'=>∃ cs',v=.agg ⟨cs'⟩∧oVe wT true g' g0.w.heap.size (NEW g g') cs' x:=by
 obtain⟨a,b,d,n,rfl,hS,hN⟩:=hx
 have hS0:=hS
 obtain⟨_,_,_,he,⟨oa',ca',rfl,_⟩,⟨ob',cb',rfl,_⟩,⟨od',cd',rfl,_⟩⟩:=hS
 cases he
 obtain⟨oa,ca,rfl,a1,a2,a0,hr⟩:=id hN
 exact Ok.of_fn hm noT 0 qgF (args:=[.v (.agg ⟨[]⟩),.v (.agg ⟨[.slice oa' x.snap.listens.length ca',.slice ob' x.snap.rules.length cb',.slice od' x.snap.clusters.length cd',.slice oa x.groups.length ca,.bool x.freed]⟩)]) (by
  repeat((conv=>whnf);first|refine qz ?_|intro(_:Nat))
  refine .inr ((qdU g0 _ h0 (hN.mono qrF h0) hb.1 hb.2).mono fun v g1 hg1 hO=>?_)
  obtain⟨oV,cV,rfl⟩:=qZA hO
  repeat((conv=>whnf);first|refine qz ?_|intro(_:Nat))
  conv=>whnf
  intro g2 hg
  exact⟨_,rfl,_,_,_,_,rfl,qnC _ _ _ _ (GW.le_vw (GW.trans h0 (GW.trans hg1 hg)) (Nat.le_refl _)) hS0,qMG q3L hg hO⟩)
theorem qrR (g0 g:GW) (h0:g0≤g) {v:Value} {l:List Version} (hl:rSl 5 rVe g0 v l) (hlen:l.length≤1000000) (hb:∀ y∈l,BgV 1000000 y):Ok Tryz.prog qOC [v,.func (.func qjB) #[] #[],.agg ⟨[]⟩] g fun v' g'=>oSl qEA 5 (oVe wT true) g' g0.w.heap.size (NEW g g') v' l:=by
 obtain⟨oa,ca,rfl,a1,a2,a0,hr⟩:=id hl
 exact Ok.of_fn hm noT 0 qMC (args:=[.v (.slice oa l.length ca),.v (.func (.func qjB) #[] #[]),.v (.agg ⟨[]⟩)]) (by
  repeat((conv=>whnf);first|refine qz ?_|intro(_:Nat))
  conv=>whnf
  refine⟨⟨by omega,by omega,by omega,by omega⟩,fun _=>?_⟩
  repeat((conv=>whnf);first|refine qz ?_|intro(_:Nat))
  rename_i q0 q1
  conv=>whnf
  refine⟨Nat×List (List Value)×GW,fun (k,_,_)=>[.v (.int .i64 k)],fun (k,ecs,g')=>⟨g',[.row 1 (some ⟨q1,0,none⟩) l.length l.length qEA 5 (rowK ecs [.slice none 0 0,.slice none 0 0,.slice none 0 0,.slice none 0 0,.bool false] (l.length-k)),.blk 0 q0 qyC []],10,g.w.heap.size⟩,fun (k,ecs,g')=>k≤l.length∧g≤g'∧oEls 5 (oVe wT true) g g' g0.w.heap.size ecs (l.take k),fun (k,_,_)=>l.length-k,fun fr w hw=>⟨(0,[],g),rfl,⟨Nat.zero_le _,GW.refl _,qsE _ _ _⟩,hw.fit (by simp [fitL,Res.eqv,qBA,conc,rowK])⟩,?_⟩
  rintro⟨k,ecs,g'⟩ ⟨hk,hgg,hE⟩
  have hE0:=hE
  obtain⟨_,⟨hel,hes⟩,_⟩:=hE0
  rw [List.length_take,Nat.min_eq_left hk] at hel
  repeat((conv=>whnf);first|refine qz ?_|intro(_:Nat))
  conv=>whnf
  refine⟨fun hlt=>?_,fun hlt=>?_⟩
  ·have h':k<l.length:=by have:=of_decide_eq_true hlt;omega
   obtain⟨x,hx⟩:=qAA h'
   obtain⟨x1,x2⟩:=List.getElem?_eq_some_iff.1 hx
   obtain⟨a,rfl,ec,hec,hxe,hc⟩:=hr k x hx
   have hxe0:=hxe
   obtain⟨sa,sb,sd,nx,rfl,⟨_,_,_,hee,⟨oa',ca',rfl,_⟩,⟨ob',cb',rfl,_⟩,⟨od',cd',rfl,_⟩⟩,⟨oN,cN,rfl,_⟩⟩:=hxe
   cases hee
   repeat((conv=>whnf);first|refine qz ?_|intro(_:Nat))
   conv=>whnf
   refine⟨a,rfl,⟨by omega,by omega⟩,?_⟩
   conv=>whnf
   refine⟨_,⟨rfl,hc.mono (GW.trans h0 hgg)⟩,?_⟩
   repeat((conv=>whnf);first|refine qz ?_|intro(_:Nat))
   conv=>whnf
   refine⟨.of (by kernel_rfl),?_⟩
   refine .inr ((qsR g0 _ (GW.trans h0 hgg) hxe0 (hb x (List.mem_of_getElem? hx))).mono fun v g1 hg1 hO=>?_)
   obtain⟨cs',rfl,hO⟩:=hO
   have hO0:=hO
   obtain⟨ua,ub,ud,nv,rfl,⟨_,_,_,hee,⟨oa2,ca2,rfl,_⟩,⟨ob2,cb2,rfl,_⟩,⟨od2,cd2,rfl,_⟩⟩,hO1⟩:=hO0
   cases hee
   obtain⟨oW,cW,rfl⟩:=qZA hO1
   have hlenR:=qgH (m:=l.length-k) (z:=[.slice none 0 0,.slice none 0 0,.slice none 0 0,.slice none 0 0,.bool false]) hes rfl
   have hT:l.take (k+1)=l.take k++[x]:=by rw [List.take_succ_eq_append_getElem x1,x2]
   have hset:=qfH (m:=l.length-k) (z:=[.slice none 0 0,.slice none 0 0,.slice none 0 0,.slice none 0 0,.bool false]) hes rfl (by omega) (ec:=[.slice oa2 x.snap.listens.length ca2,.slice ob2 x.snap.rules.length cb2,.slice od2 x.snap.clusters.length cd2,.slice oW x.groups.length cW,.bool x.freed]) rfl hel.symm
   repeat((conv=>whnf);first|refine qz ?_|intro(_:Nat))
   conv=>whnf
   refine⟨⟨by omega,by omega⟩,?_⟩
   repeat((conv=>whnf);first|refine qz ?_|intro(_:Nat))
   conv=>whnf
   refine⟨⟨by rw [hlenR,hel];simp;omega,by decide⟩,?_⟩
   repeat((conv=>whnf);first|refine qz ?_|intro(_:Nat))
   conv=>whnf
   refine fun fr w hw=>⟨(k+1,ecs++[[.slice oa2 x.snap.listens.length ca2,.slice ob2 x.snap.rules.length cb2,.slice od2 x.snap.clusters.length cd2,.slice oW x.groups.length cW,.bool x.freed]],g1),congrArg (fun z=>[Value.int .i64 z]) (wr1 h' a1 a2).symm,⟨h',GW.trans hgg hg1,by rw [hT];exact qiD qCH hgg hg1 hE rfl hO⟩,dec h',hw.fit ?_⟩
   rw [show l.length-(k+1)=l.length-k-1 by omega]
   simp [fitL,Res.eqv,qBA,conc,← hset]
  have hkL:k=l.length:=by have:=of_decide_eq_false hlt;omega
  subst hkL
  rw [List.take_length] at hE
  repeat((conv=>whnf);first|refine qz ?_|intro(_:Nat))
  conv=>whnf
  refine fun g1 hg1 hn1 hp1=>?_
  rw [Nat.sub_self,q8G] at hp1
  conv=>whnf
  intro g2 hg
  exact qMG qCH hg (qtD qCH hE hgg hg1 (hp1.lo_le h0.1) rfl hn1))
theorem q8W (g0 g:GW) (h0:g0≤g) {v:Value} {x:List Int} (hx:rSl 1 rU64 g v x) (hb:x.length≤17592186044416):Ok Tryz.prog qfC [.agg ⟨[]⟩,v] g fun v' g'=>oSl qeD 1 (oLf rU64) g' g0.w.heap.size (NEW g g') v' x:=by
 obtain⟨oa,ca,rfl,a1,a2,a0,hr⟩:=id hx
 exact Ok.of_fn hm noT 0 qqI (args:=[.v (.agg ⟨[]⟩),.v (.slice oa x.length ca)]) (by
  repeat((conv=>whnf);first|refine qz ?_|intro(_:Nat))
  refine .inr ((ok_cU g0 _ h0 hx hb).mono fun v g1 hg1 hO=>?_)
  obtain⟨oV,cV,rfl⟩:=qZA hO
  repeat((conv=>whnf);first|refine qz ?_|intro(_:Nat))
  conv=>whnf
  intro g2 hg
  exact qMG (qnA qqF) hg hO)
theorem q6W (g0 g:GW) (h0:g0≤g) {v:Value} {l:List (List Int)} (hl:rSl 1 rRow g v l) (hlen:l.length≤1000000) (hb:∀ y∈l,y.length≤1000000):Ok Tryz.prog qwC [v,.func (.func qfC) #[] #[],.agg ⟨[]⟩] g fun v' g'=>oSl qeB 1 (oRo wT) g' g0.w.heap.size (NEW g g') v' l:=by
 obtain⟨oa,ca,rfl,a1,a2,a0,hr⟩:=id hl
 exact Ok.of_fn hm noT 0 qvC (args:=[.v (.slice oa l.length ca),.v (.func (.func qfC) #[] #[]),.v (.agg ⟨[]⟩)]) (by
  repeat((conv=>whnf);first|refine qz ?_|intro(_:Nat))
  conv=>whnf
  refine⟨⟨by omega,by omega,by omega,by omega⟩,fun _=>?_⟩
  repeat((conv=>whnf);first|refine qz ?_|intro(_:Nat))
  rename_i q0 q1
  conv=>whnf
  refine⟨Nat×List (List Value)×GW,fun (k,_,_)=>[.v (.int .i64 k)],fun (k,ecs,g')=>⟨g',[.row 1 (some ⟨q1,0,none⟩) l.length l.length qeB 1 (rowK ecs [.slice none 0 0] (l.length-k)),.blk 0 q0 qyC []],10,g.w.heap.size⟩,fun (k,ecs,g')=>k≤l.length∧g≤g'∧oEls 1 (oRo wT) g g' g0.w.heap.size ecs (l.take k),fun (k,_,_)=>l.length-k,fun fr w hw=>⟨(0,[],g),rfl,⟨Nat.zero_le _,GW.refl _,qsE _ _ _⟩,hw.fit (by simp [fitL,Res.eqv,qBA,conc,rowK])⟩,?_⟩
  rintro⟨k,ecs,g'⟩ ⟨hk,hgg,hE⟩
  have hE0:=hE
  obtain⟨_,⟨hel,hes⟩,_⟩:=hE0
  rw [List.length_take,Nat.min_eq_left hk] at hel
  repeat((conv=>whnf);first|refine qz ?_|intro(_:Nat))
  conv=>whnf
  refine⟨fun hlt=>?_,fun hlt=>?_⟩
  ·have h':k<l.length:=by have:=of_decide_eq_true hlt;omega
   obtain⟨x,hx⟩:=qAA h'
   obtain⟨x1,x2⟩:=List.getElem?_eq_some_iff.1 hx
   obtain⟨a,rfl,ec,hec,hxe,hc⟩:=hr k x hx
   have hxe0:=hxe
   obtain⟨nx,rfl,hN⟩:=hxe
   have hN0:=hN
   obtain⟨oN,cN,rfl,_⟩:=hN
   repeat((conv=>whnf);first|refine qz ?_|intro(_:Nat))
   conv=>whnf
   refine⟨a,rfl,⟨by omega,by omega⟩,?_⟩
   conv=>whnf
   refine⟨_,hc.mono hgg 0 _ rfl,?_⟩
   repeat((conv=>whnf);first|refine qz ?_|intro(_:Nat))
   conv=>whnf
   refine⟨.of (by kernel_rfl),?_⟩
   refine .inr ((q8W g0 _ (GW.trans h0 hgg) (hN0.mono qiM hgg) (by have:=hb x (List.mem_of_getElem? hx);omega)).mono fun v g1 hg1 hO=>?_)
   obtain⟨oW,cW,rfl⟩:=qZA hO
   have hlenR:=qgH (m:=l.length-k) (z:=[.slice none 0 0]) hes rfl
   have hT:l.take (k+1)=l.take k++[x]:=by rw [List.take_succ_eq_append_getElem x1,x2]
   have hset:=qfH (m:=l.length-k) (z:=[.slice none 0 0]) hes rfl (by omega) (ec:=[.slice oW x.length cW]) rfl hel.symm
   repeat((conv=>whnf);first|refine qz ?_|intro(_:Nat))
   conv=>whnf
   refine⟨⟨by omega,by omega⟩,?_⟩
   repeat((conv=>whnf);first|refine qz ?_|intro(_:Nat))
   conv=>whnf
   refine⟨⟨by rw [hlenR,hel];simp;omega,by decide⟩,?_⟩
   repeat((conv=>whnf);first|refine qz ?_|intro(_:Nat))
   conv=>whnf
   refine fun fr w hw=>⟨(k+1,ecs++[[.slice oW x.length cW]],g1),congrArg (fun z=>[Value.int .i64 z]) (wr1 h' a1 a2).symm,⟨h',GW.trans hgg hg1,by rw [hT];exact qiD qDH hgg hg1 hE rfl ⟨_,rfl,hO⟩⟩,dec h',hw.fit ?_⟩
   rw [show l.length-(k+1)=l.length-k-1 by omega]
   simp [fitL,Res.eqv,qBA,conc,← hset]
  have hkL:k=l.length:=by have:=of_decide_eq_false hlt;omega
  subst hkL
  rw [List.take_length] at hE
  repeat((conv=>whnf);first|refine qz ?_|intro(_:Nat))
  conv=>whnf
  refine fun g1 hg1 hn1 hp1=>?_
  rw [Nat.sub_self,q8G] at hp1
  conv=>whnf
  intro g2 hg
  exact qMG qDH hg (qtD qDH hE hgg hg1 (hp1.lo_le h0.1) rfl hn1))
end Go.Proofs.YthonngjhelcpeaaGreat
