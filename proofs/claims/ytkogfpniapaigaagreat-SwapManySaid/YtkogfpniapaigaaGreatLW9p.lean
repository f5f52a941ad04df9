/- Machines: which ones suit a world. -/
import Derived.Test.YtkogfpniapaigaaGreatLW9n
import Derived.Test.YtkogfpniapaigaaGreatPl
import Derived.Test.YtkogfpniapaigaaGreatLW9g
import Derived.Test.YtkogfpniapaigaaGreatLS7
set_option linter.unusedVariables false
set_option linter.unusedSimpArgs false
namespace Go.Proofs.YtkogfpniapaigaaGreat
open Go.Proofs.YtkogfpniapaigaaGreat.Sx Go.RowKit
set_option maxHeartbeats 16000000
set_option maxRecDepth 100000
theorem qSD (g:GW) (i n:Int):OkV Tryz.prog qRT [.int .i64 i,.int .i64 n] g (.bool (inB i n)) :=
 Ok.of_fn hm noT 0 q0S (args:=[.v (.int .i64 i),.v (.int .i64 n)]) (by
  repeat((conv=>whnf);first|apply qza|apply qzb|apply qzc|apply qzd|apply qze|intro(_:Nat))
  conv=>whnf
  refine⟨fun h=>?_,fun h=>?_⟩
  ·repeat((conv=>whnf);first|apply qza|apply qzb|apply qzc|apply qzd|apply qze|intro(_:Nat))
   conv=>whnf
   intro g2 hg
   unfold inB;rw [h];rfl
  ·repeat((conv=>whnf);first|apply qza|apply qzb|apply qzc|apply qzd|apply qze|intro(_:Nat))
   conv=>whnf
   intro g2 hg
   unfold inB;rw [h];rfl)
theorem qEE (g:GW) (i n:Int):OkV Tryz.prog qWJ [.int .i64 i,.int .i64 n] g (.bool (inB i n)) :=
 Ok.of_fn hm noT 0 qCJ (args:=[.v (.int .i64 i),.v (.int .i64 n)]) (by
  repeat((conv=>whnf);first|apply qza|apply qzb|apply qzc|apply qzd|apply qze|intro(_:Nat))
  conv=>whnf
  refine⟨fun h=>?_,fun h=>?_⟩
  ·repeat((conv=>whnf);first|apply qza|apply qzb|apply qzc|apply qzd|apply qze|intro(_:Nat))
   conv=>whnf
   intro g2 hg
   unfold inB;rw [h];rfl
  ·repeat((conv=>whnf);first|apply qza|apply qzb|apply qzc|apply qzd|apply qze|intro(_:Nat))
   conv=>whnf
   intro g2 hg
   unfold inB;rw [h];rfl)
theorem qtM (g:GW) {cs ms:List Value} {w:Wd} {m:Mach} (hw:rWo g cs w) (hM:qiD g ms m) (hsn:SnW w) (hb:BgW 1000000 w):OkV Tryz.prog qcP [.agg ⟨cs⟩,.agg ⟨ms⟩] g (.bool (qfB w m)):=by
 have hw0:=hw
 obtain⟨a,b,c,d,e,rfl,⟨i1,i2,i3⟩,hP,hV,hL,hC,hR⟩:=hw
 obtain⟨oa,ca,rfl,a1,a2,a0,hP1⟩:=id hP
 obtain⟨ob,cb,rfl,b1,b2,b0,hV1⟩:=id hV
 obtain⟨oc,cc,rfl,c1,c2,c0,hL1⟩:=id hL
 obtain⟨od,cd,rfl,d1,d2,d0,hC1⟩:=id hC
 obtain⟨oe,ce,rfl,e1,e2,e0,hR1⟩:=id hR
 obtain⟨ma,mb,md,rfl,hok,_,⟨_,_,_,he,⟨o1,t1,rfl,_⟩,⟨o2,t2,rfl,_⟩,⟨o3,t3,rfl,_⟩⟩⟩:=hM
 cases he
 have hLl:=hb.1.2.2.1
 exact Ok.of_fn hm noT 0 q2O (args:=[.v (.agg ⟨wQ w oa ca ob cb oc cc od cd oe ce⟩),.v (.agg ⟨mQ m o1 t1 o2 t2 o3 t3⟩)]) (by
  repeat((conv=>whnf);first|apply qza|apply qzb|apply qzc|apply qzd|apply qze|intro(_:Nat))
  conv=>whnf
  refine .inl ⟨_,q3N _ hw0 hsn,?_⟩
  repeat((conv=>whnf);first|apply qza|apply qzb|apply qzc|apply qzd|apply qze|intro(_:Nat))
  conv=>whnf
  refine⟨fun z1=>?_,fun z1=>?_⟩
  ·repeat((conv=>whnf);first|apply qza|apply qzb|apply qzc|apply qzd|apply qze|intro(_:Nat))
   conv=>whnf
   intro g2 hg
   rw [qzA fun ⟨v,gr,en,h⟩=>by rw [h.right] at z1;cases z1]
  repeat((conv=>whnf);first|apply qza|apply qzb|apply qzc|apply qzd|apply qze|intro(_:Nat))
  conv=>whnf
  refine .inl ⟨_,qSD _ _ _,?_⟩
  repeat((conv=>whnf);first|apply qza|apply qzb|apply qzc|apply qzd|apply qze|intro(_:Nat))
  conv=>whnf
  refine⟨fun z2=>?_,fun z2=>?_⟩
  ·repeat((conv=>whnf);first|apply qza|apply qzb|apply qzc|apply qzd|apply qze|intro(_:Nat))
   conv=>whnf
   intro g2 hg
   rw [qzA fun ⟨v,gr,en,h⟩=>by rw [inB_iff.2 h.thread] at z2;cases z2]
  repeat((conv=>whnf);first|apply qza|apply qzb|apply qzc|apply qzd|apply qze|intro(_:Nat))
  conv=>whnf
  refine⟨fun z3=>?_,fun z3=>?_⟩
  ·repeat((conv=>whnf);first|apply qza|apply qzb|apply qzc|apply qzd|apply qze|intro(_:Nat))
   conv=>whnf
   intro g2 hg
   rw [qzA fun ⟨v,gr,en,h⟩=>by rw [h.done] at z3;cases z3]
  repeat((conv=>whnf);first|apply qza|apply qzb|apply qzc|apply qzd|apply qze|intro(_:Nat))
  conv=>whnf
  refine .inl ⟨_,qSD _ _ _,?_⟩
  repeat((conv=>whnf);first|apply qza|apply qzb|apply qzc|apply qzd|apply qze|intro(_:Nat))
  conv=>whnf
  refine⟨fun z4=>?_,fun z4=>?_⟩
  ·repeat((conv=>whnf);first|apply qza|apply qzb|apply qzc|apply qzd|apply qze|intro(_:Nat))
   conv=>whnf
   intro g2 hg
   rw [qzA fun ⟨v,gr,en,h⟩=>by
    have:=(List.getElem?_eq_some_iff.1 h.ver.2).1
    rw [inB_iff.2 ⟨h.ver.1,by have:=h.ver.1;omega⟩] at z4;cases z4]
  have k4:=inB_iff.1 (nb0 z4)
  obtain⟨v,hv⟩:=qBA (l:=w.versions) (i:=m.version.toNat) (by omega)
  obtain⟨aV,rfl,ecV,hecV,⟨va,vb,vd,vn,rfl,hS,hG⟩,hcV⟩:=hV1 _ v hv
  obtain⟨og,cg,rfl,g1,g2,g0,hG1⟩:=id hG
  repeat((conv=>whnf);first|apply qza|apply qzb|apply qzc|apply qzd|apply qze|intro(_:Nat))
  conv=>whnf
  refine⟨aV,rfl,⟨by omega,by omega⟩,?_⟩
  conv=>whnf
  refine⟨_,hcV 3 _ rfl,?_⟩
  repeat((conv=>whnf);first|apply qza|apply qzb|apply qzc|apply qzd|apply qze|intro(_:Nat))
  conv=>whnf
  refine .inl ⟨_,qSD _ _ _,?_⟩
  repeat((conv=>whnf);first|apply qza|apply qzb|apply qzc|apply qzd|apply qze|intro(_:Nat))
  conv=>whnf
  refine⟨fun z5=>?_,fun z5=>?_⟩
  ·repeat((conv=>whnf);first|apply qza|apply qzb|apply qzc|apply qzd|apply qze|intro(_:Nat))
   conv=>whnf
   intro g2 hg
   rw [qzA fun ⟨v',gr,en,h⟩=>by
    have:=h.ver.2
    rw [hv] at this;cases this
    have:=(List.getElem?_eq_some_iff.1 h.clu.2).1
    rw [inB_iff.2 ⟨h.clu.1,by have:=h.clu.1;omega⟩] at z5;cases z5]
  have k5:=inB_iff.1 (nb0 z5)
  obtain⟨gr,hgr⟩:=qBA (l:=v.groups) (i:=m.cluster.toNat) (by omega)
  obtain⟨aG,rfl,ecG,hecG,⟨ve,rfl,_,hE⟩,hcG⟩:=hG1 _ gr hgr
  obtain⟨oq,cq,rfl,q1,q2,q0,hE1⟩:=id hE
  repeat((conv=>whnf);first|apply qza|apply qzb|apply qzc|apply qzd|apply qze|intro(_:Nat))
  conv=>whnf
  refine⟨aG,rfl,⟨by omega,by omega⟩,?_⟩
  conv=>whnf
  refine⟨_,hcG 1 _ rfl,?_⟩
  repeat((conv=>whnf);first|apply qza|apply qzb|apply qzc|apply qzd|apply qze|intro(_:Nat))
  conv=>whnf
  refine .inl ⟨_,qSD _ _ _,?_⟩
  repeat((conv=>whnf);first|apply qza|apply qzb|apply qzc|apply qzd|apply qze|intro(_:Nat))
  conv=>whnf
  refine⟨fun z6=>?_,fun z6=>?_⟩
  ·repeat((conv=>whnf);first|apply qza|apply qzb|apply qzc|apply qzd|apply qze|intro(_:Nat))
   conv=>whnf
   intro g2 hg
   rw [qzA fun ⟨v',gr',en,h⟩=>by
    have:=h.ver.2
    rw [hv] at this;cases this
    have:=h.clu.2
    rw [hgr] at this;cases this
    have:=(List.getElem?_eq_some_iff.1 h.end_.2).1
    rw [inB_iff.2 ⟨h.end_.1,by have:=h.end_.1;omega⟩] at z6;cases z6]
  have k6:=inB_iff.1 (nb0 z6)
  repeat((conv=>whnf);first|apply qza|apply qzb|apply qzc|apply qzd|apply qze|intro(_:Nat))
  conv=>whnf
  refine .inl ⟨_,qSD _ _ _,?_⟩
  repeat((conv=>whnf);first|apply qza|apply qzb|apply qzc|apply qzd|apply qze|intro(_:Nat))
  conv=>whnf
  refine⟨fun z7=>?_,fun z7=>?_⟩
  ·repeat((conv=>whnf);first|apply qza|apply qzb|apply qzc|apply qzd|apply qze|intro(_:Nat))
   conv=>whnf
   intro g2 hg
   rw [qzA fun ⟨v',gr',en,h⟩=>by
    have:=h.ver.2
    rw [hv] at this;cases this
    have:=h.clu.2
    rw [hgr] at this;cases this
    rw [inB_iff.2 h.other] at z7;cases z7]
  have k7:=inB_iff.1 (nb0 z7)
  obtain⟨en,hen⟩:=qBA (l:=gr.ends) (i:=m.end_.toNat) (by omega)
  obtain⟨aE,rfl,ecE,hecE,⟨⟨vx,rfl,_,_,hN⟩,_⟩,hcE⟩:=hE1 _ en hen
  obtain⟨ox,cx,rfl,x1,x2,x0,hN1⟩:=id hN
  repeat((conv=>whnf);first|apply qza|apply qzb|apply qzc|apply qzd|apply qze|intro(_:Nat))
  conv=>whnf
  refine⟨aE,rfl,⟨by omega,by omega⟩,?_⟩
  conv=>whnf
  refine⟨_,hcE 1 _ rfl,?_⟩
  repeat((conv=>whnf);first|apply qza|apply qzb|apply qzc|apply qzd|apply qze|intro(_:Nat))
  conv=>whnf
  refine .inl ⟨_,qSD _ _ _,?_⟩
  repeat((conv=>whnf);first|apply qza|apply qzb|apply qzc|apply qzd|apply qze|intro(_:Nat))
  conv=>whnf
  refine⟨fun z8=>?_,fun z8=>?_⟩
  ·repeat((conv=>whnf);first|apply qza|apply qzb|apply qzc|apply qzd|apply qze|intro(_:Nat))
   conv=>whnf
   intro g2 hg
   rw [qzA fun ⟨v',gr',en',h⟩=>by
    have:=h.ver.2
    rw [hv] at this;cases this
    have:=h.clu.2
    rw [hgr] at this;cases this
    have:=h.end_.2
    rw [hen] at this;cases this
    rw [inB_iff.2 h.slot] at z8;cases z8]
  have k8:=inB_iff.1 (nb0 z8)
  have hl2:IntKind.i64.wrap ((w.listens.length:Int)+1)=(w.listens.length:Int)+1:=wr (by unfold InR;omega)
  have hmL:=hok.listen
  have hl3:(IntKind.i64.wrap (m.listen+1)=m.listen+1∨IntKind.i64.wrap (m.listen+1)<0):=by
   rcases Int.lt_or_le m.listen 9223372036854775807 with h|h
   ·exact .inl (wr (by unfold InR at hmL ⊢;omega))
   ·obtain h:m.listen=9223372036854775807:=by unfold InR at hmL;omega
    rw [h];exact .inr (by decide)
  repeat((conv=>whnf);first|apply qza|apply qzb|apply qzc|apply qzd|apply qze|intro(_:Nat))
  conv=>whnf
  refine .inl ⟨_,qSD _ _ _,?_⟩
  repeat((conv=>whnf);first|apply qza|apply qzb|apply qzc|apply qzd|apply qze|intro(_:Nat))
  conv=>whnf
  refine⟨fun z9=>?_,fun z9=>?_⟩
  case' refine_2 =>
   repeat((conv=>whnf);first|apply qza|apply qzb|apply qzc|apply qzd|apply qze|intro(_:Nat))
   conv=>whnf
   intro g2 hg
   rw [qzA fun ⟨v',gr',en',h⟩=>by
    rw [inB_iff.2 (by rw [hl2,wr (by have:=h.listen;unfold InR;omega)];have:=h.listen;omega)] at z9;cases z9]
  have k9:=inB_iff.1 z9
  rw [hl2] at k9
  repeat((conv=>whnf);first|apply qza|apply qzb|apply qzc|apply qzd|apply qze|intro(_:Nat))
  conv=>whnf
  refine⟨fun z10=>?_,fun z10=>?_⟩
  case' refine_2 =>
   repeat((conv=>whnf);first|apply qza|apply qzb|apply qzc|apply qzd|apply qze|intro(_:Nat))
   conv=>whnf
   intro g2 hg
   have:=of_decide_eq_false z10
   rw [qzA fun ⟨v',gr',en',h⟩=>by have:=h.i;omega]
  have k10:=of_decide_eq_true z10
  repeat((conv=>whnf);first|apply qza|apply qzb|apply qzc|apply qzd|apply qze|intro(_:Nat))
  conv=>whnf
  intro g2 hg
  by_cases hk:0≤m.k
  ·rw [decide_eq_true hk,suitB_iff.2 ⟨v,gr,en,⟨nb0 z1,inB_iff.1 (nb0 z2),z3,⟨k4.1,hv⟩,⟨k5.1,hgr⟩,⟨k6.1,hen⟩,k7,k8,⟨by omega,by omega⟩,k10,hk⟩⟩]
  ·rw [decide_eq_false hk,qzA fun ⟨v',gr',en',h⟩=>hk h.k])
/- Machines: which ones suit a world;the document's answer. -/
open Go.Proofs.YtkogfpniapaigaaGreat.Sx Go.RowKit
theorem q0R (g:GW) {cs ms:List Value} {w:Wd} {m:Mach} (hw:rWo g cs w) (hM:qiD g ms m) (hsn:SnW w) (hb:BgW 1000000 w):OkV Tryz.prog qfG [.agg ⟨cs⟩,.agg ⟨ms⟩] g (.bool (qfB w m)):=by
 have hw0:=hw
 obtain⟨a,b,c,d,e,rfl,⟨i1,i2,i3⟩,hP,hV,hL,hC,hR⟩:=hw
 obtain⟨oa,ca,rfl,a1,a2,a0,hP1⟩:=id hP
 obtain⟨ob,cb,rfl,b1,b2,b0,hV1⟩:=id hV
 obtain⟨oc,cc,rfl,c1,c2,c0,hL1⟩:=id hL
 obtain⟨od,cd,rfl,d1,d2,d0,hC1⟩:=id hC
 obtain⟨oe,ce,rfl,e1,e2,e0,hR1⟩:=id hR
 obtain⟨ma,mb,md,rfl,hok,_,⟨_,_,_,he,⟨o1,t1,rfl,_⟩,⟨o2,t2,rfl,_⟩,⟨o3,t3,rfl,_⟩⟩⟩:=hM
 cases he
 have hLl:=hb.1.2.2.1
 exact Ok.of_fn hm noT 0 qQG (args:=[.v (.agg ⟨wQ w oa ca ob cb oc cc od cd oe ce⟩),.v (.agg ⟨mQ m o1 t1 o2 t2 o3 t3⟩)]) (by
  repeat((conv=>whnf);first|apply qza|apply qzb|apply qzc|apply qzd|apply qze|intro(_:Nat))
  conv=>whnf
  refine .inl ⟨_,qPU _ hw0 hsn,?_⟩
  repeat((conv=>whnf);first|apply qza|apply qzb|apply qzc|apply qzd|apply qze|intro(_:Nat))
  conv=>whnf
  refine⟨fun z1=>?_,fun z1=>?_⟩
  ·repeat((conv=>whnf);first|apply qza|apply qzb|apply qzc|apply qzd|apply qze|intro(_:Nat))
   conv=>whnf
   intro g2 hg
   rw [qzA fun ⟨v,gr,en,h⟩=>by rw [h.right] at z1;cases z1]
  repeat((conv=>whnf);first|apply qza|apply qzb|apply qzc|apply qzd|apply qze|intro(_:Nat))
  conv=>whnf
  refine .inl ⟨_,qEE _ _ _,?_⟩
  repeat((conv=>whnf);first|apply qza|apply qzb|apply qzc|apply qzd|apply qze|intro(_:Nat))
  conv=>whnf
  refine⟨fun z2=>?_,fun z2=>?_⟩
  ·repeat((conv=>whnf);first|apply qza|apply qzb|apply qzc|apply qzd|apply qze|intro(_:Nat))
   conv=>whnf
   intro g2 hg
   rw [qzA fun ⟨v,gr,en,h⟩=>by rw [inB_iff.2 h.thread] at z2;cases z2]
  repeat((conv=>whnf);first|apply qza|apply qzb|apply qzc|apply qzd|apply qze|intro(_:Nat))
  conv=>whnf
  refine⟨fun z3=>?_,fun z3=>?_⟩
  ·repeat((conv=>whnf);first|apply qza|apply qzb|apply qzc|apply qzd|apply qze|intro(_:Nat))
   conv=>whnf
   intro g2 hg
   rw [qzA fun ⟨v,gr,en,h⟩=>by rw [h.done] at z3;cases z3]
  repeat((conv=>whnf);first|apply qza|apply qzb|apply qzc|apply qzd|apply qze|intro(_:Nat))
  conv=>whnf
  refine .inl ⟨_,qEE _ _ _,?_⟩
  repeat((conv=>whnf);first|apply qza|apply qzb|apply qzc|apply qzd|apply qze|intro(_:Nat))
  conv=>whnf
  refine⟨fun z4=>?_,fun z4=>?_⟩
  ·repeat((conv=>whnf);first|apply qza|apply qzb|apply qzc|apply qzd|apply qze|intro(_:Nat))
   conv=>whnf
   intro g2 hg
   rw [qzA fun ⟨v,gr,en,h⟩=>by
    have:=(List.getElem?_eq_some_iff.1 h.ver.2).1
    rw [inB_iff.2 ⟨h.ver.1,by have:=h.ver.1;omega⟩] at z4;cases z4]
  have k4:=inB_iff.1 (nb0 z4)
  obtain⟨v,hv⟩:=qBA (l:=w.versions) (i:=m.version.toNat) (by omega)
  obtain⟨aV,rfl,ecV,hecV,⟨va,vb,vd,vn,rfl,hS,hG⟩,hcV⟩:=hV1 _ v hv
  obtain⟨og,cg,rfl,g1,g2,g0,hG1⟩:=id hG
  repeat((conv=>whnf);first|apply qza|apply qzb|apply qzc|apply qzd|apply qze|intro(_:Nat))
  conv=>whnf
  refine⟨aV,rfl,⟨by omega,by omega⟩,?_⟩
  conv=>whnf
  refine⟨_,hcV 3 _ rfl,?_⟩
  repeat((conv=>whnf);first|apply qza|apply qzb|apply qzc|apply qzd|apply qze|intro(_:Nat))
  conv=>whnf
  refine .inl ⟨_,qEE _ _ _,?_⟩
  repeat((conv=>whnf);first|apply qza|apply qzb|apply qzc|apply qzd|apply qze|intro(_:Nat))
  conv=>whnf
  refine⟨fun z5=>?_,fun z5=>?_⟩
  ·repeat((conv=>whnf);first|apply qza|apply qzb|apply qzc|apply qzd|apply qze|intro(_:Nat))
   conv=>whnf
   intro g2 hg
   rw [qzA fun ⟨v',gr,en,h⟩=>by
    have:=h.ver.2
    rw [hv] at this;cases this
    have:=(List.getElem?_eq_some_iff.1 h.clu.2).1
    rw [inB_iff.2 ⟨h.clu.1,by have:=h.clu.1;omega⟩] at z5;cases z5]
  have k5:=inB_iff.1 (nb0 z5)
  obtain⟨gr,hgr⟩:=qBA (l:=v.groups) (i:=m.cluster.toNat) (by omega)
  obtain⟨aG,rfl,ecG,hecG,⟨ve,rfl,_,hE⟩,hcG⟩:=hG1 _ gr hgr
  obtain⟨oq,cq,rfl,q1,q2,q0,hE1⟩:=id hE
  repeat((conv=>whnf);first|apply qza|apply qzb|apply qzc|apply qzd|apply qze|intro(_:Nat))
  conv=>whnf
  refine⟨aV,rfl,⟨by omega,by omega⟩,?_⟩
  conv=>whnf
  refine⟨_,hcV 3 _ rfl,?_⟩
  repeat((conv=>whnf);first|apply qza|apply qzb|apply qzc|apply qzd|apply qze|intro(_:Nat))
  conv=>whnf
  refine⟨aG,rfl,⟨by omega,by omega⟩,?_⟩
  conv=>whnf
  refine⟨_,hcG 1 _ rfl,?_⟩
  repeat((conv=>whnf);first|apply qza|apply qzb|apply qzc|apply qzd|apply qze|intro(_:Nat))
  conv=>whnf
  refine .inl ⟨_,qEE _ _ _,?_⟩
  repeat((conv=>whnf);first|apply qza|apply qzb|apply qzc|apply qzd|apply qze|intro(_:Nat))
  conv=>whnf
  refine⟨fun z6=>?_,fun z6=>?_⟩
  ·repeat((conv=>whnf);first|apply qza|apply qzb|apply qzc|apply qzd|apply qze|intro(_:Nat))
   conv=>whnf
   intro g2 hg
   rw [qzA fun ⟨v',gr',en,h⟩=>by
    have:=h.ver.2
    rw [hv] at this;cases this
    have:=h.clu.2
    rw [hgr] at this;cases this
    have:=(List.getElem?_eq_some_iff.1 h.end_.2).1
    rw [inB_iff.2 ⟨h.end_.1,by have:=h.end_.1;omega⟩] at z6;cases z6]
  have k6:=inB_iff.1 (nb0 z6)
  repeat((conv=>whnf);first|apply qza|apply qzb|apply qzc|apply qzd|apply qze|intro(_:Nat))
  conv=>whnf
  refine .inl ⟨_,qEE _ _ _,?_⟩
  repeat((conv=>whnf);first|apply qza|apply qzb|apply qzc|apply qzd|apply qze|intro(_:Nat))
  conv=>whnf
  refine⟨fun z7=>?_,fun z7=>?_⟩
  ·repeat((conv=>whnf);first|apply qza|apply qzb|apply qzc|apply qzd|apply qze|intro(_:Nat))
   conv=>whnf
   intro g2 hg
   rw [qzA fun ⟨v',gr',en,h⟩=>by
    have:=h.ver.2
    rw [hv] at this;cases this
    have:=h.clu.2
    rw [hgr] at this;cases this
    rw [inB_iff.2 h.other] at z7;cases z7]
  have k7:=inB_iff.1 (nb0 z7)
  obtain⟨en,hen⟩:=qBA (l:=gr.ends) (i:=m.end_.toNat) (by omega)
  obtain⟨aE,rfl,ecE,hecE,⟨⟨vx,rfl,_,_,hN⟩,_⟩,hcE⟩:=hE1 _ en hen
  obtain⟨ox,cx,rfl,x1,x2,x0,hN1⟩:=id hN
  repeat((conv=>whnf);first|apply qza|apply qzb|apply qzc|apply qzd|apply qze|intro(_:Nat))
  conv=>whnf
  refine⟨aE,rfl,⟨by omega,by omega⟩,?_⟩
  conv=>whnf
  refine⟨_,hcE 1 _ rfl,?_⟩
  repeat((conv=>whnf);first|apply qza|apply qzb|apply qzc|apply qzd|apply qze|intro(_:Nat))
  conv=>whnf
  refine .inl ⟨_,qEE _ _ _,?_⟩
  repeat((conv=>whnf);first|apply qza|apply qzb|apply qzc|apply qzd|apply qze|intro(_:Nat))
  conv=>whnf
  refine⟨fun z8=>?_,fun z8=>?_⟩
  ·repeat((conv=>whnf);first|apply qza|apply qzb|apply qzc|apply qzd|apply qze|intro(_:Nat))
   conv=>whnf
   intro g2 hg
   rw [qzA fun ⟨v',gr',en',h⟩=>by
    have:=h.ver.2
    rw [hv] at this;cases this
    have:=h.clu.2
    rw [hgr] at this;cases this
    have:=h.end_.2
    rw [hen] at this;cases this
    rw [inB_iff.2 h.slot] at z8;cases z8]
  have k8:=inB_iff.1 (nb0 z8)
  repeat((conv=>whnf);first|apply qza|apply qzb|apply qzc|apply qzd|apply qze|intro(_:Nat))
  conv=>whnf
  refine⟨fun z9=>?_,fun z9=>?_⟩
  case' refine_2 =>
   repeat((conv=>whnf);first|apply qza|apply qzb|apply qzc|apply qzd|apply qze|intro(_:Nat))
   conv=>whnf
   intro g2 hg
   have:=of_decide_eq_false z9
   rw [qzA fun ⟨v',gr',en',h⟩=>by have:=h.listen;omega]
  have k9:=of_decide_eq_true z9
  repeat((conv=>whnf);first|apply qza|apply qzb|apply qzc|apply qzd|apply qze|intro(_:Nat))
  conv=>whnf
  refine⟨fun z10=>?_,fun z10=>?_⟩
  case' refine_2 =>
   repeat((conv=>whnf);first|apply qza|apply qzb|apply qzc|apply qzd|apply qze|intro(_:Nat))
   conv=>whnf
   intro g2 hg
   have:=of_decide_eq_false z10
   rw [qzA fun ⟨v',gr',en',h⟩=>by have:=h.listen;omega]
  have k10:=of_decide_eq_true z10
  repeat((conv=>whnf);first|apply qza|apply qzb|apply qzc|apply qzd|apply qze|intro(_:Nat))
  conv=>whnf
  refine⟨fun z11=>?_,fun z11=>?_⟩
  case' refine_2 =>
   repeat((conv=>whnf);first|apply qza|apply qzb|apply qzc|apply qzd|apply qze|intro(_:Nat))
   conv=>whnf
   intro g2 hg
   have:=of_decide_eq_false z11
   rw [qzA fun ⟨v',gr',en',h⟩=>by have:=h.i;omega]
  have k11:=of_decide_eq_true z11
  repeat((conv=>whnf);first|apply qza|apply qzb|apply qzc|apply qzd|apply qze|intro(_:Nat))
  conv=>whnf
  intro g2 hg
  by_cases hk:0≤m.k
  ·rw [decide_eq_true hk,suitB_iff.2 ⟨v,gr,en,⟨nb0 z1,inB_iff.1 (nb0 z2),z3,⟨k4.1,hv⟩,⟨k5.1,hgr⟩,⟨k6.1,hen⟩,k7,k8,⟨by omega,by omega⟩,k11,hk⟩⟩]
  ·rw [decide_eq_false hk,qzA fun ⟨v',gr',en',h⟩=>hk h.k])
/- Swaps: may a machine's version go into limbo? -/
open Go.Proofs.YtkogfpniapaigaaGreat.Sx Go.RowKit
def tLa:List (Nat×FnI):=[(qYA,qKA),(qfA,qOA),(q0M,qrI)]
theorem qGV:qDG Tryz.prog tLa:=by
 intro x hx
 simp only [tLa,List.mem_cons,List.not_mem_nil,or_false] at hx
 rcases hx with rfl|rfl|rfl
 ·exact⟨_,_,qXA⟩
 ·exact⟨_,_,qeA⟩
 ·exact⟨_,_,qWM⟩
theorem qWU (g:GW) {cs ms:List Value} {w:Wd} {m:Mach} (hw:rWo g cs w) (hM:qiD g ms m):OkV Tryz.prog qZP [.agg ⟨cs⟩,.agg ⟨ms⟩] g (.bool (qsG w m)):=by
 obtain⟨a,b,c,d,e,rfl,⟨i1,i2,i3⟩,hP,hV,hL,hC,hR⟩:=hw
 obtain⟨oa,ca,rfl,a1,a2,a0,hP1⟩:=id hP
 obtain⟨ob,cb,rfl,b1,b2,b0,hV1⟩:=id hV
 obtain⟨oc,cc,rfl,c1,c2,c0,hL1⟩:=id hL
 obtain⟨od,cd,rfl,d1,d2,d0,hC1⟩:=id hC
 obtain⟨oe,ce,rfl,e1,e2,e0,hR1⟩:=id hR
 obtain⟨ma,mb,md,rfl,hok,_,⟨_,_,_,he,⟨o1,t1,rfl,_⟩,⟨o2,t2,rfl,_⟩,⟨o3,t3,rfl,_⟩⟩⟩:=hM
 cases he
 exact Ok.of_fn hm qGV 4 qzO (args:=[.v (.agg ⟨wQ w oa ca ob cb oc cc od cd oe ce⟩),.v (.agg ⟨mQ m o1 t1 o2 t2 o3 t3⟩)]) (by
  repeat((conv=>whnf);first|apply qza|apply qzb|apply qzc|apply qzd|apply qze|intro(_:Nat))
  conv=>whnf
  refine⟨Nat,fun k=>[.v (.int .i64 k)],fun k=>⟨g,_,_,_⟩,fun k=>k≤w.limbo.length∧(w.limbo.take k).any (fun r=>r.version==m.version)=false,fun k=>w.limbo.length-k,qDA 0 rfl ⟨Nat.zero_le _,rfl⟩ rfl,?_⟩
  rintro k ⟨hk,hp⟩
  repeat((conv=>whnf);first|apply qza|apply qzb|apply qzc|apply qzd|apply qze|intro(_:Nat))
  conv=>whnf
  refine⟨fun hlt=>?_,fun hlt=>?_⟩
  ·have h':k<w.limbo.length:=by have:=of_decide_eq_true hlt;omega
   obtain⟨x,hx⟩:=qBA h'
   obtain⟨a,rfl,ec,hec,⟨rfl,hxi⟩,hc⟩:=hR1 k x hx
   repeat((conv=>whnf);first|apply qza|apply qzb|apply qzc|apply qzd|apply qze|intro(_:Nat))
   conv=>whnf
   refine⟨a,rfl,⟨by omega,by omega⟩,?_⟩
   conv=>whnf
   refine⟨_,⟨rfl,hc⟩,?_⟩
   repeat((conv=>whnf);first|apply qza|apply qzb|apply qzc|apply qzd|apply qze|intro(_:Nat))
   conv=>whnf
   refine⟨qCN,?_⟩
   repeat((conv=>whnf);first|apply qza|apply qzb|apply qzc|apply qzd|apply qze|intro(_:Nat))
   conv=>whnf
   refine⟨fun he=>?_,fun he=>?_⟩
   ·have hz:qsG w m=true:=by
     unfold qsG
     rw [List.any_eq_true.2 ⟨x,List.mem_of_getElem? hx,by simpa using he⟩]
     rfl
    rw [hz]
    repeat((conv=>whnf);first|apply qza|apply qzb|apply qzc|apply qzd|apply qze|intro(_:Nat))
    conv=>whnf
    refine dT (by omega) ?_
    repeat((conv=>whnf);first|apply qza|apply qzb|apply qzc|apply qzd|apply qze|intro(_:Nat))
    conv=>whnf
    intro g2 hg
    rfl
   ·repeat((conv=>whnf);first|apply qza|apply qzb|apply qzc|apply qzd|apply qze|intro(_:Nat))
    conv=>whnf
    refine fun fr w hw=>⟨k+1,congrArg (fun z=>[Value.int .i64 z]) (wr1 h' e1 e2).symm,⟨h',qXK hp hx (by simpa using he)⟩,dec h',?_⟩
    exact hw.fit (by simp [fitL,Res.eqv,qAA,conc])
  have hkL:k=w.limbo.length:=by have:=of_decide_eq_false hlt;omega
  rw [hkL,List.take_length] at hp
  have hz:qsG w m=((m.version==w.current)||decide (m.epoch<0)||decide (w.epoch<m.epoch)):=by unfold qsG;rw [hp];simp
  rw [hz]
  repeat((conv=>whnf);first|apply qza|apply qzb|apply qzc|apply qzd|apply qze|intro(_:Nat))
  conv=>whnf
  refine dF (by omega) ?_
  repeat((conv=>whnf);first|apply qza|apply qzb|apply qzc|apply qzd|apply qze|intro(_:Nat))
  conv=>whnf
  refine⟨fun zA=>?_,fun zA=>?_⟩
  ·repeat((conv=>whnf);first|apply qza|apply qzb|apply qzc|apply qzd|apply qze|intro(_:Nat))
   conv=>whnf
   intro g2 hg
   rw [zA];rfl
  repeat((conv=>whnf);first|apply qza|apply qzb|apply qzc|apply qzd|apply qze|intro(_:Nat))
  conv=>whnf
  refine⟨fun zB=>?_,fun zB=>?_⟩
  ·repeat((conv=>whnf);first|apply qza|apply qzb|apply qzc|apply qzd|apply qze|intro(_:Nat))
   conv=>whnf
   intro g2 hg
   rw [zA,zB];rfl
  repeat((conv=>whnf);first|apply qza|apply qzb|apply qzc|apply qzd|apply qze|intro(_:Nat))
  conv=>whnf
  intro g2 hg
  rw [zA,zB];rfl)
/- Slots: those of a new endpoint. -/
open Go.Proofs.YtkogfpniapaigaaGreat.Sx Go.RowKit
def q3T (n:Int) (v:Value) (g':GW):Prop :=
 ((1≤n∧n≤4)∧∃ oa cap,v=.tuple #[.agg ⟨[.int .u64 1,.slice oa n.toNat cap,.int .i64 0]⟩,.int .i64 0]∧rSl 1 rInt g' (.slice oa n.toNat cap) (q6A n.toNat).next) ∨
 (¬ (1≤n∧n≤4)∧v=.tuple #[.agg ⟨[.int .u64 0,.slice none 0 0,.int .i64 0]⟩,.int .i64 1])
abbrev upE (k:Nat):List (List Value):=(List.range k).map fun (i:Nat)=>[Value.int .i64 ((i:Int)+1)]
theorem qzP (k:Nat):upE (k+1)=upE k++[[Value.int .i64 ((k:Int)+1)]]:=by simp [upE,List.range_succ]
theorem qoT {k:Nat}:∀ e∈upE k,e.length=1:=fun e he=>by
 obtain⟨x,_,rfl⟩:=List.mem_map.1 he;rfl
theorem qNT (g:GW) {n:Int}:Ok Tryz.prog q4M [.int .i64 n] g (q3T n) :=
 Ok.of_fn hm noT 0 qaM (args:=[.v (.int .i64 n)]) (by
  repeat((conv=>whnf);first|apply qza|apply qzb|apply qzc|apply qzd|apply qze|intro(_:Nat))
  conv=>whnf
  refine⟨fun z1=>?_,fun z1=>?_⟩
  ·repeat((conv=>whnf);first|apply qza|apply qzb|apply qzc|apply qzd|apply qze|intro(_:Nat))
   conv=>whnf
   intro g2 hg
   exact .inr ⟨by have:=of_decide_eq_true z1;omega,rfl⟩
  repeat((conv=>whnf);first|apply qza|apply qzb|apply qzc|apply qzd|apply qze|intro(_:Nat))
  conv=>whnf
  refine⟨fun z2=>?_,fun z2=>?_⟩
  ·repeat((conv=>whnf);first|apply qza|apply qzb|apply qzc|apply qzd|apply qze|intro(_:Nat))
   conv=>whnf
   intro g2 hg
   exact .inr ⟨by have:=of_decide_eq_true z2;omega,rfl⟩
  have k1:=of_decide_eq_false z1
  have k2:=of_decide_eq_false z2
  obtain⟨N,rfl⟩:=Int.eq_ofNat_of_zero_le (show 0≤n by omega)
  repeat((conv=>whnf);first|apply qza|apply qzb|apply qzc|apply qzd|apply qze|intro(_:Nat))
  conv=>whnf
  refine⟨⟨by omega,by omega,by omega,by omega⟩,fun _=>?_⟩
  repeat((conv=>whnf);first|apply qza|apply qzb|apply qzc|apply qzd|apply qze|intro(_:Nat))
  rename_i q0 q1 q2
  conv=>whnf
  refine⟨Nat,fun k=>[.v (.int .i64 k)],fun k=>⟨g,[.blk 2 q2 qSA [.v (.int .u64 0),.row 1 (some ⟨q1,0,none⟩) N N,.v (.int .i64 0)],.row 1 (some ⟨q1,0,none⟩) N N qNA 1 (rowK (upE k) [.int .i64 0] (N-k)),.blk 0 q0 qSA [.v (.int .u64 0),.v (.slice none 0 0),.v (.int .i64 0)]],3,g.w.heap.size⟩,fun k=>k≤N,fun k=>N-k,fun fr w hw=>⟨0,rfl,Nat.zero_le _,hw.fit (by simp [fitL,Res.eqv,qAA,conc,rowK,upE])⟩,?_⟩
  intro k hk
  have hlen:=qFG (m:=N-k) (z:=[.int .i64 0]) (qoT (k:=k)) rfl
  have hul:(upE k).length=k:=by simp [upE]
  repeat((conv=>whnf);first|apply qza|apply qzb|apply qzc|apply qzd|apply qze|intro(_:Nat))
  conv=>whnf
  refine⟨fun hlt=>?_,fun hlt=>?_⟩
  ·have h':k<N:=by have:=of_decide_eq_true hlt;omega
   have hset:=qEG (m:=N-k) (z:=[.int .i64 0]) (qoT (k:=k)) rfl (by omega) (ec:=[.int .i64 ((k:Int)+1)]) rfl hul.symm
   rw [← qzP] at hset
   repeat((conv=>whnf);first|apply qza|apply qzb|apply qzc|apply qzd|apply qze|intro(_:Nat))
   conv=>whnf
   refine⟨⟨by omega,by omega⟩,?_⟩
   repeat((conv=>whnf);first|apply qza|apply qzb|apply qzc|apply qzd|apply qze|intro(_:Nat))
   conv=>whnf
   refine⟨⟨by rw [hlen,hul];simp;omega,by decide⟩,?_⟩
   repeat((conv=>whnf);first|apply qza|apply qzb|apply qzc|apply qzd|apply qze|intro(_:Nat))
   conv=>whnf
   refine fun fr w hw=>⟨k+1,congrArg (fun z=>[Value.int .i64 z]) (by rw [wr (show InR ((k:Int)+1) by unfold InR;omega)];omega),h',dec h',hw.fit ?_⟩
   rw [show N-(k+1)=N-k-1 by omega,← hset]
   simp [fitL,Res.eqv,qAA,conc,wr (show InR ((k:Int)+1) by unfold InR;omega)]
  have hkN:k=N:=by have:=of_decide_eq_false hlt;omega
  subst hkN
  rw [Nat.sub_self,hul] at hlen
  repeat((conv=>whnf);first|apply qza|apply qzb|apply qzc|apply qzd|apply qze|intro(_:Nat))
  conv=>whnf
  refine⟨⟨by rw [wr (by unfold InR;omega)];omega,by rw [wr (by unfold InR;omega)];omega⟩,?_⟩
  repeat((conv=>whnf);first|apply qza|apply qzb|apply qzc|apply qzd|apply qze|intro(_:Nat))
  conv=>whnf
  refine⟨⟨by rw [Nat.sub_self,hlen,wr (by unfold InR;omega)];simp;omega,by decide⟩,?_⟩
  repeat((conv=>whnf);first|apply qza|apply qzb|apply qzc|apply qzd|apply qze|intro(_:Nat))
  conv=>whnf
  refine .inl ⟨_,(qDT _ (t:=0) (i:=0) (by decide) (by decide)).to (show _=Value.tuple #[.int .u64 1,.int .i64 0] from rfl),?_⟩
  repeat((conv=>whnf);first|apply qza|apply qzb|apply qzc|apply qzd|apply qze|intro(_:Nat))
  conv=>whnf
  refine fun g1 hg1 hn1 hp1=>?_
  repeat((conv=>whnf);first|apply qza|apply qzb|apply qzc|apply qzd|apply qze|intro(_:Nat))
  conv=>whnf
  intro g2 hg
  refine .inl ⟨⟨by omega,by omega⟩,_,_,rfl,?_⟩
  have hN:k=1∨k=2∨k=3∨k=4:=by omega
  rcases hN with rfl|rfl|rfl|rfl
  all_goals exact(qPD hp1.rd (q6A _).next (fun x=>.int .i64 x) rfl fun x hx=>⟨rfl,by simp [q6A,List.range,List.range.loop] at hx;unfold InR;omega⟩).mono qhA hg)
theorem qKQ {g:GW} {n:Int} {oa:Option Addr} {cap:Nat} (h:1≤n∧n≤4) (hr:rSl 1 rInt g (.slice oa n.toNat cap) (q6A n.toNat).next):rEn g [.int .u64 1,.slice oa n.toNat cap,.int .i64 0] (q6A n.toNat) :=
 ⟨⟨_,rfl,show InU 1 by decide,show InR 0 by decide,hr⟩,by simp [q6A];omega⟩
/- Worlds: a snapshot's cells. -/
open Go.Proofs.YtkogfpniapaigaaGreat.Sx Go.RowKit
def q5T (s:Snap) (v:Value) (g':GW):Prop :=
 (qHA (qIC s)=none∧∃ a b d oa n cap,v=.tuple #[.agg ⟨[a,b,d,.slice oa n cap,.bool false]⟩,.int .i64 0]∧rVe g' [a,b,d,.slice oa n cap,.bool false] (qGA s)) ∨
 (qHA (qIC s)≠none∧v=.tuple #[.agg ⟨[.slice none 0 0,.slice none 0 0,.slice none 0 0,.slice none 0 0,.bool false]⟩,.int .i64 1])
theorem qFQ (g:GW) {cs:List Value} {s:Snap} (hs:qnF g cs s) (hsz:s.rules.length≤1000000):Ok Tryz.prog qzM [.agg ⟨cs⟩] g (q5T s):=by
 have hs0:=hs
 obtain⟨a,b,d,rfl,hl,hr,hk⟩:=hs
 obtain⟨oa,ca,rfl,a1,a2,a0,hl1⟩:=id hl
 obtain⟨ob,cb,rfl,b1,b2,b0,hr1⟩:=id hr
 obtain⟨od,cd,rfl,d1,d2,d0,hk1⟩:=id hk
 exact Ok.of_fn hm noT 0 qVM (args:=[.v (.agg ⟨[.slice oa s.listens.length ca,.slice ob s.rules.length cb,.slice od s.clusters.length cd]⟩)]) (by
  repeat((conv=>whnf);first|apply qza|apply qzb|apply qzc|apply qzd|apply qze|intro(_:Nat)|intro(_:OA)_)
  conv=>whnf
  refine .inl ⟨_,qsT _ hs0 hsz,?_⟩
  repeat((conv=>whnf);first|apply qza|apply qzb|apply qzc|apply qzd|apply qze|intro(_:Nat)|intro(_:OA)_)
  conv=>whnf
  refine⟨fun z1=>?_,fun z1=>?_⟩
  ·repeat((conv=>whnf);first|apply qza|apply qzb|apply qzc|apply qzd|apply qze|intro(_:Nat)|intro(_:OA)_)
   conv=>whnf
   intro g2 hg
   refine .inr ⟨fun h=>?_,rfl⟩
   rw [qOK h] at z1;cases z1
  have hz:=eqB_iff.1 (nb0 z1)
  have G:=good_iff.1 hz
  have hclL:s.clusters.length≤4:=G.size.2.2.2
  have hcl:∀ x∈s.clusters,(1≤x.slots∧x.slots≤4)∧(1≤x.health.length∧x.health.length≤4):=fun x hx=>(G.cl x hx).2.2
  repeat((conv=>whnf);first|apply qza|apply qzb|apply qzc|apply qzd|apply qze|intro(_:Nat)|intro(_:OA)_)
  rename_i q0 q1 q2
  conv=>whnf
  refine⟨Nat×List (List Value)×Option Addr×Nat×GW,fun (k,_,_,_,_)=>[.v (.int .i64 k)],fun (k,ecs,oX,cX,g')=>⟨g',[.row 10 oX k cX qLA 2 ecs.flatten,.blk 2 q2 qCA [.v (.slice oa s.listens.length ca),.v (.slice ob s.rules.length cb),.v (.slice od s.clusters.length cd),.row 10 oX k cX,.v (.bool false)],.blk 1 q1 qCA [.v (.slice none 0 0),.v (.slice none 0 0),.v (.slice none 0 0),.v (.slice none 0 0),.v (.bool false)],.blk 0 q0 qPA [.v (.slice oa s.listens.length ca),.v (.slice ob s.rules.length cb),.v (.slice od s.clusters.length cd)]],20,g.w.heap.size⟩,fun (k,ecs,_,_,g')=>k≤s.clusters.length∧g≤g'∧rEls 2 rGr g' ecs ((s.clusters.take k).map fun c=>(⟨0,c.health.map fun _=>q6A c.slots.toNat⟩:Group)),fun (k,_,_,_,_)=>s.clusters.length-k,fun fr w hw=>⟨(0,[],none,0,g),rfl,⟨Nat.zero_le _,GW.refl _,qiE _⟩,(hw.nil_row (nx':=20) 10 qLA 2).fit (by simp [fitL,Res.eqv,qAA,conc])⟩,?_⟩
  rintro⟨k,ecs,oX,cX,g'⟩ ⟨hkk,hgg,hE⟩
  repeat((conv=>whnf);first|apply qza|apply qzb|apply qzc|apply qzd|apply qze|intro(_:Nat)|intro(_:OA)_)
  conv=>whnf
  refine⟨fun hlt=>?_,fun hlt=>?_⟩
  ·have h':k<s.clusters.length:=by have:=of_decide_eq_true hlt;omega
   obtain⟨x,hx⟩:=qBA h'
   obtain⟨x1,x2⟩:=List.getElem?_eq_some_iff.1 hx
   have hxc:=hcl x (List.mem_of_getElem? hx)
   obtain⟨a,rfl,ec,hec,⟨hv,rfl,_,_,⟨oh,ch,rfl,t1,t2,_⟩⟩,hc⟩:=hk1 k x hx
   repeat((conv=>whnf);first|apply qza|apply qzb|apply qzc|apply qzd|apply qze|intro(_:Nat)|intro(_:OA)_)
   conv=>whnf
   refine⟨a,rfl,⟨by omega,by omega⟩,?_⟩
   conv=>whnf
   refine⟨_,⟨rfl,hc.mono hgg⟩,?_⟩
   repeat((conv=>whnf);first|apply qza|apply qzb|apply qzc|apply qzd|apply qze|intro(_:Nat)|intro(_:OA)_)
   rename_i qc qg
   conv=>whnf
   refine⟨Nat×List (List Value)×Option Addr×Nat×GW,fun (n,_,_,_,_)=>[.v (.int .i64 n)],fun (n,ecs2,oE,cE,g2)=>⟨g2,[.row 30 oE n cE qSA 3 ecs2.flatten,.blk 21 qg qLA [.v (.int .u64 0),.row 30 oE n cE],.blk 20 qc q1B [.v (.string x.name),.v (.int .i64 x.policy),.v (.int .i64 x.slots),.v (.slice oh x.health.length ch)],.row 10 oX k cX qLA 2 ecs.flatten,.blk 2 q2 qCA [.v (.slice oa s.listens.length ca),.v (.slice ob s.rules.length cb),.v (.slice (some a) s.clusters.length cd),.row 10 oX k cX,.v (.bool false)],.blk 1 q1 qCA [.v (.slice none 0 0),.v (.slice none 0 0),.v (.slice none 0 0),.v (.slice none 0 0),.v (.bool false)],.blk 0 q0 qPA [.v (.slice oa s.listens.length ca),.v (.slice ob s.rules.length cb),.v (.slice (some a) s.clusters.length cd)]],40,g.w.heap.size⟩,fun (n,ecs2,_,_,g2)=>n≤x.health.length∧g'≤g2∧rEls 3 rEn g2 ecs2 ((x.health.take n).map fun _=>q6A x.slots.toNat),fun (n,_,_,_,_)=>x.health.length-n,fun fr w hw=>⟨(0,[],none,0,g'),rfl,⟨Nat.zero_le _,GW.refl _,qiE _⟩,(hw.nil_row (nx':=40) 30 qSA 3).fit (by simp [fitL,Res.eqv,qAA,conc])⟩,?_⟩
   rintro⟨n,ecs2,oE,cE,g2⟩ ⟨hn,hg2,hE2⟩
   repeat((conv=>whnf);first|apply qza|apply qzb|apply qzc|apply qzd|apply qze|intro(_:Nat)|intro(_:OA)_)
   conv=>whnf
   refine⟨fun hln=>?_,fun hln=>?_⟩
   ·have h2:n<x.health.length:=by have:=of_decide_eq_true hln;omega
    repeat((conv=>whnf);first|apply qza|apply qzb|apply qzc|apply qzd|apply qze|intro(_:Nat)|intro(_:OA)_)
    refine .inr ((qNT _).mono fun v g3 hg3 hF=>?_)
    rcases hF with ⟨_,oF,cF,rfl,hF⟩|⟨hF,_⟩
    rotate_left
    ·exact absurd hxc.1 hF
    have hEn:=qKQ hxc.1 hF
    have hT:((x.health.take (n+1)).map fun _=>q6A x.slots.toNat)=((x.health.take n).map fun _=>q6A x.slots.toNat)++[q6A x.slots.toNat]:=by
     rw [List.take_succ_eq_append_getElem h2,List.map_append];rfl
    repeat((conv=>whnf);first|apply qza|apply qzb|apply qzc|apply qzd|apply qze|intro(_:Nat)|intro(_:OA)_)
    conv=>whnf
    refine⟨fun h=>(nomatch h),fun _=>?_⟩
    repeat((conv=>whnf);first|apply qza|apply qzb|apply qzc|apply qzd|apply qze|intro(_:Nat)|intro(_:OA)_)
    conv=>whnf
    refine⟨⟨by unfold maxLen;omega,by omega⟩,fun oa2 cap2=>?_⟩
    repeat((conv=>whnf);first|apply qza|apply qzb|apply qzc|apply qzd|apply qze|intro(_:Nat)|intro(_:OA)_)
    conv=>whnf
    refine fun fr w hw=>⟨(n+1,ecs2++[[.int .u64 1,.slice oF x.slots.toNat cF,.int .i64 0]],oa2,cap2,g3),congrArg (fun z=>[Value.int .i64 z]) (wr1 h2 t1 t2).symm,⟨h2,GW.trans hg2 hg3,by rw [hT];exact qQD (qBD qxC hg3 hE2) rfl hEn⟩,dec h2,hw.fit (by simp [fitL,Res.eqv,qAA,conc])⟩
   have hnL:n=x.health.length:=by have:=of_decide_eq_false hln;omega
   subst hnL
   rw [List.take_length] at hE2
   have hT:((s.clusters.take (k+1)).map fun c=>(⟨0,c.health.map fun _=>q6A c.slots.toNat⟩:Group))=((s.clusters.take k).map fun c=>(⟨0,c.health.map fun _=>q6A c.slots.toNat⟩:Group))++[⟨0,x.health.map fun _=>q6A x.slots.toNat⟩]:=by
    rw [List.take_succ_eq_append_getElem x1,List.map_append,x2];rfl
   repeat((conv=>whnf);first|apply qza|apply qzb|apply qzc|apply qzd|apply qze|intro(_:Nat)|intro(_:OA)_)
   conv=>whnf
   refine fun g3 hg3 hn3 hp3=>?_
   have hSl:=qfH (qBD qxC hg3 hE2) hp3 (by simp)
   repeat((conv=>whnf);first|apply qza|apply qzb|apply qzc|apply qzd|apply qze|intro(_:Nat)|intro(_:OA)_)
   conv=>whnf
   refine⟨⟨by unfold maxLen;omega,by omega⟩,fun oa2 cap2=>?_⟩
   repeat((conv=>whnf);first|apply qza|apply qzb|apply qzc|apply qzd|apply qze|intro(_:Nat)|intro(_:OA)_)
   conv=>whnf
   refine fun fr w hw=>⟨(k+1,ecs++[[.int .u64 0,.slice oE x.health.length cE]],oa2,cap2,g3),congrArg (fun z=>[Value.int .i64 z]) (wr1 h' d1 d2).symm,⟨h',GW.trans hgg (GW.trans hg2 hg3),by rw [hT];exact qQD (qBD qwC (GW.trans hg2 hg3) hE) rfl ⟨_,rfl,show InU 0 by decide,hSl⟩⟩,dec h',hw.fit (by simp [fitL,Res.eqv,qAA,conc])⟩
  have hkL:k=s.clusters.length:=by have:=of_decide_eq_false hlt;omega
  subst hkL
  rw [List.take_length] at hE
  repeat((conv=>whnf);first|apply qza|apply qzb|apply qzc|apply qzd|apply qze|intro(_:Nat)|intro(_:OA)_)
  conv=>whnf
  refine fun g3 hg3 hn3 hp3=>?_
  have hSl:=qfH (qBD qwC hg3 hE) hp3 (by simp)
  repeat((conv=>whnf);first|apply qza|apply qzb|apply qzc|apply qzd|apply qze|intro(_:Nat)|intro(_:OA)_)
  conv=>whnf
  intro g2 hg
  exact .inl ⟨hz,_,_,_,_,_,_,rfl,⟨_,_,_,_,rfl,qkB _ _ _ _ (GW.trans hgg (GW.trans hg3 hg)) hs0,hSl.mono qwC hg⟩⟩)
/- Worlds: what is cloned: rows. -/
open Go.Proofs.YtkogfpniapaigaaGreat.Sx Go.RowKit
abbrev wT:WTy:=⟨qNA,qSA,qLA,qCA,qbA,q0C,qKB,q9A⟩
abbrev cI1 (x:Int):List Value:=[.int .i64 x]
abbrev cU1 (x:Int):List Value:=[.int .u64 x]
abbrev cLi (x:Listen):List Value:=[.string x.name,.bool x.drain,.int .i64 x.active,.bool x.closed]
abbrev cRe (x:Retired):List Value:=[.int .i64 x.version,.int .i64 x.at_,.bool x.gone]
theorem qoM {α:Type} {l:List α} {f:α→List Value} (h:∀ x∈l,(f x).all Value.oneCell'=true):∀ u∈(l.map f).flatten,u.oneCell'=true:=oneF h
theorem q8R (g0 g:GW) (h0:g0≤g) {v:Value} {l:List Int} (hl:rSl 1 rInt g v l) (hlen:l.length≤17592186044416):Ok Tryz.prog qHE [v] g fun v' g'=>oSl qNA 1 (oLf rInt) g' g0.w.heap.size (NEW g g') v' l:=by
 obtain⟨oa,ca,rfl,a1,a2,a0,hr⟩:=id hl
 have hR:∀ x∈l,InR x:=fun x hx=>by
  obtain⟨i,hi⟩:=List.getElem?_of_mem hx
  obtain⟨_,_,_,_,⟨_,h⟩,_⟩:=hr i x hi
  exact h
 have hrd:=qZI hl cI1 fun _ _ h=>h.1
 exact Ok.of_fn hm noT 0 q4D (args:=[.v (.slice oa l.length ca)]) (by
  cases oa with
  | none =>
   repeat((conv=>whnf);first|apply qza|apply qzb|apply qzc|apply qzd|apply qze|intro(_:Nat)|intro(_:OA)_)
   conv=>whnf
   refine⟨fun _=>?_,fun h=>nomatch h⟩
   repeat((conv=>whnf);first|apply qza|apply qzb|apply qzc|apply qzd|apply qze|intro(_:Nat)|intro(_:OA)_)
   conv=>whnf
   intro g2 hg
   exact .inl ⟨List.length_eq_zero_iff.1 (a0 rfl).1,none,rfl⟩
  | some a =>
   repeat((conv=>whnf);first|apply qza|apply qzb|apply qzc|apply qzd|apply qze|intro(_:Nat)|intro(_:OA)_)
   conv=>whnf
   refine⟨fun h=>(nomatch h),fun _=>?_⟩
   repeat((conv=>whnf);first|apply qza|apply qzb|apply qzc|apply qzd|apply qze|intro(_:Nat)|intro(_:OA)_)
   conv=>whnf
   refine⟨⟨rfl,rfl,rfl,rfl,Nat.zero_le _⟩,?_⟩
   conv=>whnf
   refine⟨_,⟨hrd,qoM fun _ _=>rfl⟩,?_⟩
   repeat((conv=>whnf);first|apply qza|apply qzb|apply qzc|apply qzd|apply qze|intro(_:Nat)|intro(_:OA)_)
   conv=>whnf
   refine⟨⟨by unfold maxLen;omega,by omega⟩,fun oa2 cap2=>?_⟩
   repeat((conv=>whnf);first|apply qza|apply qzb|apply qzc|apply qzd|apply qze|intro(_:Nat)|intro(_:OA)_)
   conv=>whnf
   refine fun g1 hg1 hn1 hp1=>?_
   conv=>whnf
   intro g2 hg
   simp only [Nat.zero_add,List.nil_append] at hp1
   have hE:=qXC (sz:=1) (r:=rInt) g g g0.w.heap.size cI1 l fun x hx=>⟨rfl,rfl,hR x hx⟩
   have:=q4E (qNB qlB) hg (qDD (qNB qlB) hE (GW.refl _) hg1 (hp1.lo_le h0.1) rfl hn1)
   rwa [Nat.zero_add])
theorem ok_cU (g0 g:GW) (h0:g0≤g) {v:Value} {l:List Int} (hl:rSl 1 rU64 g v l) (hlen:l.length≤17592186044416):Ok Tryz.prog q6C [v] g fun v' g'=>oSl q0C 1 (oLf rU64) g' g0.w.heap.size (NEW g g') v' l:=by
 obtain⟨oa,ca,rfl,a1,a2,a0,hr⟩:=id hl
 have hR:∀ x∈l,InU x:=fun x hx=>by
  obtain⟨i,hi⟩:=List.getElem?_of_mem hx
  obtain⟨_,_,_,_,⟨_,h⟩,_⟩:=hr i x hi
  exact h
 have hrd:=qZI hl cU1 fun _ _ h=>h.1
 exact Ok.of_fn hm noT 0 q2C (args:=[.v (.slice oa l.length ca)]) (by
  cases oa with
  | none =>
   repeat((conv=>whnf);first|apply qza|apply qzb|apply qzc|apply qzd|apply qze|intro(_:Nat)|intro(_:OA)_)
   conv=>whnf
   refine⟨fun _=>?_,fun h=>nomatch h⟩
   repeat((conv=>whnf);first|apply qza|apply qzb|apply qzc|apply qzd|apply qze|intro(_:Nat)|intro(_:OA)_)
   conv=>whnf
   intro g2 hg
   exact .inl ⟨List.length_eq_zero_iff.1 (a0 rfl).1,none,rfl⟩
  | some a =>
   repeat((conv=>whnf);first|apply qza|apply qzb|apply qzc|apply qzd|apply qze|intro(_:Nat)|intro(_:OA)_)
   conv=>whnf
   refine⟨fun h=>(nomatch h),fun _=>?_⟩
   repeat((conv=>whnf);first|apply qza|apply qzb|apply qzc|apply qzd|apply qze|intro(_:Nat)|intro(_:OA)_)
   conv=>whnf
   refine⟨⟨rfl,rfl,rfl,rfl,Nat.zero_le _⟩,?_⟩
   conv=>whnf
   refine⟨_,⟨hrd,qoM fun _ _=>rfl⟩,?_⟩
   repeat((conv=>whnf);first|apply qza|apply qzb|apply qzc|apply qzd|apply qze|intro(_:Nat)|intro(_:OA)_)
   conv=>whnf
   refine⟨⟨by unfold maxLen;omega,by omega⟩,fun oa2 cap2=>?_⟩
   repeat((conv=>whnf);first|apply qza|apply qzb|apply qzc|apply qzd|apply qze|intro(_:Nat)|intro(_:OA)_)
   conv=>whnf
   refine fun g1 hg1 hn1 hp1=>?_
   conv=>whnf
   intro g2 hg
   simp only [Nat.zero_add,List.nil_append] at hp1
   have hE:=qXC (sz:=1) (r:=rU64) g g g0.w.heap.size cU1 l fun x hx=>⟨rfl,rfl,hR x hx⟩
   have:=q4E (qNB qHG) hg (qDD (qNB qHG) hE (GW.refl _) hg1 (hp1.lo_le h0.1) rfl hn1)
   rwa [Nat.zero_add])
theorem qYV (g0 g:GW) (h0:g0≤g) {v:Value} {l:List Listen} (hl:rSl 4 qpA g v l) (hlen:l.length≤1000000):Ok Tryz.prog qmB [v] g fun v' g'=>oSl qbA 4 (oLf qpA) g' g0.w.heap.size (NEW g g') v' l:=by
 obtain⟨oa,ca,rfl,a1,a2,a0,hr⟩:=id hl
 have hR:∀ x∈l,InR x.active:=fun x hx=>by
  obtain⟨i,hi⟩:=List.getElem?_of_mem hx
  obtain⟨_,_,_,_,⟨_,h⟩,_⟩:=hr i x hi
  exact h
 have hrd:=qZI hl cLi fun _ _ h=>h.1
 exact Ok.of_fn hm noT 0 qjB (args:=[.v (.slice oa l.length ca)]) (by
  cases oa with
  | none =>
   repeat((conv=>whnf);first|apply qza|apply qzb|apply qzc|apply qzd|apply qze|intro(_:Nat)|intro(_:OA)_)
   conv=>whnf
   refine⟨fun _=>?_,fun h=>nomatch h⟩
   repeat((conv=>whnf);first|apply qza|apply qzb|apply qzc|apply qzd|apply qze|intro(_:Nat)|intro(_:OA)_)
   conv=>whnf
   intro g2 hg
   exact .inl ⟨List.length_eq_zero_iff.1 (a0 rfl).1,none,rfl⟩
  | some a =>
   repeat((conv=>whnf);first|apply qza|apply qzb|apply qzc|apply qzd|apply qze|intro(_:Nat)|intro(_:OA)_)
   conv=>whnf
   refine⟨fun h=>(nomatch h),fun _=>?_⟩
   repeat((conv=>whnf);first|apply qza|apply qzb|apply qzc|apply qzd|apply qze|intro(_:Nat)|intro(_:OA)_)
   conv=>whnf
   refine⟨⟨rfl,rfl,rfl,rfl,Nat.zero_le _⟩,?_⟩
   conv=>whnf
   refine⟨_,⟨hrd,qoM fun _ _=>rfl⟩,?_⟩
   repeat((conv=>whnf);first|apply qza|apply qzb|apply qzc|apply qzd|apply qze|intro(_:Nat)|intro(_:OA)_)
   conv=>whnf
   refine⟨⟨by unfold maxLen;omega,by omega⟩,fun oa2 cap2=>?_⟩
   repeat((conv=>whnf);first|apply qza|apply qzb|apply qzc|apply qzd|apply qze|intro(_:Nat)|intro(_:OA)_)
   conv=>whnf
   refine fun g1 hg1 hn1 hp1=>?_
   conv=>whnf
   intro g2 hg
   simp only [Nat.zero_add,List.nil_append] at hp1
   have hE:=qXC (sz:=4) (r:=qpA) g g g0.w.heap.size cLi l fun x hx=>⟨rfl,rfl,hR x hx⟩
   have:=q4E (qNB qPB) hg (qDD (qNB qPB) hE (GW.refl _) hg1 (hp1.lo_le h0.1) rfl hn1)
   rwa [Nat.zero_add])
theorem qXV (g0 g:GW) (h0:g0≤g) {v:Value} {l:List Retired} (hl:rSl 3 qUA g v l) (hlen:l.length≤1000000):Ok Tryz.prog qcB [v] g fun v' g'=>oSl q9A 3 (oLf qUA) g' g0.w.heap.size (NEW g g') v' l:=by
 obtain⟨oa,ca,rfl,a1,a2,a0,hr⟩:=id hl
 have hR:∀ x∈l,InR x.version∧InR x.at_:=fun x hx=>by
  obtain⟨i,hi⟩:=List.getElem?_of_mem hx
  obtain⟨_,_,_,_,⟨_,h⟩,_⟩:=hr i x hi
  exact h
 have hrd:=qZI hl cRe fun _ _ h=>h.1
 exact Ok.of_fn hm noT 0 qbB (args:=[.v (.slice oa l.length ca)]) (by
  cases oa with
  | none =>
   repeat((conv=>whnf);first|apply qza|apply qzb|apply qzc|apply qzd|apply qze|intro(_:Nat)|intro(_:OA)_)
   conv=>whnf
   refine⟨fun _=>?_,fun h=>nomatch h⟩
   repeat((conv=>whnf);first|apply qza|apply qzb|apply qzc|apply qzd|apply qze|intro(_:Nat)|intro(_:OA)_)
   conv=>whnf
   intro g2 hg
   exact .inl ⟨List.length_eq_zero_iff.1 (a0 rfl).1,none,rfl⟩
  | some a =>
   repeat((conv=>whnf);first|apply qza|apply qzb|apply qzc|apply qzd|apply qze|intro(_:Nat)|intro(_:OA)_)
   conv=>whnf
   refine⟨fun h=>(nomatch h),fun _=>?_⟩
   repeat((conv=>whnf);first|apply qza|apply qzb|apply qzc|apply qzd|apply qze|intro(_:Nat)|intro(_:OA)_)
   conv=>whnf
   refine⟨⟨rfl,rfl,rfl,rfl,Nat.zero_le _⟩,?_⟩
   conv=>whnf
   refine⟨_,⟨hrd,qoM fun _ _=>rfl⟩,?_⟩
   repeat((conv=>whnf);first|apply qza|apply qzb|apply qzc|apply qzd|apply qze|intro(_:Nat)|intro(_:OA)_)
   conv=>whnf
   refine⟨⟨by unfold maxLen;omega,by omega⟩,fun oa2 cap2=>?_⟩
   repeat((conv=>whnf);first|apply qza|apply qzb|apply qzc|apply qzd|apply qze|intro(_:Nat)|intro(_:OA)_)
   conv=>whnf
   refine fun g1 hg1 hn1 hp1=>?_
   conv=>whnf
   intro g2 hg
   simp only [Nat.zero_add,List.nil_append] at hp1
   have hE:=qXC (sz:=3) (r:=qUA) g g g0.w.heap.size cRe l fun x hx=>⟨rfl,rfl,hR x hx⟩
   have:=q4E (qNB q5A) hg (qDD (qNB q5A) hE (GW.refl _) hg1 (hp1.lo_le h0.1) rfl hn1)
   rwa [Nat.zero_add])
end Go.Proofs.YtkogfpniapaigaaGreat
