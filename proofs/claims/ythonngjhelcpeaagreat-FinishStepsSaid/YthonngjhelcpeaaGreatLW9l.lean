/- Worlds: clones. -/
import Derived.Test.YthonngjhelcpeaaGreatLW9p
import Derived.Test.YthonngjhelcpeaaGreatLB1
import Derived.Test.YthonngjhelcpeaaGreatLS7b
import Derived.Test.YthonngjhelcpeaaGreatPl
set_option linter.unusedVariables false
set_option linter.unusedSimpArgs false
namespace Go.Proofs.YthonngjhelcpeaaGreat
open Go.Proofs.YthonngjhelcpeaaGreat.Sx Go.RowKit
set_option maxHeartbeats 16000000
set_option maxRecDepth 100000
def qfW (g:GW) (w:Wd) (v:Value) (g':GW):Prop:=∃ cs T,v=.agg ⟨cs⟩∧oWo wT true g' g.w.heap.size T cs w
def T5 (g1 g2 g3 g4 g5 g6:GW):Nat→Nat→Prop:=fun i n=>match i with
 | 0=>NEW g1 g2 n
 | 1=>NEW g2 g3 n
 | 2=>NEW g3 g4 n
 | 3=>NEW g4 g5 n
 | 4=>NEW g5 g6 n
 | _=>False
theorem qcX {g1 g2 g3 g4 g5 g6:GW} (h1:g1≤g2) (h2:g2≤g3) (h3:g3≤g4) (h4:g4≤g5) (i j n:Nat) (p:T5 g1 g2 g3 g4 g5 g6 i n) (q:T5 g1 g2 g3 g4 g5 g6 j n):i=j:=by
 have e3:=GW.trans h2 h3
 have e4:=GW.trans e3 h4
 have e5:=GW.trans h3 h4
 have key:∀ {a b c d:GW},b≤c→NEW a b n→NEW c d n→False:=fun k p q=>q.2 (k.2 n p.1).1
 match i,j,p,q with
 | 0,0,_,_=>rfl
 | 1,1,_,_=>rfl
 | 2,2,_,_=>rfl
 | 3,3,_,_=>rfl
 | 4,4,_,_=>rfl
 | 0,1,p,q=>exact(key (GW.refl _) p q).elim
 | 0,2,p,q=>exact(key h2 p q).elim
 | 0,3,p,q=>exact(key e3 p q).elim
 | 0,4,p,q=>exact(key e4 p q).elim
 | 1,2,p,q=>exact(key (GW.refl _) p q).elim
 | 1,3,p,q=>exact(key h3 p q).elim
 | 1,4,p,q=>exact(key e5 p q).elim
 | 2,3,p,q=>exact(key (GW.refl _) p q).elim
 | 2,4,p,q=>exact(key h4 p q).elim
 | 3,4,p,q=>exact(key (GW.refl _) p q).elim
 | 1,0,p,q=>exact(key (GW.refl _) q p).elim
 | 2,0,p,q=>exact(key h2 q p).elim
 | 3,0,p,q=>exact(key e3 q p).elim
 | 4,0,p,q=>exact(key e4 q p).elim
 | 2,1,p,q=>exact(key (GW.refl _) q p).elim
 | 3,1,p,q=>exact(key h3 q p).elim
 | 4,1,p,q=>exact(key e5 q p).elim
 | 3,2,p,q=>exact(key (GW.refl _) q p).elim
 | 4,2,p,q=>exact(key h4 q p).elim
 | 4,3,p,q=>exact(key (GW.refl _) q p).elim
 | _+5,_,p,_=>exact p.elim
 | _,_+5,_,q=>exact q.elim
theorem qeA (g:GW) {cs:List Value} {w:Wd} (hw:rWo g cs w) (hb:BgW 1000000 w):Ok Tryz.prog qDP [.agg ⟨cs⟩] g (qfW g w):=by
 obtain⟨a,b,c,d,e,rfl,⟨i1,i2,i3⟩,hP,hV,hL,hC,hR⟩:=hw
 obtain⟨⟨z1,z2,z3,z4,z5⟩,z6,z7⟩:=hb
 obtain⟨oa,ca,rfl,a1,a2,a0,hP1⟩:=id hP
 obtain⟨ob,cb,rfl,b1,b2,b0,hV1⟩:=id hV
 obtain⟨oc,cc,rfl,c1,c2,c0,hL1⟩:=id hL
 obtain⟨od,cd,rfl,d1,d2,d0,hC1⟩:=id hC
 obtain⟨oe,ce,rfl,e1,e2,e0,hR1⟩:=id hR
 exact Ok.of_fn hm noT 0 qeO (args:=[.v (.agg ⟨wQ w oa ca ob cb oc cc od cd oe ce⟩)]) (by
  repeat((conv=>whnf);first|refine qz ?_|intro(_:Nat))
  refine .inr ((qeU g _ (GW.refl _) hP (by omega)).mono fun v1 r1 k1 o1=>?_)
  obtain⟨p1,q1,rfl⟩:=qZA o1
  repeat((conv=>whnf);first|refine qz ?_|intro(_:Nat))
  refine .inr ((qrR g _ k1 hV z2 z7).mono fun v2 r2 k2 o2=>?_)
  obtain⟨p2,q2,rfl⟩:=qZA o2
  have m2:=GW.trans k1 k2
  repeat((conv=>whnf);first|refine qz ?_|intro(_:Nat))
  refine .inr ((qQY g _ m2 (hL.mono qoC m2) z3).mono fun v3 r3 k3 o3=>?_)
  obtain⟨p3,q3,rfl⟩:=qZA o3
  have m3:=GW.trans m2 k3
  repeat((conv=>whnf);first|refine qz ?_|intro(_:Nat))
  refine .inr ((q6W g _ m3 (hC.mono q3C m3) z4 z6).mono fun v4 r4 k4 o4=>?_)
  obtain⟨p4,q4,rfl⟩:=qZA o4
  have m4:=GW.trans m3 k4
  repeat((conv=>whnf);first|refine qz ?_|intro(_:Nat))
  refine .inr ((qPY g _ m4 (hR.mono q6D m4) z5).mono fun v5 r5 k5 o5=>?_)
  obtain⟨p5,q5,rfl⟩:=qZA o5
  repeat((conv=>whnf);first|refine qz ?_|intro(_:Nat))
  conv=>whnf
  intro g2 hg
  have n5:=hg
  have n4:=GW.trans k5 n5
  have n3:=GW.trans k4 n4
  have n2:=GW.trans k3 n3
  have n1:=GW.trans k2 n2
  exact⟨_,T5 g r1 r2 r3 r4 r5,rfl,_,_,_,_,_,rfl,⟨i1,i2,i3⟩,qcX k1 k2 k3 k4,q1A (qnA qiB) (GW.vw_up n1 _ _) o1,q1A qCH (GW.vw_up n2 _ _) o2,q1A (qnA qGB) (GW.vw_up n3 _ _) o3,q1A qDH (GW.vw_up n4 _ _) o4,q1A (qnA q0A) (GW.vw_up n5 _ _) o5⟩)
/- Worlds: clones,the document's answer. -/
open Go.Proofs.YthonngjhelcpeaaGreat.Sx Go.RowKit
def chG (a b c d e f h i:GW):Nat→GW
 | 0=>a
 | 1=>b
 | 2=>c
 | 3=>d
 | 4=>e
 | 5=>f
 | 6=>h
 | _=>i
def labR:Nat→Nat
 | 0=>1
 | 1=>3
 | 2=>0
 | 3=>1
 | 4=>2
 | 5=>3
 | _=>4
theorem qmY {a b c d e f h i:GW} (k1:a≤b) (k2:b≤c) (k3:c≤d) (k4:d≤e) (k5:e≤f) (k6:f≤h) (k7:h≤i):∀ n,n<7→chG a b c d e f h i n≤chG a b c d e f h i (n+1)
 | 0,_=>k1
 | 1,_=>k2
 | 2,_=>k3
 | 3,_=>k4
 | 4,_=>k5
 | 5,_=>k6
 | 6,_=>k7
 | n+7,h=>absurd h (by omega)
theorem qLF (g:GW) {cs:List Value} {w:Wd} (hw:rWo g cs w) (hb:BgW 1000000 w):Ok Tryz.prog qAI [.agg ⟨cs⟩] g (qfW g w):=by
 obtain⟨a,b,c,d,e,rfl,⟨i1,i2,i3⟩,hP,hV,hL,hC,hR⟩:=hw
 obtain⟨⟨z1,z2,z3,z4,z5⟩,z6,z7⟩:=hb
 obtain⟨oa,ca,rfl,a1,a2,a0,hP1⟩:=id hP
 obtain⟨ob,cb,rfl,b1,b2,b0,hV1⟩:=id hV
 obtain⟨oc,cc,rfl,c1,c2,c0,hL1⟩:=id hL
 obtain⟨od,cd,rfl,d1,d2,d0,hC1⟩:=id hC
 obtain⟨oe,ce,rfl,e1,e2,e0,hR1⟩:=id hR
 have rdP:=qIK hP cI1 fun _ _ h=>h.1
 have rdL:=qIK hL cLi fun _ _ h=>h.1
 have rdR:=qIK hR cRe fun _ _ h=>h.1
 exact Ok.of_fn hm noT 0 qqH (args:=[.v (.agg ⟨wQ w oa ca ob cb oc cc od cd oe ce⟩)]) (by
  repeat((conv=>whnf);first|refine qz ?_|intro(_:Nat)|intro(_:OA)_)
  conv=>whnf
  refine⟨⟨rfl,rfl,rfl,rfl,Nat.zero_le _⟩,?_⟩
  conv=>whnf
  refine⟨_,⟨rdP,q5O fun _ _=>rfl⟩,?_⟩
  repeat((conv=>whnf);first|refine qz ?_|intro(_:Nat)|intro(_:OA)_)
  conv=>whnf
  refine⟨⟨by unfold maxLen;omega,by omega⟩,fun oP cP=>?_⟩
  repeat((conv=>whnf);first|refine qz ?_|intro(_:Nat)|intro(_:OA)_)
  rename_i q0 q1 q2 qP qV
  conv=>whnf
  refine⟨Nat×List (List Value)×Option Addr×Nat×GW,fun (k,_,_,_,_)=>[.v (.int .i64 k)],fun (k,ecs,oX,cX,g')=>⟨g',[.row 10 oX k cX qEA 5 ecs.flatten,.row 4 oP w.pins.length cP qOA 1 (w.pins.map cI1).flatten,.blk 2 q2 qHA [.v (.int .i64 w.epoch),.v (.int .i64 w.current),.v (.int .i64 w.lock),.row 4 oP w.pins.length cP,.row 10 oX k cX,.v (.slice oc w.listens.length cc),.v (.slice od w.counts.length cd),.v (.slice oe w.limbo.length ce)],.blk 1 q1 qHA [.v (.int .i64 0),.v (.int .i64 0),.v (.int .i64 0),.v (.slice none 0 0),.v (.slice none 0 0),.v (.slice none 0 0),.v (.slice none 0 0),.v (.slice none 0 0)],.blk 0 q0 qHA [.v (.int .i64 w.epoch),.v (.int .i64 w.current),.v (.int .i64 w.lock),.v (.slice oa w.pins.length ca),.v (.slice ob w.versions.length cb),.v (.slice oc w.listens.length cc),.v (.slice od w.counts.length cd),.v (.slice oe w.limbo.length ce)]],20,g.w.heap.size⟩,fun (k,ecs,_,_,g')=>k≤w.versions.length∧g≤g'∧oEls 5 (oVe wT true) g g' g.w.heap.size ecs (w.versions.take k),fun (k,_,_,_,_)=>w.versions.length-k,fun fr w' hw=>⟨(0,[],some ⟨qV,0,none⟩,0,g),rfl,⟨Nat.zero_le _,GW.refl _,qsE _ _ _⟩,(hw.blk_row (nx':=20) (id':=10) 0 5 rfl (Nat.zero_le _)).fit (by simp [fitL,Res.eqv,qBA,conc])⟩,?_⟩
  rintro⟨k,ecs,oX,cX,g'⟩ ⟨hk,hgg,hE⟩
  repeat((conv=>whnf);first|refine qz ?_|intro(_:Nat)|intro(_:OA)_)
  conv=>whnf
  refine⟨fun hlt=>?_,fun hlt=>?_⟩
  ·have h':k<w.versions.length:=by have:=of_decide_eq_true hlt;omega
   obtain⟨x,hx⟩:=qAA h'
   obtain⟨x1,x2⟩:=List.getElem?_eq_some_iff.1 hx
   obtain⟨a,rfl,ec,hec,⟨va,vb,vd,nx,rfl,hS,hG⟩,hc⟩:=hV1 k x hx
   have hS0:=hS
   obtain⟨_,_,_,hee,⟨sa,ta,rfl,_⟩,⟨sb,tb,rfl,_⟩,⟨sd,td,rfl,_⟩⟩:=hS
   cases hee
   obtain⟨og,cg,rfl,f1,f2,f0,hG1⟩:=id hG
   have hbV:=z7 x (List.mem_of_getElem? hx)
   have hbV1:=hbV.1
   repeat((conv=>whnf);first|refine qz ?_|intro(_:Nat)|intro(_:OA)_)
   conv=>whnf
   refine⟨a,rfl,⟨by omega,by omega⟩,?_⟩
   conv=>whnf
   refine⟨_,⟨rfl,hc.mono hgg⟩,?_⟩
   repeat((conv=>whnf);first|refine qz ?_|intro(_:Nat)|intro(_:OA)_)
   rename_i qv qg
   conv=>whnf
   refine⟨Nat×List (List Value)×Option Addr×Nat×GW,fun (j,_,_,_,_)=>[.v (.int .i64 j)],fun (j,ecs2,oG,cG,g2)=>⟨g2,[.row 30 oG j cG qXA 2 ecs2.flatten,.blk 20 qv qEA [.v (.slice sa x.snap.listens.length ta),.v (.slice sb x.snap.rules.length tb),.v (.slice sd x.snap.clusters.length td),.row 30 oG j cG,.v (.bool x.freed)],.row 10 oX k cX qEA 5 ecs.flatten,.row 4 oP w.pins.length cP qOA 1 (w.pins.map cI1).flatten,.blk 2 q2 qHA [.v (.int .i64 w.epoch),.v (.int .i64 w.current),.v (.int .i64 w.lock),.row 4 oP w.pins.length cP,.row 10 oX k cX,.v (.slice oc w.listens.length cc),.v (.slice od w.counts.length cd),.v (.slice oe w.limbo.length ce)],.blk 1 q1 qHA [.v (.int .i64 0),.v (.int .i64 0),.v (.int .i64 0),.v (.slice none 0 0),.v (.slice none 0 0),.v (.slice none 0 0),.v (.slice none 0 0),.v (.slice none 0 0)],.blk 0 q0 qHA [.v (.int .i64 w.epoch),.v (.int .i64 w.current),.v (.int .i64 w.lock),.v (.slice oa w.pins.length ca),.v (.slice (some a) w.versions.length cb),.v (.slice oc w.listens.length cc),.v (.slice od w.counts.length cd),.v (.slice oe w.limbo.length ce)]],40,g.w.heap.size⟩,fun (j,ecs2,_,_,g2)=>j≤x.groups.length∧g'≤g2∧oEls 2 (oGr wT true) g' g2 g.w.heap.size ecs2 (x.groups.take j),fun (j,_,_,_,_)=>x.groups.length-j,fun fr w' hw=>⟨(0,[],some ⟨qg,0,none⟩,0,g'),rfl,⟨Nat.zero_le _,GW.refl _,qsE _ _ _⟩,(hw.blk_row (nx':=40) (id':=30) 0 2 rfl (Nat.zero_le _)).fit (by simp [fitL,Res.eqv,qBA,conc])⟩,?_⟩
   rintro⟨j,ecs2,oG,cG,g2⟩ ⟨hj,hg2,hE2⟩
   have hgg2:=GW.trans hgg hg2
   repeat((conv=>whnf);first|refine qz ?_|intro(_:Nat)|intro(_:OA)_)
   conv=>whnf
   refine⟨a,rfl,⟨by omega,by omega⟩,?_⟩
   conv=>whnf
   refine⟨_,hc.mono hgg2 3 _ rfl,?_⟩
   repeat((conv=>whnf);first|refine qz ?_|intro(_:Nat)|intro(_:OA)_)
   conv=>whnf
   refine⟨fun hlt2=>?_,fun hlt2=>?_⟩
   ·have h2:j<x.groups.length:=by have:=of_decide_eq_true hlt2;omega
    obtain⟨y,hy⟩:=qAA h2
    obtain⟨y1,y2⟩:=List.getElem?_eq_some_iff.1 hy
    obtain⟨aG,rfl,ecG,hecG,⟨nE,rfl,ht,hEn⟩,hcG⟩:=hG1 j y hy
    obtain⟨oe2,ce2,rfl,p1,p2,p0,hEn1⟩:=id hEn
    have hbG:y.ends.length≤1000000:=hbV.2 y (List.mem_of_getElem? hy)
    repeat((conv=>whnf);first|refine qz ?_|intro(_:Nat)|intro(_:OA)_)
    conv=>whnf
    refine⟨a,rfl,⟨by omega,by omega⟩,?_⟩
    conv=>whnf
    refine⟨_,hc.mono hgg2 3 _ rfl,?_⟩
    repeat((conv=>whnf);first|refine qz ?_|intro(_:Nat)|intro(_:OA)_)
    conv=>whnf
    refine⟨aG,rfl,⟨by omega,by omega⟩,?_⟩
    conv=>whnf
    refine⟨_,⟨rfl,hcG.mono hgg2⟩,?_⟩
    repeat((conv=>whnf);first|refine qz ?_|intro(_:Nat)|intro(_:OA)_)
    rename_i qgr qe
    conv=>whnf
    refine⟨Nat×List (List Value)×Option Addr×Nat×GW,fun (n,_,_,_,_)=>[.v (.int .i64 n)],fun (n,ecs3,oE,cE,g3)=>⟨g3,[.row 50 oE n cE qqA 3 ecs3.flatten,.blk 40 qgr qXA [.v (.int .u64 y.ticket),.row 50 oE n cE],.row 30 oG j cG qXA 2 ecs2.flatten,.blk 20 qv qEA [.v (.slice sa x.snap.listens.length ta),.v (.slice sb x.snap.rules.length tb),.v (.slice sd x.snap.clusters.length td),.row 30 oG j cG,.v (.bool x.freed)],.row 10 oX k cX qEA 5 ecs.flatten,.row 4 oP w.pins.length cP qOA 1 (w.pins.map cI1).flatten,.blk 2 q2 qHA [.v (.int .i64 w.epoch),.v (.int .i64 w.current),.v (.int .i64 w.lock),.row 4 oP w.pins.length cP,.row 10 oX k cX,.v (.slice oc w.listens.length cc),.v (.slice od w.counts.length cd),.v (.slice oe w.limbo.length ce)],.blk 1 q1 qHA [.v (.int .i64 0),.v (.int .i64 0),.v (.int .i64 0),.v (.slice none 0 0),.v (.slice none 0 0),.v (.slice none 0 0),.v (.slice none 0 0),.v (.slice none 0 0)],.blk 0 q0 qHA [.v (.int .i64 w.epoch),.v (.int .i64 w.current),.v (.int .i64 w.lock),.v (.slice oa w.pins.length ca),.v (.slice (some a) w.versions.length cb),.v (.slice oc w.listens.length cc),.v (.slice od w.counts.length cd),.v (.slice oe w.limbo.length ce)]],60,g.w.heap.size⟩,fun (n,ecs3,_,_,g3)=>n≤y.ends.length∧g2≤g3∧oEls 3 (oEn wT true) g2 g3 g.w.heap.size ecs3 (y.ends.take n),fun (n,_,_,_,_)=>y.ends.length-n,fun fr w' hw=>⟨(0,[],some ⟨qe,0,none⟩,0,g2),rfl,⟨Nat.zero_le _,GW.refl _,qsE _ _ _⟩,(hw.blk_row (nx':=60) (id':=50) 0 3 rfl (Nat.zero_le _)).fit (by simp [fitL,Res.eqv,qBA,conc])⟩,?_⟩
    rintro⟨n,ecs3,oE,cE,g3⟩ ⟨hn,hg3,hE3⟩
    have hgg3:=GW.trans hgg2 hg3
    repeat((conv=>whnf);first|refine qz ?_|intro(_:Nat)|intro(_:OA)_)
    conv=>whnf
    refine⟨a,rfl,⟨by omega,by omega⟩,?_⟩
    conv=>whnf
    refine⟨_,hc.mono hgg3 3 _ rfl,?_⟩
    repeat((conv=>whnf);first|refine qz ?_|intro(_:Nat)|intro(_:OA)_)
    conv=>whnf
    refine⟨aG,rfl,⟨by omega,by omega⟩,?_⟩
    conv=>whnf
    refine⟨_,hcG.mono hgg3 1 _ rfl,?_⟩
    repeat((conv=>whnf);first|refine qz ?_|intro(_:Nat)|intro(_:OA)_)
    conv=>whnf
    refine⟨fun hlt3=>?_,fun hlt3=>?_⟩
    ·have h3:n<y.ends.length:=by have:=of_decide_eq_true hlt3;omega
     obtain⟨e,he⟩:=qAA h3
     obtain⟨w1,w2⟩:=List.getElem?_eq_some_iff.1 he
     obtain⟨aE,rfl,ecE,hecE,⟨⟨nN,rfl,u1,u2,hN⟩,u3⟩,hcE⟩:=hEn1 n e he
     obtain⟨oN,cN,rfl,n1,n2,n0,hN1⟩:=id hN
     have rdN:=(qIK hN cI1 fun _ _ h=>h.1).mono hgg3
     repeat((conv=>whnf);first|refine qz ?_|intro(_:Nat)|intro(_:OA)_)
     conv=>whnf
     refine⟨a,rfl,⟨by omega,by omega⟩,?_⟩
     conv=>whnf
     refine⟨_,hc.mono hgg3 3 _ rfl,?_⟩
     repeat((conv=>whnf);first|refine qz ?_|intro(_:Nat)|intro(_:OA)_)
     conv=>whnf
     refine⟨aG,rfl,⟨by omega,by omega⟩,?_⟩
     conv=>whnf
     refine⟨_,hcG.mono hgg3 1 _ rfl,?_⟩
     repeat((conv=>whnf);first|refine qz ?_|intro(_:Nat)|intro(_:OA)_)
     conv=>whnf
     refine⟨aE,rfl,⟨by omega,by omega⟩,?_⟩
     conv=>whnf
     refine⟨_,⟨rfl,hcE.mono hgg3⟩,?_⟩
     repeat((conv=>whnf);first|refine qz ?_|intro(_:Nat)|intro(_:OA)_)
     conv=>whnf
     refine⟨⟨rfl,rfl,rfl,rfl,Nat.zero_le _⟩,?_⟩
     conv=>whnf
     refine⟨_,⟨rdN,q5O fun _ _=>rfl⟩,?_⟩
     repeat((conv=>whnf);first|refine qz ?_|intro(_:Nat)|intro(_:OA)_)
     conv=>whnf
     refine⟨⟨by unfold maxLen;omega,by omega⟩,fun oM cM=>?_⟩
     repeat((conv=>whnf);first|refine qz ?_|intro(_:Nat)|intro(_:OA)_)
     conv=>whnf
     refine fun g4 hg4 hn4 hp4=>?_
     simp only [Nat.zero_add,List.nil_append] at hp4
     have hInt:∀ z∈e.next,(cI1 z).length=1∧rInt g3 (cI1 z) z:=fun z hz=>by
      obtain⟨m,hm'⟩:=List.getElem?_of_mem hz
      obtain⟨_,_,_,_,⟨_,hh⟩,_⟩:=hN1 m z hm'
      exact⟨rfl,rfl,hh⟩
     have hO4:=qtD (qnA qiB) (q5C (sz:=1) (r:=rInt) g3 g3 g.w.heap.size cI1 e.next hInt) (GW.refl _) hg4 hp4 rfl hn4
     have hT3:y.ends.take (n+1)=y.ends.take n++[e]:=by rw [List.take_succ_eq_append_getElem w1,w2]
     have hE4:=qiD qkI hg3 hg4 hE3 (ec:=[.int .u64 e.head,.slice oM e.next.length cM,.int .i64 e.active]) (x:=e) rfl ⟨_,rfl,⟨u1,u2,u3⟩,.inl hO4⟩
     repeat((conv=>whnf);first|refine qz ?_|intro(_:Nat)|intro(_:OA)_)
     conv=>whnf
     refine⟨⟨by unfold maxLen;omega,by omega⟩,fun oa2 cap2=>?_⟩
     repeat((conv=>whnf);first|refine qz ?_|intro(_:Nat)|intro(_:OA)_)
     conv=>whnf
     refine fun fr w' hw=>⟨(n+1,ecs3++[[.int .u64 e.head,.slice oM e.next.length cM,.int .i64 e.active]],oa2,cap2,g4),congrArg (fun z=>[Value.int .i64 z]) (wr1 h3 p1 p2).symm,⟨h3,GW.trans hg3 hg4,by rw [hT3];exact hE4⟩,dec h3,hw.fit (by simp [fitL,Res.eqv,qBA,conc])⟩
    have hnL:n=y.ends.length:=by have:=of_decide_eq_false hlt3;omega
    subst hnL
    rw [List.take_length] at hE3
    repeat((conv=>whnf);first|refine qz ?_|intro(_:Nat)|intro(_:OA)_)
    conv=>whnf
    refine fun g4 hg4 hn4 hp4=>?_
    have hO4:=qtD qkI hE3 hg3 hg4 hp4 rfl hn4
    have hT2:x.groups.take (j+1)=x.groups.take j++[y]:=by rw [List.take_succ_eq_append_getElem y1,y2]
    have hE4:=qiD q3L hg2 (GW.trans hg3 hg4) hE2 (ec:=[.int .u64 y.ticket,.slice oE y.ends.length cE]) (x:=y) rfl ⟨_,rfl,ht,hO4⟩
    repeat((conv=>whnf);first|refine qz ?_|intro(_:Nat)|intro(_:OA)_)
    conv=>whnf
    refine⟨⟨by unfold maxLen;omega,by omega⟩,fun oa2 cap2=>?_⟩
    repeat((conv=>whnf);first|refine qz ?_|intro(_:Nat)|intro(_:OA)_)
    conv=>whnf
    refine fun fr w' hw=>⟨(j+1,ecs2++[[.int .u64 y.ticket,.slice oE y.ends.length cE]],oa2,cap2,g4),congrArg (fun z=>[Value.int .i64 z]) (wr1 h2 f1 f2).symm,⟨h2,GW.trans hg2 (GW.trans hg3 hg4),by rw [hT2];exact hE4⟩,dec h2,hw.fit (by simp [fitL,Res.eqv,qBA,conc])⟩
   have hjL:j=x.groups.length:=by have:=of_decide_eq_false hlt2;omega
   subst hjL
   rw [List.take_length] at hE2
   repeat((conv=>whnf);first|refine qz ?_|intro(_:Nat)|intro(_:OA)_)
   conv=>whnf
   refine fun g4 hg4 hn4 hp4=>?_
   have hO4:=qtD q3L hE2 hg2 hg4 hp4 rfl hn4
   have hT1:w.versions.take (k+1)=w.versions.take k++[x]:=by rw [List.take_succ_eq_append_getElem x1,x2]
   have hE4:=qiD qCH hgg (GW.trans hg2 hg4) hE (ec:=[.slice sa x.snap.listens.length ta,.slice sb x.snap.rules.length tb,.slice sd x.snap.clusters.length td,.slice oG x.groups.length cG,.bool x.freed]) (x:=x) rfl ⟨_,_,_,_,rfl,qnC _ _ _ _ (GW.le_vw (GW.trans hgg2 hg4) (Nat.le_refl _)) hS0,hO4⟩
   repeat((conv=>whnf);first|refine qz ?_|intro(_:Nat)|intro(_:OA)_)
   conv=>whnf
   refine⟨⟨by unfold maxLen;omega,by omega⟩,fun oa2 cap2=>?_⟩
   repeat((conv=>whnf);first|refine qz ?_|intro(_:Nat)|intro(_:OA)_)
   conv=>whnf
   refine fun fr w' hw=>⟨(k+1,ecs++[[.slice sa x.snap.listens.length ta,.slice sb x.snap.rules.length tb,.slice sd x.snap.clusters.length td,.slice oG x.groups.length cG,.bool x.freed]],oa2,cap2,g4),congrArg (fun z=>[Value.int .i64 z]) (wr1 h' b1 b2).symm,⟨h',GW.trans hgg (GW.trans hg2 hg4),by rw [hT1];exact hE4⟩,dec h',hw.fit (by simp [fitL,Res.eqv,qBA,conc])⟩
  have hkL:k=w.versions.length:=by have:=of_decide_eq_false hlt;omega
  subst hkL
  rw [List.take_length] at hE
  clear hlt hk
  repeat((conv=>whnf);first|refine qz ?_|intro(_:Nat)|intro(_:OA)_)
  conv=>whnf
  refine⟨⟨rfl,rfl,rfl,rfl,Nat.zero_le _⟩,?_⟩
  conv=>whnf
  refine⟨_,⟨rdL.mono hgg,q5O fun _ _=>rfl⟩,?_⟩
  repeat((conv=>whnf);first|refine qz ?_|intro(_:Nat)|intro(_:OA)_)
  conv=>whnf
  refine⟨⟨by unfold maxLen;omega,by omega⟩,fun oL cL=>?_⟩
  repeat((conv=>whnf);first|refine qz ?_|intro(_:Nat)|intro(_:OA)_)
  rename_i qL qC
  conv=>whnf
  refine⟨Nat×List (List Value)×Option Addr×Nat×GW,fun (k,_,_,_,_)=>[.v (.int .i64 k)],fun (k,ecs4,oC,cC,g5)=>⟨g5,[.row 70 oC k cC qeB 1 ecs4.flatten,.row 21 oL w.listens.length cL qcA 4 (w.listens.map cLi).flatten,.row 10 oX w.versions.length cX qEA 5 ecs.flatten,.row 4 oP w.pins.length cP qOA 1 (w.pins.map cI1).flatten,.blk 2 q2 qHA [.v (.int .i64 w.epoch),.v (.int .i64 w.current),.v (.int .i64 w.lock),.row 4 oP w.pins.length cP,.row 10 oX w.versions.length cX,.row 21 oL w.listens.length cL,.row 70 oC k cC,.v (.slice oe w.limbo.length ce)],.blk 1 q1 qHA [.v (.int .i64 0),.v (.int .i64 0),.v (.int .i64 0),.v (.slice none 0 0),.v (.slice none 0 0),.v (.slice none 0 0),.v (.slice none 0 0),.v (.slice none 0 0)],.blk 0 q0 qHA [.v (.int .i64 w.epoch),.v (.int .i64 w.current),.v (.int .i64 w.lock),.v (.slice oa w.pins.length ca),.v (.slice ob w.versions.length cb),.v (.slice oc w.listens.length cc),.v (.slice od w.counts.length cd),.v (.slice oe w.limbo.length ce)]],80,g.w.heap.size⟩,fun (k,ecs4,_,_,g5)=>k≤w.counts.length∧g'≤g5∧oEls 1 (oRo wT) g' g5 g.w.heap.size ecs4 (w.counts.take k),fun (k,_,_,_,_)=>w.counts.length-k,fun fr w' hw=>⟨(0,[],some ⟨qC,0,none⟩,0,g'),rfl,⟨Nat.zero_le _,GW.refl _,qsE _ _ _⟩,(hw.blk_row (nx':=80) (id':=70) 0 1 rfl (Nat.zero_le _)).fit (by simp [fitL,Res.eqv,qBA,conc])⟩,?_⟩
  rintro⟨k,ecs4,oC,cC,g5⟩ ⟨hk,hg5,hE5⟩
  have hgg5:=GW.trans hgg hg5
  repeat((conv=>whnf);first|refine qz ?_|intro(_:Nat)|intro(_:OA)_)
  conv=>whnf
  refine⟨fun hlt=>?_,fun hlt=>?_⟩
  ·have h':k<w.counts.length:=by have:=of_decide_eq_true hlt;omega
   obtain⟨x,hx⟩:=qAA h'
   obtain⟨x1,x2⟩:=List.getElem?_eq_some_iff.1 hx
   obtain⟨a,rfl,ec,hec,⟨nx,rfl,hN⟩,hc⟩:=hC1 k x hx
   obtain⟨oN,cN,rfl,n1,n2,n0,hN1⟩:=id hN
   have hbx:=z6 x (List.mem_of_getElem? hx)
   have rdN:=(qIK hN cU1 fun _ _ h=>h.1).mono hgg5
   repeat((conv=>whnf);first|refine qz ?_|intro(_:Nat)|intro(_:OA)_)
   conv=>whnf
   refine⟨a,rfl,⟨by omega,by omega⟩,?_⟩
   conv=>whnf
   refine⟨_,hc.mono hgg5 0 _ rfl,?_⟩
   repeat((conv=>whnf);first|refine qz ?_|intro(_:Nat)|intro(_:OA)_)
   conv=>whnf
   refine⟨⟨rfl,rfl,rfl,rfl,Nat.zero_le _⟩,?_⟩
   conv=>whnf
   refine⟨_,⟨rdN,q5O fun _ _=>rfl⟩,?_⟩
   repeat((conv=>whnf);first|refine qz ?_|intro(_:Nat)|intro(_:OA)_)
   conv=>whnf
   refine⟨⟨by unfold maxLen;omega,by omega⟩,fun oM cM=>?_⟩
   repeat((conv=>whnf);first|refine qz ?_|intro(_:Nat)|intro(_:OA)_)
   conv=>whnf
   refine fun g6 hg6 hn6 hp6=>?_
   simp only [Nat.zero_add,List.nil_append] at hp6
   have hInt:∀ z∈x,(cU1 z).length=1∧rU64 g5 (cU1 z) z:=fun z hz=>by
    obtain⟨m,hm'⟩:=List.getElem?_of_mem hz
    obtain⟨_,_,_,_,⟨_,hh⟩,_⟩:=hN1 m z hm'
    exact⟨rfl,rfl,hh⟩
   have hO6:=qtD (qnA qqF) (q5C (sz:=1) (r:=rU64) g5 g5 g.w.heap.size cU1 x hInt) (GW.refl _) hg6 hp6 rfl hn6
   have hT1:w.counts.take (k+1)=w.counts.take k++[x]:=by rw [List.take_succ_eq_append_getElem x1,x2]
   have hE6:=qiD qDH hg5 hg6 hE5 (ec:=[.slice oM x.length cM]) (x:=x) rfl ⟨_,rfl,hO6⟩
   repeat((conv=>whnf);first|refine qz ?_|intro(_:Nat)|intro(_:OA)_)
   conv=>whnf
   refine⟨⟨by unfold maxLen;omega,by omega⟩,fun oa2 cap2=>?_⟩
   repeat((conv=>whnf);first|refine qz ?_|intro(_:Nat)|intro(_:OA)_)
   conv=>whnf
   refine fun fr w' hw=>⟨(k+1,ecs4++[[.slice oM x.length cM]],oa2,cap2,g6),congrArg (fun z=>[Value.int .i64 z]) (wr1 h' d1 d2).symm,⟨h',GW.trans hg5 hg6,by rw [hT1];exact hE6⟩,dec h',hw.fit (by simp [fitL,Res.eqv,qBA,conc])⟩
  have hkL:k=w.counts.length:=by have:=of_decide_eq_false hlt;omega
  subst hkL
  rw [List.take_length] at hE5
  clear hlt hk
  repeat((conv=>whnf);first|refine qz ?_|intro(_:Nat)|intro(_:OA)_)
  conv=>whnf
  refine⟨⟨rfl,rfl,rfl,rfl,Nat.zero_le _⟩,?_⟩
  conv=>whnf
  refine⟨_,⟨rdR.mono hgg5,q5O fun _ _=>rfl⟩,?_⟩
  repeat((conv=>whnf);first|refine qz ?_|intro(_:Nat)|intro(_:OA)_)
  conv=>whnf
  refine⟨⟨by unfold maxLen;omega,by omega⟩,fun oR cR=>?_⟩
  repeat((conv=>whnf);first|refine qz ?_|intro(_:Nat)|intro(_:OA)_)
  conv=>whnf
  refine fun gA kA nA pA=>?_
  repeat((conv=>whnf);first|refine qz ?_|intro(_:Nat)|intro(_:OA)_)
  conv=>whnf
  refine fun gB kB nB pB=>?_
  repeat((conv=>whnf);first|refine qz ?_|intro(_:Nat)|intro(_:OA)_)
  conv=>whnf
  refine fun gC kC nC pC=>?_
  repeat((conv=>whnf);first|refine qz ?_|intro(_:Nat)|intro(_:OA)_)
  conv=>whnf
  refine fun gD kD nD pD=>?_
  repeat((conv=>whnf);first|refine qz ?_|intro(_:Nat)|intro(_:OA)_)
  conv=>whnf
  refine fun gE kE nE pE=>?_
  conv=>whnf
  intro g2 hg
  have k5:=hg
  have mA:=GW.trans hg5 kA
  have mB:=GW.trans mA kB
  have mC:=GW.trans kB kC
  have uA:=GW.trans kB (GW.trans kC (GW.trans kD (GW.trans kE hg)))
  have uB:=GW.trans kC (GW.trans kD (GW.trans kE hg))
  have uC:=GW.trans kD (GW.trans kE hg)
  have uD:=GW.trans kE hg
  have up:∀ {a b:GW} {n:Nat},a≤b→¬ b.g n→¬ a.g n:=fun h k q=>k (h.2 _ q).1
  have lP:∀ z∈w.pins,(cI1 z).length=1∧rInt g5 (cI1 z) z:=fun z hz=>by
   obtain⟨m,hm'⟩:=List.getElem?_of_mem hz
   obtain⟨_,_,_,_,⟨_,hh⟩,_⟩:=hP1 m z hm'
   exact⟨rfl,rfl,hh⟩
  have lL:∀ z∈w.listens,(cLi z).length=4∧qHB gB (cLi z) z:=fun z hz=>by
   obtain⟨m,hm'⟩:=List.getElem?_of_mem hz
   obtain⟨_,_,_,_,⟨_,hh⟩,_⟩:=hL1 m z hm'
   exact⟨rfl,rfl,hh⟩
  have lR:∀ z∈w.limbo,(cRe z).length=3∧qtA gD (cRe z) z:=fun z hz=>by
   obtain⟨m,hm'⟩:=List.getElem?_of_mem hz
   obtain⟨_,_,_,_,⟨_,hh⟩,_⟩:=hR1 m z hm'
   exact⟨rfl,rfl,hh⟩
  rw [Nat.zero_add] at pE ⊢
  rw [List.nil_append] at pE
  exact⟨_,Ch (chG g g' g5 gA gB gC gD gE) labR 7,rfl,_,_,_,_,_,rfl,⟨i1,i2,i3⟩,qgX (qmY hgg hg5 kA kB kC kD kE),
   q1A (qnA qiB) (GW.vw_up uA _ _) (qPK (qnA qiB) (q5C (sz:=1) (r:=rInt) g5 g5 g.w.heap.size cI1 w.pins lP) kA pA rfl nA (fun n q=>(q.2 q.1).elim) fun a ha=>⟨2,by decide,rfl,pA.new nA a ha⟩),
   q1A qCH (GW.vw_up uB _ _) (qPK qCH hE mB pB rfl (fun a ha=>up mA (nB a ha)) (fun n q=>⟨0,by decide,rfl,q⟩) fun a ha=>⟨3,by decide,rfl,pB.new nB a ha⟩),
   q1A (qnA qGB) (GW.vw_up uC _ _) (qPK (qnA qGB) (q5C (sz:=4) (r:=qHB) gB gB g.w.heap.size cLi w.listens lL) kC pC rfl nC (fun n q=>(q.2 q.1).elim) fun a ha=>⟨4,by decide,rfl,pC.new nC a ha⟩),
   q1A qDH (GW.vw_up uD _ _) (qPK qDH hE5 (GW.trans kA (GW.trans mC kD)) pD rfl (fun a ha=>up (GW.trans kA mC) (nD a ha)) (fun n q=>⟨1,by decide,rfl,q⟩) fun a ha=>⟨5,by decide,rfl,pD.new nD a ha⟩),
   q1A (qnA q0A) (GW.vw_up hg _ _) (qPK (qnA q0A) (q5C (sz:=3) (r:=qtA) gD gD g.w.heap.size cRe w.limbo lR) kE pE rfl nE (fun n q=>(q.2 q.1).elim) fun a ha=>⟨6,by decide,rfl,pE.new nE a ha⟩)⟩)
/- Pins: a thread is pinned no more. -/
open Go.Proofs.YthonngjhelcpeaaGreat.Sx Go.RowKit
def OffP (w:Wd) (m:Mach) (v:Value) (g':GW):Prop:=∃ cs,v=.tuple #[.agg ⟨cs⟩,.agg ⟨(offE w m).cs⟩]∧rWo g' cs (offW w m)
theorem qRY (g:GW) {cs ms:List Value} {w:Wd} {m:Mach} (hw:rWo g cs w) (hM:qhA g ms m) (hsn:SnW w) (hb:BgW 1000000 w):Ok Tryz.prog qrU [.agg ⟨cs⟩,.agg ⟨ms⟩] g (OffP w m):=by
 have hw0:=hw
 have hM0:=hM
 obtain⟨a,b,c,d,e,rfl,⟨i1,i2,i3⟩,hP,hV,hL,hC,hR⟩:=hw
 obtain⟨oa,ca,rfl,a1,a2,a0,hP1⟩:=id hP
 obtain⟨ob,cb,rfl,b1,b2,b0,hV1⟩:=id hV
 obtain⟨oc,cc,rfl,c1,c2,c0,hL1⟩:=id hL
 obtain⟨od,cd,rfl,d1,d2,d0,hC1⟩:=id hC
 obtain⟨oe,ce,rfl,e1,e2,e0,hR1⟩:=id hR
 obtain⟨ma,mb,md,rfl,hok,_,⟨_,_,_,he,⟨o1,t1,rfl,_⟩,⟨o2,t2,rfl,_⟩,⟨o3,t3,rfl,_⟩⟩⟩:=hM
 cases he
 exact Ok.of_fn hm noT 0 q8T (args:=[.v (.agg ⟨wQ w oa ca ob cb oc cc od cd oe ce⟩),.v (.agg ⟨mQ m o1 t1 o2 t2 o3 t3⟩)]) (by
  repeat((conv=>whnf);first|refine qz ?_|intro(_:Nat))
  conv=>whnf
  refine .inl ⟨_,qYA _ hw0 hM0 hsn hb,?_⟩
  repeat((conv=>whnf);first|refine qz ?_|intro(_:Nat))
  conv=>whnf
  refine⟨fun z1=>?_,fun z1=>?_⟩
  ·repeat((conv=>whnf);first|refine qz ?_|intro(_:Nat))
   conv=>whnf
   intro g2 hg
   have hf:=nb1 z1
   refine⟨(wQ w oa ca ob cb oc cc od cd oe ce),?_,?_⟩
   ·rw [offE,hf,if_neg (by simp)];rfl
   ·rw [offW,hf,if_neg (by simp)];exact qDA _ _ _ _ hg hw0
  have hs:=nb0 z1
  obtain⟨v0,gr0,en0,hS⟩:=suitB_iff.1 hs
  have hth:=hS.thread
  obtain⟨x,hx⟩:=qAA (l:=w.pins) (i:=m.thread.toNat) (by omega)
  repeat((conv=>whnf);first|refine qz ?_|intro(_:Nat))
  refine .inr ((qeA _ hw0 hb).mono fun v g1 hg1 hO=>?_)
  obtain⟨cs,T,rfl,hT⟩:=hO
  have hT0:=hT
  obtain⟨p,q,r,s,t,rfl,_,_,h0,h1,h2,h3,h4⟩:=hT0
  obtain⟨oa',ca',rfl⟩:=qZA h0
  obtain⟨ob',cb',rfl⟩:=qZA h1
  obtain⟨oc',cc',rfl⟩:=qZA h2
  obtain⟨od',cd',rfl⟩:=qZA h3
  obtain⟨oe',ce',rfl⟩:=qZA h4
  obtain⟨bk,cap,hv,b5,j5,bc,ty5,⟨hA,p1,p2,p3,p4⟩,_,hk5⟩:=qlU hT hx (x':=0) (by decide)
  cases hv
  cases hA
  repeat((conv=>whnf);first|refine qz ?_|intro(_:Nat))
  conv=>whnf
  refine⟨_,rfl,⟨by omega,by omega⟩,?_⟩
  repeat((conv=>whnf);first|refine qz ?_|intro(_:Nat))
  conv=>whnf
  refine⟨bk,m.thread.toNat,bc,ty5,⟨by simp [qyA],p1,p2,p3,p4⟩,?_⟩
  repeat((conv=>whnf);first|refine qz ?_|intro(_:Nat))
  conv=>whnf
  refine fun g6 u6=>?_
  have hF:=qTA (hk5 g6 u6)
  repeat((conv=>whnf);first|refine qz ?_|intro(_:Nat))
  conv=>whnf
  intro g2 hg
  refine⟨[.int .i64 w.epoch,.int .i64 w.current,.int .i64 w.lock,.slice (some ⟨bk,0,none⟩) w.pins.length ca',.slice ob' w.versions.length cb',.slice oc' w.listens.length cc',.slice od' w.counts.length cd',.slice oe' w.limbo.length ce'],?_,?_⟩
  ·rw [offE,hs,if_pos rfl];rfl
  ·rw [offW,hs,if_pos rfl];exact qDA _ _ _ _ hg hF)
/- Pins: a thread is pinned no more;the document's answer. -/
open Go.Proofs.YthonngjhelcpeaaGreat.Sx Go.RowKit
/- Requests: turns,draws,words;what is found;the document's events. -/
open Go.Proofs.YthonngjhelcpeaaGreat.Sx Go.RowKit
theorem qIW (s:Snap) (l h p:BA):∃ c e:Int,qlT s l h p=.tuple #[.int .i64 c,.int .i64 e]∧((e=0∧qfP s l h p=some c)∨(e≠0∧qfP s l h p=none)):=by
 unfold qlT qfP
 split
 ·exact⟨_,_,rfl,.inr ⟨by decide,rfl⟩⟩
 ·cases hb:quP (fitR (idxI (idxO (fun x=>bs x==bs l) s.listens)) h p) s.rules with
  | none=>exact⟨_,_,rfl,.inr ⟨by decide,rfl⟩⟩
  | some j =>
   obtain⟨r,q1,q2,_⟩:=bestO_some.1 hb
   exact⟨_,_,rfl,.inl ⟨rfl,by simp [q1]⟩⟩
def qZC (c:Cluster) (k:Nat):List Int:=((List.range k).filter fun i=>(c.health[i]?).getD false).map fun (i:Nat)=>(i:Int)
theorem qjT {c:Cluster} {k:Nat} {b:Bool} (h:c.health[k]?=some b):qZC c (k+1)=if b then qZC c k++[(k:Int)] else qZC c k:=by
 unfold qZC
 rw [List.range_succ,List.filter_append,List.map_append]
 cases b<;>simp [h]
theorem qtQ (c:Cluster) (k:Nat):(qZC c k).length≤k:=by
 unfold qZC
 rw [List.length_map]
 exact Nat.le_trans (List.length_filter_le _ _) (by simp)
theorem qDS (c:Cluster) (k:Nat) (hk:k≤17592186044416):∀ x∈qZC c k,InR x:=by
 intro x hx
 unfold qZC at hx
 simp only [List.mem_map,List.mem_filter,List.mem_range] at hx
 obtain⟨i,⟨hi,_⟩,rfl⟩:=hx
 unfold InR;omega
/- Requests: who is healthy;turns and draws. -/
open Go.Proofs.YthonngjhelcpeaaGreat.Sx Go.RowKit
def tHe:List (Nat×FnI):=[(qyM,qTH),(qTL,qVF)]
theorem qpX:qdH Tryz.prog tHe:=by
 intro x hx
 simp only [tHe,List.mem_cons,List.not_mem_nil,or_false] at hx
 rcases hx with rfl|rfl
 ·exact⟨_,_,qVM⟩
 ·exact⟨_,_,q8K⟩
theorem qFR:∀ l:List Int,cInt l=(l.map fun x=>[Value.int .i64 x]).flatten
 | []=>rfl
 | x :: r=>congrArg (Value.int .i64 x :: ·) (qFR r)
def HeP (c:Cluster) (v:Value) (g':GW):Prop:=∃ oa cap,v=.slice oa (qGA c).length cap∧rSl 1 rInt g' (.slice oa (qGA c).length cap) (qGA c)
theorem qGO (g:GW) {cs:List Value} {c:Cluster} (hc:qtB g cs c) (hsz:c.health.length≤17592186044416):Ok Tryz.prog qzM [.agg ⟨cs⟩] g (HeP c):=by
 obtain⟨vh,rfl,hp,hl,hh⟩:=hc
 obtain⟨oa,ca,rfl,a1,a2,a0,hr⟩:=id hh
 exact Ok.of_fn hm qpX 2 qWM (args:=[.v (.agg ⟨[.string c.name,.int .i64 c.policy,.int .i64 c.slots,.slice oa c.health.length ca]⟩)]) (by
  repeat((conv=>whnf);first|refine qz ?_|intro(_:Nat)|intro(_:OA)_)
  conv=>whnf
  refine⟨qdL,fun lp rr=>?_⟩
  repeat((conv=>whnf);first|refine qz ?_|intro(_:Nat)|intro(_:OA)_)
  rename_i q0 q1 q2
  conv=>whnf
  refine⟨Nat×Option Addr×Nat,fun (k,_,_)=>[.v (.int .i64 k)],fun (k,oX,cX)=>⟨g,[.row 7 oX (qZC c k).length cX qOA 1 (cInt (qZC c k)),.lp 3 lp rr .ready,.blk 2 q2 qzA [.v (.string c.name),.v (.int .i64 c.policy),.v (.int .i64 c.slots),.v (.slice oa c.health.length ca)],.blk 1 q1 qJE [.row 7 oX (qZC c k).length cX],.blk 0 q0 qzA [.v (.string c.name),.v (.int .i64 c.policy),.v (.int .i64 c.slots),.v (.slice oa c.health.length ca)]],40,g.w.heap.size⟩,fun (k,_,_)=>k≤c.health.length,fun (k,_,_)=>c.health.length-k,?_,?_⟩
  ·intro fr w hw
   exact⟨(0,none,0),rfl,Nat.zero_le _,(hw.nil_row (nx':=40) 7 qOA 1).fit (by simp [fitL,Res.eqv,qBA,conc,qZC])⟩
  rintro⟨k,oX,cX⟩ hk
  have hk:k≤c.health.length:=hk
  have hlen:=qtQ c k
  conv=>whnf
  refine⟨fun hlt=>?_,fun hlt=>?_⟩
  ·have h':k<c.health.length:=by have:=of_decide_eq_true hlt;omega
   obtain⟨x,hx⟩:=qAA h'
   obtain⟨a,rfl,ec,hec,rfl,hcc⟩:=hr k x hx
   have hst:=qjT hx
   repeat((conv=>whnf);first|refine qz ?_|intro(_:Nat)|intro(_:OA)_)
   conv=>whnf
   refine⟨a,rfl,⟨by omega,by omega⟩,?_⟩
   repeat((conv=>whnf);first|refine qz ?_|intro(_:Nat)|intro(_:OA)_)
   conv=>whnf
   refine⟨_,hcc 0 _ rfl,?_⟩
   repeat((conv=>whnf);first|refine qz ?_|intro(_:Nat)|intro(_:OA)_)
   conv=>whnf
   refine⟨fun hb=>?_,fun hb=>?_⟩
   ·subst hb
    repeat((conv=>whnf);first|refine qz ?_|intro(_:Nat)|intro(_:OA)_)
    conv=>whnf
    refine⟨⟨by unfold maxLen;omega,by omega⟩,fun oa2 cap2=>?_⟩
    repeat((conv=>whnf);first|refine qz ?_|intro(_:Nat)|intro(_:OA)_)
    conv=>whnf
    refine fun fr w hw=>⟨(k+1,oa2,cap2),congrArg (fun z=>[Value.int .i64 z]) (wr1 h' a1 a2).symm,h',dec h',hw.fit ?_⟩
    simp only [hst,if_true]
    simp [fitL,Res.eqv,qBA,conc]
   ·subst hb
    repeat((conv=>whnf);first|refine qz ?_|intro(_:Nat)|intro(_:OA)_)
    conv=>whnf
    refine fun fr w hw=>⟨(k+1,oX,cX),congrArg (fun z=>[Value.int .i64 z]) (wr1 h' a1 a2).symm,h',dec h',hw.fit ?_⟩
    simp only [hst]
    simp [fitL,Res.eqv,qBA,conc]
  have hz1:k=c.health.length:=by have:=of_decide_eq_false hlt;omega
  subst hz1
  repeat((conv=>whnf);first|refine qz ?_|intro(_:Nat)|intro(_:OA)_)
  conv=>whnf
  refine fun g1 hg1 hn1 hp1=>?_
  conv=>whnf
  intro g2 hg
  refine⟨_,_,rfl,?_⟩
  exact((qjM hp1.rd (qGA c) (fun x=>[Value.int .i64 x]) (qFR _) rfl (fun _ _=>rfl) fun x hx=>⟨rfl,qDS c _ hsz x hx⟩).mono qSB hg))
theorem qEN (c:Cluster) (h:c.health.length≤17592186044416):(qGA c).length≤17592186044416:=Nat.le_trans (qCS c) h
theorem qlX {t n:Int} (ht:InU t) (hn:0<n):0≤t.tmod n∧t.tmod n<n∧t.tmod n=t % n:=by
 rw [Int.tmod_eq_emod_of_nonneg ht.1]
 exact⟨Int.emod_nonneg t (by omega),Int.emod_lt_of_pos t hn,rfl⟩
abbrev hErr (c:Cluster):Int:=if qGA c=[] then 5 else 0
theorem qAX (g:GW) {cs:List Value} {c:Cluster} (hc:qtB g cs c) (hsz:c.health.length≤17592186044416) {t:Int} (ht:InU t):OkV Tryz.prog qZQ [.agg ⟨cs⟩,.int .u64 t] g (.tuple #[.int .i64 (q0E c t),.int .i64 (hErr c)]):=by
 have hc0:=hc
 obtain⟨vh,rfl,hp,hl,hh⟩:=hc
 obtain⟨oa,ca,rfl,a1,a2,a0,hr⟩:=id hh
 exact Ok.of_fn hm noT 0 q1P (args:=[.v (.agg ⟨[.string c.name,.int .i64 c.policy,.int .i64 c.slots,.slice oa c.health.length ca]⟩),.v (.int .u64 t)]) (by
  repeat((conv=>whnf);first|refine qz ?_|intro(_:Nat))
  refine .inr ((qGO _ hc0 hsz).mono fun v g1 hg1 hH=>?_)
  obtain⟨oh,ch,rfl,hH⟩:=hH
  repeat((conv=>whnf);first|refine qz ?_|intro(_:Nat))
  conv=>whnf
  refine⟨fun hz=>?_,fun hz=>?_⟩
  ·have hn:qGA c=[]:=by
    have:=of_decide_eq_true hz
    exact List.length_eq_zero_iff.1 (by omega)
   repeat((conv=>whnf);first|refine qz ?_|intro(_:Nat))
   conv=>whnf
   intro g2 hg
   simp [q0E,hErr,hn]
  have hpos:0<(qGA c).length:=by
   have h9:¬ _:=of_decide_eq_false hz
   omega
  have hsz2:=qEN c hsz
  have hu:IntKind.u64.wrap ((qGA c).length:Int)=(qGA c).length:=IntWalk.u64_in _ (by omega)
  obtain⟨u1,u2,u3⟩:=qlX ht (n:=(qGA c).length) (by omega)
  obtain⟨x,hx⟩:=qAA (l:=qGA c) (i:=(t % (qGA c).length).toNat) (by omega)
  obtain⟨ah,rfl⟩:=qJA hH hx
  obtain⟨hxr,hcx⟩:=qsQ hH hx
  have hne:qGA c≠[]:=by intro h;rw [h] at hpos;cases hpos
  have hT:q0E c t=x:=by unfold q0E;rw [hx];rfl
  repeat((conv=>whnf);first|refine qz ?_|intro(_:Nat))
  conv=>whnf
  refine⟨by simp;omega,?_⟩
  repeat((conv=>whnf);first|refine qz ?_|intro(_:Nat))
  conv=>whnf
  refine⟨_,rfl,⟨by simp only [hu];omega,by simp only [hu];omega⟩,?_⟩
  repeat((conv=>whnf);first|refine qz ?_|intro(_:Nat))
  simp only [hu,u3]
  conv=>whnf
  refine⟨_,hcx 0 _ rfl,?_⟩
  repeat((conv=>whnf);first|refine qz ?_|intro(_:Nat))
  conv=>whnf
  intro g2 hg
  simp [hT,hErr,hne])
theorem qDX (g:GW) {a x b y:Int}:OkV Tryz.prog qfQ [.int .i64 a,.int .i64 x,.int .i64 b,.int .i64 y] g (.int .i64 (qJH a x b y)) :=
 Ok.of_fn hm noT 0 q7P (args:=[.v (.int .i64 a),.v (.int .i64 x),.v (.int .i64 b),.v (.int .i64 y)]) (by
  repeat((conv=>whnf);first|refine qz ?_|intro(_:Nat))
  conv=>whnf
  refine⟨fun z=>?_,fun z=>?_⟩
  ·repeat((conv=>whnf);first|refine qz ?_|intro(_:Nat))
   conv=>whnf
   intro g2 hg
   unfold qJH;rw [if_pos (of_decide_eq_true z)]
  ·repeat((conv=>whnf);first|refine qz ?_|intro(_:Nat))
   conv=>whnf
   intro g2 hg
   unfold qJH;rw [if_neg (of_decide_eq_false z)])
/- Requests: draws. -/
open Go.Proofs.YthonngjhelcpeaaGreat.Sx Go.RowKit
theorem q4U {c:Cluster} (h:qGA c=[]) (d:Int):qiC c d=0:=by simp [qiC,h]
theorem q3U {c:Cluster} (d:Int) (h:0<(qGA c).length):(qGA c)[(d % (qGA c).length).toNat]?=some (qiC c d)∧0≤d % (qGA c).length∧d % (qGA c).length<(qGA c).length:=by
 have h1:=Int.emod_nonneg d (show((qGA c).length:Int)≠0 by omega)
 have h2:=Int.emod_lt_of_pos d (show(0:Int)<(qGA c).length by omega)
 obtain⟨x,hx⟩:=qAA (l:=qGA c) (i:=(d % (qGA c).length).toNat) (by omega)
 unfold qiC
 rw [hx]
 exact⟨rfl,h1,h2⟩
theorem qQV {d n:Int} (hn:0<n):-n≤d.tmod n∧d.tmod n<n:=by
 have h1:=Int.emod_nonneg d (show n≠0 by omega)
 have h2:=Int.emod_lt_of_pos d hn
 have h9:d.tmod n=d % n∨d.tmod n=d % n-n:=by
  rw [Int.tmod_eq_emod]
  split
  ·exact .inl (by omega)
  ·right
   have:(n.natAbs:Int)=n:=by omega
   omega
 generalize d.tmod n=r at h9 ⊢
 generalize d % n=q at h9 h1 h2
 omega
theorem qGX (g:GW) {cs:List Value} {c:Cluster} (hc:qtB g cs c) (hsz:c.health.length≤17592186044416) {d0 d1:Int} (h0:InR d0) (h1:InR d1):OkV Tryz.prog qgQ [.agg ⟨cs⟩,.int .i64 d0,.int .i64 d1] g (.tuple #[.int .i64 (qiC c d0),.int .i64 (qiC c d1),.int .i64 (hErr c)]):=by
 have hc0:=hc
 obtain⟨vh,rfl,hp,hl,hh⟩:=hc
 obtain⟨oa,ca,rfl,a1,a2,a0,hr⟩:=id hh
 exact Ok.of_fn hm noT 0 q8P (args:=[.v (.agg ⟨[.string c.name,.int .i64 c.policy,.int .i64 c.slots,.slice oa c.health.length ca]⟩),.v (.int .i64 d0),.v (.int .i64 d1)]) (by
  repeat((conv=>whnf);first|refine qz ?_|intro(_:Nat))
  refine .inr ((qGO _ hc0 hsz).mono fun v g1 hg1 hH=>?_)
  obtain⟨oh,ch,rfl,hH⟩:=hH
  repeat((conv=>whnf);first|refine qz ?_|intro(_:Nat))
  conv=>whnf
  refine⟨fun hz=>?_,fun hz=>?_⟩
  ·have hn:qGA c=[]:=by
    have:=beqT hz
    exact List.length_eq_zero_iff.1 (by omega)
   repeat((conv=>whnf);first|refine qz ?_|intro(_:Nat))
   conv=>whnf
   intro g2 hg
   simp [q4U hn,hErr,hn]
  have hpos:0<(qGA c).length:=by
   have:=beqF hz
   omega
  have hsz2:=qEN c hsz
  have hne:qGA c≠[]:=by intro h;rw [h] at hpos;cases hpos
  obtain⟨x1,x2,x3⟩:=q3U (c:=c) d0 hpos
  obtain⟨y1,y2,y3⟩:=q3U (c:=c) d1 hpos
  obtain⟨ah,rfl⟩:=qJA hH x1
  obtain⟨hxr,hcx⟩:=qsQ hH x1
  obtain⟨hyr,hcy⟩:=qsQ hH y1
  repeat((conv=>whnf);first|refine qz ?_|intro(_:Nat))
  rename_i q0 q1
  conv=>whnf
  refine⟨Nat,fun k=>[.v (.int .i64 k)],fun k=>⟨g1,[.blk 1 q1 180 [.v (.int .i64 (if k=0 then d0 else qiC c d0)),.v (.int .i64 (if k≤1 then d1 else qiC c d1))],.blk 0 q0 qzA [.v (.string c.name),.v (.int .i64 c.policy),.v (.int .i64 c.slots),.v (.slice oa c.health.length ca)]],_,_⟩,fun k=>k≤2,fun k=>2-k,qFA 0 rfl (by decide) rfl,?_⟩
  intro k hk
  have hin:∀ d,InR d→InR (d.tmod (qGA c).length)∧InR (d.tmod (qGA c).length+(qGA c).length)∧(d.tmod (qGA c).length+(qGA c).length).tmod (qGA c).length=d % (qGA c).length:=fun d hd=>by
   have e1:=qnW (d:=d) (n:=(qGA c).length) (by omega)
   have e2:=qQV (d:=d) (n:=(qGA c).length) (by omega)
   have hb9:((qGA c).length:Int)≤17592186044416:=by omega
   generalize d.tmod ((qGA c).length:Int)=r at e1 e2 ⊢
   generalize ((qGA c).length:Int)=n at *
   refine⟨by unfold InR;omega,by unfold InR;omega,e1⟩
  rcases(by have:k≤2:=hk;omega:k=0∨k=1∨k=2) with rfl|rfl|rfl
  ·obtain⟨i1,i2,i3⟩:=hin d0 h0
   have w1:=wr i1
   have w2:=wr i2
   conv=>whnf
   refine⟨fun _=>?_,fun h=>nomatch h⟩
   repeat((conv=>whnf);first|refine qz ?_|intro(_:Nat))
   conv=>whnf
   refine⟨0,⟨rfl,by decide⟩,?_⟩
   repeat((conv=>whnf);first|refine qz ?_|intro(_:Nat))
   conv=>whnf
   refine⟨by simp;omega,?_⟩
   repeat((conv=>whnf);first|refine qz ?_|intro(_:Nat))
   conv=>whnf
   refine⟨by simp;omega,?_⟩
   repeat((conv=>whnf);first|refine qz ?_|intro(_:Nat))
   simp only [eq_self,Nat.le_refl,if_true,w1,w2,i3]
   conv=>whnf
   refine⟨_,rfl,⟨x2,x3⟩,?_⟩
   repeat((conv=>whnf);first|refine qz ?_|intro(_:Nat))
   conv=>whnf
   refine⟨_,hcx 0 _ rfl,?_⟩
   repeat((conv=>whnf);first|refine qz ?_|intro(_:Nat))
   conv=>whnf
   refine⟨0,⟨rfl,by decide⟩,?_⟩
   repeat((conv=>whnf);first|refine qz ?_|intro(_:Nat))
   conv=>whnf
   refine fun fr w hw=>⟨1,rfl,by decide,by decide,?_⟩
   exact hw.fit (by simp [fitL,Res.eqv,qBA,conc])
  ·obtain⟨i1,i2,i3⟩:=hin d1 h1
   have w1:=wr i1
   have w2:=wr i2
   conv=>whnf
   refine⟨fun _=>?_,fun h=>nomatch h⟩
   repeat((conv=>whnf);first|refine qz ?_|intro(_:Nat))
   conv=>whnf
   refine⟨1,⟨rfl,by decide⟩,?_⟩
   repeat((conv=>whnf);first|refine qz ?_|intro(_:Nat))
   conv=>whnf
   refine⟨by simp;omega,?_⟩
   repeat((conv=>whnf);first|refine qz ?_|intro(_:Nat))
   conv=>whnf
   refine⟨by simp;omega,?_⟩
   repeat((conv=>whnf);first|refine qz ?_|intro(_:Nat))
   simp only [eq_self,Nat.le_refl,if_true,w1,w2,i3]
   conv=>whnf
   refine⟨_,rfl,⟨y2,y3⟩,?_⟩
   repeat((conv=>whnf);first|refine qz ?_|intro(_:Nat))
   conv=>whnf
   refine⟨_,hcy 0 _ rfl,?_⟩
   repeat((conv=>whnf);first|refine qz ?_|intro(_:Nat))
   conv=>whnf
   refine⟨1,⟨rfl,by decide⟩,?_⟩
   repeat((conv=>whnf);first|refine qz ?_|intro(_:Nat))
   conv=>whnf
   refine fun fr w hw=>⟨2,rfl,by decide,by decide,?_⟩
   exact hw.fit (by simp [fitL,Res.eqv,qBA,conc])
  ·conv=>whnf
   refine⟨fun h=>(nomatch h),fun _=>?_⟩
   repeat((conv=>whnf);first|refine qz ?_|intro(_:Nat))
   conv=>whnf
   refine⟨0,⟨rfl,by decide⟩,?_⟩
   repeat((conv=>whnf);first|refine qz ?_|intro(_:Nat))
   conv=>whnf
   refine⟨1,⟨rfl,by decide⟩,?_⟩
   repeat((conv=>whnf);first|refine qz ?_|intro(_:Nat))
   conv=>whnf
   intro g2 hg
   simp [hErr,hne])
/- Pins: the steps' table. -/
open Go.Proofs.YthonngjhelcpeaaGreat.Sx Go.RowKit
def qJV (w:Wd) (m:Mach) (v:Value) (g':GW):Prop:=∃ cs ms,v=.tuple #[.agg ⟨cs⟩,.agg ⟨ms⟩,.agg ⟨(pinE w m).cs⟩]∧rWo g' cs (pinW w m)∧qhA g' ms (pinM w m)
def tPi:List (Nat×FnI):=[(q2M,qMN),(q0F,qmK),(qzF,qlK),(qyF,qkK),(qeT,qWO)]
theorem qTS:qdH Tryz.prog tPi:=by
 intro x hx
 simp only [tPi,List.mem_cons,List.not_mem_nil,or_false] at hx
 rcases hx with rfl|rfl|rfl|rfl|rfl
 ·exact⟨_,_,qZM⟩
 ·exact⟨_,_,qnO⟩
 ·exact⟨_,_,qmO⟩
 ·exact⟨_,_,qlO⟩
 ·exact⟨_,_,q9S⟩
def qST:List (Int×Value):=[(0,.agg #[.func (.func q0F) #[] #[]]),(1,.agg #[.func (.func qzF) #[] #[]]),(2,.agg #[.func (.func qyF) #[] #[]])]
theorem qLM (g:GW):Ok Tryz.prog q2M [] g fun v g'=>∃ r,v=.map (some r)∧FzM g' r .i64 qST :=
 Ok.of_fn hm noT 0 qZM (args:=[]) (by
  repeat((conv=>whnf);first|refine qz ?_|intro(_:Nat))
  conv=>whnf
  refine fun g1 hg1 hf=>?_
  repeat((conv=>whnf);first|refine qz ?_|intro(_:Nat))
  conv=>whnf
  intro g2 hg
  exact⟨_,rfl,hf.mono hg⟩)
end Go.Proofs.YthonngjhelcpeaaGreat
