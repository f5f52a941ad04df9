/- What came in of this seat's types is plain data. -/
import Derived.Test.YtompjkkgaafllaaGreatF
import Derived.Test.YtompjkkgaafllaaGreatPl
set_option linter.unusedVariables false
set_option linter.unusedSimpArgs false
namespace Go.Proofs.YtompjkkgaafllaaGreat
open Go.Proofs.YtompjkkgaafllaaGreat.Sx
section
variable {H:Type} {enc:TypeId×Value→H} {W:World}
theorem qVO:Rds enc Tryz.prog W qOJ qPO:=qNT (tS:=qWC) (tI:=quA) (by kernel_rfl) (by kernel_rfl) (by kernel_rfl) (by kernel_rfl)
theorem q8M:Rds enc Tryz.prog W qAE q3M:=q9R (tS:=qWC) (by kernel_rfl) (by kernel_rfl) (by kernel_rfl)
theorem qyG:Rds enc Tryz.prog W qkA qbC:=q4P (tS:=qWC) (tI:=quA) (tL:=qkP) (tB:=qQI) (by kernel_rfl) (by kernel_rfl) (by kernel_rfl) (by kernel_rfl) (by kernel_rfl) (by kernel_rfl) (by kernel_rfl)
theorem qtL:Rds enc Tryz.prog W qaD q3C:=by
 intro fuel cs x h
 obtain⟨a,b,d,rfl,⟨l0,h0⟩,⟨l1,h1⟩,l2,h2⟩:=qKP (t0:=qrI) (t1:=qNJ) (t2:=qWE) (e0:=qWC) (e1:=qAE) (e2:=qkA) (z0:=1) (z1:=4) (z2:=4)
  (by kernel_rfl) (by kernel_rfl) (by kernel_rfl) (by kernel_rfl) (by kernel_rfl) (by kernel_rfl) (by kernel_rfl) (by kernel_rfl) (by omega) (by omega) (by omega) (qdE (by kernel_rfl)) q8M qyG h
 exact⟨⟨l0,l1,l2⟩,a,b,d,rfl,h0,h1,h2⟩
end
/- What came in of a snapshot is plain data. -/
open Go.Proofs.YtompjkkgaafllaaGreat.Sx
section
variable {H:Type} {enc:TypeId×Value→H} {W:World}
theorem qUO:Rds enc Tryz.prog W qoA q8I:=by
 intro fuel cs x h
 obtain⟨a,b,d,rfl,⟨l0,h0⟩,⟨l1,h1⟩,l2,h2⟩:=qKP (t0:=qrI) (t1:=qUK) (t2:=qWE) (e0:=qWC) (e1:=qOJ) (e2:=qkA) (z0:=1) (z1:=4) (z2:=4)
  (by kernel_rfl) (by kernel_rfl) (by kernel_rfl) (by kernel_rfl) (by kernel_rfl) (by kernel_rfl) (by kernel_rfl) (by kernel_rfl) (by omega) (by omega) (by omega) (qdE (by kernel_rfl)) qVO qyG h
 exact⟨⟨l0,l1,l2⟩,a,b,d,rfl,h0,h1,h2⟩
end
/- What came in of worlds and machines is plain data. -/
open Go.Proofs.YtompjkkgaafllaaGreat.Sx
section
variable {H:Type} {enc:TypeId×Value→H} {W:World}
theorem qsL:Rds enc Tryz.prog W qXA qdB:=by
 intro fuel cs x h
 obtain⟨hl,hg⟩:=qFK (l:=[(0,1,qWC),(1,1,qQI),(2,1,quA),(3,1,qQI)]) (by kernel_rfl) h
 rw [show Tryz.prog.cellsOf qXA=4 by kernel_rfl] at hl
 match cs,hl with
 | [a,b,c,d],_ =>
  obtain⟨s0,e0⟩:=(qdE (by kernel_rfl)).fld (hg 0 _ _ _ rfl)
  obtain⟨s1,e1⟩:=(qdJ (by kernel_rfl)).fld (hg 1 _ _ _ rfl)
  obtain⟨s2,e2,w2⟩:=(qDD (by kernel_rfl)).fld (hg 2 _ _ _ rfl)
  obtain⟨s3,e3⟩:=(qdJ (by kernel_rfl)).fld (hg 3 _ _ _ rfl)
  cases e0;cases e1;cases e2;cases e3
  exact⟨⟨s0,s1,s2,s3⟩,rfl,w2⟩
theorem qfK:Rds enc Tryz.prog W q3B qkB:=by
 intro fuel cs x h
 obtain⟨hl,hg⟩:=qFK (l:=[(0,1,quA),(1,1,quA),(2,1,qQI)]) (by kernel_rfl) h
 rw [show Tryz.prog.cellsOf q3B=3 by kernel_rfl] at hl
 match cs,hl with
 | [a,b,c],_ =>
  obtain⟨s0,e0,w0⟩:=(qDD (by kernel_rfl)).fld (hg 0 _ _ _ rfl)
  obtain⟨s1,e1,w1⟩:=(qDD (by kernel_rfl)).fld (hg 1 _ _ _ rfl)
  obtain⟨s2,e2⟩:=(qdJ (by kernel_rfl)).fld (hg 2 _ _ _ rfl)
  cases e0;cases e1;cases e2
  exact⟨⟨s0,s1,s2⟩,rfl,w0,w1⟩
theorem qAQ:RdsW enc Tryz.prog W qtA rEn:=by
 intro fuel cs x h hs
 obtain⟨hl,hg⟩:=qOM (l:=[(0,1,qTE),(1,1,qmD),(2,1,quA)]) (by kernel_rfl) h hs
 rw [show Tryz.prog.cellsOf qtA=3 by kernel_rfl] at hl
 match cs,hl with
 | [a,b,c],_ =>
  obtain⟨s0,e0,w0⟩:=(qzQ (by kernel_rfl)).fld (tr1 (hg 0 _ _ _ rfl))
  obtain⟨s1,v,e1,h1,hb⟩:=(qIP (t:=qmD) (e:=quA) (sz:=1) (by kernel_rfl) (by kernel_rfl) (qDD (by kernel_rfl)).w).fld (hg 1 _ _ _ rfl)
  obtain⟨s2,e2,w2⟩:=(qDD (by kernel_rfl)).fld (tr1 (hg 2 _ _ _ rfl))
  cases e0;cases e1;cases e2
  refine⟨⟨s0,s1,s2⟩,⟨_,rfl,w0,w2,h1⟩,?_⟩
  rw [show Tryz.prog.bytesOf quA=8 by kernel_rfl] at hb
  unfold reachBytes at hb
  show s1.length≤17592186044416
  omega
theorem q9M:RdsW enc Tryz.prog W qcA rGr:=by
 intro fuel cs x h hs
 obtain⟨hl,hg⟩:=qOM (l:=[(0,1,qTE),(1,1,qYH)]) (by kernel_rfl) h hs
 rw [show Tryz.prog.cellsOf qcA=2 by kernel_rfl] at hl
 match cs,hl with
 | [a,b],_ =>
  obtain⟨s0,e0,w0⟩:=(qzQ (by kernel_rfl)).fld (tr1 (hg 0 _ _ _ rfl))
  obtain⟨s1,v,e1,h1⟩:=(qIT (t:=qYH) (e:=qtA) (sz:=3) (by kernel_rfl) (by kernel_rfl) qAQ).fld (hg 1 _ _ _ rfl)
  cases e0;cases e1
  exact⟨⟨s0,s1⟩,_,rfl,w0,h1⟩
theorem qeK:RdsW enc Tryz.prog W qEA rVe:=by
 intro fuel cs x h hs
 obtain⟨hl,hg⟩:=qOM (l:=[(0,3,qoA),(3,1,qjF),(4,1,qQI)]) (by kernel_rfl) h hs
 rw [show Tryz.prog.cellsOf qEA=5 by kernel_rfl] at hl
 match cs,hl with
 | [a,b,c,d,e],_ =>
  obtain⟨s0,e0⟩:=(qUO (enc:=enc)).fld (tr1 (hg 0 _ _ _ rfl))
  obtain⟨s1,v,e1,h1⟩:=(qIT (t:=qjF) (e:=qcA) (sz:=2) (by kernel_rfl) (by kernel_rfl) q9M).fld (hg 1 _ _ _ rfl)
  obtain⟨s2,e2⟩:=(qdJ (by kernel_rfl)).fld (tr1 (hg 2 _ _ _ rfl))
  cases e1;cases e2
  exact⟨⟨s0,s1,s2⟩,_,_,_,_,rfl,e0,h1⟩
theorem qRU:Rds enc Tryz.prog W qZB rRow:=by
 intro fuel cs x h
 obtain⟨l,v,rfl,h1⟩:=(qcD (t:=qZB) (e:=qTE) (sz:=1) (by kernel_rfl) (by kernel_rfl) (by omega) (qzQ (by kernel_rfl))) fuel cs x h
 exact⟨l,_,rfl,h1⟩
theorem q7M:RdsW enc Tryz.prog W qHA rWo:=by
 intro fuel cs x h hs
 obtain⟨hl,hg⟩:=qOM (l:=[(0,1,quA),(1,1,quA),(2,1,quA),(3,1,qmD),(4,1,qUE),(5,1,qQF),(6,1,qvG),(7,1,qVE)]) (by kernel_rfl) h hs
 rw [show Tryz.prog.cellsOf qHA=8 by kernel_rfl] at hl
 match cs,hl with
 | [c0,c1,c2,c3,c4,c5,c6,c7],_ =>
  obtain⟨s0,e0,w0⟩:=(qDD (by kernel_rfl)).fld (tr1 (hg 0 _ _ _ rfl))
  obtain⟨s1,e1,w1⟩:=(qDD (by kernel_rfl)).fld (tr1 (hg 1 _ _ _ rfl))
  obtain⟨s2,e2,w2⟩:=(qDD (by kernel_rfl)).fld (tr1 (hg 2 _ _ _ rfl))
  obtain⟨s3,v3,e3,h3⟩:=(qcD (t:=qmD) (e:=quA) (sz:=1) (by kernel_rfl) (by kernel_rfl) (by omega) (qDD (by kernel_rfl))).fld (tr1 (hg 3 _ _ _ rfl))
  obtain⟨s4,v4,e4,h4⟩:=(qIT (t:=qUE) (e:=qEA) (sz:=5) (by kernel_rfl) (by kernel_rfl) qeK).fld (hg 4 _ _ _ rfl)
  obtain⟨s5,v5,e5,h5⟩:=(qcD (t:=qQF) (e:=qXA) (sz:=4) (by kernel_rfl) (by kernel_rfl) (by omega) qsL).fld (tr1 (hg 5 _ _ _ rfl))
  obtain⟨s6,v6,e6,h6⟩:=(qcD (t:=qvG) (e:=qZB) (sz:=1) (by kernel_rfl) (by kernel_rfl) (by omega) qRU).fld (tr1 (hg 6 _ _ _ rfl))
  obtain⟨s7,v7,e7,h7⟩:=(qcD (t:=qVE) (e:=q3B) (sz:=3) (by kernel_rfl) (by kernel_rfl) (by omega) qfK).fld (tr1 (hg 7 _ _ _ rfl))
  cases e0;cases e1;cases e2;cases e3;cases e4;cases e5;cases e6;cases e7
  exact⟨⟨s0,s1,s2,s3,s4,s5,s6,s7⟩,_,_,_,_,_,rfl,⟨w0,w1,w2⟩,h3,h4,h5,h6,h7⟩
theorem qAR:Rds enc Tryz.prog W qlM fun g cs (o:OpD)=>∃ a b d,cs=[.int .i64 o.kind,.string o.listen,.string o.host,.string o.path,.int .i64 o.d0,.int .i64 o.d1,.int .i64 o.n,a,b,d]∧(InR o.kind∧InR o.d0∧InR o.d1∧InR o.n)∧q3C g [a,b,d] o.config:=by
 intro fuel cs x h
 obtain⟨hl,hg⟩:=qFK (l:=[(0,1,quA),(1,1,qWC),(2,1,qWC),(3,1,qWC),(4,1,quA),(5,1,quA),(6,1,quA),(7,3,qaD)]) (by kernel_rfl) h
 rw [show Tryz.prog.cellsOf qlM=10 by kernel_rfl] at hl
 match cs,hl with
 | [c0,c1,c2,c3,c4,c5,c6,d0,d1,d2],_ =>
  obtain⟨s0,e0,w0⟩:=(qDD (by kernel_rfl)).fld (hg 0 _ _ _ rfl)
  obtain⟨s1,e1⟩:=(qdE (by kernel_rfl)).fld (hg 1 _ _ _ rfl)
  obtain⟨s2,e2⟩:=(qdE (by kernel_rfl)).fld (hg 2 _ _ _ rfl)
  obtain⟨s3,e3⟩:=(qdE (by kernel_rfl)).fld (hg 3 _ _ _ rfl)
  obtain⟨s4,e4,w4⟩:=(qDD (by kernel_rfl)).fld (hg 4 _ _ _ rfl)
  obtain⟨s5,e5,w5⟩:=(qDD (by kernel_rfl)).fld (hg 5 _ _ _ rfl)
  obtain⟨s6,e6,w6⟩:=(qDD (by kernel_rfl)).fld (hg 6 _ _ _ rfl)
  obtain⟨s7,e7⟩:=(qtL (enc:=enc)).fld (hg 7 _ _ _ rfl)
  cases e0;cases e1;cases e2;cases e3;cases e4;cases e5;cases e6
  exact⟨⟨s0,s1,s2,s3,s4,s5,s6,s7⟩,_,_,_,rfl,⟨w0,w4,w5,w6⟩,e7⟩
end
end Go.Proofs.YtompjkkgaafllaaGreat
