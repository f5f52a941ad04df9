/- qGB laws of requests: the counts at the end, and their sum. -/
import Derived.Test.YthonngjhelcpeaaGreatPP40
import Derived.Test.YthonngjhelcpeaaGreatPl
set_option linter.unusedVariables false
set_option linter.unusedSimpArgs false
namespace Go.Proofs.YthonngjhelcpeaaGreat.Sx
def colN (rows:List (List Int)):Nat→Nat→Int
 | 0,_=>0
 | n+1,k=>colN rows n k+qND rows n k
theorem qWJ (x:Int):wU x=x % 18446744073709551616:=by show IntKind.u64.wrap x=_;rw [IntKind.wrap_u64]
theorem qQT (a b:Int):wU (wU a+b)=wU (a+b):=by rw [qWJ,qWJ,qWJ];omega
theorem C6.get_set {c:C6} {x:Int} {j k:Nat} (hj:j<6) (hk:k<6):(c.set x j).get k=if k=j then x else c.get k:=by
 rcases(show j=0∨j=1∨j=2∨j=3∨j=4∨j=5 by omega) with rfl|rfl|rfl|rfl|rfl|rfl <;>
 rcases(show k=0∨k=1∨k=2∨k=3∨k=4∨k=5 by omega) with rfl|rfl|rfl|rfl|rfl|rfl<;>rfl
theorem qXP (rows:List (List Int)) (i:Nat):∀ j,j≤6→(∀ k,k<6→(qNC rows (6*i)).get k=wU (colN rows i k))→∀ k,k<6→(qNC rows (6*i+j)).get k=wU (colN rows (if k<j then i+1 else i) k)
 | 0,_,h,k,hk=>by rw [if_neg (by omega)];exact h k hk
 | j+1,hj,h,k,hk=>by
  have ih:=qXP rows i j (by omega) h
  rw [show 6*i+(j+1)=6*i+j+1 from rfl,qWD rows (by omega),C6.get_set (by omega) hk]
  by_cases hkj:k=j
  ·subst hkj
   rw [if_pos rfl,if_pos (by omega),ih k hk,if_neg (by omega)]
   show wU (wU (colN rows i k)+qND rows i k)=_
   rw [qQT];rfl
  ·rw [if_neg hkj,ih k hk]
   by_cases h2:k<j
   ·rw [if_pos h2,if_pos (by omega)]
   ·rw [if_neg h2,if_neg (by omega)]
theorem q0L (rows:List (List Int)):∀ i k,k<6→(qNC rows (6*i)).get k=wU (colN rows i k)
 | 0,k,hk=>by
  rcases(show k=0∨k=1∨k=2∨k=3∨k=4∨k=5 by omega) with rfl|rfl|rfl|rfl|rfl|rfl<;>(rw [qWJ];rfl)
 | i+1,k,hk=>by
  have h:=qXP rows i 6 (by omega) (fun k hk=>q0L rows i k hk) k hk
  rw [if_pos hk] at h
  exact h
theorem qIT {rows:List (List Int)} {t:Nat} {row:List Int} {j:Nat} {x:Int} (ht:rows[t]?=some row) (hj:j<row.length) (i k:Nat) :
  qND (rows.set t (row.set j x)) i k=if i=t∧k=j then x else qND rows i k:=by
 unfold qND
 have htl:t<rows.length:=(List.getElem?_eq_some_iff.1 ht).1
 by_cases hi:i=t
 ·subst hi
  rw [List.getElem?_set_self htl,ht]
  by_cases hk:k=j
  ·subst hk
   rw [if_pos ⟨rfl,rfl⟩]
   show((row.set k x)[k]?).getD 0=x
   rw [List.getElem?_set_self hj];rfl
  ·rw [if_neg (fun h=>hk h.2)]
   show((row.set j x)[k]?).getD 0=(row[k]?).getD 0
   rw [List.getElem?_set_ne (fun h=>hk h.symm)]
 ·rw [if_neg (fun h=>hi h.1),List.getElem?_set_ne (fun h=>hi h.symm)]
theorem qBS {rows:List (List Int)} {t:Nat} {row:List Int} {j:Nat} {x:Int} (ht:rows[t]?=some row) (hj:j<row.length) (k:Nat) :
  ∀ n,colN (rows.set t (row.set j x)) n k=colN rows n k+if t<n∧k=j then x-qND rows t j else 0
 | 0=>by rw [if_neg (by omega)];rfl
 | n+1=>by
  show colN (rows.set t (row.set j x)) n k+qND (rows.set t (row.set j x)) n k=colN rows n k+qND rows n k+_
  rw [qBS ht hj k n,qIT ht hj]
  by_cases hk:k=j
  ·subst hk
   by_cases h1:t<n
   ·rw [if_pos ⟨h1,rfl⟩,if_neg (by omega),if_pos ⟨by omega,rfl⟩];omega
   ·by_cases h2:n=t
    ·subst h2
     rw [if_neg (by omega),if_pos ⟨rfl,rfl⟩,if_pos ⟨by omega,rfl⟩];omega
    ·rw [if_neg (by omega),if_neg (by omega),if_neg (by omega)];omega
  ·rw [if_neg (fun h=>hk h.2),if_neg (fun h=>hk h.2),if_neg (fun h=>hk h.2)];omega
theorem qWT {w:Wd} {t:Int} {k:Int} (hs:q5B w.counts=true) (ht:t.toNat<w.counts.length) (hk:0≤k∧k<6) {j:Nat} (hj:j<6) :
  (qNC (addCnt w t k).counts (6*(addCnt w t k).counts.length)).get j=wU ((qNC w.counts (6*w.counts.length)).get j+if j=k.toNat then 1 else 0):=by
 obtain⟨row,hrow⟩:=qCA ht
 have h6:row.length=6:=by
  unfold q5B at hs
  simp only [Bool.and_eq_true,List.all_eq_true,decide_eq_true_eq] at hs
  exact hs.1.1 row (List.mem_of_getElem? hrow)
 show(qNC (w.counts.set t.toNat (((w.counts[t.toNat]?).getD []).set k.toNat (wU (cnt w t k+1)))) (6*(w.counts.set t.toNat _).length)).get j=_
 rw [hrow]
 show(qNC (w.counts.set t.toNat (row.set k.toNat (wU (cnt w t k+1)))) (6*(w.counts.set t.toNat _).length)).get j=_
 have hc:cnt w t k=qND w.counts t.toNat k.toNat:=rfl
 rw [List.length_set,q0L _ _ _ hj,q0L _ _ _ hj,qBS hrow (by omega),hc,qQT]
 by_cases hjk:j=k.toNat
 ·rw [if_pos ⟨ht,hjk⟩,if_pos hjk,qWJ,qWJ,qWJ];omega
 ·rw [if_neg (fun h=>hjk h.2),if_neg hjk]
theorem qcT {w:Wd} {t k:Int} (hs:q5B w.counts=true) (ht:t.toNat<w.counts.length):q5B (addCnt w t k).counts=true:=by
 obtain⟨row,hrow⟩:=qCA ht
 unfold q5B at hs ⊢
 simp only [Bool.and_eq_true,List.all_eq_true,decide_eq_true_eq,List.length_set] at hs ⊢
 refine⟨⟨fun r hr=>?_,hs.1.2⟩,hs.2⟩
 rcases List.mem_or_eq_of_mem_set hr with hr|rfl
 ·exact hs.1.1 r hr
 ·rw [hrow]
  show(row.set _ _).length=6
  rw [List.length_set]
  exact hs.1.1 row (List.mem_of_getElem? hrow)
theorem qOT {w:Wd} {m m1 m':Mach} {w1 x:Wd} (h:HMid w m w1 m1) (he:HEnd w1 m1 x m') (hk:1≤m1.answer.kind∧m1.answer.kind≤5) (hs:q5B w.counts=true) (ht:m.thread.toNat<w.counts.length) {j:Nat} (hj:j<6) :
  (qNC x.counts (6*x.counts.length)).get j=wU ((qNC w.counts (6*w.counts.length)).get j+(if j=m1.answer.kind.toNat then 1 else 0)+if j=0 then 1 else 0):=by
 have hkk:qzG m1=m1.answer.kind:=by unfold qzG;rw [if_pos hk]
 have ht1:m1.thread.toNat<w1.counts.length:=by rw [h.counts,h.thr];exact ht
 have hs1:q5B w1.counts=true:=by rw [h.counts];exact hs
 rw [he.counts,qWT (qcT hs1 ht1) (by rw [List.length_set];exact ht1) (by decide) hj,qWT hs1 ht1 (by rw [hkk];omega) hj,hkk,qQT,h.counts]
 rfl
theorem qzW {a b:C6} {k:Nat} (hk:1≤k∧k≤5) (hok:a.ok) (h:∀ j,j<6→b.get j=wU (a.get j+(if j=k then 1 else 0)+if j=0 then 1 else 0)):b=(a.set (wU (a.c0+1)) 0).set (wU (a.get k+1)) k:=by
 obtain⟨a0,a1,a2,a3,a4,a5⟩:=a
 obtain⟨b0,b1,b2,b3,b4,b5⟩:=b
 obtain⟨k0,k1,k2,k3,k4,k5⟩:=hok
 unfold InU at k0 k1 k2 k3 k4 k5
 have h0:=h 0 (by decide)
 have h1:=h 1 (by decide)
 have h2:=h 2 (by decide)
 have h3:=h 3 (by decide)
 have h4:=h 4 (by decide)
 have h5:=h 5 (by decide)
 clear h
 simp only [C6.get,qWJ] at h0 h1 h2 h3 h4 h5
 rcases(show k=1∨k=2∨k=3∨k=4∨k=5 by omega) with rfl|rfl|rfl|rfl|rfl<;>simp only [C6.set,C6.get,qWJ,C6.mk.injEq]<;>simp at h0 h1 h2 h3 h4 h5 k0 k1 k2 k3 k4 k5 ⊢<;>omega
theorem qKN {w:Wd} {m m1 m':Mach} {w1 x:Wd} (h:HMid w m w1 m1) (he:HEnd w1 m1 x m'):x.pins=w.pins.set m.thread.toNat 0:=by
 rw [he.pins,h.pins,h.thr,q1A]
end Go.Proofs.YthonngjhelcpeaaGreat.Sx
