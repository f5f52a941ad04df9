/- qoA laws of collectors: what is due; a whole collect's world. -/
import Derived.Test.YtkbbljngpglnkaaGreatPl
set_option linter.unusedVariables false
set_option linter.unusedSimpArgs false
namespace Go.Proofs.YtkbbljngpglnkaaGreat.Sx
def dueR (r:Retired) (n:Int):Bool:=!r.gone&&decide (qlG r.at_ n)
def dueT (l:List Retired) (n:Int):Nat→List Int
 | 0=>[]
 | k+1=>dueT l n k++match l[k]? with
  | some r=>if dueR r n then [(k:Int)] else []
  | none=>[]
theorem qtL (l:List Retired) (n:Int):∀ k,(dueT l n k).length≤k
 | 0=>Nat.le_refl _
 | k+1=>by
  have:=qtL l n k
  unfold dueT
  rw [List.length_append]
  split
  ·split
   ·simp;omega
   ·simp;omega
  ·simp;omega
theorem qsL {l:List Retired} {n:Int} {i:Nat}:∀ k,(i:Int)∈dueT l n k↔i<k∧∃ r,l[i]?=some r∧dueR r n=true
 | 0=>by simp [dueT]
 | k+1=>by
  unfold dueT
  rw [List.mem_append,qsL k]
  constructor
  ·rintro(⟨h1,h2⟩|h)
   ·exact⟨by omega,h2⟩
   ·cases hk:l[k]? with
    | none=>rw [hk] at h;simp at h
    | some r =>
     rw [hk] at h
     simp only at h
     cases hd:dueR r n with
     | false=>rw [hd] at h;simp at h
     | true =>
      rw [hd] at h
      have:i=k:=by simp at h;omega
      subst this
      exact⟨by omega,r,hk,hd⟩
  ·rintro⟨h1,r,h2,h3⟩
   by_cases hik:i=k
   ·subst hik
    right
    rw [h2]
    simp [h3]
   ·exact .inl ⟨by omega,r,h2,h3⟩
theorem qkO {l:List Retired} {n:Int}:∀ k,∀ x∈dueT l n k,0≤x∧x<k
 | 0=>fun x h=>by cases h
 | k+1=>fun x h=>by
  unfold dueT at h
  rcases List.mem_append.1 h with h|h
  ·have:=qkO k x h;omega
  ·split at h
   ·split at h
    ·simp at h;omega
    ·simp at h
   ·simp at h
theorem qZP (w:Wd) (i:Nat):KeepC w (qnF w i):=by
 unfold qnF
 split
 ·split
  ·rename_i v hv
   exact KeepC.free hv _
  ·exact KeepC.refl w
 ·exact KeepC.refl w
theorem qeN (e:Int) (w:Wd) (i:Nat):KeepC w (qjB e w i):=by
 unfold qjB
 split
 ·exact qZP w i
 ·exact KeepC.refl w
theorem qbF (e:Int) (w:Wd):∀ j,KeepC w (retK e w j)
 | 0=>KeepC.refl w
 | j+1=>(qbF e w j).trans (qeN e _ j)
theorem q4M {v v':Version} (h:v'.groups=v.groups):q3A v'=q3A v:=by unfold q3A;rw [h]
theorem q6M {e:Int} {w w':Wd} (h:KeepC w w') (hl:w'.versions.length=w.versions.length) {i:Nat} (hi:w'.limbo[i]?=w.limbo[i]?):dueV e w' i=dueV e w i:=by
 unfold dueV
 rw [hi]
 split
 ·rename_i r hr
  cases hv:w.versions[r.version.toNat]? with
  | none =>
   have:w'.versions[r.version.toNat]?=none:=by rw [List.getElem?_eq_none_iff] at hv ⊢;omega
   rw [this]
  | some v =>
   obtain⟨v',h1,h2,_⟩:=h.ver _ v hv
   rw [h1]
   simp only
   unfold qhJ
   rw [q4M h2]
 ·rfl
theorem qcQ (w:Wd) (i j:Nat):(qnF w i).limbo[j]?=if j=i then (w.limbo[i]?).map (fun r=>if (w.versions[r.version.toNat]?).isSome then {r with gone:=true} else r) else w.limbo[j]?:=by
 unfold qnF
 split
 ·rename_i r hr
  split
  ·rename_i v hv
   show(w.limbo.set i _)[j]?=_
   rw [List.getElem?_set]
   by_cases h:i=j
   ·subst h
    rw [if_pos rfl,if_pos rfl,if_pos (List.getElem?_eq_some_iff.1 hr).1,hr]
    simp only [Option.map_some,hv,Option.isSome_some,if_true]
   ·rw [if_neg h,if_neg (Ne.symm h)]
  ·rename_i hv
   by_cases h:j=i
   ·subst h;rw [if_pos rfl,hr];simp only [Option.map_some,hv,Option.isSome_none];rfl
   ·rw [if_neg h]
 ·rename_i hr
  by_cases h:j=i
  ·subst h;rw [if_pos rfl,hr];rfl
  ·rw [if_neg h]
theorem q9K (e:Int) (w:Wd):∀ (j i:Nat),(retK e w j).limbo[i]?=if i<j then (w.limbo[i]?).map (fun r=>if dueV e w i then {r with gone:=true} else r) else w.limbo[i]?
 | 0,i=>by simp [retK]
 | j+1,i=>by
  have ih:=q9K e w j
  have hjj:(retK e w j).limbo[j]?=w.limbo[j]?:=by rw [ih j,if_neg (by omega)]
  have hdj:dueV e (retK e w j) j=dueV e w j:=q6M (qbF e w j) (qPD e w j).2.2.2.2.2.2.2 hjj
  show(qjB e (retK e w j) j).limbo[i]?=_
  unfold qjB
  rw [hdj]
  by_cases hd:dueV e w j=true
  ·rw [if_pos hd,qcQ,hjj]
   by_cases hij:i=j
   ·subst hij
    rw [if_pos rfl,if_pos (by omega)]
    unfold dueV at hd
    cases hl:w.limbo[i]? with
    | none=>rw [hl] at hd;cases hd
    | some r =>
     rw [hl] at hd
     simp only at hd
     cases hv:w.versions[r.version.toNat]? with
     | none=>rw [hv] at hd;cases hd
     | some v =>
      obtain⟨v',h1,_⟩:=(qbF e w i).ver _ v hv
      have hd2:dueV e w i=true:=by unfold dueV;rw [hl];simp only;rw [hv];rw [hv] at hd;exact hd
      simp only [h1,Option.map_some,hd2,if_true,Option.isSome_some]
   ·rw [if_neg hij,ih i]
    by_cases h2:i<j
    ·rw [if_pos h2,if_pos (by omega)]
    ·rw [if_neg h2,if_neg (by omega)]
  ·have hd:dueV e w j=false:=by simpa using hd
   rw [hd,if_neg (by decide),ih i]
   by_cases hij:i=j
   ·subst hij
    rw [if_neg (by omega),if_pos (by omega),hd]
    cases w.limbo[i]?<;>simp
   ·by_cases h2:i<j
    ·rw [if_pos h2,if_pos (by omega)]
    ·rw [if_neg h2,if_neg (by omega)]
def cntD (e:Int) (w:Wd):Nat→Nat
 | 0=>0
 | j+1=>cntD e w j+if dueV e w j then 1 else 0
theorem qCS (e:Int) (w:Wd):∀ j,cntK e w j=cntD e w j
 | 0=>rfl
 | j+1=>by
  have hjj:(retK e w j).limbo[j]?=w.limbo[j]?:=by rw [q9K e w j j,if_neg (by omega)]
  have hdj:dueV e (retK e w j) j=dueV e w j:=q6M (qbF e w j) (qPD e w j).2.2.2.2.2.2.2 hjj
  show cntK e w j+_=cntD e w j+_
  rw [qCS e w j,hdj]
theorem qlQ (e:Int) (w:Wd):∀ j,cntD e w j≤j
 | 0=>Nat.le_refl _
 | j+1=>by
  have:=qlQ e w j
  unfold cntD
  split<;>omega
theorem qGH (w:Wd):(qZC w).limbo=w.limbo∧(qZC w).versions=w.versions∧(qZC w).listens=w.listens∧(qZC w).pins=w.pins∧(qZC w).current=w.current∧(qZC w).counts=w.counts∧(qZC w).epoch=nowE w:=by
 unfold qZC upW nowE upI
 split<;>exact⟨rfl,rfl,rfl,rfl,rfl,rfl,rfl⟩
theorem qBS (e:Int) (w:Wd) (i:Nat):dueV e (qZC w) i=dueV e w i:=by
 obtain⟨h1,h2,h3,h4,h5,_⟩:=qGH w
 unfold dueV
 rw [h1,h2]
theorem qDS (e:Int) (w:Wd):∀ j,cntD e (qZC w) j=cntD e w j
 | 0=>rfl
 | j+1=>by
  show cntD e (qZC w) j+_=cntD e w j+_
  rw [qDS e w j,qBS]
theorem qyS (w:Wd):colN w=cntD (nowE w) w w.limbo.length:=by
 unfold colN
 rw [qCS,qDS]
theorem qmO (w:Wd):(colW w).epoch=nowE w∧(colW w).lock=0∧(colW w).limbo.length=w.limbo.length∧(colW w).versions.length=w.versions.length∧(colW w).listens=w.listens.map qjD∧(colW w).pins=w.pins ∧
  (∀ i:Nat,(colW w).limbo[i]?=(w.limbo[i]?).map fun r=>if dueV (nowE w) w i then {r with gone:=true} else r):=by
 obtain⟨h1,h2,h3,h4,h5,h6,h7⟩:=qGH w
 obtain⟨q1,q2,q3,q4,q5,q6,q7,q8⟩:=qPD (nowE w) (qZC w) w.limbo.length
 refine⟨q1.trans h7,rfl,by rw [← h1];exact q7,by rw [← h2];exact q8,rfl,q4.trans h4,fun i=>?_⟩
 show(retK (nowE w) (qZC w) w.limbo.length).limbo[i]?=_
 rw [q9K,h1,qBS]
 by_cases hi:i<w.limbo.length
 ·rw [if_pos hi]
 ·rw [if_neg hi]
  have:w.limbo[i]?=none:=by rw [List.getElem?_eq_none_iff];omega
  rw [this];rfl
theorem qjQ (w:Wd):KeepC w (colW w):=by
 obtain⟨h1,h2,h3,h4,h5,h6,h7⟩:=qGH w
 obtain⟨p1,p2,p3,p4⟩:=qbF (nowE w) (qZC w) w.limbo.length
 refine⟨p1.trans h4,by show(w.listens.map qjD).length=_;rw [List.length_map],p3.trans h5,fun i v hv=>p4 i v (by rw [h2];exact hv)⟩
end Go.Proofs.YtkbbljngpglnkaaGreat.Sx
namespace Go.Proofs.YtkbbljngpglnkaaGreat.Sx
def isB (l:List Int) (k:Int) (j:Nat):Bool:=(l.take j).any fun x=>x==k
theorem qhR {l:List Int} {k x:Int} {j:Nat} (h:l[j]?=some x):isB l k (j+1)=(isB l k j||x==k):=by
 unfold isB
 rw [List.take_add_one,h,List.any_append];simp
theorem qtS {w:Wd} {e:Int} {i:Nat} {r:Retired} (h:w.limbo[i]?=some r):isB (dueT w.limbo e w.limbo.length) i (dueT w.limbo e w.limbo.length).length=dueR r e:=by
 unfold isB
 rw [List.take_length,Bool.eq_iff_iff,List.any_eq_true]
 constructor
 ·rintro⟨x,hx,he⟩
  have he:x=(i:Int):=by simpa using he
  subst he
  obtain⟨_,r',h1,h2⟩:=(qsL _).1 hx
  rw [h] at h1;cases h1
  exact h2
 ·intro hd
  exact⟨(i:Int),(qsL _).2 ⟨(List.getElem?_eq_some_iff.1 h).1,r,h,hd⟩,by simp⟩
theorem qvS {w:Wd} {e:Int} {i:Nat} {r:Retired} {v:Version} (h:w.limbo[i]?=some r) (hv:w.versions[r.version.toNat]?=some v):dueV e w i=(dueR r e&&qhJ v):=by
 unfold dueV dueR
 rw [h];simp only
 rw [hv];simp [Bool.and_assoc]
end Go.Proofs.YtkbbljngpglnkaaGreat.Sx
