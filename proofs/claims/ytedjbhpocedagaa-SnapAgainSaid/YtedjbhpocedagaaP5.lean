/- Whether a configuration may be: plain words, and what follows. -/
import Derived.Test.YtedjbhpocedagaaP4
import Derived.Test.YtedjbhpocedagaaD2
namespace Go.Proofs.Ytedjbhpocedagaa.Sx
def hasS (l : List BA) (s : BA) : Bool := l.any fun x => bs x == bs s
def hasC (l : List Cluster) (s : BA) : Bool := l.any fun x => bs x.name == bs s
def eqRt (q r : Route) : Bool := bs q.listen == bs r.listen && bs q.host == bs r.host && bs q.path == bs r.path
abbrev EI := Int × Int
def sizeE (c : Config) : Option EI := if (1 ≤ c.listens.length ∧ c.listens.length ≤ 4) ∧ (1 ≤ c.routes.length ∧ c.routes.length ≤ 8) ∧ (1 ≤ c.clusters.length ∧ c.clusters.length ≤ 4) then none else some (6, 0)
def listenF (l : List BA) (i : Nat) (s : BA) : Option EI := if nameB (bs s) then (if hasS (l.take i) s then some (4, i) else none) else some (3, i)
def listensE (c : Config) : Option EI := firstF (listenF c.listens) 0 c.listens
def clusterF (l : List Cluster) (i : Nat) (x : Cluster) : Option EI :=
  if nameB (bs x.name) then (if hasC (l.take i) x.name then some (4, i) else if x.policy = 1 ∨ x.policy = 2 then (if 1 ≤ x.slots ∧ x.slots ≤ 4 then (if 1 ≤ x.health.length ∧ x.health.length ≤ 4 then none else some (6, i)) else some (10, i)) else some (9, i)) else some (3, i)
def clustersE (c : Config) : Option EI := firstF (clusterF c.clusters) 0 c.clusters
def routeF (c : Config) (i : Nat) (r : Route) : Option EI :=
  if hasS c.listens r.listen then (if patternB (bs r.host) then (if pathB (bs r.path) then (if hasC c.clusters r.cluster then (if (c.routes.take i).any fun q => eqRt q r then some (4, i) else none) else some (5, i)) else some (8, i)) else some (7, i)) else some (5, i)
def routesE (c : Config) : Option EI := firstF (routeF c) 0 c.routes
/-- The first error, and the number of the part that it is of. -/
def checkE (c : Config) : Option EI := match sizeE c with
  | some e => some e
  | none => match listensE c with
    | some e => some e
    | none => match clustersE c with
      | some e => some e
      | none => routesE c
def eiT : Option EI → Value
  | none => .tuple #[.int .i64 0, .int .i64 0]
  | some (e, i) => .tuple #[.int .i64 e, .int .i64 i]
theorem firstF_none {α β : Type} {f : Nat → α → Option β} {l : List α} : firstF f 0 l = none ↔ ∀ (i : Nat) x, l[i]? = some x → f i x = none := by
  constructor
  · intro h i
    induction i using Nat.strongRecOn with
    | ind i ih =>
      intro x hx
      cases hf : f i x with
      | none => rfl
      | some b =>
        have := Pass.hit (f := f) (l := l) (i := i) (fun j hj y hy => ih j hj y hy) hx hf
        rw [this] at h; cases h
  · intro h
    exact Pass.done (i := l.length) (fun j _ x hx => h j x hx) (Nat.le_refl _)
theorem firstF_some {α β : Type} {f : Nat → α → Option β} {l : List α} {b : β} (h : firstF f 0 l = some b) : ∃ (i : Nat) (x : α), l[i]? = some x ∧ f i x = some b := by
  have gen : ∀ {l : List α} {k : Nat}, firstF f k l = some b → ∃ (i : Nat) (x : α), l[i]? = some x ∧ f (k + i) x = some b := by
    intro l
    induction l with
    | nil => intro k h; simp [firstF] at h
    | cons x r ih =>
      intro k h
      simp only [firstF] at h
      split at h
      · rename_i c hc
        simp only [Option.some.injEq] at h
        subst h
        exact ⟨0, x, rfl, hc⟩
      · obtain ⟨i, y, h1, h2⟩ := ih h
        exact ⟨i + 1, y, by simpa using h1, by rwa [show k + (i + 1) = k + 1 + i by omega]⟩
  obtain ⟨i, x, h1, h2⟩ := gen h
  exact ⟨i, x, h1, by rwa [Nat.zero_add] at h2⟩
/-- Every error has a number that is not 0, and a place in range. -/
theorem checkE_ne {c : Config} {e i : Int} (h : checkE c = some (e, i)) : 3 ≤ e ∧ e ≤ 10 ∧ 0 ≤ i := by
  unfold checkE at h
  split at h
  · rename_i x hx
    simp only [Option.some.injEq] at h; subst h
    unfold sizeE at hx
    split at hx
    · cases hx
    · simp at hx; omega
  · split at h
    · rename_i x hx
      simp only [Option.some.injEq] at h; subst h
      obtain ⟨j, y, _, hy⟩ := firstF_some hx
      unfold listenF at hy
      (repeat' (split at hy)) <;> simp at hy <;> omega
    · split at h
      · rename_i x hx
        simp only [Option.some.injEq] at h; subst h
        obtain ⟨j, y, _, hy⟩ := firstF_some hx
        unfold clusterF at hy
        (repeat' (split at hy)) <;> simp at hy <;> omega
      · obtain ⟨j, y, _, hy⟩ := firstF_some h
        unfold routeF at hy
        (repeat' (split at hy)) <;> simp at hy <;> omega
/-- No part is there twice, ahead of it. -/
def Uniq {α : Type} (f : α → α → Bool) (l : List α) : Prop := ∀ (i j : Nat) x y, i < j → l[i]? = some x → l[j]? = some y → f x y = false
theorem any_take {α : Type} {f : α → Bool} {l : List α} {i : Nat} : (l.take i).any f = false ↔ ∀ (j : Nat) x, j < i → l[j]? = some x → f x = false := by
  rw [List.any_eq_false]
  constructor
  · intro h j x hj hx
    have : (l.take i)[j]? = some x := by rw [List.getElem?_take, if_pos hj]; exact hx
    simpa using h x (List.mem_of_getElem? this)
  · intro h x hx
    obtain ⟨j, hj⟩ := List.getElem?_of_mem hx
    rw [List.getElem?_take] at hj
    split at hj
    · rename_i hlt; simpa using h j x hlt hj
    · cases hj
structure GoodC (c : Config) : Prop where
  size : (1 ≤ c.listens.length ∧ c.listens.length ≤ 4) ∧ (1 ≤ c.routes.length ∧ c.routes.length ≤ 8) ∧ (1 ≤ c.clusters.length ∧ c.clusters.length ≤ 4)
  ln : ∀ s ∈ c.listens, nameB (bs s) = true
  lu : Uniq (fun x y => bs x == bs y) c.listens
  cl : ∀ x ∈ c.clusters, nameB (bs x.name) = true ∧ (x.policy = 1 ∨ x.policy = 2) ∧ (1 ≤ x.slots ∧ x.slots ≤ 4) ∧ (1 ≤ x.health.length ∧ x.health.length ≤ 4)
  cu : Uniq (fun (x y : Cluster) => bs x.name == bs y.name) c.clusters
  rt : ∀ r ∈ c.routes, hasS c.listens r.listen = true ∧ patternB (bs r.host) = true ∧ pathB (bs r.path) = true ∧ hasC c.clusters r.cluster = true
  ru : Uniq eqRt c.routes
theorem listensE_none {c : Config} : listensE c = none ↔ (∀ s ∈ c.listens, nameB (bs s) = true) ∧ Uniq (fun x y => bs x == bs y) c.listens := by
  unfold listensE
  rw [firstF_none]
  constructor
  · intro h
    refine ⟨fun s hs => ?_, fun i j x y hij hx hy => ?_⟩
    · obtain ⟨i, hi⟩ := List.getElem?_of_mem hs
      have := h i s hi
      unfold listenF at this
      split at this
      · assumption
      · cases this
    · have := h j y hy
      unfold listenF at this
      split at this
      · split at this
        · cases this
        · rename_i hn
          exact any_take.1 ((Bool.not_eq_true _).mp hn) i x hij hx
      · cases this
  · rintro ⟨h1, h2⟩ i x hx
    unfold listenF
    rw [if_pos (h1 x (List.mem_of_getElem? hx)), if_neg]
    have : hasS (c.listens.take i) x = false := any_take.2 fun j y hj hy => h2 j i y x hj hy hx
    rw [this]; simp
theorem clustersE_none {c : Config} : clustersE c = none ↔ (∀ x ∈ c.clusters, nameB (bs x.name) = true ∧ (x.policy = 1 ∨ x.policy = 2) ∧ (1 ≤ x.slots ∧ x.slots ≤ 4) ∧ (1 ≤ x.health.length ∧ x.health.length ≤ 4)) ∧ Uniq (fun (x y : Cluster) => bs x.name == bs y.name) c.clusters := by
  unfold clustersE
  rw [firstF_none]
  constructor
  · intro h
    refine ⟨fun s hs => ?_, fun i j x y hij hx hy => ?_⟩
    · obtain ⟨i, hi⟩ := List.getElem?_of_mem hs
      have := h i s hi
      unfold clusterF at this
      (repeat' (split at this)) <;> first | (cases this; done) | (exact ⟨by assumption, by assumption, by assumption, by assumption⟩)
    · have := h j y hy
      unfold clusterF at this
      split at this
      · split at this
        · cases this
        · rename_i hn
          exact any_take.1 ((Bool.not_eq_true _).mp hn) i x hij hx
      · cases this
  · rintro ⟨h1, h2⟩ i x hx
    obtain ⟨k1, k2, k3, k4⟩ := h1 x (List.mem_of_getElem? hx)
    unfold clusterF
    have : hasC (c.clusters.take i) x.name = false := any_take.2 fun j y hj hy => h2 j i y x hj hy hx
    rw [if_pos k1, this, if_neg (by simp), if_pos k2, if_pos k3, if_pos k4]
theorem routesE_none {c : Config} : routesE c = none ↔ (∀ r ∈ c.routes, hasS c.listens r.listen = true ∧ patternB (bs r.host) = true ∧ pathB (bs r.path) = true ∧ hasC c.clusters r.cluster = true) ∧ Uniq eqRt c.routes := by
  unfold routesE
  rw [firstF_none]
  constructor
  · intro h
    refine ⟨fun s hs => ?_, fun i j x y hij hx hy => ?_⟩
    · obtain ⟨i, hi⟩ := List.getElem?_of_mem hs
      have := h i s hi
      unfold routeF at this
      (repeat' (split at this)) <;> first | (cases this; done) | (exact ⟨by assumption, by assumption, by assumption, by assumption⟩)
    · have := h j y hy
      unfold routeF at this
      (repeat' (split at this)) <;> first | (cases this; done) | skip
      rename_i hn
      exact any_take.1 (by simpa using hn) i x hij hx
  · rintro ⟨h1, h2⟩ i x hx
    obtain ⟨k1, k2, k3, k4⟩ := h1 x (List.mem_of_getElem? hx)
    unfold routeF
    have : (c.routes.take i).any (fun q => eqRt q x) = false := any_take.2 fun j y hj hy => h2 j i y x hj hy hx
    rw [if_pos k1, if_pos k2, if_pos k3, if_pos k4, this, if_neg (by simp)]
theorem good_iff {c : Config} : checkE c = none ↔ GoodC c := by
  unfold checkE
  constructor
  · intro h
    split at h
    · cases h
    · rename_i h1
      split at h
      · cases h
      · rename_i h2
        split at h
        · cases h
        · rename_i h3
          obtain ⟨a1, a2⟩ := listensE_none.1 h2
          obtain ⟨b1, b2⟩ := clustersE_none.1 h3
          obtain ⟨c1, c2⟩ := routesE_none.1 h
          refine ⟨?_, a1, a2, b1, b2, c1, c2⟩
          unfold sizeE at h1
          split at h1
          · assumption
          · cases h1
  · intro h
    have h1 : sizeE c = none := by unfold sizeE; rw [if_pos h.size]
    rw [h1, listensE_none.2 ⟨h.ln, h.lu⟩, clustersE_none.2 ⟨h.cl, h.cu⟩]
    exact routesE_none.2 ⟨h.rt, h.ru⟩
theorem Uniq.take {α : Type} {f : α → α → Bool} {l : List α} (h : Uniq f l) (k : Nat) : Uniq f (l.take k) := fun i j x y hij hx hy => by
  rw [List.getElem?_take] at hx hy
  split at hx
  · split at hy
    · exact h i j x y hij hx hy
    · cases hy
  · cases hx
/-- Without its last routes. -/
theorem good_less {c : Config} (h : GoodC c) {k : Nat} (hk : 1 ≤ k) (hk2 : k ≤ c.routes.length) : GoodC { c with routes := c.routes.take k } where
  size := by
    have := h.size
    refine ⟨h.size.1, ⟨?_, ?_⟩, h.size.2.2⟩ <;> (show _ ≤ _; simp only [List.length_take]; omega)
  ln := h.ln
  lu := h.lu
  cl := h.cl
  cu := h.cu
  rt := fun r hr => h.rt r (List.mem_of_mem_take hr)
  ru := h.ru.take k
theorem Uniq.rev {α : Type} {f : α → α → Bool} (hf : ∀ x y, f x y = f y x) {l : List α} (h : Uniq f l) : Uniq f l.reverse := fun i j x y hij hx hy => by
  have hi := (List.getElem?_eq_some_iff.1 hx).1
  have hj := (List.getElem?_eq_some_iff.1 hy).1
  simp only [List.length_reverse] at hi hj
  rw [List.getElem?_reverse (by omega)] at hx hy
  rw [hf]
  exact h _ _ y x (by omega) hy hx
theorem eqRt_symm (q r : Route) : eqRt q r = eqRt r q := by
  have : ∀ a b : List UInt8, (a == b) = (b == a) := fun a b => by rw [Bool.eq_iff_iff]; simp only [beq_iff_eq]; exact ⟨Eq.symm, Eq.symm⟩
  unfold eqRt; rw [this (bs q.listen), this (bs q.host), this (bs q.path)]
theorem beqL_symm (a b : List UInt8) : (a == b) = (b == a) := by rw [Bool.eq_iff_iff]; simp only [beq_iff_eq]; exact ⟨Eq.symm, Eq.symm⟩
def revC (c : Config) : Config := ⟨c.listens.reverse, c.routes.reverse, c.clusters.reverse⟩
theorem good_rev1 {c : Config} (h : GoodC c) : GoodC (revC c) where
  size := by simpa [revC] using h.size
  ln := fun s hs => h.ln s (by simpa [revC] using hs)
  lu := h.lu.rev fun x y => beqL_symm _ _
  cl := fun x hx => h.cl x (by simpa [revC] using hx)
  cu := h.cu.rev fun x y => beqL_symm _ _
  rt := fun r hr => by
    obtain ⟨h1, h2, h3, h4⟩ := h.rt r (by simpa [revC] using hr)
    exact ⟨by simpa [revC, hasS] using h1, h2, h3, by simpa [revC, hasC] using h4⟩
  ru := h.ru.rev eqRt_symm
theorem good_rev (c : Config) : GoodC (revC c) ↔ GoodC c := ⟨fun h => by have := good_rev1 h; simpa [revC] using this, good_rev1⟩
/-- A listener more that is there. -/
theorem twice_listen {c : Config} (h : GoodC c) {s : BA} (hs : s ∈ c.listens) : checkE { c with listens := c.listens ++ [s] } = if c.listens.length = 4 then some ((6, 0) : EI) else some ((4, c.listens.length) : EI) := by
  unfold checkE
  by_cases h4 : c.listens.length = 4
  · have : sizeE { c with listens := c.listens ++ [s] } = some (6, 0) := by
      unfold sizeE
      rw [if_neg]
      simp [h4]
    rw [this, if_pos h4]
  · have h1 : sizeE { c with listens := c.listens ++ [s] } = none := by
      unfold sizeE
      rw [if_pos]
      have := h.size
      simp; omega
    have h2 : listensE { c with listens := c.listens ++ [s] } = some ((4, c.listens.length) : EI) := by
      refine Pass.hit (i := c.listens.length) (x := s) (fun j hj x hx => ?_) (by simp) ?_
      · rw [List.getElem?_append_left hj] at hx
        have := firstF_none.1 (listensE_none.2 ⟨h.ln, h.lu⟩) j x hx
        unfold listenF at this ⊢
        rwa [List.take_append_of_le_length (by omega)]
      · unfold listenF
        rw [if_pos (h.ln s hs), if_pos]
        rw [List.take_left']
        · exact List.any_eq_true.2 ⟨s, hs, by simp⟩
        · rfl
    rw [h1, h2, if_neg h4]
/-- A route more that is there. -/
theorem twice_route {c : Config} (h : GoodC c) {r : Route} (hr : r ∈ c.routes) : checkE { c with routes := c.routes ++ [r] } = if c.routes.length = 8 then some ((6, 0) : EI) else some ((4, c.routes.length) : EI) := by
  unfold checkE
  by_cases h4 : c.routes.length = 8
  · have : sizeE { c with routes := c.routes ++ [r] } = some (6, 0) := by
      unfold sizeE
      rw [if_neg]
      simp [h4]
    rw [this, if_pos h4]
  · have h1 : sizeE { c with routes := c.routes ++ [r] } = none := by
      unfold sizeE
      rw [if_pos]
      have := h.size
      simp; omega
    have h2 : listensE { c with routes := c.routes ++ [r] } = none := listensE_none.2 ⟨h.ln, h.lu⟩
    have h3 : clustersE { c with routes := c.routes ++ [r] } = none := clustersE_none.2 ⟨h.cl, h.cu⟩
    have h5 : routesE { c with routes := c.routes ++ [r] } = some ((4, c.routes.length) : EI) := by
      refine Pass.hit (i := c.routes.length) (x := r) (fun j hj x hx => ?_) (by simp) ?_
      · rw [List.getElem?_append_left hj] at hx
        have := firstF_none.1 (routesE_none.2 ⟨h.rt, h.ru⟩) j x hx
        unfold routeF at this ⊢
        rwa [List.take_append_of_le_length (by omega)]
      · obtain ⟨k1, k2, k3, k4⟩ := h.rt r hr
        unfold routeF
        rw [if_pos k1, if_pos k2, if_pos k3, if_pos k4, if_pos]
        rw [List.take_left']
        · exact List.any_eq_true.2 ⟨r, hr, by simp [eqRt]⟩
        · rfl
    rw [h1, h2, h3, h5, if_neg h4]
end Go.Proofs.Ytedjbhpocedagaa.Sx
