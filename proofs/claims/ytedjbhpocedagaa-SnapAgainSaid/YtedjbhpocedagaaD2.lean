/- Slices of data: parts of them, their cells, and what is made of them. -/
import Derived.Test.YtedjbhpocedagaaD1
namespace Go.Proofs.Ytedjbhpocedagaa.Sx
open Go.RowKit
/-- All the cells of a slice of data. -/
theorem rSl_rdE {α : Type} {sz : Nat} {R : RP α} {g : GW} {oa : Option Addr} {n cap : Nat} {l : List α} (h : rSl sz R g (.slice oa n cap) l) :
    ∃ ecs : List (List Value), RdSl g sz (.slice oa n cap) l.length ecs.flatten ∧ ecs.length = l.length ∧ (∀ e ∈ ecs, e.length = sz) ∧ ∀ (i : Nat) x ec, l[i]? = some x → ecs[i]? = some ec → R g ec x := by
  obtain ⟨oa', cap', he, h2, h3, h4, h5⟩ := h
  simp only [Value.slice.injEq] at he
  obtain ⟨rfl, rfl, rfl⟩ := he
  have h6 : ∀ i : Fin l.length, ∃ ec : List Value, ec.length = sz ∧ R g ec l[i.1] ∧ ∃ a, oa = some a ∧ Rcs g (a.add (i.1 * sz)) ec := fun i => by
    obtain ⟨a, ha, ec, k1, k2, k3⟩ := h5 i.1 l[i.1] (List.getElem?_eq_getElem i.2)
    exact ⟨ec, k1, k2, a, ha, k3⟩
  let f : Fin l.length → List Value := fun i => Classical.choose (h6 i)
  have hf : ∀ i : Fin l.length, (f i).length = sz ∧ R g (f i) l[i.1] ∧ ∃ a, oa = some a ∧ Rcs g (a.add (i.1 * sz)) (f i) := fun i => Classical.choose_spec (h6 i)
  have hget : ∀ (i : Nat) (hi : i < l.length), (List.ofFn f)[i]? = some (f ⟨i, hi⟩) := fun i hi => by
    rw [List.getElem?_eq_getElem (by simpa using hi)]; simp
  have hsz : ∀ e ∈ List.ofFn f, e.length = sz := fun e he => by
    obtain ⟨i, hi⟩ := List.mem_ofFn.1 he
    rw [← hi]; exact (hf i).1
  refine ⟨List.ofFn f, ⟨?_, oa, cap, rfl, h2, h3, h4, fun j u hu => ?_⟩, by simp, hsz, fun i x ec hx hec => ?_⟩
  · rw [flatten_len hsz]; simp
  · have hlt := (List.getElem?_eq_some_iff.1 hu).1
    rw [flatten_len hsz] at hlt
    simp only [List.length_ofFn] at hlt
    have hpos : 0 < sz := by
      rcases Nat.eq_zero_or_pos sz with h0 | h0
      · rw [h0] at hlt; omega
      · exact h0
    have hi : j / sz < l.length := (Nat.div_lt_iff_lt_mul hpos).2 hlt
    have hm := Nat.mod_lt j hpos
    obtain ⟨k1, _, a, ha, k3⟩ := hf ⟨j / sz, hi⟩
    have hj : j / sz * sz + j % sz = j := by rw [Nat.mul_comm]; exact Nat.div_add_mod j sz
    have h7 : (f ⟨j / sz, hi⟩)[j % sz]? = some u := by
      obtain ⟨u', hu'⟩ : ∃ u', (f ⟨j / sz, hi⟩)[j % sz]? = some u' := ⟨_, List.getElem?_eq_getElem (by rw [k1]; exact hm)⟩
      have := flatten_at hsz (hget _ hi) hu'
      rw [hj, hu] at this
      rw [hu', this]
    refine ⟨a, ha, ?_⟩
    have := k3 _ u h7
    rwa [show ((a.add (j / sz * sz)).add (j % sz)) = a.add j by rw [add_add, hj]] at this
  · have hi := (List.getElem?_eq_some_iff.1 hx).1
    rw [hget i hi] at hec
    cases hec
    have := (hf ⟨i, hi⟩).2.1
    rw [List.getElem?_eq_getElem hi] at hx
    cases hx
    exact this
/-- Where a datum's cells are told by the datum. -/
theorem rSl_rd {α : Type} {sz : Nat} {R : RP α} {g : GW} {oa : Option Addr} {n cap : Nat} {l : List α} (h : rSl sz R g (.slice oa n cap) l) (f : α → List Value) (hf : ∀ cs x, R g cs x → cs = f x) : RdSl g sz (.slice oa n cap) l.length ((l.map f).flatten) := by
  obtain ⟨ecs, h1, h2, h3, h4⟩ := rSl_rdE h
  have : ecs = l.map f := by
    apply List.ext_getElem?
    intro i
    rw [List.getElem?_map]
    rcases Nat.lt_or_ge i l.length with hi | hi
    · obtain ⟨x, hx⟩ := getL_of hi
      obtain ⟨ec, hec⟩ := getL_of (show i < ecs.length by omega)
      rw [hx, hec, hf _ _ (h4 i x ec hx hec)]; rfl
    · rw [List.getElem?_eq_none (by omega), List.getElem?_eq_none (by omega)]; rfl
  rw [← this]; exact h1
theorem rSl_ofE {α : Type} {sz : Nat} {R : RP α} {g : GW} {v : Value} {n : Nat} {cs : List Value} (h : RdSl g sz v n cs) (l : List α) (f : α → List Value) (hcs : cs = (l.map f).flatten) (hl : l.length = n) (hsz : ∀ x ∈ l, (f x).length = sz) (hR : ∀ x ∈ l, R g (f x) x) : rSl sz R g v l := by
  refine rSl_of h l (l.map f) hcs (fun e he => ?_) hl (by simp) fun i x ec hx hec => ?_
  · obtain ⟨x, hx, rfl⟩ := List.mem_map.1 he; exact hsz x hx
  · rw [List.getElem?_map, hx] at hec
    cases hec
    exact hR x (List.mem_of_getElem? hx)
theorem rSl.take {α : Type} {sz : Nat} {R : RP α} {g : GW} {oa : Option Addr} {n cap : Nat} {l : List α} (h : rSl sz R g (.slice oa n cap) l) {k : Nat} (hk : k ≤ l.length) : rSl sz R g (.slice oa k cap) (l.take k) := by
  obtain ⟨oa', cap', he, h2, h3, h4, h5⟩ := h
  simp only [Value.slice.injEq] at he
  obtain ⟨rfl, rfl, rfl⟩ := he
  have hl : (l.take k).length = k := by simp; omega
  refine ⟨oa, cap, by rw [hl], by omega, h3, fun h => ⟨by have := (h4 h).1; omega, (h4 h).2⟩, fun i x hx => ?_⟩
  rw [List.getElem?_take] at hx
  split at hx
  · exact h5 i x hx
  · cases hx
theorem rSl.drop {α : Type} {sz : Nat} {R : RP α} {g : GW} {oa : Option Addr} {n cap : Nat} {l : List α} (h : rSl sz R g (.slice oa n cap) l) {k : Nat} (hk : k ≤ l.length) :
    rSl sz R g (.slice (if cap = k then oa else oa.map (·.add (k * sz))) (n - k) (cap - k)) (l.drop k) := by
  obtain ⟨oa', cap', he, h2, h3, h4, h5⟩ := h
  simp only [Value.slice.injEq] at he
  obtain ⟨rfl, rfl, rfl⟩ := he
  refine ⟨_, cap - k, by rw [List.length_drop], by rw [List.length_drop]; omega, by omega, fun h => ?_, fun i x hx => ?_⟩
  · have : oa = none := by
      split at h
      · exact h
      · cases oa with
        | none => rfl
        | some a => cases h
    have := h4 this
    rw [List.length_drop]; omega
  · rw [List.getElem?_drop] at hx
    obtain ⟨a, rfl, ec, k1, k2, k3⟩ := h5 (k + i) x hx
    have hi := (List.getElem?_eq_some_iff.1 hx).1
    rw [if_neg (by omega)]
    refine ⟨_, rfl, ec, k1, k2, ?_⟩
    rwa [add_add, show k * sz + i * sz = (k + i) * sz by rw [Nat.add_mul]]
theorem RdSl.take {g : GW} {sz n k cap : Nat} {oa : Option Addr} {cs : List Value} (h : RdSl g sz (.slice oa n cap) n cs) (hk : k ≤ n) : RdSl g sz (.slice oa k cap) k (cs.take (k * sz)) := by
  obtain ⟨h1, oa', cap', he, h2, h3, h4, h5⟩ := h
  simp only [Value.slice.injEq, true_and] at he
  obtain ⟨rfl, rfl⟩ := he
  have hm : k * sz ≤ n * sz := Nat.mul_le_mul_right _ hk
  refine ⟨by rw [List.length_take]; omega, oa, cap, rfl, by omega, h3, fun h => ⟨by have := (h4 h).1; omega, (h4 h).2⟩, fun i u hu => ?_⟩
  rw [List.getElem?_take] at hu
  split at hu
  · exact h5 i u hu
  · cases hu
/-! ### Places -/
def idxO {α : Type} (f : α → Bool) (l : List α) : Option Nat := firstF (fun i x => if f x then some i else none) 0 l
def idxI : Option Nat → Int
  | some i => i
  | none => -1
abbrev idxF {α : Type} (f : α → Bool) : Nat → α → Option Nat := fun i x => if f x then some i else none
theorem idxO_hit {α : Type} {f : α → Bool} {l : List α} {i : Nat} (h : Pass (idxF f) l i) {x : α} (hx : l[i]? = some x) (hf : f x = true) : idxI (idxO f l) = i := by
  have := h.hit hx (b := i) (by simp [idxF, hf])
  rw [show idxO f l = some i from this]; rfl
theorem idxO_miss {α : Type} {f : α → Bool} {l : List α} {i : Nat} (h : Pass (idxF f) l i) (hi : l.length ≤ i) : idxI (idxO f l) = -1 := by
  rw [show idxO f l = none from h.done hi]; rfl
theorem idx_next {α : Type} {f : α → Bool} {l : List α} {i : Nat} (h : Pass (idxF f) l i) {x : α} (hx : l[i]? = some x) (hf : f x = false) : Pass (idxF f) l (i + 1) := h.succ hx (by simp [idxF, hf])
theorem firstF_cases {α β : Type} {f : Nat → α → Option β} : ∀ {l : List α} {k : Nat}, firstF f k l = none ∨ ∃ (i : Nat) (x : α) (b : β), firstF f k l = some b ∧ l[i]? = some x ∧ f (k + i) x = some b ∧ ∀ j, j < i → ∀ y, l[j]? = some y → f (k + j) y = none
  | [], _ => .inl rfl
  | x :: r, k => by
    simp only [firstF]
    cases hf : f k x with
    | some b => exact .inr ⟨0, x, b, rfl, rfl, hf, fun j hj => by omega⟩
    | none =>
      rcases firstF_cases (f := f) (l := r) (k := k + 1) with h | ⟨i, y, b, h1, h2, h3, h4⟩
      · exact .inl h
      · refine .inr ⟨i + 1, y, b, h1, by simpa using h2, by rwa [show k + (i + 1) = k + 1 + i by omega], fun j hj z hz => ?_⟩
        cases j with
        | zero => simp at hz; subst hz; exact hf
        | succ j =>
          have := h4 j (by omega) z (by simpa using hz)
          rwa [show k + (j + 1) = k + 1 + j by omega]
theorem idxO_some {α : Type} {f : α → Bool} {l : List α} {i : Nat} (h : idxO f l = some i) : ∃ x, l[i]? = some x ∧ f x = true ∧ ∀ j, j < i → ∀ y, l[j]? = some y → f y = false := by
  rcases firstF_cases (f := idxF f) (l := l) (k := 0) with h1 | ⟨j, x, b, h1, h2, h3, h4⟩
  · rw [show idxO f l = none from h1] at h; cases h
  · rw [show idxO f l = some b from h1] at h
    cases h
    simp only [idxF, Nat.zero_add] at h3
    split at h3
    · rename_i hf
      cases h3
      refine ⟨x, h2, hf, fun j hj y hy => ?_⟩
      have := h4 j hj y hy
      simp only [idxF] at this
      split at this
      · cases this
      · rename_i hn; simpa using hn
    · cases h3
theorem idxO_none {α : Type} {f : α → Bool} {l : List α} : idxO f l = none ↔ l.any f = false := by
  constructor
  · intro h
    rw [List.any_eq_false]
    intro x hx
    obtain ⟨i, hi⟩ := List.getElem?_of_mem hx
    rcases firstF_cases (f := idxF f) (l := l) (k := 0) with h1 | ⟨j, y, b, h1, _⟩
    · intro hf
      have gen : ∀ (l : List α) (k : Nat), firstF (idxF f) k l = none → ∀ x ∈ l, f x = false := by
        intro l
        induction l with
        | nil => intro k _ x hx; cases hx
        | cons y r ih =>
          intro k hk x hx
          simp only [firstF, idxF] at hk
          cases hfy : f y with
          | true => rw [hfy] at hk; cases hk
          | false =>
            rw [hfy] at hk
            rcases List.mem_cons.1 hx with rfl | hx
            · exact hfy
            · exact ih _ hk x hx
      rw [gen l 0 h1 x hx] at hf; cases hf
    · rw [show idxO f l = some b from h1] at h; cases h
  · intro h
    cases hh : idxO f l with
    | none => rfl
    | some i =>
      obtain ⟨x, h1, h2, _⟩ := idxO_some hh
      have := List.any_eq_false.1 h x (List.mem_of_getElem? h1)
      rw [h2] at this; simp at this
theorem idx_any {α : Type} (f : α → Bool) (l : List α) : decide (0 ≤ idxI (idxO f l)) = l.any f := by
  cases h : idxO f l with
  | none => rw [idxO_none.1 h]; rfl
  | some i =>
    obtain ⟨x, h1, h2, _⟩ := idxO_some h
    rw [List.any_eq_true.2 ⟨x, List.mem_of_getElem? h1, h2⟩]
    simp [idxI]
theorem idxO_lt {α : Type} {f : α → Bool} {l : List α} {i : Nat} (h : idxO f l = some i) : i < l.length := by
  obtain ⟨x, h1, _⟩ := idxO_some h
  exact (List.getElem?_eq_some_iff.1 h1).1
end Go.Proofs.Ytedjbhpocedagaa.Sx
