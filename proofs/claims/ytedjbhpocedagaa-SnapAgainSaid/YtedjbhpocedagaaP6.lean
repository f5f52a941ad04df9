/- Which rule a request goes by: plain words on rows of rules, and what follows. -/
import Derived.Test.YtedjbhpocedagaaP4
namespace Go.Proofs.Ytedjbhpocedagaa.Sx
/-- One rule is better than another one. -/
def betR (a b : Rule) : Bool := betterB (bs a.host) (bs a.path) (bs b.host) (bs b.path)
def fitR (listen : Int) (host path : BA) (r : Rule) : Bool := r.listen == listen && matchB (bs r.host) (bs host) && underB (bs path) (bs r.path)
theorem betR_iff (a b : Rule) : betR a b = true ↔ weightB (bs b.host) < weightB (bs a.host) ∨ (weightB (bs a.host) = weightB (bs b.host) ∧ (bs b.path).length < (bs a.path).length) := by
  unfold betR
  rw [better_ref]
  simp
theorem betR_false (a b : Rule) : betR a b = false ↔ ¬ (weightB (bs b.host) < weightB (bs a.host) ∨ (weightB (bs a.host) = weightB (bs b.host) ∧ (bs b.path).length < (bs a.path).length)) := by
  rw [← betR_iff]; simp
theorem bet_irr (a : Rule) : betR a a = false := by rw [betR_false]; omega
/-- Where nothing is better, nothing is. -/
theorem bet_neg {a b c : Rule} (h : betR a b = false) (k : betR b c = false) : betR a c = false := by
  rw [betR_false] at *; omega
theorem bet_trans {a b c : Rule} (h : betR a b = true) (k : betR b c = true) : betR a c = true := by
  rw [betR_iff] at *; omega
theorem bet_asym {a b : Rule} (h : betR a b = true) : betR b a = false := by
  rw [betR_iff] at h; rw [betR_false]; omega
section
variable (fit : Rule → Bool)
/-- The best one of the first n. -/
def bestP (l : List Rule) : Nat → Option Nat
  | 0 => none
  | n + 1 => match l[n]? with
    | none => bestP l n
    | some r => if fit r then match bestP l n with
      | none => some n
      | some j => match l[j]? with
        | some q => if betR r q then some n else some j
        | none => some n
      else bestP l n
def bestO (l : List Rule) : Option Nat := bestP fit l l.length
/-- i is the best one's number among the first n. -/
def IsBest (l : List Rule) (n i : Nat) : Prop := ∃ r, l[i]? = some r ∧ i < n ∧ fit r = true ∧ (∀ k q, k < n → l[k]? = some q → fit q = true → betR q r = false) ∧ ∀ k q, k < i → l[k]? = some q → fit q = true → betR r q = true
variable {fit}
theorem IsBest.unique {l : List Rule} {n i j : Nat} (h : IsBest fit l n i) (k : IsBest fit l n j) : i = j := by
  obtain ⟨r, h1, h2, h3, h4, h5⟩ := h
  obtain ⟨q, k1, k2, k3, k4, k5⟩ := k
  rcases Nat.lt_trichotomy i j with hij | hij | hij
  · have := k5 i r hij h1 h3
    rw [h4 j q k2 k1 k3] at this; cases this
  · exact hij
  · have := h5 j q hij k1 k3
    rw [k4 i r h2 h1 h3] at this; cases this
theorem bestP_spec (l : List Rule) : ∀ n, n ≤ l.length → (∀ i, bestP fit l n = some i → IsBest fit l n i) ∧ (bestP fit l n = none → ∀ k q, k < n → l[k]? = some q → fit q = false)
  | 0, _ => ⟨fun i h => by simp [bestP] at h, fun _ k q hk => by omega⟩
  | n + 1, hn => by
    obtain ⟨ih1, ih2⟩ := bestP_spec l n (by omega)
    obtain ⟨r, hr⟩ := getL_of (show n < l.length by omega)
    simp only [bestP, hr]
    have old : ∀ {k : Nat} {q : Rule}, k < n + 1 → l[k]? = some q → k < n ∨ (k = n ∧ q = r) := fun {k q} hk hq => by
      rcases Nat.lt_or_ge k n with h | h
      · exact .inl h
      · obtain rfl : k = n := by omega
        rw [hr] at hq; cases hq; exact .inr ⟨rfl, rfl⟩
    cases hf : fit r with
    | false =>
      simp only [Bool.false_eq_true, if_false]
      refine ⟨fun i hi => ?_, fun hi k q hk hq => ?_⟩
      · obtain ⟨x, h1, h2, h3, h4, h5⟩ := ih1 i hi
        refine ⟨x, h1, by omega, h3, fun k q hk hq hfq => ?_, h5⟩
        rcases old hk hq with h | ⟨rfl, rfl⟩
        · exact h4 k q h hq hfq
        · rw [hf] at hfq; cases hfq
      · rcases old hk hq with h | ⟨rfl, rfl⟩
        · exact ih2 hi k q h hq
        · exact hf
    | true =>
      simp only [if_true]
      cases hb : bestP fit l n with
      | none =>
        simp only
        refine ⟨fun i hi => ?_, fun hi => by cases hi⟩
        cases hi
        refine ⟨r, hr, by omega, hf, fun k q hk hq hfq => ?_, fun k q hk hq hfq => ?_⟩
        · rcases old hk hq with h | ⟨rfl, rfl⟩
          · rw [ih2 hb k q h hq] at hfq; cases hfq
          · exact bet_irr _
        · rw [ih2 hb k q hk hq] at hfq; cases hfq
      | some j =>
        obtain ⟨x, h1, h2, h3, h4, h5⟩ := ih1 j hb
        simp only [h1]
        cases hbt : betR r x with
        | true =>
          simp only [if_true]
          refine ⟨fun i hi => ?_, fun hi => by cases hi⟩
          cases hi
          refine ⟨r, hr, by omega, hf, fun k q hk hq hfq => ?_, fun k q hk hq hfq => ?_⟩
          · rcases old hk hq with h | ⟨rfl, rfl⟩
            · exact bet_neg (h4 k q h hq hfq) (bet_asym hbt)
            · exact bet_irr _
          · have h4' := h4 k q hk hq hfq
            cases hrq : betR r q with
            | true => rfl
            | false =>
              have := bet_neg hrq h4'
              rw [hbt] at this; cases this
        | false =>
          simp only [Bool.false_eq_true, if_false]
          refine ⟨fun i hi => ?_, fun hi => by cases hi⟩
          cases hi
          refine ⟨x, h1, by omega, h3, fun k q hk hq hfq => ?_, h5⟩
          rcases old hk hq with h | ⟨rfl, rfl⟩
          · exact h4 k q h hq hfq
          · exact hbt
theorem bestO_some {l : List Rule} {i : Nat} : bestO fit l = some i ↔ IsBest fit l l.length i := by
  obtain ⟨h1, h2⟩ := bestP_spec (fit := fit) l l.length (Nat.le_refl _)
  refine ⟨h1 i, fun h => ?_⟩
  cases hb : bestO fit l with
  | some j => rw [h.unique (h1 j hb)]
  | none =>
    obtain ⟨r, k1, k2, k3, _⟩ := h
    rw [h2 hb i r k2 k1] at k3; cases k3
theorem bestO_none {l : List Rule} : bestO fit l = none ↔ ∀ r ∈ l, fit r = false := by
  obtain ⟨h1, h2⟩ := bestP_spec (fit := fit) l l.length (Nat.le_refl _)
  constructor
  · intro h r hr
    obtain ⟨k, hk⟩ := List.getElem?_of_mem hr
    exact h2 h k r (List.getElem?_eq_some_iff.1 hk).1 hk
  · intro h
    cases hb : bestO fit l with
    | none => rfl
    | some j =>
      obtain ⟨r, k1, k2, k3, _⟩ := h1 j hb
      rw [h r (List.mem_of_getElem? k1)] at k3; cases k3
theorem bestO_lt {l : List Rule} {i : Nat} (h : bestO fit l = some i) : i < l.length := by
  obtain ⟨r, h1, _⟩ := bestO_some.1 h
  exact (List.getElem?_eq_some_iff.1 h1).1
/-- The document's way: the first one that fits and is not beaten. -/
def beatB (fit : Rule → Bool) (l : List Rule) (r : Rule) : Bool := l.any fun q => fit q && betR q r
theorem best_ref {l : List Rule} {i : Nat} {r : Rule} (hr : l[i]? = some r) (hf : fit r = true) (hb : beatB fit l r = false) (h0 : ∀ j, j < i → ∀ q, l[j]? = some q → (fit q && !beatB fit l q) = false) : bestO fit l = some i := by
  rw [bestO_some]
  have hb' : ∀ q ∈ l, fit q = true → betR q r = false := fun q hq hfq => by
    have := List.any_eq_false.1 hb q hq
    simpa [hfq] using this
  refine ⟨r, hr, (List.getElem?_eq_some_iff.1 hr).1, hf, fun k q _ hq hfq => hb' q (List.mem_of_getElem? hq) hfq, fun k q hk hq hfq => ?_⟩
  have h1 := h0 k hk q hq
  rw [hfq] at h1
  have h2 : beatB fit l q = true := by simpa using h1
  obtain ⟨m, hm, hm2⟩ := List.any_eq_true.1 h2
  simp only [Bool.and_eq_true] at hm2
  cases hrq : betR r q with
  | true => rfl
  | false =>
    have := bet_neg (hb' m hm hm2.1) hrq
    rw [hm2.2] at this; cases this
/-- There always is one that is not beaten. -/
theorem best_ref_none {l : List Rule} (h0 : ∀ (j : Nat) q, l[j]? = some q → (fit q && !beatB fit l q) = false) : bestO fit l = none := by
  cases hb : bestO fit l with
  | none => rfl
  | some i =>
    obtain ⟨r, h1, h2, h3, h4, _⟩ := bestO_some.1 hb
    have := h0 i r h1
    rw [h3] at this
    have h5 : beatB fit l r = true := by simpa using this
    obtain ⟨m, hm, hm2⟩ := List.any_eq_true.1 h5
    simp only [Bool.and_eq_true] at hm2
    obtain ⟨k, hk⟩ := List.getElem?_of_mem hm
    rw [h4 k m (List.getElem?_eq_some_iff.1 hk).1 hk hm2.1] at hm2; cases hm2.2
/-- A rule that does not fit plays no part, wherever it stands. -/
theorem best_idle {a b : List Rule} {r : Rule} (hr : fit r = false) : bestO fit (a ++ r :: b) = (bestO fit (a ++ b)).map fun i => if a.length ≤ i then i + 1 else i := by
  cases hb : bestO fit (a ++ b) with
  | none =>
    simp only [Option.map_none]
    rw [bestO_none] at hb ⊢
    intro q hq
    rcases List.mem_append.1 hq with h | h
    · exact hb q (by simp [h])
    · rcases List.mem_cons.1 h with rfl | h
      · exact hr
      · exact hb q (by simp [h])
  | some i =>
    simp only [Option.map_some]
    rw [bestO_some] at hb ⊢
    obtain ⟨x, h1, h2, h3, h4, h5⟩ := hb
    have get : ∀ k : Nat, (a ++ r :: b)[k]? = if k < a.length then a[k]? else if k = a.length then some r else b[k - a.length - 1]? := fun k => by
      split
      · rename_i h; rw [List.getElem?_append_left h]
      · rename_i h
        rw [List.getElem?_append_right (by omega)]
        split
        · rename_i h'; subst h'; simp
        · obtain ⟨m, hm⟩ : ∃ m, k - a.length = m + 1 := ⟨k - a.length - 1, by omega⟩
          rw [hm]; simp
    have get0 : ∀ k : Nat, (a ++ b)[k]? = if k < a.length then a[k]? else b[k - a.length]? := fun k => by
      split
      · rename_i h; rw [List.getElem?_append_left h]
      · rename_i h; rw [List.getElem?_append_right (by omega)]
    -- places there and back
    have fwd : ∀ (k : Nat) q, (a ++ b)[k]? = some q → (a ++ r :: b)[if a.length ≤ k then k + 1 else k]? = some q := fun k q hq => by
      rw [get0] at hq
      by_cases h : k < a.length
      · rw [if_pos h] at hq
        rw [if_neg (show ¬ a.length ≤ k by omega), get, if_pos h]; exact hq
      · rw [if_neg h] at hq
        rw [if_pos (show a.length ≤ k by omega), get, if_neg (show ¬ k + 1 < a.length by omega), if_neg (show ¬ k + 1 = a.length by omega), show k + 1 - a.length - 1 = k - a.length by omega]; exact hq
    have bwd : ∀ (k : Nat) q, (a ++ r :: b)[k]? = some q → fit q = true → ∃ m, (a ++ b)[m]? = some q ∧ k = if a.length ≤ m then m + 1 else m := fun k q hq hfq => by
      rw [get] at hq
      split at hq
      · rename_i h
        refine ⟨k, by rw [get0, if_pos h]; exact hq, by rw [if_neg (by omega)]⟩
      · rename_i h
        split at hq
        · cases hq; rw [hr] at hfq; cases hfq
        · rename_i h'
          refine ⟨k - 1, by rw [get0, if_neg (by omega), show k - 1 - a.length = k - a.length - 1 by omega]; exact hq, by rw [if_pos (by omega)]; omega⟩
    have hlen : (a ++ r :: b).length = (a ++ b).length + 1 := by simp; omega
    refine ⟨x, fwd i x h1, by rw [hlen]; split <;> omega, h3, fun k q hk hq hfq => ?_, fun k q hk hq hfq => ?_⟩
    · obtain ⟨m, hm, _⟩ := bwd k q hq hfq
      exact h4 m q (List.getElem?_eq_some_iff.1 hm).1 hm hfq
    · obtain ⟨m, hm, he⟩ := bwd k q hq hfq
      refine h5 m q ?_ hm hfq
      rw [he] at hk
      split at hk <;> split at hk <;> omega
/-- With one more at the end. -/
theorem best_more (l : List Rule) (r : Rule) : bestO fit (l ++ [r]) = if fit r then match bestO fit l with
      | none => some l.length
      | some j => match l[j]? with
        | some q => if betR r q then some l.length else some j
        | none => some l.length
      else bestO fit l := by
  have pre : ∀ n, n ≤ l.length → bestP fit (l ++ [r]) n = bestP fit l n := by
    intro n
    induction n with
    | zero => intro _; rfl
    | succ n ih =>
      intro hn
      have h1 : (l ++ [r])[n]? = l[n]? := List.getElem?_append_left (by omega)
      simp only [bestP, h1, ih (by omega)]
      cases hl : l[n]? with
      | none => rfl
      | some q =>
        simp only
        cases hb : bestP fit l n with
        | none => rfl
        | some j =>
          obtain ⟨x, k1, _⟩ := (bestP_spec (fit := fit) l n (by omega)).1 j hb
          have h2 : (l ++ [r])[j]? = l[j]? := List.getElem?_append_left (List.getElem?_eq_some_iff.1 k1).1
          simp only [h2]
  have h1 : (l ++ [r])[l.length]? = some r := by simp
  unfold bestO
  rw [List.length_append, List.length_singleton]
  simp only [bestP, h1, pre l.length (Nat.le_refl _)]
  cases hb : bestP fit l l.length with
  | none => rfl
  | some j =>
    obtain ⟨x, k1, _⟩ := (bestP_spec (fit := fit) l l.length (Nat.le_refl _)).1 j hb
    have h2 : (l ++ [r])[j]? = l[j]? := List.getElem?_append_left (List.getElem?_eq_some_iff.1 k1).1
    simp only [h2]
/-- A rule that stands there once more, behind all others. -/
theorem best_twice {l : List Rule} {r : Rule} (hr : r ∈ l) : bestO fit (l ++ [r]) = bestO fit l := by
  rw [best_more]
  cases hf : fit r with
  | false => rfl
  | true =>
    simp only [if_true]
    cases hb : bestO fit l with
    | none =>
      rw [bestO_none] at hb
      rw [hb r hr] at hf; cases hf
    | some j =>
      obtain ⟨x, k1, k2, k3, k4, _⟩ := bestO_some.1 hb
      obtain ⟨k, hk⟩ := List.getElem?_of_mem hr
      simp only [k1, k4 k r (List.getElem?_eq_some_iff.1 hk).1 hk hf]
      rfl
end
end Go.Proofs.Ytedjbhpocedagaa.Sx
