/- Names, hosts, patterns, paths: plain words on rows of bytes, and what follows of them. -/
import Derived.Test.YtedjbhpocedagaaP1
import Derived.Test.YtedjbhpocedagaaD1
namespace Go.Proofs.Ytedjbhpocedagaa.Sx
theorem parts_cons (b c : UInt8) (z : List UInt8) : partsL b (c :: z) = if c == b then [] :: partsL b z else match partsL b z with
    | p :: ps => (c :: p) :: ps
    | [] => [[c]] := rfl
theorem parts_none {b : UInt8} : ∀ {l : List UInt8}, (∀ j : Nat, l[j]? ≠ some b) → partsL b l = [l]
  | [], _ => rfl
  | c :: l, h => by
    have hc : (c == b) = false := by simpa using fun e => h 0 (by simp [e])
    rw [parts_cons, hc, parts_none (l := l) fun j hj => h (j + 1) (by simpa using hj)]; rfl
theorem parts_at {b : UInt8} : ∀ {l : List UInt8} {k : Nat}, (∀ j : Nat, j < k → l[j]? ≠ some b) → l[k]? = some b → partsL b l = l.take k :: partsL b (l.drop (k + 1))
  | [], _, _, h => by simp at h
  | c :: l, 0, _, h => by
    simp at h; subst h
    rw [parts_cons]; simp
  | c :: l, k + 1, h, hk => by
    have hc : (c == b) = false := by simpa using fun e => h 0 (by omega) (by simp [e])
    rw [parts_cons, hc, parts_at (l := l) (k := k) (fun j hj => by simpa using h (j + 1) (by omega)) (by simpa using hk)]; rfl
def lowB (c : Int) : Bool := decide (97 ≤ c) && decide (c ≤ 122)
def wordB (c : Int) : Bool := lowB c || (decide (48 ≤ c) && decide (c ≤ 57)) || c == 45
def nameB (l : List UInt8) : Bool := decide (0 < l.length) && decide (l.length ≤ 16) && l.head?.any (fun c => lowB c.toNat) && l.all fun c => wordB c.toNat
def hostB (l : List UInt8) : Bool := decide (l.length ≤ 32) && (partsL 46 l).all nameB
abbrev preL (p s : List UInt8) : Bool := p.isPrefixOf s
abbrev sufL (t s : List UInt8) : Bool := t.isSuffixOf s
theorem preL_iff {p s : List UInt8} : preL p s = true ↔ ∃ r, s = p ++ r := by
  rw [List.isPrefixOf_iff_prefix]; exact ⟨fun ⟨r, h⟩ => ⟨r, h.symm⟩, fun ⟨r, h⟩ => ⟨r, h.symm⟩⟩
theorem sufL_iff {t s : List UInt8} : sufL t s = true ↔ ∃ r, s = r ++ t := by
  rw [List.isSuffixOf_iff_suffix]; exact ⟨fun ⟨r, h⟩ => ⟨r, h.symm⟩, fun ⟨r, h⟩ => ⟨r, h.symm⟩⟩
theorem preL_eq (p s : List UInt8) : preL p s = (decide (p.length ≤ s.length) && s.take p.length == p) := by
  rw [Bool.eq_iff_iff]
  simp only [Bool.and_eq_true, decide_eq_true_eq, beq_iff_eq]
  rw [List.isPrefixOf_iff_prefix, List.prefix_iff_eq_take]
  constructor
  · intro h
    have := congrArg List.length h
    simp only [List.length_take] at this
    exact ⟨by omega, h.symm⟩
  · exact fun h => h.2.symm
theorem sufL_eq (t s : List UInt8) : sufL t s = (decide (t.length ≤ s.length) && s.drop (s.length - t.length) == t) := by
  rw [Bool.eq_iff_iff]
  simp only [Bool.and_eq_true, decide_eq_true_eq, beq_iff_eq]
  rw [List.isSuffixOf_iff_suffix, List.suffix_iff_eq_drop]
  constructor
  · intro h
    have := congrArg List.length h
    simp only [List.length_drop] at this
    exact ⟨by omega, h.symm⟩
  · exact fun h => h.2.symm
def patternB (l : List UInt8) : Bool := if preL [42, 46] l then hostB (l.drop 2) else l == [42] || hostB l
def pathB (l : List UInt8) : Bool := decide (0 < l.length) && decide (l.length ≤ 32) && l.head?.any (fun c => (c.toNat : Int) == 47) && l.all fun c => (c.toNat : Int) == 47 || wordB c.toNat
def tailB (t h : List UInt8) : Bool := t == [] || (decide (t.length < h.length) && sufL t h)
def matchB (p h : List UInt8) : Bool := patternB p && hostB h && (p == h || (preL [42] p && tailB (p.drop 1) h))
def underB (a b : List UInt8) : Bool := pathB a && pathB b && preL b a && (a.drop b.length == [] || sufL [47] b || (a.drop b.length).head? == some 47)
def weightB (p : List UInt8) : Int := if patternB p then (if preL [42, 46] p then ((p.drop 2).length : Int) else if p == [42] then 0 else 100) else 0
def betterB (a p b q : List UInt8) : Bool := if weightB a != weightB b then decide (weightB b < weightB a) else decide (q.length < p.length)

theorem nameB_nil : nameB [] = false := rfl
theorem host_head {l : List UInt8} (h : hostB l = true) : ∃ c r, l = c :: r ∧ lowB c.toNat = true := by
  unfold hostB at h
  simp only [Bool.and_eq_true] at h
  obtain ⟨_, h⟩ := h
  cases l with
  | nil => exact absurd h (by decide)
  | cons c r =>
    refine ⟨c, r, rfl, ?_⟩
    have e1 : partsL 46 (c :: r) = if c == 46 then [] :: partsL 46 r else match partsL 46 r with
      | p :: ps => (c :: p) :: ps
      | [] => [[c]] := rfl
    rw [e1] at h
    have key : ∀ p ps, (((c :: p) :: ps).all nameB) = true → lowB c.toNat = true := fun p ps hh => by
      simp only [List.all_cons, Bool.and_eq_true] at hh
      have := hh.1
      simp only [nameB, Bool.and_eq_true, List.head?_cons, Option.any_some] at this
      exact this.1.2
    split at h
    · simp [nameB_nil] at h
    · split at h
      · exact key _ _ h
      · exact key [] [] h
theorem low_42 : lowB ((42 : UInt8).toNat : Int) = false := by decide
theorem host_not42 {l : List UInt8} (h : hostB l = true) : preL [42] l = false := by
  obtain ⟨c, r, rfl, hc⟩ := host_head h
  cases hh : preL [42] (c :: r) with
  | false => rfl
  | true =>
    obtain ⟨t, ht⟩ := preL_iff.1 hh
    simp at ht
    obtain ⟨rfl, _⟩ := ht
    rw [low_42] at hc; cases hc
theorem host_ne_star {l : List UInt8} (h : hostB l = true) : l ≠ [42] := fun e => by
  subst e; exact absurd (host_not42 h) (by decide)
theorem pre42_of {l : List UInt8} (h : preL [42, 46] l = true) : preL [42] l = true := by
  obtain ⟨r, rfl⟩ := preL_iff.1 h
  exact preL_iff.2 ⟨46 :: r, rfl⟩
theorem host_not4246 {l : List UInt8} (h : hostB l = true) : preL [42, 46] l = false := by
  cases hh : preL [42, 46] l with
  | false => rfl
  | true => have := pre42_of hh; rw [host_not42 h] at this; cases this
theorem host_ne_nil {l : List UInt8} (h : hostB l = true) : l ≠ [] := fun e => by
  obtain ⟨c, r, hc, _⟩ := host_head h
  rw [e] at hc; cases hc
theorem host_len {l : List UInt8} (h : hostB l = true) : l.length ≤ 32 := by
  unfold hostB at h
  simp only [Bool.and_eq_true, decide_eq_true_eq] at h
  exact h.1
/-- A pattern is a star, a star with a dot and a host, or a host. -/
theorem pattern_cases {l : List UInt8} (h : patternB l = true) : l = [42] ∨ (∃ t, l = 42 :: 46 :: t ∧ hostB t = true) ∨ (hostB l = true ∧ preL [42] l = false) := by
  unfold patternB at h
  split at h
  · rename_i hp
    obtain ⟨r, rfl⟩ := preL_iff.1 hp
    exact .inr (.inl ⟨r, rfl, by simpa using h⟩)
  · simp only [Bool.or_eq_true, beq_iff_eq] at h
    rcases h with h | h
    · exact .inl h
    · exact .inr (.inr ⟨h, host_not42 h⟩)
theorem pattern_ne_nil {l : List UInt8} (h : patternB l = true) : l ≠ [] := by
  rcases pattern_cases h with rfl | ⟨t, rfl, _⟩ | ⟨h, _⟩
  · simp
  · simp
  · exact host_ne_nil h
/-- What the document says of a pattern. -/
theorem pattern_ref (l : List UInt8) : patternB l = if decide (2 < l.length) && l.take 2 == [42, 46] then hostB (l.drop 2) else l == [42] || hostB l := by
  unfold patternB
  rw [preL_eq]
  by_cases h : l.take 2 == [42, 46]
  · have h' : (l.take [(42 : UInt8), 46].length == [42, 46]) = true := h
    have hl : 2 ≤ l.length := by
      have := congrArg List.length (beq_iff_eq.1 h)
      simp at this; omega
    rw [h', h, decide_eq_true (show [(42 : UInt8), 46].length ≤ l.length from hl)]
    by_cases h2 : 2 < l.length
    · rw [decide_eq_true h2]
    · have h3 : l.length = 2 := by omega
      have : l = [42, 46] := by
        have := beq_iff_eq.1 h
        rwa [List.take_of_length_le (by omega)] at this
      subst this; decide
  · have h' : (l.take [(42 : UInt8), 46].length == [42, 46]) = false := by simpa using h
    have h'' : (l.take 2 == [42, 46]) = false := by simpa using h
    rw [h', h'']; simp
theorem tail_eq (t h : List UInt8) (ht : t ≠ []) : tailB t h = (decide (t.length < h.length) && h.drop (h.length - t.length) == t) := by
  unfold tailB
  have : (t == []) = false := by simpa using ht
  rw [this, Bool.false_or, sufL_eq]
  by_cases k : t.length < h.length
  · rw [decide_eq_true k, decide_eq_true (show t.length ≤ h.length by omega)]; simp
  · rw [decide_eq_false k]; simp
/-- What the document says of a match. -/
theorem match_ref {p h : List UInt8} (hp : patternB p = true) : (p == h || (preL [42] p && tailB (p.drop 1) h)) = (p == [42] || p == h || (p.head? == some 42 && (decide ((p.drop 1).length < h.length) && h.drop (h.length - (p.drop 1).length) == p.drop 1))) := by
  rcases pattern_cases hp with rfl | ⟨t, rfl, ht⟩ | ⟨hh, h42⟩
  · simp [preL, tailB]
  · have e1 : preL [42] (42 :: 46 :: t) = true := preL_iff.2 ⟨46 :: t, rfl⟩
    rw [e1]
    simp only [List.drop_succ_cons, List.drop_zero, Bool.true_and, List.head?_cons]
    rw [tail_eq _ _ (by simp)]
    have : ((42 :: 46 :: t : List UInt8) == [42]) = false := by simp
    rw [this, Bool.false_or]
    rfl
  · rw [h42]
    have e1 : (p == [42]) = false := by simpa using host_ne_star hh
    have e2 : (p.head? == some 42) = false := by
      obtain ⟨c, r, rfl, hc⟩ := host_head hh
      simp only [List.head?_cons]
      cases hq : (some c == some (42 : UInt8)) with
      | false => rfl
      | true => simp at hq; subst hq; rw [low_42] at hc; cases hc
    rw [e1, e2]; simp
theorem weight_ref (p : List UInt8) : weightB p = if !patternB p || p == [42] then 0 else if p.head? == some 42 then (p.length : Int) - 2 else 100 := by
  unfold weightB
  cases hp : patternB p with
  | false => simp
  | true =>
    rcases pattern_cases hp with rfl | ⟨t, rfl, ht⟩ | ⟨hh, h42⟩
    · simp [preL]
    · have e1 : preL [42, 46] (42 :: 46 :: t) = true := preL_iff.2 ⟨t, rfl⟩
      simp [e1]; omega
    · have e0 : preL [42, 46] p = false := host_not4246 hh
      have e1 : (p == [42]) = false := by simpa using host_ne_star hh
      have e2 : (p.head? == some 42) = false := by
        obtain ⟨c, r, rfl, hc⟩ := host_head hh
        simp only [List.head?_cons]
        cases hq : (some c == some (42 : UInt8)) with
        | false => rfl
        | true => simp at hq; subst hq; rw [low_42] at hc; cases hc
      simp only [e0, e1, e2]; rfl
theorem weight_range (p : List UInt8) (h : p.length ≤ 9000000) : InR (weightB p) := by
  unfold weightB
  split
  · split
    · simp only [List.length_drop]; exact ⟨by omega, by omega⟩
    · split <;> exact ⟨by omega, by omega⟩
  · exact ⟨by omega, by omega⟩
theorem better_ref (a p b q : List UInt8) : betterB a p b q = (decide (weightB b < weightB a) || (weightB a == weightB b && decide (q.length < p.length))) := by
  unfold betterB
  by_cases h : weightB a = weightB b
  · simp [h]
  · simp [h]
theorem better_anti (a p b q : List UInt8) : (betterB a p b q && betterB b q a p) = false := by
  unfold betterB
  by_cases h : weightB a = weightB b
  · simp only [h, bne_self_eq_false]
    simp; omega
  · have h1 : (weightB a != weightB b) = true := by simpa using h
    have h2 : (weightB b != weightB a) = true := by simpa using fun e => h e.symm
    simp only [h1, h2, if_true]
    simp; omega
theorem better_self (a p : List UInt8) : betterB a p a p = false := by simp [betterB]
/-- Of two patterns that mean a host, unlike ones have unlike weights. -/
theorem unlike {a b h : List UInt8} (ha : matchB a h = true) (hb : matchB b h = true) : (a == b) = (weightB a == weightB b) := by
  have mc : ∀ {x : List UInt8}, matchB x h = true → patternB x = true ∧ ((x = [42] ∧ weightB x = 0) ∨ (∃ t, x = 42 :: 46 :: t ∧ hostB t = true ∧ weightB x = t.length ∧ ∃ r, h = r ++ (46 :: t)) ∨ (x = h ∧ weightB x = 100 ∧ hostB x = true)) := by
    intro x hx
    unfold matchB at hx
    simp only [Bool.and_eq_true] at hx
    obtain ⟨⟨hp, hh⟩, hm⟩ := hx
    refine ⟨hp, ?_⟩
    rcases pattern_cases hp with rfl | ⟨t, rfl, ht⟩ | ⟨hx, h42⟩
    · exact .inl ⟨rfl, by rw [weight_ref, hp]; rfl⟩
    · refine .inr (.inl ⟨t, rfl, ht, ?_, ?_⟩)
      · rw [weight_ref, hp]; simp; omega
      · simp only [Bool.or_eq_true, beq_iff_eq, Bool.and_eq_true] at hm
        rcases hm with hm | ⟨_, hm⟩
        · have := host_not42 hh
          rw [← hm] at this
          simp [preL] at this
        · simp only [List.drop_succ_cons, List.drop_zero, tailB, Bool.or_eq_true, beq_iff_eq, Bool.and_eq_true] at hm
          rcases hm with hm | ⟨_, hm⟩
          · cases hm
          · exact sufL_iff.1 hm
    · refine .inr (.inr ⟨?_, ?_, hx⟩)
      · rw [h42] at hm; simpa using hm
      · unfold weightB
        rw [hp, host_not4246 hx]
        have e1 : (x == [42]) = false := by simpa using host_ne_star hx
        simp [e1]
  obtain ⟨pa, ca⟩ := mc ha
  obtain ⟨pb, cb⟩ := mc hb
  have tl : ∀ {t : List UInt8}, hostB t = true → (0 : Int) < t.length ∧ (t.length : Int) < 100 := fun ht => by
    have h1 := host_len ht
    have h2 := List.length_pos_iff.2 (host_ne_nil ht)
    omega
  rw [Bool.eq_iff_iff]
  simp only [beq_iff_eq]
  constructor
  · rintro rfl; rfl
  · intro hw
    rcases ca with ⟨rfl, wa⟩ | ⟨t, rfl, ht, wa, r, hr⟩ | ⟨rfl, wa, _⟩ <;> rcases cb with ⟨rfl, wb⟩ | ⟨u, rfl, hu, wb, s, hs⟩ | ⟨rfl, wb, _⟩
    · rfl
    · have := tl hu; omega
    · omega
    · have := tl ht; omega
    · have hl : t.length = u.length := by omega
      have := (List.append_inj' (hr.symm.trans hs) (by simp [hl])).2
      rw [this]
    · have := tl ht; omega
    · omega
    · have := tl hu; omega
    · rfl

/-! ### Paths -/
theorem under_iff {a b : List UInt8} : underB a b = true ↔ pathB a = true ∧ pathB b = true ∧ ∃ r, a = b ++ r ∧ (r = [] ∨ (∃ s, b = s ++ [47]) ∨ r.head? = some 47) := by
  unfold underB
  simp only [Bool.and_eq_true, Bool.or_eq_true, beq_iff_eq]
  constructor
  · rintro ⟨⟨⟨h1, h2⟩, h3⟩, h4⟩
    obtain ⟨r, rfl⟩ := preL_iff.1 h3
    refine ⟨h1, h2, r, rfl, ?_⟩
    rw [List.drop_left] at h4
    rcases h4 with (h4 | h4) | h4
    · exact .inl h4
    · exact .inr (.inl (sufL_iff.1 h4))
    · exact .inr (.inr h4)
  · rintro ⟨h1, h2, r, rfl, h4⟩
    refine ⟨⟨⟨h1, h2⟩, preL_iff.2 ⟨r, rfl⟩⟩, ?_⟩
    rw [List.drop_left]
    rcases h4 with h4 | h4 | h4
    · exact .inl (.inl h4)
    · exact .inl (.inr (sufL_iff.2 h4))
    · exact .inr h4
theorem under_self (a : List UInt8) : underB a a = pathB a := by
  rw [Bool.eq_iff_iff, under_iff]
  exact ⟨fun h => h.1, fun h => ⟨h, h, [], by simp, .inl rfl⟩⟩
theorem under_anti {a b : List UInt8} (h : underB a b = true) (k : underB b a = true) : a = b := by
  obtain ⟨_, _, r, hr, _⟩ := under_iff.1 h
  obtain ⟨_, _, s, hs, _⟩ := under_iff.1 k
  have : r = [] := by
    have h1 := congrArg List.length hr
    have h2 := congrArg List.length hs
    simp at h1 h2
    exact List.eq_nil_of_length_eq_zero (by omega)
  subst this; simpa using hr
theorem under_trans {a b c : List UInt8} (h : underB a b = true) (k : underB b c = true) : underB a c = true := by
  obtain ⟨pa, pb, r, rfl, hr⟩ := under_iff.1 h
  obtain ⟨_, pc, s, rfl, hs⟩ := under_iff.1 k
  refine under_iff.2 ⟨pa, pc, s ++ r, by simp, ?_⟩
  rcases hs with rfl | hs | hs
  · rcases hr with rfl | ⟨x, hx⟩ | hr
    · exact .inl rfl
    · exact .inr (.inl ⟨x, by simpa using hx⟩)
    · exact .inr (.inr (by simpa using hr))
  · exact .inr (.inl hs)
  · refine .inr (.inr ?_)
    cases s with
    | nil => simp at hs
    | cons y s => simpa using hs
theorem path_ne_nil {a : List UInt8} (h : pathB a = true) : a ≠ [] := fun e => by subst e; exact absurd h (by decide)
/-- What the document says of a path under another one. -/
theorem under_ref {a b : List UInt8} (hb : b ≠ []) : (preL b a && (a.drop b.length == [] || sufL [47] b || (a.drop b.length).head? == some 47)) =
    (decide (b.length ≤ a.length) && a.take b.length == b && (decide (a.length = b.length) || b[b.length - 1]? == some 47 || a[b.length]? == some 47)) := by
  rw [preL_eq]
  by_cases h1 : b.length ≤ a.length
  · rw [decide_eq_true h1]
    cases h2 : a.take b.length == b with
    | false => rfl
    | true =>
      simp only [Bool.true_and]
      have e1 : (a.drop b.length == []) = decide (a.length = b.length) := by
        rw [Bool.eq_iff_iff]
        simp only [beq_iff_eq, decide_eq_true_eq, List.drop_eq_nil_iff]; omega
      have e2 : sufL [47] b = (b[b.length - 1]? == some 47) := by
        have hl : 0 < b.length := List.length_pos_iff.2 hb
        rw [sufL_eq, Bool.eq_iff_iff]
        simp only [Bool.and_eq_true, decide_eq_true_eq, beq_iff_eq, List.length_singleton]
        have : b.drop (b.length - 1) = [b[b.length - 1]'(by omega)] := by
          rw [List.drop_eq_getElem_cons (by omega)]
          simp only [List.cons.injEq, true_and, List.drop_eq_nil_iff]; omega
        rw [this, List.getElem?_eq_getElem (by omega)]
        simp only [List.cons.injEq, and_true, Option.some.injEq]
        exact ⟨fun h => h.2, fun h => ⟨by omega, h⟩⟩
      have e3 : (a.drop b.length).head? = a[b.length]? := by rw [List.head?_drop]
      rw [e1, e2, e3]
  · rw [decide_eq_false h1]; simp

/-! ### One name more ahead -/
theorem parts_append (b : UInt8) : ∀ (x y : List UInt8), partsL b (x ++ b :: y) = partsL b x ++ partsL b y
  | [], y => by
    have : partsL b (b :: y) = if b == b then [] :: partsL b y else match partsL b y with
      | p :: ps => (b :: p) :: ps
      | [] => [[b]] := rfl
    simp only [List.nil_append, this, beq_self_eq_true, if_true]; rfl
  | c :: x, y => by
    have ih := parts_append b x y
    have e1 : ∀ z, partsL b (c :: z) = if c == b then [] :: partsL b z else match partsL b z with
      | p :: ps => (c :: p) :: ps
      | [] => [[c]] := fun _ => rfl
    rw [List.cons_append, e1, e1, ih]
    split
    · rfl
    · cases hx : partsL b x with
      | cons p ps => rfl
      | nil =>
        exfalso
        rcases partsL_index b x with ⟨_, h⟩ | ⟨i, _, _, h⟩ <;> rw [hx] at h <;> cases h
theorem deep {t h x : List UInt8} (hh : hostB h = true) (hd : hostB (x ++ 46 :: h) = true) :
    (matchB (42 :: 46 :: t) h = true → matchB (42 :: 46 :: t) (x ++ 46 :: h) = true) ∧ matchB (42 :: 46 :: h) (x ++ 46 :: h) = true ∧ matchB (42 :: 46 :: h) h = false := by
  have pt : ∀ u : List UInt8, patternB (42 :: 46 :: u) = hostB u := fun u => by
    have : preL [42, 46] (42 :: 46 :: u) = true := preL_iff.2 ⟨u, rfl⟩
    simp [patternB, this]
  have p42 : ∀ u : List UInt8, preL [42] (42 :: 46 :: u) = true := fun u => preL_iff.2 ⟨46 :: u, rfl⟩
  have hx : x ≠ [] := by
    rintro rfl
    unfold hostB at hd
    rw [parts_append] at hd
    have : partsL 46 [] = [[]] := rfl
    rw [this] at hd
    simp [nameB_nil] at hd
  have hxl := List.length_pos_iff.2 hx
  have ne : ∀ (u y : List UInt8), hostB y = true → ((42 :: 46 :: u : List UInt8) == y) = false := fun u y hy => by
    cases hq : ((42 :: 46 :: u : List UInt8) == y) with
    | false => rfl
    | true =>
      have := beq_iff_eq.1 hq
      have k := host_not42 hy
      rw [← this, p42] at k; cases k
  refine ⟨fun hm => ?_, ?_, ?_⟩
  · unfold matchB at hm ⊢
    simp only [Bool.and_eq_true] at hm
    obtain ⟨⟨hp, _⟩, hm⟩ := hm
    rw [ne _ _ hh, p42] at hm
    rw [ne _ _ hd, p42, hp, hd]
    simp only [List.drop_succ_cons, List.drop_zero, Bool.false_or, Bool.true_and, tailB, Bool.or_eq_true, beq_iff_eq, Bool.and_eq_true, decide_eq_true_eq] at hm ⊢
    rcases hm with hm | ⟨h1, h2⟩
    · cases hm
    · obtain ⟨r, hr⟩ := sufL_iff.1 h2
      exact .inr ⟨by simp at h1 ⊢; omega, sufL_iff.2 ⟨x ++ 46 :: r, by rw [hr]; simp⟩⟩
  · unfold matchB
    rw [pt, hh, hd, ne _ _ hd, p42]
    simp only [List.drop_succ_cons, List.drop_zero, Bool.false_or, Bool.true_and, tailB, Bool.or_eq_true, beq_iff_eq, Bool.and_eq_true, decide_eq_true_eq]
    exact .inr ⟨by simp; omega, sufL_iff.2 ⟨x, rfl⟩⟩
  · unfold matchB
    rw [pt, hh, ne _ _ hh, p42]
    simp only [List.drop_succ_cons, List.drop_zero, Bool.false_or, Bool.true_and, tailB]
    rw [decide_eq_false (by simp)]; simp
end Go.Proofs.Ytedjbhpocedagaa.Sx
