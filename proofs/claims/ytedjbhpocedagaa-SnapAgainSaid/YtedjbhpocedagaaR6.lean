/- Which rule a request goes by: the program's and the document's answers. -/
import Derived.Test.YtedjbhpocedagaaH4
import Derived.Test.YtedjbhpocedagaaP6
import Derived.Test.YtedjbhpocedagaaD2
namespace Go.Proofs.Ytedjbhpocedagaa
open Go.Proofs.Ytedjbhpocedagaa.Sx
abbrev cRule (r : Rule) : List Value := [.int .i64 r.listen, .string r.host, .string r.path, .int .i64 r.cluster]
abbrev SmR (r : Rule) : Prop := Sm r.host ∧ Sm r.path
theorem ok_Fits (g : GW) (r : Rule) (n : Int) (h p : BA) (hs : SmR r ∧ Sm h ∧ Sm p) : OkV Try.prog n_routes_Fits [.agg ⟨cRule r⟩, .int .i64 n, .string h, .string p] g (.bool (fitR n h p r)) :=
  Ok.of_fn hm noT 0 t_routes_Fits (args := [.v (.agg ⟨cRule r⟩), .v (.int .i64 n), .v (.string h), .v (.string p)]) (by
    repeat' ((conv => whnf); first | refine ⟨Eq.refl _, ?_⟩ | refine ⟨⟨Eq.refl _, Eq.refl _⟩, ?_⟩ | refine ⟨⟨Eq.refl _, Eq.refl _, Eq.refl _⟩, ?_⟩ | refine ⟨⟨Eq.refl _, Eq.refl _, Eq.refl _, Eq.refl _⟩, ?_⟩ | refine ⟨⟨Eq.refl _, Eq.refl _, Eq.refl _, Eq.refl _, Eq.refl _⟩, ?_⟩ | refine fun (_ : Nat) => ?_ | refine fun (_ : Option Addr) (_ : Nat) => ?_ | refine .inl ⟨_, ok_Match _ _ _ ⟨hs.1.1, hs.2.1⟩, ?_⟩ | refine .inl ⟨_, ok_Under _ _ _ ⟨hs.2.2, hs.1.2⟩, ?_⟩ | refine ⟨fun _ => ?_, fun _ => ?_⟩ | fail)
    all_goals (conv => whnf)
    all_goals (intro g2 hg)
    all_goals (rename_i h1; simp only [fitR]; simp_all))
def tR : List (Nat × FnI) := [(n_routes_fitting, f_routes_fitting), (n_routes_fitting_1, f_routes_fitting_1)]
theorem tR_ok : TblOk Try.prog tR := by
  intro x hx
  simp only [tR, List.mem_cons, List.not_mem_nil, or_false] at hx
  rcases hx with rfl | rfl
  · exact ⟨_, _, t_routes_fitting⟩
  · exact ⟨_, _, t_routes_fitting_1⟩
/-- What is answered. -/
def bestT : Option Nat → Value
  | some i => .tuple #[.int .i64 i, .int .i64 0]
  | none => .tuple #[.int .i64 0, .int .i64 5]
theorem best_val {fit : Rule → Bool} (l : List Rule) : ∃ i e : Int, bestT (bestO fit l) = .tuple #[.int .i64 i, .int .i64 e] ∧ ((e = 0 ∧ ∃ j : Nat, bestO fit l = some j ∧ i = j) ∨ (e = 5 ∧ i = 0 ∧ bestO fit l = none)) := by
  cases h : bestO fit l with
  | some j => exact ⟨j, 0, rfl, .inl ⟨rfl, j, rfl, rfl⟩⟩
  | none => exact ⟨0, 5, rfl, .inr ⟨rfl, rfl, rfl⟩⟩
def bestV : Option Nat → Int
  | none => -1
  | some j => j
abbrev SmL (l : List Rule) : Prop := ∀ r ∈ l, SmR r
theorem ok_Best (g : GW) {v : Value} {l : List Rule} (hl : rSl 4 rRule g v l) (n : Int) (h p : BA) (hs : SmL l ∧ Sm h ∧ Sm p) :
    OkV Try.prog n_routes_Best [v, .int .i64 n, .string h, .string p] g (bestT (bestO (fitR n h p) l)) :=
  Ok.of_fn hm tR_ok 2 t_routes_Best (args := [.v v, .v (.int .i64 n), .v (.string h), .v (.string p)]) (by
    obtain ⟨oa, cap, rfl, h1, h2, h0, hr⟩ := hl
    repeat ((conv => whnf); first | refine ⟨Eq.refl _, ?_⟩ | refine ⟨⟨Eq.refl _, Eq.refl _⟩, ?_⟩ | refine ⟨⟨Eq.refl _, Eq.refl _, Eq.refl _⟩, ?_⟩ | refine ⟨⟨Eq.refl _, Eq.refl _, Eq.refl _, Eq.refl _⟩, ?_⟩ | refine ⟨⟨Eq.refl _, Eq.refl _, Eq.refl _, Eq.refl _, Eq.refl _⟩, ?_⟩ | refine fun (_ : Nat) => ?_ | refine fun (_ : Option Addr) (_ : Nat) => ?_ | fail)
    conv => whnf
    refine ⟨k_routes_fitting_1, fun lp rr => ?_⟩
    repeat ((conv => whnf); first | refine ⟨Eq.refl _, ?_⟩ | refine ⟨⟨Eq.refl _, Eq.refl _⟩, ?_⟩ | refine ⟨⟨Eq.refl _, Eq.refl _, Eq.refl _⟩, ?_⟩ | refine ⟨⟨Eq.refl _, Eq.refl _, Eq.refl _, Eq.refl _⟩, ?_⟩ | refine ⟨⟨Eq.refl _, Eq.refl _, Eq.refl _, Eq.refl _, Eq.refl _⟩, ?_⟩ | refine fun (_ : Nat) => ?_ | refine fun (_ : Option Addr) (_ : Nat) => ?_ | fail)
    conv => whnf
    refine ⟨Nat, fun i => [.v (.int .i64 i)], fun i => ⟨g, [.lp 6 lp rr .ready, .blk 5 _ _ [.v (.string p)], .blk 4 _ _ [.v (.string h)], .blk 3 _ _ [.v (.int .i64 n)], .blk 2 _ _ [.v (.slice oa l.length cap)], .blk 1 _ _ [.v (.int .i64 (bestV (bestP (fitR n h p) l i)))], .blk 0 _ _ [.v (.slice oa l.length cap)]], _, _⟩, fun i => i ≤ l.length, fun i => l.length - i, loop_here 0 rfl (Nat.zero_le _) rfl, ?_⟩
    intro i hi
    conv => whnf
    refine ⟨fun hlt => ?_, fun hlt => ?_⟩
    · have h' : i < l.length := by have := of_decide_eq_true hlt; omega
      obtain ⟨r, hri⟩ := getL_of h'
      obtain ⟨a, rfl, ec, hec, ⟨rfl, hI1, hI2⟩, hc⟩ := hr i r hri
      have hsr := hs.1 r (List.mem_of_getElem? hri)
      have hbp : ∀ b, (match bestP (fitR n h p) l i with | none => some i | some j => match l[j]? with | some q => if betR r q then some i else some j | none => some i) = b → fitR n h p r = true → bestP (fitR n h p) l (i + 1) = b := fun b hb hf => by
        simp only [bestP, hri, hf, if_true]; exact hb
      conv => whnf
      refine ⟨a, rfl, ⟨by omega, by omega⟩, ?_⟩
      conv => whnf
      refine ⟨cRule r, ⟨rfl, hc⟩, ?_⟩
      repeat ((conv => whnf); first | refine ⟨Eq.refl _, ?_⟩ | refine ⟨⟨Eq.refl _, Eq.refl _⟩, ?_⟩ | refine ⟨⟨Eq.refl _, Eq.refl _, Eq.refl _⟩, ?_⟩ | refine ⟨⟨Eq.refl _, Eq.refl _, Eq.refl _, Eq.refl _⟩, ?_⟩ | refine ⟨⟨Eq.refl _, Eq.refl _, Eq.refl _, Eq.refl _, Eq.refl _⟩, ?_⟩ | refine fun (_ : Nat) => ?_ | refine fun (_ : Option Addr) (_ : Nat) => ?_ | fail)
      conv => whnf
      refine .inl ⟨_, ok_Fits _ _ _ _ _ ⟨hsr, hs.2⟩, ?_⟩
      have next : ∀ (b : Option Nat), bestP (fitR n h p) l (i + 1) = b → [Value.int .i64 (IntKind.i64.wrap ((i : Int) + 1))] = [Value.int .i64 ((i + 1 : Nat) : Int)] := fun _ _ => congrArg (fun z => [Value.int .i64 z]) (wr1 h' h1 h2)
      conv => whnf
      refine ⟨fun hf => ?_, fun hf => ?_⟩
      · repeat ((conv => whnf); first | refine ⟨Eq.refl _, ?_⟩ | refine ⟨⟨Eq.refl _, Eq.refl _⟩, ?_⟩ | refine ⟨⟨Eq.refl _, Eq.refl _, Eq.refl _⟩, ?_⟩ | refine ⟨⟨Eq.refl _, Eq.refl _, Eq.refl _, Eq.refl _⟩, ?_⟩ | refine ⟨⟨Eq.refl _, Eq.refl _, Eq.refl _, Eq.refl _, Eq.refl _⟩, ?_⟩ | refine fun (_ : Nat) => ?_ | refine fun (_ : Option Addr) (_ : Nat) => ?_ | fail)
        cases hb : bestP (fitR n h p) l i with
        | none =>
          have hb1 := hbp (some i) (by rw [hb]) hf
          conv => whnf
          refine ⟨fun _ => ?_, fun h => nomatch h⟩
          repeat ((conv => whnf); first | refine ⟨Eq.refl _, ?_⟩ | refine ⟨⟨Eq.refl _, Eq.refl _⟩, ?_⟩ | refine ⟨⟨Eq.refl _, Eq.refl _, Eq.refl _⟩, ?_⟩ | refine ⟨⟨Eq.refl _, Eq.refl _, Eq.refl _, Eq.refl _⟩, ?_⟩ | refine ⟨⟨Eq.refl _, Eq.refl _, Eq.refl _, Eq.refl _, Eq.refl _⟩, ?_⟩ | refine fun (_ : Nat) => ?_ | refine fun (_ : Option Addr) (_ : Nat) => ?_ | fail)
          conv => whnf
          refine fun fr w hw => ⟨i + 1, (next _ hb1).symm, h', dec h', ?_⟩
          exact hw.fit (by simp [fitL, Res.eqv, concL, conc, hb1, bestV])
        | some j =>
          obtain ⟨q, hq, _, hfq, _⟩ := (bestP_spec (fit := fitR n h p) l i hi).1 j hb
          obtain ⟨a', ha', ecq, hecq, ⟨rfl, _, _⟩, hcq⟩ := hr j q hq
          cases ha'
          have hjl := (List.getElem?_eq_some_iff.1 hq).1
          conv => whnf
          refine ⟨fun hx => absurd (of_decide_eq_true hx) (by simp only [bestV]; omega), fun _ => ?_⟩
          repeat ((conv => whnf); first | refine ⟨Eq.refl _, ?_⟩ | refine ⟨⟨Eq.refl _, Eq.refl _⟩, ?_⟩ | refine ⟨⟨Eq.refl _, Eq.refl _, Eq.refl _⟩, ?_⟩ | refine ⟨⟨Eq.refl _, Eq.refl _, Eq.refl _, Eq.refl _⟩, ?_⟩ | refine ⟨⟨Eq.refl _, Eq.refl _, Eq.refl _, Eq.refl _, Eq.refl _⟩, ?_⟩ | refine fun (_ : Nat) => ?_ | refine fun (_ : Option Addr) (_ : Nat) => ?_ | fail)
          conv => whnf
          refine ⟨a, rfl, ⟨by simp only [bestV]; omega, by simp only [bestV]; omega⟩, ?_⟩
          repeat ((conv => whnf); first | refine ⟨Eq.refl _, ?_⟩ | refine ⟨⟨Eq.refl _, Eq.refl _⟩, ?_⟩ | refine ⟨⟨Eq.refl _, Eq.refl _, Eq.refl _⟩, ?_⟩ | refine ⟨⟨Eq.refl _, Eq.refl _, Eq.refl _, Eq.refl _⟩, ?_⟩ | refine ⟨⟨Eq.refl _, Eq.refl _, Eq.refl _, Eq.refl _, Eq.refl _⟩, ?_⟩ | refine fun (_ : Nat) => ?_ | refine fun (_ : Option Addr) (_ : Nat) => ?_ | fail)
          conv => whnf
          refine ⟨_, hcq 1 _ rfl, ?_⟩
          repeat ((conv => whnf); first | refine ⟨Eq.refl _, ?_⟩ | refine ⟨⟨Eq.refl _, Eq.refl _⟩, ?_⟩ | refine ⟨⟨Eq.refl _, Eq.refl _, Eq.refl _⟩, ?_⟩ | refine ⟨⟨Eq.refl _, Eq.refl _, Eq.refl _, Eq.refl _⟩, ?_⟩ | refine ⟨⟨Eq.refl _, Eq.refl _, Eq.refl _, Eq.refl _, Eq.refl _⟩, ?_⟩ | refine fun (_ : Nat) => ?_ | refine fun (_ : Option Addr) (_ : Nat) => ?_ | fail)
          conv => whnf
          refine ⟨a, rfl, ⟨by simp only [bestV]; omega, by simp only [bestV]; omega⟩, ?_⟩
          repeat ((conv => whnf); first | refine ⟨Eq.refl _, ?_⟩ | refine ⟨⟨Eq.refl _, Eq.refl _⟩, ?_⟩ | refine ⟨⟨Eq.refl _, Eq.refl _, Eq.refl _⟩, ?_⟩ | refine ⟨⟨Eq.refl _, Eq.refl _, Eq.refl _, Eq.refl _⟩, ?_⟩ | refine ⟨⟨Eq.refl _, Eq.refl _, Eq.refl _, Eq.refl _, Eq.refl _⟩, ?_⟩ | refine fun (_ : Nat) => ?_ | refine fun (_ : Option Addr) (_ : Nat) => ?_ | fail)
          conv => whnf
          refine ⟨_, hcq 2 _ rfl, ?_⟩
          repeat ((conv => whnf); first | refine ⟨Eq.refl _, ?_⟩ | refine ⟨⟨Eq.refl _, Eq.refl _⟩, ?_⟩ | refine ⟨⟨Eq.refl _, Eq.refl _, Eq.refl _⟩, ?_⟩ | refine ⟨⟨Eq.refl _, Eq.refl _, Eq.refl _, Eq.refl _⟩, ?_⟩ | refine ⟨⟨Eq.refl _, Eq.refl _, Eq.refl _, Eq.refl _, Eq.refl _⟩, ?_⟩ | refine fun (_ : Nat) => ?_ | refine fun (_ : Option Addr) (_ : Nat) => ?_ | fail)
          conv => whnf
          refine .inl ⟨_, ok_Better _ _ _ _ _, ?_⟩
          conv => whnf
          refine ⟨fun hbt => ?_, fun hbt => ?_⟩
          · have hb1 := hbp (some i) (by rw [hb]; simp only [hq]; rw [show betR r q = true from hbt]; rfl) hf
            repeat ((conv => whnf); first | refine ⟨Eq.refl _, ?_⟩ | refine ⟨⟨Eq.refl _, Eq.refl _⟩, ?_⟩ | refine ⟨⟨Eq.refl _, Eq.refl _, Eq.refl _⟩, ?_⟩ | refine ⟨⟨Eq.refl _, Eq.refl _, Eq.refl _, Eq.refl _⟩, ?_⟩ | refine ⟨⟨Eq.refl _, Eq.refl _, Eq.refl _, Eq.refl _, Eq.refl _⟩, ?_⟩ | refine fun (_ : Nat) => ?_ | refine fun (_ : Option Addr) (_ : Nat) => ?_ | fail)
            conv => whnf
            refine fun fr w hw => ⟨i + 1, (next _ hb1).symm, h', dec h', ?_⟩
            exact hw.fit (by simp [fitL, Res.eqv, concL, conc, hb1, bestV])
          · have hb1 := hbp (some j) (by rw [hb]; simp only [hq]; rw [show betR r q = false from hbt]; rfl) hf
            repeat ((conv => whnf); first | refine ⟨Eq.refl _, ?_⟩ | refine ⟨⟨Eq.refl _, Eq.refl _⟩, ?_⟩ | refine ⟨⟨Eq.refl _, Eq.refl _, Eq.refl _⟩, ?_⟩ | refine ⟨⟨Eq.refl _, Eq.refl _, Eq.refl _, Eq.refl _⟩, ?_⟩ | refine ⟨⟨Eq.refl _, Eq.refl _, Eq.refl _, Eq.refl _, Eq.refl _⟩, ?_⟩ | refine fun (_ : Nat) => ?_ | refine fun (_ : Option Addr) (_ : Nat) => ?_ | fail)
            conv => whnf
            refine fun fr w hw => ⟨i + 1, (next _ hb1).symm, h', dec h', ?_⟩
            exact hw.fit (by simp [fitL, Res.eqv, concL, conc, hb1, bestV])
      · conv => whnf
        refine fun fr w hw => ⟨i + 1, ?_, h', dec h', ?_⟩
        · exact congrArg (fun z => [Value.int .i64 z]) (wr1 h' h1 h2).symm
        · have : bestP (fitR n h p) l (i + 1) = bestP (fitR n h p) l i := by simp [bestP, hri, hf]
          exact hw.fit (by simp [fitL, Res.eqv, concL, conc, this])
    · have hi' : i = l.length := by have := of_decide_eq_false hlt; omega
      subst hi'
      repeat ((conv => whnf); first | refine ⟨Eq.refl _, ?_⟩ | refine ⟨⟨Eq.refl _, Eq.refl _⟩, ?_⟩ | refine ⟨⟨Eq.refl _, Eq.refl _, Eq.refl _⟩, ?_⟩ | refine ⟨⟨Eq.refl _, Eq.refl _, Eq.refl _, Eq.refl _⟩, ?_⟩ | refine ⟨⟨Eq.refl _, Eq.refl _, Eq.refl _, Eq.refl _, Eq.refl _⟩, ?_⟩ | refine fun (_ : Nat) => ?_ | refine fun (_ : Option Addr) (_ : Nat) => ?_ | fail)
      cases hb : bestP (fitR n h p) l l.length with
      | none =>
        conv => whnf
        refine ⟨fun _ => ?_, fun h => nomatch h⟩
        conv => whnf
        intro g2 hg
        rw [show bestO (fitR n h p) l = none from hb]; rfl
      | some j =>
        conv => whnf
        refine ⟨fun hx => absurd (of_decide_eq_true hx) (by simp only [bestV]; omega), fun _ => ?_⟩
        repeat ((conv => whnf); first | refine ⟨Eq.refl _, ?_⟩ | refine ⟨⟨Eq.refl _, Eq.refl _⟩, ?_⟩ | refine ⟨⟨Eq.refl _, Eq.refl _, Eq.refl _⟩, ?_⟩ | refine ⟨⟨Eq.refl _, Eq.refl _, Eq.refl _, Eq.refl _⟩, ?_⟩ | refine ⟨⟨Eq.refl _, Eq.refl _, Eq.refl _, Eq.refl _, Eq.refl _⟩, ?_⟩ | refine fun (_ : Nat) => ?_ | refine fun (_ : Option Addr) (_ : Nat) => ?_ | fail)
        conv => whnf
        intro g2 hg
        rw [show bestO (fitR n h p) l = some j from hb]; rfl)
/-- Is there too much to be looked at? -/
def longR (r : Rule) : Bool := decide (100 < r.host.size) || decide (100 < r.path.size)
def bigR (l : List Rule) : Bool := decide (50 < l.length) || l.any longR
theorem ok_rBig (g : GW) {v : Value} {l : List Rule} (hl : rSl 4 rRule g v l) : OkV Try.prog n_hydrantref06_Big [v] g (.bool (bigR l)) :=
  Ok.of_fn hm noT 0 t_hydrantref06_Big (args := [.v v]) (by
    obtain ⟨oa, cap, rfl, h1, h2, h0, hr⟩ := hl
    repeat ((conv => whnf); first | refine ⟨Eq.refl _, ?_⟩ | refine ⟨⟨Eq.refl _, Eq.refl _⟩, ?_⟩ | refine ⟨⟨Eq.refl _, Eq.refl _, Eq.refl _⟩, ?_⟩ | refine ⟨⟨Eq.refl _, Eq.refl _, Eq.refl _, Eq.refl _⟩, ?_⟩ | refine ⟨⟨Eq.refl _, Eq.refl _, Eq.refl _, Eq.refl _, Eq.refl _⟩, ?_⟩ | refine fun (_ : Nat) => ?_ | refine fun (_ : Option Addr) (_ : Nat) => ?_ | fail)
    conv => whnf
    refine ⟨Nat, fun k => [.v (.int .i64 k)], fun k => ⟨g, [], _, _⟩, fun k => k ≤ l.length ∧ (l.take k).any longR = false, fun k => l.length - k, loop_here 0 rfl ⟨Nat.zero_le _, rfl⟩ rfl, ?_⟩
    rintro k ⟨hk, hall⟩
    conv => whnf
    refine ⟨fun hlt => ?_, fun hlt => ?_⟩
    · have h' : k < l.length := by have := of_decide_eq_true hlt; omega
      conv => whnf
      refine ⟨fun h50 => ?_, fun h50 => ?_⟩
      · obtain ⟨q, hq⟩ := getL_of h'
        obtain ⟨a, rfl, ecq, hecq, ⟨rfl, _, _⟩, hcq⟩ := hr k q hq
        have hg : ∀ b, longR q = b → (l.take (k + 1)).any longR = b := fun b hb => by
          obtain ⟨_, hge⟩ := List.getElem?_eq_some_iff.1 hq
          rw [List.take_succ_eq_append_getElem h', List.any_append, hall, hge]
          simp [hb]
        have hbe : longR q = true → bigR l = true := fun hb => by
          rw [bigR, List.any_eq_true.2 ⟨q, List.mem_of_getElem? hq, hb⟩, Bool.or_true]
        conv => whnf
        refine ⟨a, rfl, ⟨by omega, by omega⟩, ?_⟩
        conv => whnf
        refine ⟨_, hcq 1 _ rfl, ?_⟩
        conv => whnf
        refine ⟨fun ha => ?_, fun ha => ?_⟩
        · conv => whnf
          intro g2 hg
          rw [hbe (by simp at ha; simp [longR]; omega)]
        · conv => whnf
          refine ⟨a, rfl, ⟨by omega, by omega⟩, ?_⟩
          conv => whnf
          refine ⟨_, hcq 2 _ rfl, ?_⟩
          conv => whnf
          refine ⟨fun hb => ?_, fun hb => ?_⟩
          · conv => whnf
            intro g2 hg
            rw [hbe (by simp at hb; simp [longR]; omega)]
          · conv => whnf
            refine fun fr w hw => ⟨k + 1, congrArg (fun z => [Value.int .i64 z]) (wr1 h' h1 h2).symm, ⟨h', hg _ (by simp at ha hb; simp [longR]; omega)⟩, dec h', hw⟩
      · conv => whnf
        intro g2 hg
        have := of_decide_eq_false h50
        rw [bigR, decide_eq_true (show 50 < l.length by omega), decide_eq_true (show (50 : Int) < l.length by omega)]; rfl
    · conv => whnf
      intro g2 hg
      have : k = l.length := by have := of_decide_eq_false hlt; omega
      rw [this, List.take_length] at hall
      rw [bigR, hall, Bool.or_false]
      exact congrArg Value.bool (decide_eq_decide.2 (by omega)))
theorem small_of {l : List Rule} {h p : BA} (hb : (bigR l || decide (100 < (h.size : Int)) || decide (100 < (p.size : Int))) = false) : SmL l ∧ Sm h ∧ Sm p ∧ l.length ≤ 50 := by
  simp only [bigR, Bool.or_eq_false_iff, decide_eq_false_iff_not] at hb
  obtain ⟨⟨⟨h1, h2⟩, h3⟩, h4⟩ := hb
  refine ⟨fun r hr => ?_, by unfold Sm; omega, by unfold Sm; omega, by omega⟩
  have := List.any_eq_false.1 h2 r hr
  simp only [longR, Bool.or_eq_true, decide_eq_true_eq] at this
  unfold SmR Sm
  omega
def plainR : List Rule := [⟨0, ⟨#[42]⟩, ⟨#[47]⟩, 0⟩, ⟨0, ⟨#[42, 46, 98]⟩, ⟨#[47]⟩, 0⟩, ⟨0, ⟨#[42]⟩, ⟨#[47, 97]⟩, 1⟩, ⟨1, ⟨#[97, 46, 98]⟩, ⟨#[47]⟩, 0⟩]
end Go.Proofs.Ytedjbhpocedagaa
