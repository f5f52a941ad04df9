/- Scripts: a right one is so without its last parts. -/
import Derived.Test.YtedjbhpocedagaaLW8m
import Derived.Test.YtedjbhpocedagaaF
import Derived.Test.YtedjbhpocedagaaPl
import Derived.Test.YtedjbhpocedagaaLK5d
namespace Go.Proofs.Ytedjbhpocedagaa
open Go.Proofs.Ytedjbhpocedagaa.Sx Go.RowKit
theorem isB_iff {s : Script} : isB s = true ↔ checkE s.first = none ∧ 1 ≤ s.threads.length ∧ s.threads.length ≤ 8 ∧ s.picks.length ≤ 4000 ∧ (∀ l ∈ s.threads, l.length ≤ 16 ∧ l.all kindOk = true) ∧ ∀ n ∈ s.picks, 0 ≤ n := by
  simp only [isB, Bool.and_eq_true, eqB_iff, decide_eq_true_eq, List.all_eq_true]
  constructor
  · rintro ⟨⟨⟨⟨⟨a, b⟩, c⟩, d⟩, e⟩, f⟩; exact ⟨a, b, c, d, e, f⟩
  · rintro ⟨a, b, c, d, e, f⟩; exact ⟨⟨⟨⟨⟨a, b⟩, c⟩, d⟩, e⟩, f⟩
abbrev IsS (s : Script) : Prop := checkE s.first = none ∧ 1 ≤ s.threads.length ∧ s.threads.length ≤ 8 ∧ s.picks.length ≤ 4000 ∧ (∀ l ∈ s.threads, l.length ≤ 16 ∧ l.all kindOk = true) ∧ ∀ n ∈ s.picks, 0 ≤ n
theorem less_picks {s : Script} (h : IsS s) (k : Nat) : isB ⟨s.first, s.threads, s.picks.take k⟩ = true := by
  obtain ⟨a, b, c, d, e, f⟩ := h
  exact isB_iff.2 ⟨a, b, c, by show (s.picks.take k).length ≤ 4000; rw [List.length_take]; omega, e, fun n hn => f n (List.mem_of_mem_take hn)⟩
theorem less_last {s : Script} (h : IsS s) {l : List OpD} (hl : s.threads[s.threads.length - 1]? = some l) (k : Nat) : isB ⟨s.first, s.threads.take (s.threads.length - 1) ++ [l.take (l.length - 1)], s.picks.take k⟩ = true := by
  obtain ⟨a, b, c, d, e, f⟩ := h
  refine isB_iff.2 ⟨a, by simp, by simp; omega, by show (s.picks.take k).length ≤ 4000; rw [List.length_take]; omega, fun t ht => ?_, fun n hn => f n (List.mem_of_mem_take hn)⟩
  rcases List.mem_append.1 ht with ht | ht
  · exact e t (List.mem_of_mem_take ht)
  · simp only [List.mem_cons, List.not_mem_nil, or_false] at ht
    subst ht
    obtain ⟨e1, e2⟩ := e l (List.mem_of_getElem? hl)
    refine ⟨by rw [List.length_take]; omega, List.all_eq_true.2 fun o ho => List.all_eq_true.1 e2 o (List.mem_of_mem_take ho)⟩
theorem less_all {s : Script} (h : IsS s) {k : Nat} : isB ⟨s.first, s.threads.take (s.threads.length - 1), s.picks.take k⟩ = decide (1 < s.threads.length) := by
  obtain ⟨a, b, c, d, e, f⟩ := h
  by_cases h1 : 1 < s.threads.length
  · rw [decide_eq_true h1]
    exact isB_iff.2 ⟨a, by show 1 ≤ (s.threads.take (s.threads.length - 1)).length; rw [List.length_take]; omega, by show (s.threads.take (s.threads.length - 1)).length ≤ 8; rw [List.length_take]; omega, by show (s.picks.take k).length ≤ 4000; rw [List.length_take]; omega,
      fun t ht => e t (List.mem_of_mem_take ht), fun n hn => f n (List.mem_of_mem_take hn)⟩
  · rw [decide_eq_false h1, isB]
    have : s.threads.take (s.threads.length - 1) = [] := by rw [show s.threads.length - 1 = 0 by omega]; rfl
    simp [this]
theorem law_ScriptLess (g : GW) {cs : List Value} {s : Script} (hs : rScript g cs s) : OkV Try.prog n_hydrantlaw08_ScriptLess [.agg ⟨cs⟩] g (.bool true) := by
  have hs0 := hs
  obtain ⟨a, b, d, t, p, rfl, hc, ht, hp⟩ := hs
  have hc0 := hc
  obtain ⟨_, _, _, he, ⟨oa, ca, rfl, _⟩, ⟨ob, cb, rfl, _⟩, od, cd, rfl, _⟩ := hc
  cases he
  obtain ⟨ot, ct, rfl, t1, t2, t0, ht1⟩ := id ht
  obtain ⟨op, cp, rfl, p1, p2, p0, _⟩ := id hp
  exact Ok.of_fn hm noT 0 t_hydrantlaw08_ScriptLess (args := [.v (.agg ⟨[.slice oa s.first.listens.length ca, .slice ob s.first.routes.length cb, .slice od s.first.clusters.length cd, .slice ot s.threads.length ct, .slice op s.picks.length cp]⟩)]) (by
    repeat ((conv => whnf); first | refine ⟨Eq.refl _, ?_⟩ | refine ⟨⟨Eq.refl _, Eq.refl _⟩, ?_⟩ | refine ⟨⟨Eq.refl _, Eq.refl _, Eq.refl _⟩, ?_⟩ | refine ⟨⟨Eq.refl _, Eq.refl _, Eq.refl _, Eq.refl _⟩, ?_⟩ | refine ⟨⟨Eq.refl _, Eq.refl _, Eq.refl _, Eq.refl _, Eq.refl _⟩, ?_⟩ | refine fun (_ : Nat) => ?_ | refine fun (_ : Option Addr) (_ : Nat) => ?_ | fail)
    conv => whnf
    refine .inl ⟨_, ok_sBig _ hs0, ?_⟩
    conv => whnf
    refine ⟨fun z1 => ?_, fun z1 => ?_⟩
    · repeat ((conv => whnf); first | refine ⟨Eq.refl _, ?_⟩ | refine ⟨⟨Eq.refl _, Eq.refl _⟩, ?_⟩ | refine ⟨⟨Eq.refl _, Eq.refl _, Eq.refl _⟩, ?_⟩ | refine ⟨⟨Eq.refl _, Eq.refl _, Eq.refl _, Eq.refl _⟩, ?_⟩ | refine ⟨⟨Eq.refl _, Eq.refl _, Eq.refl _, Eq.refl _, Eq.refl _⟩, ?_⟩ | refine fun (_ : Nat) => ?_ | refine fun (_ : Option Addr) (_ : Nat) => ?_ | fail)
      conv => whnf
      refine .inl ⟨_, ok_written8 _, ?_⟩
      repeat ((conv => whnf); first | refine ⟨Eq.refl _, ?_⟩ | refine ⟨⟨Eq.refl _, Eq.refl _⟩, ?_⟩ | refine ⟨⟨Eq.refl _, Eq.refl _, Eq.refl _⟩, ?_⟩ | refine ⟨⟨Eq.refl _, Eq.refl _, Eq.refl _, Eq.refl _⟩, ?_⟩ | refine ⟨⟨Eq.refl _, Eq.refl _, Eq.refl _, Eq.refl _, Eq.refl _⟩, ?_⟩ | refine fun (_ : Nat) => ?_ | refine fun (_ : Option Addr) (_ : Nat) => ?_ | fail)
      conv => whnf
      intro g2 hg
      rfl
    repeat ((conv => whnf); first | refine ⟨Eq.refl _, ?_⟩ | refine ⟨⟨Eq.refl _, Eq.refl _⟩, ?_⟩ | refine ⟨⟨Eq.refl _, Eq.refl _, Eq.refl _⟩, ?_⟩ | refine ⟨⟨Eq.refl _, Eq.refl _, Eq.refl _, Eq.refl _⟩, ?_⟩ | refine ⟨⟨Eq.refl _, Eq.refl _, Eq.refl _, Eq.refl _, Eq.refl _⟩, ?_⟩ | refine fun (_ : Nat) => ?_ | refine fun (_ : Option Addr) (_ : Nat) => ?_ | fail)
    conv => whnf
    refine .inl ⟨_, ok_scIs _ hs0, ?_⟩
    repeat ((conv => whnf); first | refine ⟨Eq.refl _, ?_⟩ | refine ⟨⟨Eq.refl _, Eq.refl _⟩, ?_⟩ | refine ⟨⟨Eq.refl _, Eq.refl _, Eq.refl _⟩, ?_⟩ | refine ⟨⟨Eq.refl _, Eq.refl _, Eq.refl _, Eq.refl _⟩, ?_⟩ | refine ⟨⟨Eq.refl _, Eq.refl _, Eq.refl _, Eq.refl _, Eq.refl _⟩, ?_⟩ | refine fun (_ : Nat) => ?_ | refine fun (_ : Option Addr) (_ : Nat) => ?_ | fail)
    conv => whnf
    refine ⟨fun z2 => ?_, fun z2 => ?_⟩
    · repeat ((conv => whnf); first | refine ⟨Eq.refl _, ?_⟩ | refine ⟨⟨Eq.refl _, Eq.refl _⟩, ?_⟩ | refine ⟨⟨Eq.refl _, Eq.refl _, Eq.refl _⟩, ?_⟩ | refine ⟨⟨Eq.refl _, Eq.refl _, Eq.refl _, Eq.refl _⟩, ?_⟩ | refine ⟨⟨Eq.refl _, Eq.refl _, Eq.refl _, Eq.refl _, Eq.refl _⟩, ?_⟩ | refine fun (_ : Nat) => ?_ | refine fun (_ : Option Addr) (_ : Nat) => ?_ | fail)
      conv => whnf
      refine .inl ⟨_, ok_written8 _, ?_⟩
      repeat ((conv => whnf); first | refine ⟨Eq.refl _, ?_⟩ | refine ⟨⟨Eq.refl _, Eq.refl _⟩, ?_⟩ | refine ⟨⟨Eq.refl _, Eq.refl _, Eq.refl _⟩, ?_⟩ | refine ⟨⟨Eq.refl _, Eq.refl _, Eq.refl _, Eq.refl _⟩, ?_⟩ | refine ⟨⟨Eq.refl _, Eq.refl _, Eq.refl _, Eq.refl _, Eq.refl _⟩, ?_⟩ | refine fun (_ : Nat) => ?_ | refine fun (_ : Option Addr) (_ : Nat) => ?_ | fail)
      conv => whnf
      intro g2 hg
      rfl
    have hB : IsS s := isB_iff.1 (nb0 z2)
    have hb1 := hB.2.1
    have hb2 := hB.2.2.1
    have hb3 := hB.2.2.2.1
    repeat ((conv => whnf); first | refine ⟨Eq.refl _, ?_⟩ | refine ⟨⟨Eq.refl _, Eq.refl _⟩, ?_⟩ | refine ⟨⟨Eq.refl _, Eq.refl _, Eq.refl _⟩, ?_⟩ | refine ⟨⟨Eq.refl _, Eq.refl _, Eq.refl _, Eq.refl _⟩, ?_⟩ | refine ⟨⟨Eq.refl _, Eq.refl _, Eq.refl _, Eq.refl _, Eq.refl _⟩, ?_⟩ | refine fun (_ : Nat) => ?_ | refine fun (_ : Option Addr) (_ : Nat) => ?_ | fail)
    conv => whnf
    refine ⟨fun z3 => ?_, fun z3 => ?_⟩
    · have hpl : 0 < s.picks.length := by have := of_decide_eq_true z3; omega
      have ewp : (IntKind.i64.wrap ((s.picks.length : Int) - 1)).toNat = s.picks.length - 1 := by rw [wr (by constructor <;> omega)]; omega
      have ewp2 : IntKind.i64.wrap ((s.picks.length : Int) - 1) = ((s.picks.length - 1 : Nat) : Int) := by rw [wr (by constructor <;> omega)]; omega
      have hpk := hp.take (k := (IntKind.i64.wrap ((s.picks.length : Int) - 1)).toNat) (by rw [ewp]; omega)
      repeat ((conv => whnf); first | refine ⟨Eq.refl _, ?_⟩ | refine ⟨⟨Eq.refl _, Eq.refl _⟩, ?_⟩ | refine ⟨⟨Eq.refl _, Eq.refl _, Eq.refl _⟩, ?_⟩ | refine ⟨⟨Eq.refl _, Eq.refl _, Eq.refl _, Eq.refl _⟩, ?_⟩ | refine ⟨⟨Eq.refl _, Eq.refl _, Eq.refl _, Eq.refl _, Eq.refl _⟩, ?_⟩ | refine fun (_ : Nat) => ?_ | refine fun (_ : Option Addr) (_ : Nat) => ?_ | fail)
      conv => whnf
      refine ⟨⟨by omega, by omega⟩, ?_⟩
      repeat ((conv => whnf); first | refine ⟨Eq.refl _, ?_⟩ | refine ⟨⟨Eq.refl _, Eq.refl _⟩, ?_⟩ | refine ⟨⟨Eq.refl _, Eq.refl _, Eq.refl _⟩, ?_⟩ | refine ⟨⟨Eq.refl _, Eq.refl _, Eq.refl _, Eq.refl _⟩, ?_⟩ | refine ⟨⟨Eq.refl _, Eq.refl _, Eq.refl _, Eq.refl _, Eq.refl _⟩, ?_⟩ | refine fun (_ : Nat) => ?_ | refine fun (_ : Option Addr) (_ : Nat) => ?_ | fail)
      have hX : rScript g _ ⟨s.first, s.threads, s.picks.take (IntKind.i64.wrap ((s.picks.length : Int) - 1)).toNat⟩ := ⟨_, _, _, _, _, rfl, hc0, ht, hpk⟩
      conv => whnf
      refine .inl ⟨_, (ok_scIs _ hX).to (congrArg Value.bool (less_picks hB _)), ?_⟩
      repeat ((conv => whnf); first | refine ⟨Eq.refl _, ?_⟩ | refine ⟨⟨Eq.refl _, Eq.refl _⟩, ?_⟩ | refine ⟨⟨Eq.refl _, Eq.refl _, Eq.refl _⟩, ?_⟩ | refine ⟨⟨Eq.refl _, Eq.refl _, Eq.refl _, Eq.refl _⟩, ?_⟩ | refine ⟨⟨Eq.refl _, Eq.refl _, Eq.refl _, Eq.refl _, Eq.refl _⟩, ?_⟩ | refine fun (_ : Nat) => ?_ | refine fun (_ : Option Addr) (_ : Nat) => ?_ | fail)
      conv => whnf
      refine ⟨fun h => (nomatch h), fun _ => ?_⟩
      generalize (IntKind.i64.wrap ((s.picks.length : Int) - 1)).toNat = kp at hpk ⊢
      repeat ((conv => whnf); first | refine ⟨Eq.refl _, ?_⟩ | refine ⟨⟨Eq.refl _, Eq.refl _⟩, ?_⟩ | refine ⟨⟨Eq.refl _, Eq.refl _, Eq.refl _⟩, ?_⟩ | refine ⟨⟨Eq.refl _, Eq.refl _, Eq.refl _, Eq.refl _⟩, ?_⟩ | refine ⟨⟨Eq.refl _, Eq.refl _, Eq.refl _, Eq.refl _, Eq.refl _⟩, ?_⟩ | refine fun (_ : Nat) => ?_ | refine fun (_ : Option Addr) (_ : Nat) => ?_ | fail)
      have ewn : (IntKind.i64.wrap ((s.threads.length : Int) - 1)).toNat = s.threads.length - 1 := by rw [wr (by constructor <;> omega)]; omega
      have ewt : IntKind.i64.wrap ((s.threads.length : Int) - 1) = ((s.threads.length - 1 : Nat) : Int) := by rw [wr (by constructor <;> omega)]; omega
      obtain ⟨l, hl⟩ := getL_of (show s.threads.length - 1 < s.threads.length by omega)
      obtain ⟨aT, rfl, ec, hec, ⟨v, rfl, hv⟩, hcT⟩ := ht1 _ l hl
      obtain ⟨oo, co, rfl, o1, o2, o0, _⟩ := id hv
      conv => whnf
      refine ⟨aT, rfl, ⟨by omega, by omega⟩, ?_⟩
      repeat ((conv => whnf); first | refine ⟨Eq.refl _, ?_⟩ | refine ⟨⟨Eq.refl _, Eq.refl _⟩, ?_⟩ | refine ⟨⟨Eq.refl _, Eq.refl _, Eq.refl _⟩, ?_⟩ | refine ⟨⟨Eq.refl _, Eq.refl _, Eq.refl _, Eq.refl _⟩, ?_⟩ | refine ⟨⟨Eq.refl _, Eq.refl _, Eq.refl _, Eq.refl _, Eq.refl _⟩, ?_⟩ | refine fun (_ : Nat) => ?_ | refine fun (_ : Option Addr) (_ : Nat) => ?_ | fail)
      conv => whnf
      refine ⟨_, by rw [ewn]; exact hcT 0 _ rfl, ?_⟩
      repeat ((conv => whnf); first | refine ⟨Eq.refl _, ?_⟩ | refine ⟨⟨Eq.refl _, Eq.refl _⟩, ?_⟩ | refine ⟨⟨Eq.refl _, Eq.refl _, Eq.refl _⟩, ?_⟩ | refine ⟨⟨Eq.refl _, Eq.refl _, Eq.refl _, Eq.refl _⟩, ?_⟩ | refine ⟨⟨Eq.refl _, Eq.refl _, Eq.refl _, Eq.refl _, Eq.refl _⟩, ?_⟩ | refine fun (_ : Nat) => ?_ | refine fun (_ : Option Addr) (_ : Nat) => ?_ | fail)
      conv => whnf
      refine ⟨fun q1 => ?_, fun q1 => ?_⟩
      · have hlp : 0 < l.length := by have := of_decide_eq_true q1; omega
        have hlm : l.length ≤ 16 := (hB.2.2.2.2.1 l (List.mem_of_getElem? hl)).1
        have ewl : (IntKind.i64.wrap ((l.length : Int) - 1)).toNat = l.length - 1 := by rw [wr (by constructor <;> omega)]; omega
        have ewl2 : IntKind.i64.wrap ((l.length : Int) - 1) = ((l.length - 1 : Nat) : Int) := by rw [wr (by constructor <;> omega)]; omega
        obtain ⟨ecs, hE1, hE2, hE3, hE4⟩ := rSl_rdE (ht.take (k := (IntKind.i64.wrap ((s.threads.length : Int) - 1)).toNat) (by rw [ewn]; omega))
        have hEl : (s.threads.take (IntKind.i64.wrap ((s.threads.length : Int) - 1)).toNat).length = (IntKind.i64.wrap ((s.threads.length : Int) - 1)).toNat := by rw [List.length_take, ewn]; omega
        rw [hEl] at hE1
        have hEo : ∀ u ∈ ecs.flatten, u.oneCell' = true := fun u hu => by
          obtain ⟨e, he, hu⟩ := List.mem_flatten.1 hu
          obtain ⟨i, hi⟩ := List.getElem?_of_mem he
          obtain ⟨y, hy⟩ := getL_of (show i < (s.threads.take (IntKind.i64.wrap ((s.threads.length : Int) - 1)).toNat).length by have := (List.getElem?_eq_some_iff.1 hi).1; omega)
          obtain ⟨v, rfl, _, _, rfl, _⟩ := hE4 i y e hy hi
          simp only [List.mem_cons, List.not_mem_nil, or_false] at hu
          subst hu; rfl
        repeat ((conv => whnf); first | refine ⟨Eq.refl _, ?_⟩ | refine ⟨⟨Eq.refl _, Eq.refl _⟩, ?_⟩ | refine ⟨⟨Eq.refl _, Eq.refl _, Eq.refl _⟩, ?_⟩ | refine ⟨⟨Eq.refl _, Eq.refl _, Eq.refl _, Eq.refl _⟩, ?_⟩ | refine ⟨⟨Eq.refl _, Eq.refl _, Eq.refl _, Eq.refl _, Eq.refl _⟩, ?_⟩ | refine fun (_ : Nat) => ?_ | refine fun (_ : Option Addr) (_ : Nat) => ?_ | fail)
        conv => whnf
        refine ⟨⟨by omega, by omega⟩, ?_⟩
        repeat ((conv => whnf); first | refine ⟨Eq.refl _, ?_⟩ | refine ⟨⟨Eq.refl _, Eq.refl _⟩, ?_⟩ | refine ⟨⟨Eq.refl _, Eq.refl _, Eq.refl _⟩, ?_⟩ | refine ⟨⟨Eq.refl _, Eq.refl _, Eq.refl _, Eq.refl _⟩, ?_⟩ | refine ⟨⟨Eq.refl _, Eq.refl _, Eq.refl _, Eq.refl _, Eq.refl _⟩, ?_⟩ | refine fun (_ : Nat) => ?_ | refine fun (_ : Option Addr) (_ : Nat) => ?_ | fail)
        conv => whnf
        refine ⟨⟨Eq.refl _, Eq.refl _, Eq.refl _, Eq.refl _, by unfold maxLen; omega⟩, ?_⟩
        repeat ((conv => whnf); first | refine ⟨Eq.refl _, ?_⟩ | refine ⟨⟨Eq.refl _, Eq.refl _⟩, ?_⟩ | refine ⟨⟨Eq.refl _, Eq.refl _, Eq.refl _⟩, ?_⟩ | refine ⟨⟨Eq.refl _, Eq.refl _, Eq.refl _, Eq.refl _⟩, ?_⟩ | refine ⟨⟨Eq.refl _, Eq.refl _, Eq.refl _, Eq.refl _, Eq.refl _⟩, ?_⟩ | refine fun (_ : Nat) => ?_ | refine fun (_ : Option Addr) (_ : Nat) => ?_ | fail)
        conv => whnf
        refine ⟨ecs.flatten, ⟨hE1, hEo⟩, ?_⟩
        repeat ((conv => whnf); first | refine ⟨Eq.refl _, ?_⟩ | refine ⟨⟨Eq.refl _, Eq.refl _⟩, ?_⟩ | refine ⟨⟨Eq.refl _, Eq.refl _, Eq.refl _⟩, ?_⟩ | refine ⟨⟨Eq.refl _, Eq.refl _, Eq.refl _, Eq.refl _⟩, ?_⟩ | refine ⟨⟨Eq.refl _, Eq.refl _, Eq.refl _, Eq.refl _, Eq.refl _⟩, ?_⟩ | refine fun (_ : Nat) => ?_ | refine fun (_ : Option Addr) (_ : Nat) => ?_ | fail)
        conv => whnf
        refine ⟨⟨by unfold maxLen; omega, by omega⟩, fun oa2 cap2 => ?_⟩
        repeat ((conv => whnf); first | refine ⟨Eq.refl _, ?_⟩ | refine ⟨⟨Eq.refl _, Eq.refl _⟩, ?_⟩ | refine ⟨⟨Eq.refl _, Eq.refl _, Eq.refl _⟩, ?_⟩ | refine ⟨⟨Eq.refl _, Eq.refl _, Eq.refl _, Eq.refl _⟩, ?_⟩ | refine ⟨⟨Eq.refl _, Eq.refl _, Eq.refl _, Eq.refl _, Eq.refl _⟩, ?_⟩ | refine fun (_ : Nat) => ?_ | refine fun (_ : Option Addr) (_ : Nat) => ?_ | fail)
        conv => whnf
        refine ⟨⟨by omega, by omega⟩, ?_⟩
        repeat ((conv => whnf); first | refine ⟨Eq.refl _, ?_⟩ | refine ⟨⟨Eq.refl _, Eq.refl _⟩, ?_⟩ | refine ⟨⟨Eq.refl _, Eq.refl _, Eq.refl _⟩, ?_⟩ | refine ⟨⟨Eq.refl _, Eq.refl _, Eq.refl _, Eq.refl _⟩, ?_⟩ | refine ⟨⟨Eq.refl _, Eq.refl _, Eq.refl _, Eq.refl _, Eq.refl _⟩, ?_⟩ | refine fun (_ : Nat) => ?_ | refine fun (_ : Option Addr) (_ : Nat) => ?_ | fail)
        conv => whnf
        refine ⟨⟨by unfold maxLen; omega, by omega⟩, fun oa3 cap3 => ?_⟩
        repeat ((conv => whnf); first | refine ⟨Eq.refl _, ?_⟩ | refine ⟨⟨Eq.refl _, Eq.refl _⟩, ?_⟩ | refine ⟨⟨Eq.refl _, Eq.refl _, Eq.refl _⟩, ?_⟩ | refine ⟨⟨Eq.refl _, Eq.refl _, Eq.refl _, Eq.refl _⟩, ?_⟩ | refine ⟨⟨Eq.refl _, Eq.refl _, Eq.refl _, Eq.refl _, Eq.refl _⟩, ?_⟩ | refine fun (_ : Nat) => ?_ | refine fun (_ : Option Addr) (_ : Nat) => ?_ | fail)
        conv => whnf
        refine fun g' hg' _ hp' => ?_
        have hT : rSl 1 rThread g' _ (s.threads.take (s.threads.length - 1) ++ [l.take (l.length - 1)]) := rSl_of hp'.rd _ (ecs ++ [[.slice oo (IntKind.i64.wrap ((l.length : Int) - 1)).toNat co]]) (by simp) (fun e he => by
            rcases List.mem_append.1 he with he | he
            · exact hE3 e he
            · simp only [List.mem_cons, List.not_mem_nil, or_false] at he; subst he; rfl) (by simp; omega) (by rw [List.length_append, hE2, hEl, ewn]; simp) fun i y ec hy hec => by
          rw [ewn] at hE4 hE2
          rcases Nat.lt_or_ge i (s.threads.take (s.threads.length - 1)).length with hlt | hge
          · rw [List.getElem?_append_left hlt] at hy
            rw [List.getElem?_append_left (by rw [hE2]; exact hlt)] at hec
            exact rThread_mono _ _ _ _ hg' (hE4 i y ec hy hec)
          · rw [List.getElem?_append_right hge] at hy
            rw [List.getElem?_append_right (by rw [hE2]; exact hge), hE2] at hec
            have : i - (s.threads.take (s.threads.length - 1)).length = 0 := by
              have := (List.getElem?_eq_some_iff.1 hy).1; simp at this ⊢; omega
            rw [this] at hy hec
            simp at hy hec; subst hy; subst hec
            exact ⟨_, rfl, by rw [← ewl]; exact (hv.take (by rw [ewl]; omega)).mono rOp_mono hg'⟩
        have hY : rScript g' _ ⟨s.first, s.threads.take (s.threads.length - 1) ++ [l.take (l.length - 1)], s.picks.take kp⟩ := ⟨_, _, _, _, _, rfl, rConfig_mono _ _ _ _ hg' hc0, hT, hpk.mono rInt_mono hg'⟩
        have hisY := less_last hB hl kp
        repeat ((conv => whnf); first | refine ⟨Eq.refl _, ?_⟩ | refine ⟨⟨Eq.refl _, Eq.refl _⟩, ?_⟩ | refine ⟨⟨Eq.refl _, Eq.refl _, Eq.refl _⟩, ?_⟩ | refine ⟨⟨Eq.refl _, Eq.refl _, Eq.refl _, Eq.refl _⟩, ?_⟩ | refine ⟨⟨Eq.refl _, Eq.refl _, Eq.refl _, Eq.refl _, Eq.refl _⟩, ?_⟩ | refine fun (_ : Nat) => ?_ | refine fun (_ : Option Addr) (_ : Nat) => ?_ | fail)
        conv => whnf
        refine .inl ⟨_, (ok_scIs _ hY).to (congrArg Value.bool hisY), ?_⟩
        repeat ((conv => whnf); first | refine ⟨Eq.refl _, ?_⟩ | refine ⟨⟨Eq.refl _, Eq.refl _⟩, ?_⟩ | refine ⟨⟨Eq.refl _, Eq.refl _, Eq.refl _⟩, ?_⟩ | refine ⟨⟨Eq.refl _, Eq.refl _, Eq.refl _, Eq.refl _⟩, ?_⟩ | refine ⟨⟨Eq.refl _, Eq.refl _, Eq.refl _, Eq.refl _, Eq.refl _⟩, ?_⟩ | refine fun (_ : Nat) => ?_ | refine fun (_ : Option Addr) (_ : Nat) => ?_ | fail)
        conv => whnf
        refine ⟨fun h => (nomatch h), fun _ => ?_⟩
        repeat ((conv => whnf); first | refine ⟨Eq.refl _, ?_⟩ | refine ⟨⟨Eq.refl _, Eq.refl _⟩, ?_⟩ | refine ⟨⟨Eq.refl _, Eq.refl _, Eq.refl _⟩, ?_⟩ | refine ⟨⟨Eq.refl _, Eq.refl _, Eq.refl _, Eq.refl _⟩, ?_⟩ | refine ⟨⟨Eq.refl _, Eq.refl _, Eq.refl _, Eq.refl _, Eq.refl _⟩, ?_⟩ | refine fun (_ : Nat) => ?_ | refine fun (_ : Option Addr) (_ : Nat) => ?_ | fail)
        conv => whnf
        refine ⟨⟨by omega, by omega⟩, ?_⟩
        repeat ((conv => whnf); first | refine ⟨Eq.refl _, ?_⟩ | refine ⟨⟨Eq.refl _, Eq.refl _⟩, ?_⟩ | refine ⟨⟨Eq.refl _, Eq.refl _, Eq.refl _⟩, ?_⟩ | refine ⟨⟨Eq.refl _, Eq.refl _, Eq.refl _, Eq.refl _⟩, ?_⟩ | refine ⟨⟨Eq.refl _, Eq.refl _, Eq.refl _, Eq.refl _, Eq.refl _⟩, ?_⟩ | refine fun (_ : Nat) => ?_ | refine fun (_ : Option Addr) (_ : Nat) => ?_ | fail)
        conv => whnf
        refine .inl ⟨_, ok_written8 _, ?_⟩
        repeat ((conv => whnf); first | refine ⟨Eq.refl _, ?_⟩ | refine ⟨⟨Eq.refl _, Eq.refl _⟩, ?_⟩ | refine ⟨⟨Eq.refl _, Eq.refl _, Eq.refl _⟩, ?_⟩ | refine ⟨⟨Eq.refl _, Eq.refl _, Eq.refl _, Eq.refl _⟩, ?_⟩ | refine ⟨⟨Eq.refl _, Eq.refl _, Eq.refl _, Eq.refl _, Eq.refl _⟩, ?_⟩ | refine fun (_ : Nat) => ?_ | refine fun (_ : Option Addr) (_ : Nat) => ?_ | fail)
        conv => whnf
        refine ⟨fun _ => ?_, fun h => nomatch h⟩
        repeat ((conv => whnf); first | refine ⟨Eq.refl _, ?_⟩ | refine ⟨⟨Eq.refl _, Eq.refl _⟩, ?_⟩ | refine ⟨⟨Eq.refl _, Eq.refl _, Eq.refl _⟩, ?_⟩ | refine ⟨⟨Eq.refl _, Eq.refl _, Eq.refl _, Eq.refl _⟩, ?_⟩ | refine ⟨⟨Eq.refl _, Eq.refl _, Eq.refl _, Eq.refl _, Eq.refl _⟩, ?_⟩ | refine fun (_ : Nat) => ?_ | refine fun (_ : Option Addr) (_ : Nat) => ?_ | fail)
        have hZ : rScript g' _ ⟨s.first, s.threads.take (IntKind.i64.wrap ((s.threads.length : Int) - 1)).toNat, s.picks.take kp⟩ := ⟨_, _, _, _, _, rfl, rConfig_mono _ _ _ _ hg' hc0, (ht.take (by rw [ewn]; omega)).mono rThread_mono hg', hpk.mono rInt_mono hg'⟩
        conv => whnf
        refine .inl ⟨_, ok_scIs _ hZ, ?_⟩
        repeat ((conv => whnf); first | refine ⟨Eq.refl _, ?_⟩ | refine ⟨⟨Eq.refl _, Eq.refl _⟩, ?_⟩ | refine ⟨⟨Eq.refl _, Eq.refl _, Eq.refl _⟩, ?_⟩ | refine ⟨⟨Eq.refl _, Eq.refl _, Eq.refl _, Eq.refl _⟩, ?_⟩ | refine ⟨⟨Eq.refl _, Eq.refl _, Eq.refl _, Eq.refl _, Eq.refl _⟩, ?_⟩ | refine fun (_ : Nat) => ?_ | refine fun (_ : Option Addr) (_ : Nat) => ?_ | fail)
        conv => whnf
        intro g2 hg
        refine congrArg Value.bool ?_
        rw [ewn, less_all hB, beq_iff_eq]
        by_cases h1 : 1 < s.threads.length
        · rw [decide_eq_true h1, decide_eq_true (by omega)]
        · rw [decide_eq_false h1, decide_eq_false (by omega)]
      repeat ((conv => whnf); first | refine ⟨Eq.refl _, ?_⟩ | refine ⟨⟨Eq.refl _, Eq.refl _⟩, ?_⟩ | refine ⟨⟨Eq.refl _, Eq.refl _, Eq.refl _⟩, ?_⟩ | refine ⟨⟨Eq.refl _, Eq.refl _, Eq.refl _, Eq.refl _⟩, ?_⟩ | refine ⟨⟨Eq.refl _, Eq.refl _, Eq.refl _, Eq.refl _, Eq.refl _⟩, ?_⟩ | refine fun (_ : Nat) => ?_ | refine fun (_ : Option Addr) (_ : Nat) => ?_ | fail)
      conv => whnf
      refine ⟨⟨by omega, by omega⟩, ?_⟩
      repeat ((conv => whnf); first | refine ⟨Eq.refl _, ?_⟩ | refine ⟨⟨Eq.refl _, Eq.refl _⟩, ?_⟩ | refine ⟨⟨Eq.refl _, Eq.refl _, Eq.refl _⟩, ?_⟩ | refine ⟨⟨Eq.refl _, Eq.refl _, Eq.refl _, Eq.refl _⟩, ?_⟩ | refine ⟨⟨Eq.refl _, Eq.refl _, Eq.refl _, Eq.refl _, Eq.refl _⟩, ?_⟩ | refine fun (_ : Nat) => ?_ | refine fun (_ : Option Addr) (_ : Nat) => ?_ | fail)
      conv => whnf
      refine .inl ⟨_, ok_written8 _, ?_⟩
      repeat ((conv => whnf); first | refine ⟨Eq.refl _, ?_⟩ | refine ⟨⟨Eq.refl _, Eq.refl _⟩, ?_⟩ | refine ⟨⟨Eq.refl _, Eq.refl _, Eq.refl _⟩, ?_⟩ | refine ⟨⟨Eq.refl _, Eq.refl _, Eq.refl _, Eq.refl _⟩, ?_⟩ | refine ⟨⟨Eq.refl _, Eq.refl _, Eq.refl _, Eq.refl _, Eq.refl _⟩, ?_⟩ | refine fun (_ : Nat) => ?_ | refine fun (_ : Option Addr) (_ : Nat) => ?_ | fail)
      conv => whnf
      refine ⟨fun _ => ?_, fun h => nomatch h⟩
      repeat ((conv => whnf); first | refine ⟨Eq.refl _, ?_⟩ | refine ⟨⟨Eq.refl _, Eq.refl _⟩, ?_⟩ | refine ⟨⟨Eq.refl _, Eq.refl _, Eq.refl _⟩, ?_⟩ | refine ⟨⟨Eq.refl _, Eq.refl _, Eq.refl _, Eq.refl _⟩, ?_⟩ | refine ⟨⟨Eq.refl _, Eq.refl _, Eq.refl _, Eq.refl _, Eq.refl _⟩, ?_⟩ | refine fun (_ : Nat) => ?_ | refine fun (_ : Option Addr) (_ : Nat) => ?_ | fail)
      have hZ : rScript g _ ⟨s.first, s.threads.take (IntKind.i64.wrap ((s.threads.length : Int) - 1)).toNat, s.picks.take kp⟩ := ⟨_, _, _, _, _, rfl, rConfig_mono _ _ _ _ (GW.refl g) hc0, (ht.take (by rw [ewn]; omega)).mono rThread_mono (GW.refl g), hpk.mono rInt_mono (GW.refl g)⟩
      conv => whnf
      refine .inl ⟨_, ok_scIs _ hZ, ?_⟩
      repeat ((conv => whnf); first | refine ⟨Eq.refl _, ?_⟩ | refine ⟨⟨Eq.refl _, Eq.refl _⟩, ?_⟩ | refine ⟨⟨Eq.refl _, Eq.refl _, Eq.refl _⟩, ?_⟩ | refine ⟨⟨Eq.refl _, Eq.refl _, Eq.refl _, Eq.refl _⟩, ?_⟩ | refine ⟨⟨Eq.refl _, Eq.refl _, Eq.refl _, Eq.refl _, Eq.refl _⟩, ?_⟩ | refine fun (_ : Nat) => ?_ | refine fun (_ : Option Addr) (_ : Nat) => ?_ | fail)
      conv => whnf
      intro g2 hg
      refine congrArg Value.bool ?_
      rw [ewn, less_all hB, beq_iff_eq]
      by_cases h1 : 1 < s.threads.length
      · rw [decide_eq_true h1, decide_eq_true (by omega)]
      · rw [decide_eq_false h1, decide_eq_false (by omega)]
    have hpk : rSl 1 rInt g (.slice op s.picks.length cp) (s.picks.take s.picks.length) := by simpa using hp
    repeat ((conv => whnf); first | refine ⟨Eq.refl _, ?_⟩ | refine ⟨⟨Eq.refl _, Eq.refl _⟩, ?_⟩ | refine ⟨⟨Eq.refl _, Eq.refl _, Eq.refl _⟩, ?_⟩ | refine ⟨⟨Eq.refl _, Eq.refl _, Eq.refl _, Eq.refl _⟩, ?_⟩ | refine ⟨⟨Eq.refl _, Eq.refl _, Eq.refl _, Eq.refl _, Eq.refl _⟩, ?_⟩ | refine fun (_ : Nat) => ?_ | refine fun (_ : Option Addr) (_ : Nat) => ?_ | fail)
    have ewn : (IntKind.i64.wrap ((s.threads.length : Int) - 1)).toNat = s.threads.length - 1 := by rw [wr (by constructor <;> omega)]; omega
    have ewt : IntKind.i64.wrap ((s.threads.length : Int) - 1) = ((s.threads.length - 1 : Nat) : Int) := by rw [wr (by constructor <;> omega)]; omega
    obtain ⟨l, hl⟩ := getL_of (show s.threads.length - 1 < s.threads.length by omega)
    obtain ⟨aT, rfl, ec, hec, ⟨v, rfl, hv⟩, hcT⟩ := ht1 _ l hl
    obtain ⟨oo, co, rfl, o1, o2, o0, _⟩ := id hv
    conv => whnf
    refine ⟨aT, rfl, ⟨by omega, by omega⟩, ?_⟩
    repeat ((conv => whnf); first | refine ⟨Eq.refl _, ?_⟩ | refine ⟨⟨Eq.refl _, Eq.refl _⟩, ?_⟩ | refine ⟨⟨Eq.refl _, Eq.refl _, Eq.refl _⟩, ?_⟩ | refine ⟨⟨Eq.refl _, Eq.refl _, Eq.refl _, Eq.refl _⟩, ?_⟩ | refine ⟨⟨Eq.refl _, Eq.refl _, Eq.refl _, Eq.refl _, Eq.refl _⟩, ?_⟩ | refine fun (_ : Nat) => ?_ | refine fun (_ : Option Addr) (_ : Nat) => ?_ | fail)
    conv => whnf
    refine ⟨_, by rw [ewn]; exact hcT 0 _ rfl, ?_⟩
    repeat ((conv => whnf); first | refine ⟨Eq.refl _, ?_⟩ | refine ⟨⟨Eq.refl _, Eq.refl _⟩, ?_⟩ | refine ⟨⟨Eq.refl _, Eq.refl _, Eq.refl _⟩, ?_⟩ | refine ⟨⟨Eq.refl _, Eq.refl _, Eq.refl _, Eq.refl _⟩, ?_⟩ | refine ⟨⟨Eq.refl _, Eq.refl _, Eq.refl _, Eq.refl _, Eq.refl _⟩, ?_⟩ | refine fun (_ : Nat) => ?_ | refine fun (_ : Option Addr) (_ : Nat) => ?_ | fail)
    conv => whnf
    refine ⟨fun q1 => ?_, fun q1 => ?_⟩
    · have hlp : 0 < l.length := by have := of_decide_eq_true q1; omega
      have hlm : l.length ≤ 16 := (hB.2.2.2.2.1 l (List.mem_of_getElem? hl)).1
      have ewl : (IntKind.i64.wrap ((l.length : Int) - 1)).toNat = l.length - 1 := by rw [wr (by constructor <;> omega)]; omega
      have ewl2 : IntKind.i64.wrap ((l.length : Int) - 1) = ((l.length - 1 : Nat) : Int) := by rw [wr (by constructor <;> omega)]; omega
      obtain ⟨ecs, hE1, hE2, hE3, hE4⟩ := rSl_rdE (ht.take (k := (IntKind.i64.wrap ((s.threads.length : Int) - 1)).toNat) (by rw [ewn]; omega))
      have hEl : (s.threads.take (IntKind.i64.wrap ((s.threads.length : Int) - 1)).toNat).length = (IntKind.i64.wrap ((s.threads.length : Int) - 1)).toNat := by rw [List.length_take, ewn]; omega
      rw [hEl] at hE1
      have hEo : ∀ u ∈ ecs.flatten, u.oneCell' = true := fun u hu => by
        obtain ⟨e, he, hu⟩ := List.mem_flatten.1 hu
        obtain ⟨i, hi⟩ := List.getElem?_of_mem he
        obtain ⟨y, hy⟩ := getL_of (show i < (s.threads.take (IntKind.i64.wrap ((s.threads.length : Int) - 1)).toNat).length by have := (List.getElem?_eq_some_iff.1 hi).1; omega)
        obtain ⟨v, rfl, _, _, rfl, _⟩ := hE4 i y e hy hi
        simp only [List.mem_cons, List.not_mem_nil, or_false] at hu
        subst hu; rfl
      repeat ((conv => whnf); first | refine ⟨Eq.refl _, ?_⟩ | refine ⟨⟨Eq.refl _, Eq.refl _⟩, ?_⟩ | refine ⟨⟨Eq.refl _, Eq.refl _, Eq.refl _⟩, ?_⟩ | refine ⟨⟨Eq.refl _, Eq.refl _, Eq.refl _, Eq.refl _⟩, ?_⟩ | refine ⟨⟨Eq.refl _, Eq.refl _, Eq.refl _, Eq.refl _, Eq.refl _⟩, ?_⟩ | refine fun (_ : Nat) => ?_ | refine fun (_ : Option Addr) (_ : Nat) => ?_ | fail)
      conv => whnf
      refine ⟨⟨by omega, by omega⟩, ?_⟩
      repeat ((conv => whnf); first | refine ⟨Eq.refl _, ?_⟩ | refine ⟨⟨Eq.refl _, Eq.refl _⟩, ?_⟩ | refine ⟨⟨Eq.refl _, Eq.refl _, Eq.refl _⟩, ?_⟩ | refine ⟨⟨Eq.refl _, Eq.refl _, Eq.refl _, Eq.refl _⟩, ?_⟩ | refine ⟨⟨Eq.refl _, Eq.refl _, Eq.refl _, Eq.refl _, Eq.refl _⟩, ?_⟩ | refine fun (_ : Nat) => ?_ | refine fun (_ : Option Addr) (_ : Nat) => ?_ | fail)
      conv => whnf
      refine ⟨⟨Eq.refl _, Eq.refl _, Eq.refl _, Eq.refl _, by unfold maxLen; omega⟩, ?_⟩
      repeat ((conv => whnf); first | refine ⟨Eq.refl _, ?_⟩ | refine ⟨⟨Eq.refl _, Eq.refl _⟩, ?_⟩ | refine ⟨⟨Eq.refl _, Eq.refl _, Eq.refl _⟩, ?_⟩ | refine ⟨⟨Eq.refl _, Eq.refl _, Eq.refl _, Eq.refl _⟩, ?_⟩ | refine ⟨⟨Eq.refl _, Eq.refl _, Eq.refl _, Eq.refl _, Eq.refl _⟩, ?_⟩ | refine fun (_ : Nat) => ?_ | refine fun (_ : Option Addr) (_ : Nat) => ?_ | fail)
      conv => whnf
      refine ⟨ecs.flatten, ⟨hE1, hEo⟩, ?_⟩
      repeat ((conv => whnf); first | refine ⟨Eq.refl _, ?_⟩ | refine ⟨⟨Eq.refl _, Eq.refl _⟩, ?_⟩ | refine ⟨⟨Eq.refl _, Eq.refl _, Eq.refl _⟩, ?_⟩ | refine ⟨⟨Eq.refl _, Eq.refl _, Eq.refl _, Eq.refl _⟩, ?_⟩ | refine ⟨⟨Eq.refl _, Eq.refl _, Eq.refl _, Eq.refl _, Eq.refl _⟩, ?_⟩ | refine fun (_ : Nat) => ?_ | refine fun (_ : Option Addr) (_ : Nat) => ?_ | fail)
      conv => whnf
      refine ⟨⟨by unfold maxLen; omega, by omega⟩, fun oa2 cap2 => ?_⟩
      repeat ((conv => whnf); first | refine ⟨Eq.refl _, ?_⟩ | refine ⟨⟨Eq.refl _, Eq.refl _⟩, ?_⟩ | refine ⟨⟨Eq.refl _, Eq.refl _, Eq.refl _⟩, ?_⟩ | refine ⟨⟨Eq.refl _, Eq.refl _, Eq.refl _, Eq.refl _⟩, ?_⟩ | refine ⟨⟨Eq.refl _, Eq.refl _, Eq.refl _, Eq.refl _, Eq.refl _⟩, ?_⟩ | refine fun (_ : Nat) => ?_ | refine fun (_ : Option Addr) (_ : Nat) => ?_ | fail)
      conv => whnf
      refine ⟨⟨by omega, by omega⟩, ?_⟩
      repeat ((conv => whnf); first | refine ⟨Eq.refl _, ?_⟩ | refine ⟨⟨Eq.refl _, Eq.refl _⟩, ?_⟩ | refine ⟨⟨Eq.refl _, Eq.refl _, Eq.refl _⟩, ?_⟩ | refine ⟨⟨Eq.refl _, Eq.refl _, Eq.refl _, Eq.refl _⟩, ?_⟩ | refine ⟨⟨Eq.refl _, Eq.refl _, Eq.refl _, Eq.refl _, Eq.refl _⟩, ?_⟩ | refine fun (_ : Nat) => ?_ | refine fun (_ : Option Addr) (_ : Nat) => ?_ | fail)
      conv => whnf
      refine ⟨⟨by unfold maxLen; omega, by omega⟩, fun oa3 cap3 => ?_⟩
      repeat ((conv => whnf); first | refine ⟨Eq.refl _, ?_⟩ | refine ⟨⟨Eq.refl _, Eq.refl _⟩, ?_⟩ | refine ⟨⟨Eq.refl _, Eq.refl _, Eq.refl _⟩, ?_⟩ | refine ⟨⟨Eq.refl _, Eq.refl _, Eq.refl _, Eq.refl _⟩, ?_⟩ | refine ⟨⟨Eq.refl _, Eq.refl _, Eq.refl _, Eq.refl _, Eq.refl _⟩, ?_⟩ | refine fun (_ : Nat) => ?_ | refine fun (_ : Option Addr) (_ : Nat) => ?_ | fail)
      conv => whnf
      refine fun g' hg' _ hp' => ?_
      have hT : rSl 1 rThread g' _ (s.threads.take (s.threads.length - 1) ++ [l.take (l.length - 1)]) := rSl_of hp'.rd _ (ecs ++ [[.slice oo (IntKind.i64.wrap ((l.length : Int) - 1)).toNat co]]) (by simp) (fun e he => by
          rcases List.mem_append.1 he with he | he
          · exact hE3 e he
          · simp only [List.mem_cons, List.not_mem_nil, or_false] at he; subst he; rfl) (by simp; omega) (by rw [List.length_append, hE2, hEl, ewn]; simp) fun i y ec hy hec => by
        rw [ewn] at hE4 hE2
        rcases Nat.lt_or_ge i (s.threads.take (s.threads.length - 1)).length with hlt | hge
        · rw [List.getElem?_append_left hlt] at hy
          rw [List.getElem?_append_left (by rw [hE2]; exact hlt)] at hec
          exact rThread_mono _ _ _ _ hg' (hE4 i y ec hy hec)
        · rw [List.getElem?_append_right hge] at hy
          rw [List.getElem?_append_right (by rw [hE2]; exact hge), hE2] at hec
          have : i - (s.threads.take (s.threads.length - 1)).length = 0 := by
            have := (List.getElem?_eq_some_iff.1 hy).1; simp at this ⊢; omega
          rw [this] at hy hec
          simp at hy hec; subst hy; subst hec
          exact ⟨_, rfl, by rw [← ewl]; exact (hv.take (by rw [ewl]; omega)).mono rOp_mono hg'⟩
      have hY : rScript g' _ ⟨s.first, s.threads.take (s.threads.length - 1) ++ [l.take (l.length - 1)], s.picks.take s.picks.length⟩ := ⟨_, _, _, _, _, rfl, rConfig_mono _ _ _ _ hg' hc0, hT, hpk.mono rInt_mono hg'⟩
      have hisY := less_last hB hl s.picks.length
      repeat ((conv => whnf); first | refine ⟨Eq.refl _, ?_⟩ | refine ⟨⟨Eq.refl _, Eq.refl _⟩, ?_⟩ | refine ⟨⟨Eq.refl _, Eq.refl _, Eq.refl _⟩, ?_⟩ | refine ⟨⟨Eq.refl _, Eq.refl _, Eq.refl _, Eq.refl _⟩, ?_⟩ | refine ⟨⟨Eq.refl _, Eq.refl _, Eq.refl _, Eq.refl _, Eq.refl _⟩, ?_⟩ | refine fun (_ : Nat) => ?_ | refine fun (_ : Option Addr) (_ : Nat) => ?_ | fail)
      conv => whnf
      refine .inl ⟨_, (ok_scIs _ hY).to (congrArg Value.bool hisY), ?_⟩
      repeat ((conv => whnf); first | refine ⟨Eq.refl _, ?_⟩ | refine ⟨⟨Eq.refl _, Eq.refl _⟩, ?_⟩ | refine ⟨⟨Eq.refl _, Eq.refl _, Eq.refl _⟩, ?_⟩ | refine ⟨⟨Eq.refl _, Eq.refl _, Eq.refl _, Eq.refl _⟩, ?_⟩ | refine ⟨⟨Eq.refl _, Eq.refl _, Eq.refl _, Eq.refl _, Eq.refl _⟩, ?_⟩ | refine fun (_ : Nat) => ?_ | refine fun (_ : Option Addr) (_ : Nat) => ?_ | fail)
      conv => whnf
      refine ⟨fun h => (nomatch h), fun _ => ?_⟩
      repeat ((conv => whnf); first | refine ⟨Eq.refl _, ?_⟩ | refine ⟨⟨Eq.refl _, Eq.refl _⟩, ?_⟩ | refine ⟨⟨Eq.refl _, Eq.refl _, Eq.refl _⟩, ?_⟩ | refine ⟨⟨Eq.refl _, Eq.refl _, Eq.refl _, Eq.refl _⟩, ?_⟩ | refine ⟨⟨Eq.refl _, Eq.refl _, Eq.refl _, Eq.refl _, Eq.refl _⟩, ?_⟩ | refine fun (_ : Nat) => ?_ | refine fun (_ : Option Addr) (_ : Nat) => ?_ | fail)
      conv => whnf
      refine ⟨⟨by omega, by omega⟩, ?_⟩
      repeat ((conv => whnf); first | refine ⟨Eq.refl _, ?_⟩ | refine ⟨⟨Eq.refl _, Eq.refl _⟩, ?_⟩ | refine ⟨⟨Eq.refl _, Eq.refl _, Eq.refl _⟩, ?_⟩ | refine ⟨⟨Eq.refl _, Eq.refl _, Eq.refl _, Eq.refl _⟩, ?_⟩ | refine ⟨⟨Eq.refl _, Eq.refl _, Eq.refl _, Eq.refl _, Eq.refl _⟩, ?_⟩ | refine fun (_ : Nat) => ?_ | refine fun (_ : Option Addr) (_ : Nat) => ?_ | fail)
      conv => whnf
      refine .inl ⟨_, ok_written8 _, ?_⟩
      repeat ((conv => whnf); first | refine ⟨Eq.refl _, ?_⟩ | refine ⟨⟨Eq.refl _, Eq.refl _⟩, ?_⟩ | refine ⟨⟨Eq.refl _, Eq.refl _, Eq.refl _⟩, ?_⟩ | refine ⟨⟨Eq.refl _, Eq.refl _, Eq.refl _, Eq.refl _⟩, ?_⟩ | refine ⟨⟨Eq.refl _, Eq.refl _, Eq.refl _, Eq.refl _, Eq.refl _⟩, ?_⟩ | refine fun (_ : Nat) => ?_ | refine fun (_ : Option Addr) (_ : Nat) => ?_ | fail)
      conv => whnf
      refine ⟨fun _ => ?_, fun h => nomatch h⟩
      repeat ((conv => whnf); first | refine ⟨Eq.refl _, ?_⟩ | refine ⟨⟨Eq.refl _, Eq.refl _⟩, ?_⟩ | refine ⟨⟨Eq.refl _, Eq.refl _, Eq.refl _⟩, ?_⟩ | refine ⟨⟨Eq.refl _, Eq.refl _, Eq.refl _, Eq.refl _⟩, ?_⟩ | refine ⟨⟨Eq.refl _, Eq.refl _, Eq.refl _, Eq.refl _, Eq.refl _⟩, ?_⟩ | refine fun (_ : Nat) => ?_ | refine fun (_ : Option Addr) (_ : Nat) => ?_ | fail)
      have hZ : rScript g' _ ⟨s.first, s.threads.take (IntKind.i64.wrap ((s.threads.length : Int) - 1)).toNat, s.picks.take s.picks.length⟩ := ⟨_, _, _, _, _, rfl, rConfig_mono _ _ _ _ hg' hc0, (ht.take (by rw [ewn]; omega)).mono rThread_mono hg', hpk.mono rInt_mono hg'⟩
      conv => whnf
      refine .inl ⟨_, ok_scIs _ hZ, ?_⟩
      repeat ((conv => whnf); first | refine ⟨Eq.refl _, ?_⟩ | refine ⟨⟨Eq.refl _, Eq.refl _⟩, ?_⟩ | refine ⟨⟨Eq.refl _, Eq.refl _, Eq.refl _⟩, ?_⟩ | refine ⟨⟨Eq.refl _, Eq.refl _, Eq.refl _, Eq.refl _⟩, ?_⟩ | refine ⟨⟨Eq.refl _, Eq.refl _, Eq.refl _, Eq.refl _, Eq.refl _⟩, ?_⟩ | refine fun (_ : Nat) => ?_ | refine fun (_ : Option Addr) (_ : Nat) => ?_ | fail)
      conv => whnf
      intro g2 hg
      refine congrArg Value.bool ?_
      rw [ewn, less_all hB, beq_iff_eq]
      by_cases h1 : 1 < s.threads.length
      · rw [decide_eq_true h1, decide_eq_true (by omega)]
      · rw [decide_eq_false h1, decide_eq_false (by omega)]
    repeat ((conv => whnf); first | refine ⟨Eq.refl _, ?_⟩ | refine ⟨⟨Eq.refl _, Eq.refl _⟩, ?_⟩ | refine ⟨⟨Eq.refl _, Eq.refl _, Eq.refl _⟩, ?_⟩ | refine ⟨⟨Eq.refl _, Eq.refl _, Eq.refl _, Eq.refl _⟩, ?_⟩ | refine ⟨⟨Eq.refl _, Eq.refl _, Eq.refl _, Eq.refl _, Eq.refl _⟩, ?_⟩ | refine fun (_ : Nat) => ?_ | refine fun (_ : Option Addr) (_ : Nat) => ?_ | fail)
    conv => whnf
    refine ⟨⟨by omega, by omega⟩, ?_⟩
    repeat ((conv => whnf); first | refine ⟨Eq.refl _, ?_⟩ | refine ⟨⟨Eq.refl _, Eq.refl _⟩, ?_⟩ | refine ⟨⟨Eq.refl _, Eq.refl _, Eq.refl _⟩, ?_⟩ | refine ⟨⟨Eq.refl _, Eq.refl _, Eq.refl _, Eq.refl _⟩, ?_⟩ | refine ⟨⟨Eq.refl _, Eq.refl _, Eq.refl _, Eq.refl _, Eq.refl _⟩, ?_⟩ | refine fun (_ : Nat) => ?_ | refine fun (_ : Option Addr) (_ : Nat) => ?_ | fail)
    conv => whnf
    refine .inl ⟨_, ok_written8 _, ?_⟩
    repeat ((conv => whnf); first | refine ⟨Eq.refl _, ?_⟩ | refine ⟨⟨Eq.refl _, Eq.refl _⟩, ?_⟩ | refine ⟨⟨Eq.refl _, Eq.refl _, Eq.refl _⟩, ?_⟩ | refine ⟨⟨Eq.refl _, Eq.refl _, Eq.refl _, Eq.refl _⟩, ?_⟩ | refine ⟨⟨Eq.refl _, Eq.refl _, Eq.refl _, Eq.refl _, Eq.refl _⟩, ?_⟩ | refine fun (_ : Nat) => ?_ | refine fun (_ : Option Addr) (_ : Nat) => ?_ | fail)
    conv => whnf
    refine ⟨fun _ => ?_, fun h => nomatch h⟩
    repeat ((conv => whnf); first | refine ⟨Eq.refl _, ?_⟩ | refine ⟨⟨Eq.refl _, Eq.refl _⟩, ?_⟩ | refine ⟨⟨Eq.refl _, Eq.refl _, Eq.refl _⟩, ?_⟩ | refine ⟨⟨Eq.refl _, Eq.refl _, Eq.refl _, Eq.refl _⟩, ?_⟩ | refine ⟨⟨Eq.refl _, Eq.refl _, Eq.refl _, Eq.refl _, Eq.refl _⟩, ?_⟩ | refine fun (_ : Nat) => ?_ | refine fun (_ : Option Addr) (_ : Nat) => ?_ | fail)
    have hZ : rScript g _ ⟨s.first, s.threads.take (IntKind.i64.wrap ((s.threads.length : Int) - 1)).toNat, s.picks.take s.picks.length⟩ := ⟨_, _, _, _, _, rfl, rConfig_mono _ _ _ _ (GW.refl g) hc0, (ht.take (by rw [ewn]; omega)).mono rThread_mono (GW.refl g), hpk.mono rInt_mono (GW.refl g)⟩
    conv => whnf
    refine .inl ⟨_, ok_scIs _ hZ, ?_⟩
    repeat ((conv => whnf); first | refine ⟨Eq.refl _, ?_⟩ | refine ⟨⟨Eq.refl _, Eq.refl _⟩, ?_⟩ | refine ⟨⟨Eq.refl _, Eq.refl _, Eq.refl _⟩, ?_⟩ | refine ⟨⟨Eq.refl _, Eq.refl _, Eq.refl _, Eq.refl _⟩, ?_⟩ | refine ⟨⟨Eq.refl _, Eq.refl _, Eq.refl _, Eq.refl _, Eq.refl _⟩, ?_⟩ | refine fun (_ : Nat) => ?_ | refine fun (_ : Option Addr) (_ : Nat) => ?_ | fail)
    conv => whnf
    intro g2 hg
    refine congrArg Value.bool ?_
    rw [ewn, less_all hB, beq_iff_eq]
    by_cases h1 : 1 < s.threads.length
    · rw [decide_eq_true h1, decide_eq_true (by omega)]
    · rw [decide_eq_false h1, decide_eq_false (by omega)])
end Go.Proofs.Ytedjbhpocedagaa

/- What came in of this seat's types is plain data. -/
namespace Go.Proofs.Ytedjbhpocedagaa
open Go.Proofs.Ytedjbhpocedagaa.Sx
section
variable {H : Type} {enc : TypeId × Value → H} {W : World}
theorem op_api_Rule : Rds enc Try.prog W ty_api_Rule rRule := rd_rule (tS := ty_string) (tI := ty_int) (by kernel_rfl) (by kernel_rfl) (by kernel_rfl) (by kernel_rfl)
theorem op___api_Rule : Rds enc Try.prog W ty_sl_api_Rule (rSlc 4 rRule) := rd_slice (e := ty_api_Rule) (by kernel_rfl) (by kernel_rfl) (by omega) op_api_Rule
theorem op_api_Route : Rds enc Try.prog W ty_api_Route rRoute := rd_route (tS := ty_string) (by kernel_rfl) (by kernel_rfl) (by kernel_rfl)
theorem op_api_Cluster : Rds enc Try.prog W ty_api_Cluster rCluster := rd_cluster (tS := ty_string) (tI := ty_int) (tL := ty_sl_bool) (tB := ty_bool) (by kernel_rfl) (by kernel_rfl) (by kernel_rfl) (by kernel_rfl) (by kernel_rfl) (by kernel_rfl) (by kernel_rfl)
theorem op_api_Config : Rds enc Try.prog W ty_api_Config rConfig := by
  intro fuel cs x h
  obtain ⟨a, b, d, rfl, ⟨l0, h0⟩, ⟨l1, h1⟩, l2, h2⟩ := rd_three (t0 := ty_sl_string) (t1 := ty_sl_api_Route) (t2 := ty_sl_api_Cluster) (e0 := ty_string) (e1 := ty_api_Route) (e2 := ty_api_Cluster) (z0 := 1) (z1 := 4) (z2 := 4)
    (by kernel_rfl) (by kernel_rfl) (by kernel_rfl) (by kernel_rfl) (by kernel_rfl) (by kernel_rfl) (by kernel_rfl) (by kernel_rfl) (by omega) (by omega) (by omega) (rd_str (by kernel_rfl)) op_api_Route op_api_Cluster h
  exact ⟨⟨l0, l1, l2⟩, a, b, d, rfl, h0, h1, h2⟩
end
end Go.Proofs.Ytedjbhpocedagaa

/- What came in of a snapshot is plain data. -/
namespace Go.Proofs.Ytedjbhpocedagaa
open Go.Proofs.Ytedjbhpocedagaa.Sx
section
variable {H : Type} {enc : TypeId × Value → H} {W : World}
theorem op_api_Snap : Rds enc Try.prog W ty_api_Snap rSnap := by
  intro fuel cs x h
  obtain ⟨a, b, d, rfl, ⟨l0, h0⟩, ⟨l1, h1⟩, l2, h2⟩ := rd_three (t0 := ty_sl_string) (t1 := ty_sl_api_Rule) (t2 := ty_sl_api_Cluster) (e0 := ty_string) (e1 := ty_api_Rule) (e2 := ty_api_Cluster) (z0 := 1) (z1 := 4) (z2 := 4)
    (by kernel_rfl) (by kernel_rfl) (by kernel_rfl) (by kernel_rfl) (by kernel_rfl) (by kernel_rfl) (by kernel_rfl) (by kernel_rfl) (by omega) (by omega) (by omega) (rd_str (by kernel_rfl)) op_api_Rule op_api_Cluster h
  exact ⟨⟨l0, l1, l2⟩, a, b, d, rfl, h0, h1, h2⟩
end
end Go.Proofs.Ytedjbhpocedagaa

/- What came in of scripts and bytes is plain data. -/
namespace Go.Proofs.Ytedjbhpocedagaa
open Go.Proofs.Ytedjbhpocedagaa.Sx
section
variable {H : Type} {enc : TypeId × Value → H} {W : World}
theorem u8_of {x : Int} (h : (Lit.int .u8 x).wf = true) : 0 ≤ x ∧ x ≤ 255 := by
  simpa [Lit.wf, IntKind.min, IntKind.max, IntKind.bits, IntKind.signed] using h
theorem rd_u8 {P : Program} {t : TypeId} (ht : P.underlying t = some (.int .u8)) : Rds enc P W t rByt := by
  intro fuel cs x h
  cases fuel with
  | zero => simp [tr, DataW.trod] at h
  | succ n =>
    unfold tr DataW.trod at h
    rw [ht] at h
    split at h <;> try (first | (cases h; done) | (simp_all; done))
    rename_i heq
    cases heq
    split at h
    · rename_i hc
      obtain ⟨rfl, hw⟩ := hc
      have hr := u8_of hw
      obtain ⟨n, hn⟩ := Int.eq_ofNat_of_zero_le hr.1
      exact ⟨n, by rw [hn], by omega⟩
    · cases h
theorem op___int : Rds enc Try.prog W ty_sl_int (rSlc 1 rInt) := rd_slice (e := ty_int) (by kernel_rfl) (by kernel_rfl) (by omega) (rd_int (by kernel_rfl))
theorem op___uint8 : Rds enc Try.prog W ty_sl_uint8 (rSlc 1 rByt) := rd_slice (e := ty_uint8) (by kernel_rfl) (by kernel_rfl) (by omega) (rd_u8 (by kernel_rfl))
theorem op_api_Op : Rds enc Try.prog W ty_api_Op rOp := by
  intro fuel cs x h
  obtain ⟨hl, hg⟩ := fld_at (l := [(0, 1, ty_int), (1, 1, ty_string), (2, 1, ty_string), (3, 1, ty_string), (4, 1, ty_int), (5, 1, ty_int), (6, 1, ty_int), (7, 3, ty_api_Config)]) (by kernel_rfl) h
  have hl : cs.length = 10 := hl.trans (by kernel_rfl)
  match cs, hl with
  | [a0, a1, a2, a3, a4, a5, a6, a7, a8, a9], _ =>
    have hI : ∀ {H : Type} {enc : TypeId × Value → H} {W : World}, Rds enc Try.prog W ty_int rInt := rd_int (by kernel_rfl)
    have hS : ∀ {H : Type} {enc : TypeId × Value → H} {W : World}, Rds enc Try.prog W ty_string rStr := rd_str (by kernel_rfl)
    obtain ⟨s0, e0, w0⟩ := hI.fld (hg 0 _ _ _ rfl)
    obtain ⟨s1, e1⟩ := hS.fld (hg 1 _ _ _ rfl)
    obtain ⟨s2, e2⟩ := hS.fld (hg 2 _ _ _ rfl)
    obtain ⟨s3, e3⟩ := hS.fld (hg 3 _ _ _ rfl)
    obtain ⟨s4, e4, w4⟩ := hI.fld (hg 4 _ _ _ rfl)
    obtain ⟨s5, e5, w5⟩ := hI.fld (hg 5 _ _ _ rfl)
    obtain ⟨s6, e6, w6⟩ := hI.fld (hg 6 _ _ _ rfl)
    obtain ⟨s7, e7⟩ := op_api_Config.fld (hg 7 _ _ _ rfl)
    cases e0; cases e1; cases e2; cases e3; cases e4; cases e5; cases e6
    exact ⟨⟨s0, s1, s2, s3, s4, s5, s6, s7⟩, _, _, _, rfl, ⟨w0, w4, w5, w6⟩, e7⟩
theorem op___api_Op : Rds enc Try.prog W ty_sl_api_Op rThread := rd_slice (e := ty_api_Op) (by kernel_rfl) (by kernel_rfl) (by omega) op_api_Op
theorem op_api_Script : Rds enc Try.prog W ty_api_Script rScript := by
  intro fuel cs x h
  obtain ⟨hl, hg⟩ := fld_at (l := [(0, 3, ty_api_Config), (3, 1, ty_slsl_api_Op), (4, 1, ty_sl_int)]) (by kernel_rfl) h
  have hl : cs.length = 5 := hl.trans (by kernel_rfl)
  match cs, hl with
  | [a0, a1, a2, a3, a4], _ =>
    obtain ⟨s0, e0⟩ := op_api_Config.fld (hg 0 _ _ _ rfl)
    obtain ⟨s1, v1, e1, h1⟩ := (rd_slice (enc := enc) (P := Try.prog) (W := W) (t := ty_slsl_api_Op) (e := ty_sl_api_Op) (sz := 1) (R := rThread) (by kernel_rfl) (by kernel_rfl) (by omega) op___api_Op).fld (hg 1 _ _ _ rfl)
    obtain ⟨s2, v2, e2, h2⟩ := op___int.fld (hg 2 _ _ _ rfl)
    cases e1; cases e2
    exact ⟨⟨s0, s1, s2⟩, _, _, _, _, _, rfl, e0, h1, h2⟩
end
end Go.Proofs.Ytedjbhpocedagaa
