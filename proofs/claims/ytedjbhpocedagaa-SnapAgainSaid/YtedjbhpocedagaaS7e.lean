/- Snapshots: what the laws ask first. -/
import Derived.Test.YtedjbhpocedagaaS7d
import Derived.Test.YtedjbhpocedagaaK5e
namespace Go.Proofs.Ytedjbhpocedagaa
open Go.Proofs.Ytedjbhpocedagaa.Sx Go.RowKit
def tP7 : List (Nat × FnI) := [(n_hydrantlaw07_plain, f_hydrantlaw07_plain)]
theorem tP7_ok : TblOk Try.prog tP7 := by
  intro x hx
  simp only [tP7, List.mem_cons, List.not_mem_nil, or_false] at hx
  rcases hx with rfl
  · exact ⟨_, _, t_hydrantlaw07_plain⟩
theorem snap_of {g : GW} {lo e1 e3 e4 : Nat} (l : List BA) (r : List Rule) (k1 k2 : Cluster) {h1 h2 vL vR vC : Value} (hL : PbSl g lo e1 1 vL l.length (l.map .string)) (hr : rSl 4 rRule g vR r)
    (hC : PbSl g lo e3 4 vC 2 (cClus k1 h1 ++ cClus k2 h2)) (hH1 : PbSl g lo e4 1 h1 k1.health.length (k1.health.map .bool)) (hH2 : PbSl g lo e4 1 h2 k2.health.length (k2.health.map .bool))
    (hI : (InR k1.policy ∧ InR k1.slots) ∧ InR k2.policy ∧ InR k2.slots) : rSnap g [vL, vR, vC] ⟨l, r, [k1, k2]⟩ := by
  obtain ⟨_, _, _, he, a1, _, a3⟩ := cfg_of (e2 := 0) l [] k1 k2 (vR := .slice none 0 0) hL ⟨rfl, .inl ⟨rfl, rfl⟩, fun _ h => nomatch h⟩ hC hH1 hH2 hI
  cases he
  exact ⟨_, _, _, rfl, a1, hr, a3⟩
theorem conf_of {g : GW} {lo e1 e3 e4 : Nat} (l : List BA) (r : List Route) (k1 k2 : Cluster) {h1 h2 vL vR vC : Value} (hL : PbSl g lo e1 1 vL l.length (l.map .string)) (hr : rSl 4 rRoute g vR r)
    (hC : PbSl g lo e3 4 vC 2 (cClus k1 h1 ++ cClus k2 h2)) (hH1 : PbSl g lo e4 1 h1 k1.health.length (k1.health.map .bool)) (hH2 : PbSl g lo e4 1 h2 k2.health.length (k2.health.map .bool))
    (hI : (InR k1.policy ∧ InR k1.slots) ∧ InR k2.policy ∧ InR k2.slots) : rConfig g [vL, vR, vC] ⟨l, r, [k1, k2]⟩ := by
  obtain ⟨_, _, _, he, a1, _, a3⟩ := cfg_of (e2 := 0) l [] k1 k2 (vR := .slice none 0 0) hL ⟨rfl, .inl ⟨rfl, rfl⟩, fun _ h => nomatch h⟩ hC hH1 hH2 hI
  cases he
  exact ⟨_, _, _, rfl, a1, hr, a3⟩
abbrev cfg7 : Config := ⟨[sIn], [pR1, pR2], [pC1, pC2]⟩
abbrev cfg7b : Config := ⟨[sIn], [pR1, ⟨sIn, ⟨#[120]⟩, ⟨#[47]⟩, ⟨#[99]⟩⟩], [pC1, pC2]⟩
abbrev rul7 : List Rule := [⟨0, ⟨#[42]⟩, ⟨#[47]⟩, 0⟩, ⟨0, ⟨#[120]⟩, ⟨#[47]⟩, 1⟩]
abbrev snap7 : Snap := ⟨[sIn], rul7, [pC1, pC2]⟩
theorem snap7_eq : builtS cfg7 = snap7 := by rfl
theorem good7 : checkE cfg7 = none := by decide
theorem conf7 : confS snap7 = cfg7 := by rw [← snap7_eq]; exact conf_built (good_iff.1 good7)
theorem sm7 : SmL snap7.rules := by
  intro x hx
  simp only [List.mem_cons, List.not_mem_nil, or_false] at hx
  rcases hx with rfl | rfl <;> decide
theorem ok_built7 (g : GW) : OkV Try.prog n_hydrantlaw07_built [] g (.bool true) :=
  Ok.of_fn hm tP7_ok 1 t_hydrantlaw07_built (args := []) (by
    repeat ((conv => whnf); first | refine ⟨Eq.refl _, ?_⟩ | refine ⟨⟨Eq.refl _, Eq.refl _⟩, ?_⟩ | refine ⟨⟨Eq.refl _, Eq.refl _, Eq.refl _⟩, ?_⟩ | refine ⟨⟨Eq.refl _, Eq.refl _, Eq.refl _, Eq.refl _⟩, ?_⟩ | refine ⟨⟨Eq.refl _, Eq.refl _, Eq.refl _, Eq.refl _, Eq.refl _⟩, ?_⟩ | refine fun (_ : Nat) => ?_ | refine fun (_ : Option Addr) (_ : Nat) => ?_ | fail)
    conv => whnf
    refine ⟨1, rfl, by unfold maxLen; omega, fun g1 hg1 hn1 hp1 => ?_⟩
    repeat ((conv => whnf); first | refine ⟨Eq.refl _, ?_⟩ | refine ⟨⟨Eq.refl _, Eq.refl _⟩, ?_⟩ | refine ⟨⟨Eq.refl _, Eq.refl _, Eq.refl _⟩, ?_⟩ | refine ⟨⟨Eq.refl _, Eq.refl _, Eq.refl _, Eq.refl _⟩, ?_⟩ | refine ⟨⟨Eq.refl _, Eq.refl _, Eq.refl _, Eq.refl _, Eq.refl _⟩, ?_⟩ | refine fun (_ : Nat) => ?_ | refine fun (_ : Option Addr) (_ : Nat) => ?_ | fail)
    conv => whnf
    refine ⟨4, rfl, by unfold maxLen; omega, fun g2 hg2 hn2 hp2 => ?_⟩
    repeat ((conv => whnf); first | refine ⟨Eq.refl _, ?_⟩ | refine ⟨⟨Eq.refl _, Eq.refl _⟩, ?_⟩ | refine ⟨⟨Eq.refl _, Eq.refl _, Eq.refl _⟩, ?_⟩ | refine ⟨⟨Eq.refl _, Eq.refl _, Eq.refl _, Eq.refl _⟩, ?_⟩ | refine ⟨⟨Eq.refl _, Eq.refl _, Eq.refl _, Eq.refl _, Eq.refl _⟩, ?_⟩ | refine fun (_ : Nat) => ?_ | refine fun (_ : Option Addr) (_ : Nat) => ?_ | fail)
    conv => whnf
    refine ⟨1, rfl, by unfold maxLen; omega, fun g3 hg3 hn3 hp3 => ?_⟩
    repeat ((conv => whnf); first | refine ⟨Eq.refl _, ?_⟩ | refine ⟨⟨Eq.refl _, Eq.refl _⟩, ?_⟩ | refine ⟨⟨Eq.refl _, Eq.refl _, Eq.refl _⟩, ?_⟩ | refine ⟨⟨Eq.refl _, Eq.refl _, Eq.refl _, Eq.refl _⟩, ?_⟩ | refine ⟨⟨Eq.refl _, Eq.refl _, Eq.refl _, Eq.refl _, Eq.refl _⟩, ?_⟩ | refine fun (_ : Nat) => ?_ | refine fun (_ : Option Addr) (_ : Nat) => ?_ | fail)
    conv => whnf
    refine ⟨1, rfl, by unfold maxLen; omega, fun g4 hg4 hn4 hp4 => ?_⟩
    repeat ((conv => whnf); first | refine ⟨Eq.refl _, ?_⟩ | refine ⟨⟨Eq.refl _, Eq.refl _⟩, ?_⟩ | refine ⟨⟨Eq.refl _, Eq.refl _, Eq.refl _⟩, ?_⟩ | refine ⟨⟨Eq.refl _, Eq.refl _, Eq.refl _, Eq.refl _⟩, ?_⟩ | refine ⟨⟨Eq.refl _, Eq.refl _, Eq.refl _, Eq.refl _, Eq.refl _⟩, ?_⟩ | refine fun (_ : Nat) => ?_ | refine fun (_ : Option Addr) (_ : Nat) => ?_ | fail)
    conv => whnf
    refine ⟨4, rfl, by unfold maxLen; omega, fun g5 hg5 hn5 hp5 => ?_⟩
    have q1 := (((hp1.mono hg2).mono hg3).mono hg4).mono hg5
    have q2 := ((hp2.mono hg3).mono hg4).mono hg5
    have q3 := (hp3.mono hg4).mono hg5
    have q4 := hp4.mono hg5
    have d12 := hp1.ne hn2
    have d32 := (hp2.ne hn3).symm
    have d42 := ((hp2.mono hg3).ne hn4).symm
    have d52 := (((hp2.mono hg3).mono hg4).ne hn5).symm
    clear hp1 hp2 hp3 hp4 hn1 hn2 hn3 hn4 hn5 hg1 hg2 hg3 hg4 hg5
    have hcfg : rConfig g5 _ cfg7 := cfg_of [sIn] [pR1, pR2] pC1 pC2 q1 q2 hp5 q3 q4 (by decide)
    conv => whnf
    refine .inr ((ok_Build _ hcfg).mono fun v g6 hg6 hB => ?_)
    have hd := q2.dom
    rcases hB with ⟨_, oa, n, cap, rfl, hrl, hfr⟩ | ⟨e, i, he, _⟩
    rotate_left
    · rw [good7] at he; cases he
    replace q1 := q1.mono hg6
    replace q2 := q2.mono hg6
    replace q3 := q3.mono hg6
    replace q4 := q4.mono hg6
    replace q5 := hp5.mono hg6
    rw [snap7_eq] at hrl
    have hs6 := snap_of [sIn] rul7 pC1 pC2 q1 hrl q5 q3 q4 (by decide)
    repeat ((conv => whnf); first | refine ⟨Eq.refl _, ?_⟩ | refine ⟨⟨Eq.refl _, Eq.refl _⟩, ?_⟩ | refine ⟨⟨Eq.refl _, Eq.refl _, Eq.refl _⟩, ?_⟩ | refine ⟨⟨Eq.refl _, Eq.refl _, Eq.refl _, Eq.refl _⟩, ?_⟩ | refine ⟨⟨Eq.refl _, Eq.refl _, Eq.refl _, Eq.refl _, Eq.refl _⟩, ?_⟩ | refine fun (_ : Nat) => ?_ | refine fun (_ : Option Addr) (_ : Nat) => ?_ | fail)
    conv => whnf
    refine .inl ⟨.tuple #[.int .i64 1, .int .i64 0], (ok_Find _ hs6 _ _ _ ⟨sm7, by decide⟩).to rfl, ?_⟩
    repeat ((conv => whnf); first | refine ⟨Eq.refl _, ?_⟩ | refine ⟨⟨Eq.refl _, Eq.refl _⟩, ?_⟩ | refine ⟨⟨Eq.refl _, Eq.refl _, Eq.refl _⟩, ?_⟩ | refine ⟨⟨Eq.refl _, Eq.refl _, Eq.refl _, Eq.refl _⟩, ?_⟩ | refine ⟨⟨Eq.refl _, Eq.refl _, Eq.refl _, Eq.refl _, Eq.refl _⟩, ?_⟩ | refine fun (_ : Nat) => ?_ | refine fun (_ : Option Addr) (_ : Nat) => ?_ | fail)
    conv => whnf
    refine .inl ⟨.tuple #[.int .i64 0, .int .i64 3], (ok_Find _ hs6 _ _ _ ⟨sm7, by decide⟩).to rfl, ?_⟩
    repeat ((conv => whnf); first | refine ⟨Eq.refl _, ?_⟩ | refine ⟨⟨Eq.refl _, Eq.refl _⟩, ?_⟩ | refine ⟨⟨Eq.refl _, Eq.refl _, Eq.refl _⟩, ?_⟩ | refine ⟨⟨Eq.refl _, Eq.refl _, Eq.refl _, Eq.refl _⟩, ?_⟩ | refine ⟨⟨Eq.refl _, Eq.refl _, Eq.refl _, Eq.refl _, Eq.refl _⟩, ?_⟩ | refine fun (_ : Nat) => ?_ | refine fun (_ : Option Addr) (_ : Nat) => ?_ | fail)
    conv => whnf
    refine .inl ⟨.tuple #[.int .i64 0, .int .i64 5], (ok_Find _ hs6 _ _ _ ⟨sm7, by decide⟩).to rfl, ?_⟩
    obtain ⟨rest, ⟨p1, p2, p3⟩, pk⟩ := q2.poke
    repeat ((conv => whnf); first | refine ⟨Eq.refl _, ?_⟩ | refine ⟨⟨Eq.refl _, Eq.refl _⟩, ?_⟩ | refine ⟨⟨Eq.refl _, Eq.refl _, Eq.refl _⟩, ?_⟩ | refine ⟨⟨Eq.refl _, Eq.refl _, Eq.refl _, Eq.refl _⟩, ?_⟩ | refine ⟨⟨Eq.refl _, Eq.refl _, Eq.refl _, Eq.refl _, Eq.refl _⟩, ?_⟩ | refine fun (_ : Nat) => ?_ | refine fun (_ : Option Addr) (_ : Nat) => ?_ | fail)
    conv => whnf
    refine ⟨_, rfl, ⟨by decide, by decide⟩, ?_⟩
    repeat ((conv => whnf); first | refine ⟨Eq.refl _, ?_⟩ | refine ⟨⟨Eq.refl _, Eq.refl _⟩, ?_⟩ | refine ⟨⟨Eq.refl _, Eq.refl _, Eq.refl _⟩, ?_⟩ | refine ⟨⟨Eq.refl _, Eq.refl _, Eq.refl _, Eq.refl _⟩, ?_⟩ | refine ⟨⟨Eq.refl _, Eq.refl _, Eq.refl _, Eq.refl _, Eq.refl _⟩, ?_⟩ | refine fun (_ : Nat) => ?_ | refine fun (_ : Option Addr) (_ : Nat) => ?_ | fail)
    conv => whnf
    refine ⟨_, 7, _, _, ⟨rfl, p1, p2, p3, by simp⟩, ?_⟩
    repeat ((conv => whnf); first | refine ⟨Eq.refl _, ?_⟩ | refine ⟨⟨Eq.refl _, Eq.refl _⟩, ?_⟩ | refine ⟨⟨Eq.refl _, Eq.refl _, Eq.refl _⟩, ?_⟩ | refine ⟨⟨Eq.refl _, Eq.refl _, Eq.refl _, Eq.refl _⟩, ?_⟩ | refine ⟨⟨Eq.refl _, Eq.refl _, Eq.refl _, Eq.refl _, Eq.refl _⟩, ?_⟩ | refine fun (_ : Nat) => ?_ | refine fun (_ : Option Addr) (_ : Nat) => ?_ | fail)
    conv => whnf
    refine fun g7 u7 => ?_
    replace q2 := pk 7 1 _ _ (by decide) rfl (by decide) u7
    clear p1 p2 p3 pk hs6 hcfg hp5
    replace q1 := q1.keep u7 d12
    replace q3 := q3.keep u7 d32
    replace q4 := q4.keep u7 d42
    replace q5 := q5.keep u7 d52
    replace hrl := hrl.keep0 (fun _ _ _ _ h => h) u7 (fun x hx e => hfr x hx (by rw [e]; exact hd))
    have hcfg : rConfig g7 _ cfg7b := cfg_of [sIn] [pR1, ⟨sIn, ⟨#[120]⟩, ⟨#[47]⟩, ⟨#[99]⟩⟩] pC1 pC2 q1 q2 q5 q3 q4 (by decide)
    obtain rfl : n = 2 := by
      obtain ⟨_, _, he, _⟩ := id hrl
      simp only [Value.slice.injEq] at he
      exact he.2.1
    repeat ((conv => whnf); first | refine ⟨Eq.refl _, ?_⟩ | refine ⟨⟨Eq.refl _, Eq.refl _⟩, ?_⟩ | refine ⟨⟨Eq.refl _, Eq.refl _, Eq.refl _⟩, ?_⟩ | refine ⟨⟨Eq.refl _, Eq.refl _, Eq.refl _, Eq.refl _⟩, ?_⟩ | refine ⟨⟨Eq.refl _, Eq.refl _, Eq.refl _, Eq.refl _, Eq.refl _⟩, ?_⟩ | refine fun (_ : Nat) => ?_ | refine fun (_ : Option Addr) (_ : Nat) => ?_ | fail)
    refine .inr ((ok_Build _ hcfg).mono fun v g8 hg8 hB => ?_)
    have hbad : checkE cfg7b = some (5, 1) := by decide
    rcases hB with ⟨he, _⟩ | ⟨e, i, he, rfl⟩
    · rw [hbad] at he; cases he
    obtain ⟨rfl, rfl⟩ : e = 5 ∧ i = 1 := by rw [hbad] at he; cases he; exact ⟨rfl, rfl⟩
    clear hcfg q2
    replace q1 := q1.mono hg8
    replace q3 := q3.mono hg8
    replace q4 := q4.mono hg8
    replace q5 := q5.mono hg8
    replace hrl := hrl.mono rRule_mono hg8
    obtain ⟨oa', cap', he', h1, h2, h0, hr1⟩ := id hrl
    cases he'
    obtain ⟨aR, rfl, ecR, hecR, ⟨rfl, _, _⟩, hcR⟩ := hr1 1 _ rfl
    have hsn := snap_of [sIn] rul7 pC1 pC2 q1 hrl q5 q3 q4 (by decide)
    repeat ((conv => whnf); first | refine ⟨Eq.refl _, ?_⟩ | refine ⟨⟨Eq.refl _, Eq.refl _⟩, ?_⟩ | refine ⟨⟨Eq.refl _, Eq.refl _, Eq.refl _⟩, ?_⟩ | refine ⟨⟨Eq.refl _, Eq.refl _, Eq.refl _, Eq.refl _⟩, ?_⟩ | refine ⟨⟨Eq.refl _, Eq.refl _, Eq.refl _, Eq.refl _, Eq.refl _⟩, ?_⟩ | refine fun (_ : Nat) => ?_ | refine fun (_ : Option Addr) (_ : Nat) => ?_ | fail)
    conv => whnf
    refine ⟨fun h => (nomatch h), fun _ => ?_⟩
    conv => whnf
    refine ⟨fun _ => ?_, fun h => nomatch h⟩
    conv => whnf
    refine ⟨fun _ => ?_, fun h => nomatch h⟩
    repeat ((conv => whnf); first | refine ⟨Eq.refl _, ?_⟩ | refine ⟨⟨Eq.refl _, Eq.refl _⟩, ?_⟩ | refine ⟨⟨Eq.refl _, Eq.refl _, Eq.refl _⟩, ?_⟩ | refine ⟨⟨Eq.refl _, Eq.refl _, Eq.refl _, Eq.refl _⟩, ?_⟩ | refine ⟨⟨Eq.refl _, Eq.refl _, Eq.refl _, Eq.refl _, Eq.refl _⟩, ?_⟩ | refine fun (_ : Nat) => ?_ | refine fun (_ : Option Addr) (_ : Nat) => ?_ | fail)
    conv => whnf
    refine ⟨aR, rfl, ⟨by decide, by decide⟩, ?_⟩
    conv => whnf
    refine ⟨_, ⟨rfl, hcR⟩, ?_⟩
    repeat ((conv => whnf); first | refine ⟨Eq.refl _, ?_⟩ | refine ⟨⟨Eq.refl _, Eq.refl _⟩, ?_⟩ | refine ⟨⟨Eq.refl _, Eq.refl _, Eq.refl _⟩, ?_⟩ | refine ⟨⟨Eq.refl _, Eq.refl _, Eq.refl _, Eq.refl _⟩, ?_⟩ | refine ⟨⟨Eq.refl _, Eq.refl _, Eq.refl _, Eq.refl _, Eq.refl _⟩, ?_⟩ | refine fun (_ : Nat) => ?_ | refine fun (_ : Option Addr) (_ : Nat) => ?_ | fail)
    conv => whnf
    refine ⟨fun _ => ?_, fun h => nomatch h⟩
    conv => whnf
    refine ⟨fun _ => ?_, fun h => nomatch h⟩
    conv => whnf
    refine ⟨fun _ => ?_, fun h => nomatch h⟩
    conv => whnf
    refine ⟨fun _ => ?_, fun h => nomatch h⟩
    conv => whnf
    refine ⟨fun _ => ?_, fun h => nomatch h⟩
    conv => whnf
    refine ⟨fun _ => ?_, fun h => nomatch h⟩
    conv => whnf
    refine ⟨fun _ => ?_, fun h => nomatch h⟩
    have hsz : snap7.rules.length ≤ 1000000 := by decide
    repeat ((conv => whnf); first | refine ⟨Eq.refl _, ?_⟩ | refine ⟨⟨Eq.refl _, Eq.refl _⟩, ?_⟩ | refine ⟨⟨Eq.refl _, Eq.refl _, Eq.refl _⟩, ?_⟩ | refine ⟨⟨Eq.refl _, Eq.refl _, Eq.refl _, Eq.refl _⟩, ?_⟩ | refine ⟨⟨Eq.refl _, Eq.refl _, Eq.refl _, Eq.refl _, Eq.refl _⟩, ?_⟩ | refine fun (_ : Nat) => ?_ | refine fun (_ : Option Addr) (_ : Nat) => ?_ | fail)
    conv => whnf
    refine .inl ⟨_, (ok_sIs _ hsn hsz).to (congrArg Value.bool (eqB_t (by rw [conf7]; exact good7))), ?_⟩
    conv => whnf
    refine ⟨fun _ => ?_, fun h => nomatch h⟩
    repeat ((conv => whnf); first | refine ⟨Eq.refl _, ?_⟩ | refine ⟨⟨Eq.refl _, Eq.refl _⟩, ?_⟩ | refine ⟨⟨Eq.refl _, Eq.refl _, Eq.refl _⟩, ?_⟩ | refine ⟨⟨Eq.refl _, Eq.refl _, Eq.refl _, Eq.refl _⟩, ?_⟩ | refine ⟨⟨Eq.refl _, Eq.refl _, Eq.refl _, Eq.refl _, Eq.refl _⟩, ?_⟩ | refine fun (_ : Nat) => ?_ | refine fun (_ : Option Addr) (_ : Nat) => ?_ | fail)
    have hnil : rSnap g8 [.slice none 0 0, .slice none 0 0, .slice none 0 0] ⟨[], [], []⟩ :=
      ⟨_, _, _, rfl, ⟨none, 0, rfl, Nat.le_refl _, Nat.zero_le _, fun _ => ⟨rfl, rfl⟩, fun i x hx => by simp at hx⟩, ⟨none, 0, rfl, Nat.le_refl _, Nat.zero_le _, fun _ => ⟨rfl, rfl⟩, fun i x hx => by simp at hx⟩, ⟨none, 0, rfl, Nat.le_refl _, Nat.zero_le _, fun _ => ⟨rfl, rfl⟩, fun i x hx => by simp at hx⟩⟩
    conv => whnf
    refine .inl ⟨_, (ok_sIs _ hnil (by decide)).to (congrArg Value.bool (eqB_f (show checkE (confS ⟨[], [], []⟩) ≠ none by decide))), ?_⟩
    conv => whnf
    refine ⟨fun _ => ?_, fun h => nomatch h⟩
    repeat ((conv => whnf); first | refine ⟨Eq.refl _, ?_⟩ | refine ⟨⟨Eq.refl _, Eq.refl _⟩, ?_⟩ | refine ⟨⟨Eq.refl _, Eq.refl _, Eq.refl _⟩, ?_⟩ | refine ⟨⟨Eq.refl _, Eq.refl _, Eq.refl _, Eq.refl _⟩, ?_⟩ | refine ⟨⟨Eq.refl _, Eq.refl _, Eq.refl _, Eq.refl _, Eq.refl _⟩, ?_⟩ | refine fun (_ : Nat) => ?_ | refine fun (_ : Option Addr) (_ : Nat) => ?_ | fail)
    refine .inr ((ok_Config _ hsn hsz).mono fun v g9 hg9 hC => ?_)
    obtain ⟨oC, nC, cC, rfl, hrt⟩ := hC
    rw [show (confS snap7).routes = [pR1, pR2] from by rw [conf7]] at hrt
    repeat ((conv => whnf); first | refine ⟨Eq.refl _, ?_⟩ | refine ⟨⟨Eq.refl _, Eq.refl _⟩, ?_⟩ | refine ⟨⟨Eq.refl _, Eq.refl _, Eq.refl _⟩, ?_⟩ | refine ⟨⟨Eq.refl _, Eq.refl _, Eq.refl _, Eq.refl _⟩, ?_⟩ | refine ⟨⟨Eq.refl _, Eq.refl _, Eq.refl _, Eq.refl _, Eq.refl _⟩, ?_⟩ | refine fun (_ : Nat) => ?_ | refine fun (_ : Option Addr) (_ : Nat) => ?_ | fail)
    conv => whnf
    refine ⟨1, rfl, by unfold maxLen; omega, fun b1 hb1 mn1 mp1 => ?_⟩
    repeat ((conv => whnf); first | refine ⟨Eq.refl _, ?_⟩ | refine ⟨⟨Eq.refl _, Eq.refl _⟩, ?_⟩ | refine ⟨⟨Eq.refl _, Eq.refl _, Eq.refl _⟩, ?_⟩ | refine ⟨⟨Eq.refl _, Eq.refl _, Eq.refl _, Eq.refl _⟩, ?_⟩ | refine ⟨⟨Eq.refl _, Eq.refl _, Eq.refl _, Eq.refl _, Eq.refl _⟩, ?_⟩ | refine fun (_ : Nat) => ?_ | refine fun (_ : Option Addr) (_ : Nat) => ?_ | fail)
    conv => whnf
    refine ⟨4, rfl, by unfold maxLen; omega, fun b2 hb2 mn2 mp2 => ?_⟩
    repeat ((conv => whnf); first | refine ⟨Eq.refl _, ?_⟩ | refine ⟨⟨Eq.refl _, Eq.refl _⟩, ?_⟩ | refine ⟨⟨Eq.refl _, Eq.refl _, Eq.refl _⟩, ?_⟩ | refine ⟨⟨Eq.refl _, Eq.refl _, Eq.refl _, Eq.refl _⟩, ?_⟩ | refine ⟨⟨Eq.refl _, Eq.refl _, Eq.refl _, Eq.refl _, Eq.refl _⟩, ?_⟩ | refine fun (_ : Nat) => ?_ | refine fun (_ : Option Addr) (_ : Nat) => ?_ | fail)
    conv => whnf
    refine ⟨1, rfl, by unfold maxLen; omega, fun b3 hb3 mn3 mp3 => ?_⟩
    repeat ((conv => whnf); first | refine ⟨Eq.refl _, ?_⟩ | refine ⟨⟨Eq.refl _, Eq.refl _⟩, ?_⟩ | refine ⟨⟨Eq.refl _, Eq.refl _, Eq.refl _⟩, ?_⟩ | refine ⟨⟨Eq.refl _, Eq.refl _, Eq.refl _, Eq.refl _⟩, ?_⟩ | refine ⟨⟨Eq.refl _, Eq.refl _, Eq.refl _, Eq.refl _, Eq.refl _⟩, ?_⟩ | refine fun (_ : Nat) => ?_ | refine fun (_ : Option Addr) (_ : Nat) => ?_ | fail)
    conv => whnf
    refine ⟨1, rfl, by unfold maxLen; omega, fun b4 hb4 mn4 mp4 => ?_⟩
    repeat ((conv => whnf); first | refine ⟨Eq.refl _, ?_⟩ | refine ⟨⟨Eq.refl _, Eq.refl _⟩, ?_⟩ | refine ⟨⟨Eq.refl _, Eq.refl _, Eq.refl _⟩, ?_⟩ | refine ⟨⟨Eq.refl _, Eq.refl _, Eq.refl _, Eq.refl _⟩, ?_⟩ | refine ⟨⟨Eq.refl _, Eq.refl _, Eq.refl _, Eq.refl _, Eq.refl _⟩, ?_⟩ | refine fun (_ : Nat) => ?_ | refine fun (_ : Option Addr) (_ : Nat) => ?_ | fail)
    conv => whnf
    refine ⟨4, rfl, by unfold maxLen; omega, fun b5 hb5 mn5 mp5 => ?_⟩
    have up : ∀ {ety sz : Nat} {v : Value} {n : Nat} {cs : List Value}, PbSl g8 g.w.heap.size ety sz v n cs → PbSl b5 g.w.heap.size ety sz v n cs := fun h => (((((h.mono hg9).mono hb1).mono hb2).mono hb3).mono hb4).mono hb5
    have hA := conf_of [sIn] [pR1, pR2] pC1 pC2 (up q1) (((((hrt.mono rRoute_mono hb1).mono rRoute_mono hb2).mono rRoute_mono hb3).mono rRoute_mono hb4).mono rRoute_mono hb5) (up q5) (up q3) (up q4) (by decide)
    have hB := cfg_of [sIn] [pR1, pR2] pC1 pC2 ((((mp1.mono hb2).mono hb3).mono hb4).mono hb5) (((mp2.mono hb3).mono hb4).mono hb5) mp5 ((mp3.mono hb4).mono hb5) (mp4.mono hb5) (by decide)
    repeat ((conv => whnf); first | refine ⟨Eq.refl _, ?_⟩ | refine ⟨⟨Eq.refl _, Eq.refl _⟩, ?_⟩ | refine ⟨⟨Eq.refl _, Eq.refl _, Eq.refl _⟩, ?_⟩ | refine ⟨⟨Eq.refl _, Eq.refl _, Eq.refl _, Eq.refl _⟩, ?_⟩ | refine ⟨⟨Eq.refl _, Eq.refl _, Eq.refl _, Eq.refl _, Eq.refl _⟩, ?_⟩ | refine fun (_ : Nat) => ?_ | refine fun (_ : Option Addr) (_ : Nat) => ?_ | fail)
    conv => whnf
    refine .inl ⟨_, (ok_SameConfigs _ hA hB).to (congrArg Value.bool (eqB_t rfl)), ?_⟩
    conv => whnf
    intro g2 hg
    rfl)
end Go.Proofs.Ytedjbhpocedagaa
