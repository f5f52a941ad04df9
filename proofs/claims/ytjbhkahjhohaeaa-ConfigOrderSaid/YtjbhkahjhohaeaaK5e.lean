/- Whether a configuration may be: what the laws ask first. -/
import Derived.Test.YtjbhkahjhohaeaaK5d
import Derived.Test.YtjbhkahjhohaeaaD3
namespace Go.Proofs.Ytjbhkahjhohaeaa
open Go.Proofs.Ytjbhkahjhohaeaa.Sx Go.RowKit
def tP5 : List (Nat × FnI) := [(n_hydrantlaw05_plain, f_hydrantlaw05_plain)]
theorem tP5_ok : TblOk Try.prog tP5 := by
  intro x hx
  simp only [tP5, List.mem_cons, List.not_mem_nil, or_false] at hx
  rcases hx with rfl
  · exact ⟨_, _, t_hydrantlaw05_plain⟩
abbrev cRoute (r : Route) : List Value := [.string r.listen, .string r.host, .string r.path, .string r.cluster]
abbrev cClus (k : Cluster) (h : Value) : List Value := [.string k.name, .int .i64 k.policy, .int .i64 k.slots, h]
theorem cfg_of {g : GW} {lo e1 e2 e3 e4 : Nat} (l : List BA) (r : List Route) (k1 k2 : Cluster) {h1 h2 vL vR vC : Value} (hL : PbSl g lo e1 1 vL l.length (l.map .string)) (hR : PbSl g lo e2 4 vR r.length (r.map cRoute).flatten)
    (hC : PbSl g lo e3 4 vC 2 (cClus k1 h1 ++ cClus k2 h2)) (hH1 : PbSl g lo e4 1 h1 k1.health.length (k1.health.map .bool)) (hH2 : PbSl g lo e4 1 h2 k2.health.length (k2.health.map .bool))
    (hI : (InR k1.policy ∧ InR k1.slots) ∧ InR k2.policy ∧ InR k2.slots) : rConfig g [vL, vR, vC] ⟨l, r, [k1, k2]⟩ := by
  refine ⟨_, _, _, rfl, rSl_of1 hL.rd l .string rfl fun _ _ => rfl, rSl_ofE hR.rd r cRoute rfl rfl (fun _ _ => rfl) fun _ _ => rfl, rSl_of hC.rd [k1, k2] [cClus k1 h1, cClus k2 h2] (by simp) (by simp) rfl rfl fun i x ec hx hec => ?_⟩
  have b1 := rSl_of1 (R := rBool) hH1.rd k1.health .bool rfl fun _ _ => rfl
  have b2 := rSl_of1 (R := rBool) hH2.rd k2.health .bool rfl fun _ _ => rfl
  match i, hx, hec with
  | 0, hx, hec => cases hx; cases hec; exact ⟨_, rfl, hI.1.1, hI.1.2, b1⟩
  | 1, hx, hec => cases hx; cases hec; exact ⟨_, rfl, hI.2.1, hI.2.2, b2⟩
  | i + 2, hx, hec => simp at hx
abbrev sIn : BA := ⟨#[105, 110]⟩
abbrev sA : BA := ⟨#[97]⟩
abbrev sB : BA := ⟨#[98]⟩
abbrev pR1 : Route := ⟨sIn, ⟨#[42]⟩, ⟨#[47]⟩, sA⟩
abbrev pR2 : Route := ⟨sIn, ⟨#[120]⟩, ⟨#[47]⟩, sB⟩
abbrev pC1 : Cluster := ⟨sA, 1, 1, [true]⟩
abbrev pC2 : Cluster := ⟨sB, 2, 4, [false, true]⟩
theorem ok_checked5 (g : GW) : OkV Try.prog n_hydrantlaw05_checked [] g (.bool true) :=
  Ok.of_fn hm tP5_ok 1 t_hydrantlaw05_checked (args := []) (by
    repeat ((conv => whnf); first | refine ⟨Eq.refl _, ?_⟩ | refine ⟨⟨Eq.refl _, Eq.refl _⟩, ?_⟩ | refine ⟨⟨Eq.refl _, Eq.refl _, Eq.refl _⟩, ?_⟩ | refine ⟨⟨Eq.refl _, Eq.refl _, Eq.refl _, Eq.refl _⟩, ?_⟩ | refine ⟨⟨Eq.refl _, Eq.refl _, Eq.refl _, Eq.refl _, Eq.refl _⟩, ?_⟩ | refine fun (_ : Nat) => ?_ | refine fun (_ : Option Addr) (_ : Nat) => ?_ | fail)
    conv => whnf
    refine ⟨1, rfl, by unfold maxLen; omega, fun g1 hg1 hn1 hp1 => ?_⟩
    repeat ((conv => whnf); first | refine ⟨Eq.refl _, ?_⟩ | refine ⟨⟨Eq.refl _, Eq.refl _⟩, ?_⟩ | refine ⟨⟨Eq.refl _, Eq.refl _, Eq.refl _⟩, ?_⟩ | refine ⟨⟨Eq.refl _, Eq.refl _, Eq.refl _, Eq.refl _⟩, ?_⟩ | refine ⟨⟨Eq.refl _, Eq.refl _, Eq.refl _, Eq.refl _, Eq.refl _⟩, ?_⟩ | refine fun (_ : Nat) => ?_ | refine fun (_ : Option Addr) (_ : Nat) => ?_ | fail)
    conv => whnf
    refine ⟨4, rfl, by unfold maxLen; omega, fun g2 hg2 hn2 hp2 => ?_⟩
    repeat ((conv => whnf); first | refine ⟨Eq.refl _, ?_⟩ | refine ⟨⟨Eq.refl _, Eq.refl _⟩, ?_⟩ | refine ⟨⟨Eq.refl _, Eq.refl _, Eq.refl _⟩, ?_⟩ | refine ⟨⟨Eq.refl _, Eq.refl _, Eq.refl _, Eq.refl _⟩, ?_⟩ | refine ⟨⟨Eq.refl _, Eq.refl _, Eq.refl _, Eq.refl _, Eq.refl _⟩, ?_⟩ | refine fun (_ : Nat) => ?_ | refine fun (_ : Option Addr) (_ : Nat) => ?_ | fail)
    conv => whnf
    refine ⟨1, rfl, by unfold maxLen; omega, fun g3 hg3 hn3 hp3 => ?_⟩
    repeat ((conv => whnf); first | refine ⟨Eq.refl _, ?_⟩ | refine ⟨⟨Eq.refl _, Eq.refl _⟩, ?_⟩ | refine ⟨⟨Eq.refl _, Eq.refl _, Eq.refl _⟩, ?_⟩ | refine ⟨⟨Eq.refl _, Eq.refl _, Eq.refl _, Eq.refl _⟩, ?_⟩ | refine ⟨⟨Eq.refl _, Eq.refl _, Eq.refl _, Eq.refl _, Eq.refl _⟩, ?_⟩ | refine fun (_ : Nat) => ?_ | refine fun (_ : Option Addr) (_ : Nat) => ?_ | fail)
    conv => whnf
    refine ⟨1, rfl, by unfold maxLen; omega, fun g4 hg4 hn4 hp4 => ?_⟩
    repeat ((conv => whnf); first | refine ⟨Eq.refl _, ?_⟩ | refine ⟨⟨Eq.refl _, Eq.refl _⟩, ?_⟩ | refine ⟨⟨Eq.refl _, Eq.refl _, Eq.refl _⟩, ?_⟩ | refine ⟨⟨Eq.refl _, Eq.refl _, Eq.refl _, Eq.refl _⟩, ?_⟩ | refine ⟨⟨Eq.refl _, Eq.refl _, Eq.refl _, Eq.refl _, Eq.refl _⟩, ?_⟩ | refine fun (_ : Nat) => ?_ | refine fun (_ : Option Addr) (_ : Nat) => ?_ | fail)
    conv => whnf
    refine ⟨4, rfl, by unfold maxLen; omega, fun g5 hg5 hn5 hp5 => ?_⟩
    have q1 := (((hp1.mono hg2).mono hg3).mono hg4).mono hg5
    have q2 := ((hp2.mono hg3).mono hg4).mono hg5
    have q3 := (hp3.mono hg4).mono hg5
    have q4 := hp4.mono hg5
    have d12 := hp1.ne hn2
    have d32 := (hp2.ne hn3).symm
    have d42 := ((hp2.mono hg3).ne hn4).symm
    have d52 := (((hp2.mono hg3).mono hg4).ne hn5).symm
    have d15 := (((hp1.mono hg2).mono hg3).mono hg4).ne hn5
    have d25 := ((hp2.mono hg3).mono hg4).ne hn5
    have d35 := (hp3.mono hg4).ne hn5
    have d45 := hp4.ne hn5
    repeat ((conv => whnf); first | refine ⟨Eq.refl _, ?_⟩ | refine ⟨⟨Eq.refl _, Eq.refl _⟩, ?_⟩ | refine ⟨⟨Eq.refl _, Eq.refl _, Eq.refl _⟩, ?_⟩ | refine ⟨⟨Eq.refl _, Eq.refl _, Eq.refl _, Eq.refl _⟩, ?_⟩ | refine ⟨⟨Eq.refl _, Eq.refl _, Eq.refl _, Eq.refl _, Eq.refl _⟩, ?_⟩ | refine fun (_ : Nat) => ?_ | refine fun (_ : Option Addr) (_ : Nat) => ?_ | fail)
    conv => whnf
    refine .inl ⟨.tuple #[.int .i64 0, .int .i64 0], (ok_Check _ (cfg_of [sIn] [pR1, pR2] pC1 pC2 q1 q2 hp5 q3 q4 (by decide))).to (congrArg eiT (show checkE _ = none by decide)), ?_⟩
    clear hp1 hp2 hp3 hp4 hn1 hn2 hn3 hn4 hn5 hg1 hg2 hg3 hg4 hg5
    obtain ⟨rest, ⟨p1, p2, p3⟩, pk⟩ := q2.poke
    repeat ((conv => whnf); first | refine ⟨Eq.refl _, ?_⟩ | refine ⟨⟨Eq.refl _, Eq.refl _⟩, ?_⟩ | refine ⟨⟨Eq.refl _, Eq.refl _, Eq.refl _⟩, ?_⟩ | refine ⟨⟨Eq.refl _, Eq.refl _, Eq.refl _, Eq.refl _⟩, ?_⟩ | refine ⟨⟨Eq.refl _, Eq.refl _, Eq.refl _, Eq.refl _, Eq.refl _⟩, ?_⟩ | refine fun (_ : Nat) => ?_ | refine fun (_ : Option Addr) (_ : Nat) => ?_ | fail)
    conv => whnf
    refine ⟨_, rfl, ⟨by decide, by decide⟩, ?_⟩
    repeat ((conv => whnf); first | refine ⟨Eq.refl _, ?_⟩ | refine ⟨⟨Eq.refl _, Eq.refl _⟩, ?_⟩ | refine ⟨⟨Eq.refl _, Eq.refl _, Eq.refl _⟩, ?_⟩ | refine ⟨⟨Eq.refl _, Eq.refl _, Eq.refl _, Eq.refl _⟩, ?_⟩ | refine ⟨⟨Eq.refl _, Eq.refl _, Eq.refl _, Eq.refl _, Eq.refl _⟩, ?_⟩ | refine fun (_ : Nat) => ?_ | refine fun (_ : Option Addr) (_ : Nat) => ?_ | fail)
    conv => whnf
    refine ⟨_, 7, _, _, ⟨rfl, p1, p2, p3, by simp⟩, ?_⟩
    repeat ((conv => whnf); first | refine ⟨Eq.refl _, ?_⟩ | refine ⟨⟨Eq.refl _, Eq.refl _⟩, ?_⟩ | refine ⟨⟨Eq.refl _, Eq.refl _, Eq.refl _⟩, ?_⟩ | refine ⟨⟨Eq.refl _, Eq.refl _, Eq.refl _, Eq.refl _⟩, ?_⟩ | refine ⟨⟨Eq.refl _, Eq.refl _, Eq.refl _, Eq.refl _, Eq.refl _⟩, ?_⟩ | refine fun (_ : Nat) => ?_ | refine fun (_ : Option Addr) (_ : Nat) => ?_ | fail)
    conv => whnf
    refine fun g6 u6 => ?_
    replace q2 := pk 7 1 _ _ (by decide) rfl (by decide) u6
    clear p1 p2 p3 pk
    replace q1 := q1.keep u6 d12
    replace q3 := q3.keep u6 d32
    replace q4 := q4.keep u6 d42
    replace hp5 := hp5.keep u6 d52
    repeat ((conv => whnf); first | refine ⟨Eq.refl _, ?_⟩ | refine ⟨⟨Eq.refl _, Eq.refl _⟩, ?_⟩ | refine ⟨⟨Eq.refl _, Eq.refl _, Eq.refl _⟩, ?_⟩ | refine ⟨⟨Eq.refl _, Eq.refl _, Eq.refl _, Eq.refl _⟩, ?_⟩ | refine ⟨⟨Eq.refl _, Eq.refl _, Eq.refl _, Eq.refl _, Eq.refl _⟩, ?_⟩ | refine fun (_ : Nat) => ?_ | refine fun (_ : Option Addr) (_ : Nat) => ?_ | fail)
    conv => whnf
    refine .inl ⟨.tuple #[.int .i64 5, .int .i64 1], (ok_Check _ (cfg_of [sIn] [pR1, ⟨sIn, ⟨#[120]⟩, ⟨#[47]⟩, ⟨#[99]⟩⟩] pC1 pC2 q1 q2 hp5 q3 q4 (by decide))).to (congrArg eiT (show checkE _ = some (5, 1) by decide)), ?_⟩
    obtain ⟨rest, ⟨p1, p2, p3⟩, pk⟩ := q2.poke
    repeat ((conv => whnf); first | refine ⟨Eq.refl _, ?_⟩ | refine ⟨⟨Eq.refl _, Eq.refl _⟩, ?_⟩ | refine ⟨⟨Eq.refl _, Eq.refl _, Eq.refl _⟩, ?_⟩ | refine ⟨⟨Eq.refl _, Eq.refl _, Eq.refl _, Eq.refl _⟩, ?_⟩ | refine ⟨⟨Eq.refl _, Eq.refl _, Eq.refl _, Eq.refl _, Eq.refl _⟩, ?_⟩ | refine fun (_ : Nat) => ?_ | refine fun (_ : Option Addr) (_ : Nat) => ?_ | fail)
    conv => whnf
    refine ⟨_, rfl, ⟨by decide, by decide⟩, ?_⟩
    repeat ((conv => whnf); first | refine ⟨Eq.refl _, ?_⟩ | refine ⟨⟨Eq.refl _, Eq.refl _⟩, ?_⟩ | refine ⟨⟨Eq.refl _, Eq.refl _, Eq.refl _⟩, ?_⟩ | refine ⟨⟨Eq.refl _, Eq.refl _, Eq.refl _, Eq.refl _⟩, ?_⟩ | refine ⟨⟨Eq.refl _, Eq.refl _, Eq.refl _, Eq.refl _, Eq.refl _⟩, ?_⟩ | refine fun (_ : Nat) => ?_ | refine fun (_ : Option Addr) (_ : Nat) => ?_ | fail)
    conv => whnf
    refine ⟨_, 5, _, _, ⟨rfl, p1, p2, p3, by simp⟩, ?_⟩
    repeat ((conv => whnf); first | refine ⟨Eq.refl _, ?_⟩ | refine ⟨⟨Eq.refl _, Eq.refl _⟩, ?_⟩ | refine ⟨⟨Eq.refl _, Eq.refl _, Eq.refl _⟩, ?_⟩ | refine ⟨⟨Eq.refl _, Eq.refl _, Eq.refl _, Eq.refl _⟩, ?_⟩ | refine ⟨⟨Eq.refl _, Eq.refl _, Eq.refl _, Eq.refl _, Eq.refl _⟩, ?_⟩ | refine fun (_ : Nat) => ?_ | refine fun (_ : Option Addr) (_ : Nat) => ?_ | fail)
    conv => whnf
    refine fun g7 u7 => ?_
    replace q2 := pk 5 1 _ _ (by decide) rfl (by decide) u7
    clear p1 p2 p3 pk
    replace q1 := q1.keep u7 d12
    replace q3 := q3.keep u7 d32
    replace q4 := q4.keep u7 d42
    replace hp5 := hp5.keep u7 d52
    repeat ((conv => whnf); first | refine ⟨Eq.refl _, ?_⟩ | refine ⟨⟨Eq.refl _, Eq.refl _⟩, ?_⟩ | refine ⟨⟨Eq.refl _, Eq.refl _, Eq.refl _⟩, ?_⟩ | refine ⟨⟨Eq.refl _, Eq.refl _, Eq.refl _, Eq.refl _⟩, ?_⟩ | refine ⟨⟨Eq.refl _, Eq.refl _, Eq.refl _, Eq.refl _, Eq.refl _⟩, ?_⟩ | refine fun (_ : Nat) => ?_ | refine fun (_ : Option Addr) (_ : Nat) => ?_ | fail)
    conv => whnf
    refine .inl ⟨.tuple #[.int .i64 7, .int .i64 1], (ok_Check _ (cfg_of [sIn] [pR1, ⟨sIn, ⟨#[88]⟩, ⟨#[47]⟩, ⟨#[99]⟩⟩] pC1 pC2 q1 q2 hp5 q3 q4 (by decide))).to (congrArg eiT (show checkE _ = some (7, 1) by decide)), ?_⟩
    obtain ⟨rest, ⟨p1, p2, p3⟩, pk⟩ := hp5.poke
    repeat ((conv => whnf); first | refine ⟨Eq.refl _, ?_⟩ | refine ⟨⟨Eq.refl _, Eq.refl _⟩, ?_⟩ | refine ⟨⟨Eq.refl _, Eq.refl _, Eq.refl _⟩, ?_⟩ | refine ⟨⟨Eq.refl _, Eq.refl _, Eq.refl _, Eq.refl _⟩, ?_⟩ | refine ⟨⟨Eq.refl _, Eq.refl _, Eq.refl _, Eq.refl _, Eq.refl _⟩, ?_⟩ | refine fun (_ : Nat) => ?_ | refine fun (_ : Option Addr) (_ : Nat) => ?_ | fail)
    conv => whnf
    refine ⟨_, rfl, ⟨by decide, by decide⟩, ?_⟩
    repeat ((conv => whnf); first | refine ⟨Eq.refl _, ?_⟩ | refine ⟨⟨Eq.refl _, Eq.refl _⟩, ?_⟩ | refine ⟨⟨Eq.refl _, Eq.refl _, Eq.refl _⟩, ?_⟩ | refine ⟨⟨Eq.refl _, Eq.refl _, Eq.refl _, Eq.refl _⟩, ?_⟩ | refine ⟨⟨Eq.refl _, Eq.refl _, Eq.refl _, Eq.refl _, Eq.refl _⟩, ?_⟩ | refine fun (_ : Nat) => ?_ | refine fun (_ : Option Addr) (_ : Nat) => ?_ | fail)
    conv => whnf
    refine ⟨_, 4, _, _, ⟨rfl, p1, p2, p3, by simp⟩, ?_⟩
    repeat ((conv => whnf); first | refine ⟨Eq.refl _, ?_⟩ | refine ⟨⟨Eq.refl _, Eq.refl _⟩, ?_⟩ | refine ⟨⟨Eq.refl _, Eq.refl _, Eq.refl _⟩, ?_⟩ | refine ⟨⟨Eq.refl _, Eq.refl _, Eq.refl _, Eq.refl _⟩, ?_⟩ | refine ⟨⟨Eq.refl _, Eq.refl _, Eq.refl _, Eq.refl _, Eq.refl _⟩, ?_⟩ | refine fun (_ : Nat) => ?_ | refine fun (_ : Option Addr) (_ : Nat) => ?_ | fail)
    conv => whnf
    refine fun g8 u8 => ?_
    replace hp5 := pk 4 1 _ _ (by simp) rfl (by decide) u8
    clear p1 p2 p3 pk
    replace q1 := q1.keep u8 d15
    replace q2 := q2.keep u8 d25
    replace q3 := q3.keep u8 d35
    replace q4 := q4.keep u8 d45
    repeat ((conv => whnf); first | refine ⟨Eq.refl _, ?_⟩ | refine ⟨⟨Eq.refl _, Eq.refl _⟩, ?_⟩ | refine ⟨⟨Eq.refl _, Eq.refl _, Eq.refl _⟩, ?_⟩ | refine ⟨⟨Eq.refl _, Eq.refl _, Eq.refl _, Eq.refl _⟩, ?_⟩ | refine ⟨⟨Eq.refl _, Eq.refl _, Eq.refl _, Eq.refl _, Eq.refl _⟩, ?_⟩ | refine fun (_ : Nat) => ?_ | refine fun (_ : Option Addr) (_ : Nat) => ?_ | fail)
    conv => whnf
    refine .inl ⟨.tuple #[.int .i64 4, .int .i64 1], (ok_Check _ (cfg_of [sIn] [pR1, ⟨sIn, ⟨#[88]⟩, ⟨#[47]⟩, ⟨#[99]⟩⟩] pC1 ⟨sA, 2, 4, [false, true]⟩ q1 q2 hp5 q3 q4 (by decide))).to (congrArg eiT (show checkE _ = some (4, 1) by decide)), ?_⟩
    repeat ((conv => whnf); first | refine ⟨Eq.refl _, ?_⟩ | refine ⟨⟨Eq.refl _, Eq.refl _⟩, ?_⟩ | refine ⟨⟨Eq.refl _, Eq.refl _, Eq.refl _⟩, ?_⟩ | refine ⟨⟨Eq.refl _, Eq.refl _, Eq.refl _, Eq.refl _⟩, ?_⟩ | refine ⟨⟨Eq.refl _, Eq.refl _, Eq.refl _, Eq.refl _, Eq.refl _⟩, ?_⟩ | refine fun (_ : Nat) => ?_ | refine fun (_ : Option Addr) (_ : Nat) => ?_ | fail)
    conv => whnf
    refine .inl ⟨_, ⟨q1.rd, q1.2.2⟩, fun hx => absurd hx (by decide), fun _ => ⟨⟨by decide, by decide, by decide⟩, fun oa cap => ?_⟩⟩
    repeat ((conv => whnf); first | refine ⟨Eq.refl _, ?_⟩ | refine ⟨⟨Eq.refl _, Eq.refl _⟩, ?_⟩ | refine ⟨⟨Eq.refl _, Eq.refl _, Eq.refl _⟩, ?_⟩ | refine ⟨⟨Eq.refl _, Eq.refl _, Eq.refl _, Eq.refl _⟩, ?_⟩ | refine ⟨⟨Eq.refl _, Eq.refl _, Eq.refl _, Eq.refl _, Eq.refl _⟩, ?_⟩ | refine fun (_ : Nat) => ?_ | refine fun (_ : Option Addr) (_ : Nat) => ?_ | fail)
    conv => whnf
    refine fun g9 hg9 hn9 hp9 => ?_
    replace q2 := q2.mono hg9
    replace q3 := q3.mono hg9
    replace q4 := q4.mono hg9
    replace hp5 := hp5.mono hg9
    repeat ((conv => whnf); first | refine ⟨Eq.refl _, ?_⟩ | refine ⟨⟨Eq.refl _, Eq.refl _⟩, ?_⟩ | refine ⟨⟨Eq.refl _, Eq.refl _, Eq.refl _⟩, ?_⟩ | refine ⟨⟨Eq.refl _, Eq.refl _, Eq.refl _, Eq.refl _⟩, ?_⟩ | refine ⟨⟨Eq.refl _, Eq.refl _, Eq.refl _, Eq.refl _, Eq.refl _⟩, ?_⟩ | refine fun (_ : Nat) => ?_ | refine fun (_ : Option Addr) (_ : Nat) => ?_ | fail)
    conv => whnf
    refine .inl ⟨.tuple #[.int .i64 4, .int .i64 1], (ok_Check _ (cfg_of [sIn, sIn] [pR1, ⟨sIn, ⟨#[88]⟩, ⟨#[47]⟩, ⟨#[99]⟩⟩] pC1 ⟨sA, 2, 4, [false, true]⟩ hp9 q2 hp5 q3 q4 (by decide))).to (congrArg eiT (show checkE _ = some (4, 1) by decide)), ?_⟩
    repeat ((conv => whnf); first | refine ⟨Eq.refl _, ?_⟩ | refine ⟨⟨Eq.refl _, Eq.refl _⟩, ?_⟩ | refine ⟨⟨Eq.refl _, Eq.refl _, Eq.refl _⟩, ?_⟩ | refine ⟨⟨Eq.refl _, Eq.refl _, Eq.refl _, Eq.refl _⟩, ?_⟩ | refine ⟨⟨Eq.refl _, Eq.refl _, Eq.refl _, Eq.refl _, Eq.refl _⟩, ?_⟩ | refine fun (_ : Nat) => ?_ | refine fun (_ : Option Addr) (_ : Nat) => ?_ | fail)
    conv => whnf
    refine .inl ⟨.tuple #[.int .i64 6, .int .i64 0], (ok_Check _ (cfg_of (e2 := 0) [sIn, sIn] [] pC1 ⟨sA, 2, 4, [false, true]⟩ hp9 ⟨rfl, .inl ⟨rfl, rfl⟩, fun _ h => nomatch h⟩ hp5 q3 q4 (by decide))).to (congrArg eiT (show checkE _ = some (6, 0) by decide)), ?_⟩
    repeat ((conv => whnf); first | refine ⟨fun _ => ?_, fun h => nomatch h⟩ | fail)
    conv => whnf
    intro g2 hg
    rfl)
/-! ### The laws -/
theorem lw_Checks (g : GW) {cs : List Value} {c : Config} (hc : rConfig g cs c) : OkV Try.prog n_hydrantlaw05_ConfigChecks [.agg ⟨cs⟩] g (.bool true) := by
  have hc0 := hc
  obtain ⟨a, b, d, rfl, hl, hr, hk⟩ := hc
  obtain ⟨oa, ca, rfl, a1, a2, a0, hl1⟩ := id hl
  obtain ⟨ob, cb, rfl, b1, b2, b0, hr1⟩ := id hr
  obtain ⟨od, cd, rfl, d1, d2, d0, hk1⟩ := id hk
  exact Ok.of_fn hm noT 0 t_hydrantlaw05_ConfigChecks (args := [.v (.agg ⟨[.slice oa c.listens.length ca, .slice ob c.routes.length cb, .slice od c.clusters.length cd]⟩)]) (by
    repeat ((conv => whnf); first | refine ⟨Eq.refl _, ?_⟩ | refine ⟨⟨Eq.refl _, Eq.refl _⟩, ?_⟩ | refine ⟨⟨Eq.refl _, Eq.refl _, Eq.refl _⟩, ?_⟩ | refine ⟨⟨Eq.refl _, Eq.refl _, Eq.refl _, Eq.refl _⟩, ?_⟩ | refine ⟨⟨Eq.refl _, Eq.refl _, Eq.refl _, Eq.refl _, Eq.refl _⟩, ?_⟩ | refine fun (_ : Nat) => ?_ | refine fun (_ : Option Addr) (_ : Nat) => ?_ | fail)
    conv => whnf
    refine .inl ⟨_, ok_cBig _ hc0, ?_⟩
    conv => whnf
    refine ⟨fun hb => ?_, fun hb => ?_⟩
    · conv => whnf
      intro g2 hg
      rfl
    obtain ⟨e, i, hv⟩ : ∃ e i, eiT (checkE c) = .tuple #[.int .i64 e, .int .i64 i] := by
      rcases ei_val (checkE c) with ⟨_, h⟩ | ⟨e, i, _, h⟩
      · exact ⟨0, 0, h⟩
      · exact ⟨e, i, h⟩
    repeat ((conv => whnf); first | refine ⟨Eq.refl _, ?_⟩ | refine ⟨⟨Eq.refl _, Eq.refl _⟩, ?_⟩ | refine ⟨⟨Eq.refl _, Eq.refl _, Eq.refl _⟩, ?_⟩ | refine ⟨⟨Eq.refl _, Eq.refl _, Eq.refl _, Eq.refl _⟩, ?_⟩ | refine ⟨⟨Eq.refl _, Eq.refl _, Eq.refl _, Eq.refl _, Eq.refl _⟩, ?_⟩ | refine fun (_ : Nat) => ?_ | refine fun (_ : Option Addr) (_ : Nat) => ?_ | fail)
    conv => whnf
    refine .inl ⟨_, (ok_Check _ hc0).to hv, ?_⟩
    repeat ((conv => whnf); first | refine ⟨Eq.refl _, ?_⟩ | refine ⟨⟨Eq.refl _, Eq.refl _⟩, ?_⟩ | refine ⟨⟨Eq.refl _, Eq.refl _, Eq.refl _⟩, ?_⟩ | refine ⟨⟨Eq.refl _, Eq.refl _, Eq.refl _, Eq.refl _⟩, ?_⟩ | refine ⟨⟨Eq.refl _, Eq.refl _, Eq.refl _, Eq.refl _, Eq.refl _⟩, ?_⟩ | refine fun (_ : Nat) => ?_ | refine fun (_ : Option Addr) (_ : Nat) => ?_ | fail)
    conv => whnf
    refine .inl ⟨_, (ok_rCheck _ hc0 (smC_of hb).1).to hv, ?_⟩
    repeat ((conv => whnf); first | refine ⟨Eq.refl _, ?_⟩ | refine ⟨⟨Eq.refl _, Eq.refl _⟩, ?_⟩ | refine ⟨⟨Eq.refl _, Eq.refl _, Eq.refl _⟩, ?_⟩ | refine ⟨⟨Eq.refl _, Eq.refl _, Eq.refl _, Eq.refl _⟩, ?_⟩ | refine ⟨⟨Eq.refl _, Eq.refl _, Eq.refl _, Eq.refl _, Eq.refl _⟩, ?_⟩ | refine fun (_ : Nat) => ?_ | refine fun (_ : Option Addr) (_ : Nat) => ?_ | fail)
    repeat' ((conv => whnf); first | refine ⟨Eq.refl _, ?_⟩ | refine ⟨⟨Eq.refl _, Eq.refl _⟩, ?_⟩ | refine ⟨⟨Eq.refl _, Eq.refl _, Eq.refl _⟩, ?_⟩ | refine ⟨⟨Eq.refl _, Eq.refl _, Eq.refl _, Eq.refl _⟩, ?_⟩ | refine ⟨⟨Eq.refl _, Eq.refl _, Eq.refl _, Eq.refl _, Eq.refl _⟩, ?_⟩ | refine fun (_ : Nat) => ?_ | refine fun (_ : Option Addr) (_ : Nat) => ?_ | refine .inl ⟨_, ok_checked5 _, ?_⟩ | refine ⟨fun _ => ?_, fun _ => ?_⟩ | fail)
    all_goals (conv => whnf)
    all_goals (intro g2 hg)
    all_goals simp_all)
theorem lw_Less (g : GW) {cs : List Value} {c : Config} (hc : rConfig g cs c) : OkV Try.prog n_hydrantlaw05_ConfigLess [.agg ⟨cs⟩] g (.bool true) := by
  have hc0 := hc
  obtain ⟨a, b, d, rfl, hl, hr, hk⟩ := hc
  obtain ⟨oa, ca, rfl, a1, a2, a0, hl1⟩ := id hl
  obtain ⟨ob, cb, rfl, b1, b2, b0, hr1⟩ := id hr
  obtain ⟨od, cd, rfl, d1, d2, d0, hk1⟩ := id hk
  exact Ok.of_fn hm noT 0 t_hydrantlaw05_ConfigLess (args := [.v (.agg ⟨[.slice oa c.listens.length ca, .slice ob c.routes.length cb, .slice od c.clusters.length cd]⟩)]) (by
    rcases ei_val (checkE c) with ⟨hz, hv⟩ | ⟨e, i, hz, hv⟩
    · repeat ((conv => whnf); first | refine ⟨Eq.refl _, ?_⟩ | refine ⟨⟨Eq.refl _, Eq.refl _⟩, ?_⟩ | refine ⟨⟨Eq.refl _, Eq.refl _, Eq.refl _⟩, ?_⟩ | refine ⟨⟨Eq.refl _, Eq.refl _, Eq.refl _, Eq.refl _⟩, ?_⟩ | refine ⟨⟨Eq.refl _, Eq.refl _, Eq.refl _, Eq.refl _, Eq.refl _⟩, ?_⟩ | refine fun (_ : Nat) => ?_ | refine fun (_ : Option Addr) (_ : Nat) => ?_ | fail)
      conv => whnf
      refine .inl ⟨_, (ok_Check _ hc0).to hv, ?_⟩
      repeat ((conv => whnf); first | refine ⟨Eq.refl _, ?_⟩ | refine ⟨⟨Eq.refl _, Eq.refl _⟩, ?_⟩ | refine ⟨⟨Eq.refl _, Eq.refl _, Eq.refl _⟩, ?_⟩ | refine ⟨⟨Eq.refl _, Eq.refl _, Eq.refl _, Eq.refl _⟩, ?_⟩ | refine ⟨⟨Eq.refl _, Eq.refl _, Eq.refl _, Eq.refl _, Eq.refl _⟩, ?_⟩ | refine fun (_ : Nat) => ?_ | refine fun (_ : Option Addr) (_ : Nat) => ?_ | fail)
      conv => whnf
      refine .inl ⟨_, ok_cBig _ hc0, ?_⟩
      conv => whnf
      refine ⟨fun hb => ?_, fun hb => ?_⟩
      · conv => whnf
        refine .inl ⟨_, ok_checked5 _, ?_⟩
        conv => whnf
        intro g2 hg
        rfl
      conv => whnf
      refine ⟨fun h => (nomatch h), fun _ => ?_⟩
      repeat ((conv => whnf); first | refine ⟨Eq.refl _, ?_⟩ | refine ⟨⟨Eq.refl _, Eq.refl _⟩, ?_⟩ | refine ⟨⟨Eq.refl _, Eq.refl _, Eq.refl _⟩, ?_⟩ | refine ⟨⟨Eq.refl _, Eq.refl _, Eq.refl _, Eq.refl _⟩, ?_⟩ | refine ⟨⟨Eq.refl _, Eq.refl _, Eq.refl _, Eq.refl _, Eq.refl _⟩, ?_⟩ | refine fun (_ : Nat) => ?_ | refine fun (_ : Option Addr) (_ : Nat) => ?_ | fail)
      conv => whnf
      refine ⟨fun h2 => ?_, fun h2 => ?_⟩
      · conv => whnf
        refine .inl ⟨_, ok_checked5 _, ?_⟩
        conv => whnf
        intro g2 hg
        rfl
      have h2 := of_decide_eq_false h2
      repeat ((conv => whnf); first | refine ⟨Eq.refl _, ?_⟩ | refine ⟨⟨Eq.refl _, Eq.refl _⟩, ?_⟩ | refine ⟨⟨Eq.refl _, Eq.refl _, Eq.refl _⟩, ?_⟩ | refine ⟨⟨Eq.refl _, Eq.refl _, Eq.refl _, Eq.refl _⟩, ?_⟩ | refine ⟨⟨Eq.refl _, Eq.refl _, Eq.refl _, Eq.refl _, Eq.refl _⟩, ?_⟩ | refine fun (_ : Nat) => ?_ | refine fun (_ : Option Addr) (_ : Nat) => ?_ | fail)
      have hw : IntKind.i64.wrap ((c.routes.length : Int) - 1) = ((c.routes.length - 1 : Nat) : Int) := by rw [wr (show InR _ by unfold InR maxLen at *; omega)]; omega
      have hn : (IntKind.i64.wrap ((c.routes.length : Int) - 1)).toNat = c.routes.length - 1 := by rw [hw]; simp
      conv => whnf
      refine ⟨⟨by rw [hw]; omega, by rw [hw]; omega⟩, ?_⟩
      repeat ((conv => whnf); first | refine ⟨Eq.refl _, ?_⟩ | refine ⟨⟨Eq.refl _, Eq.refl _⟩, ?_⟩ | refine ⟨⟨Eq.refl _, Eq.refl _, Eq.refl _⟩, ?_⟩ | refine ⟨⟨Eq.refl _, Eq.refl _, Eq.refl _, Eq.refl _⟩, ?_⟩ | refine ⟨⟨Eq.refl _, Eq.refl _, Eq.refl _, Eq.refl _, Eq.refl _⟩, ?_⟩ | refine fun (_ : Nat) => ?_ | refine fun (_ : Option Addr) (_ : Nat) => ?_ | fail)
      have hcc : rConfig g [.slice oa c.listens.length ca, .slice ob (IntKind.i64.wrap ((c.routes.length : Int) - 1)).toNat cb, .slice od c.clusters.length cd] { c with routes := c.routes.take (c.routes.length - 1) } := by
        rw [hn]; exact ⟨_, _, _, rfl, hl, hr.take (by omega), hk⟩
      conv => whnf
      refine .inl ⟨_, (ok_Check _ hcc).to (congrArg eiT (good_iff.2 (good_less (good_iff.1 hz) (by omega) (by omega)))), ?_⟩
      conv => whnf
      refine .inl ⟨_, ok_checked5 _, ?_⟩
      repeat ((conv => whnf); first | refine ⟨fun _ => ?_, fun h => nomatch h⟩ | fail)
      conv => whnf
      intro g2 hg
      rfl
    · have hne := checkE_ne hz
      repeat ((conv => whnf); first | refine ⟨Eq.refl _, ?_⟩ | refine ⟨⟨Eq.refl _, Eq.refl _⟩, ?_⟩ | refine ⟨⟨Eq.refl _, Eq.refl _, Eq.refl _⟩, ?_⟩ | refine ⟨⟨Eq.refl _, Eq.refl _, Eq.refl _, Eq.refl _⟩, ?_⟩ | refine ⟨⟨Eq.refl _, Eq.refl _, Eq.refl _, Eq.refl _, Eq.refl _⟩, ?_⟩ | refine fun (_ : Nat) => ?_ | refine fun (_ : Option Addr) (_ : Nat) => ?_ | fail)
      conv => whnf
      refine .inl ⟨_, (ok_Check _ hc0).to hv, ?_⟩
      repeat ((conv => whnf); first | refine ⟨Eq.refl _, ?_⟩ | refine ⟨⟨Eq.refl _, Eq.refl _⟩, ?_⟩ | refine ⟨⟨Eq.refl _, Eq.refl _, Eq.refl _⟩, ?_⟩ | refine ⟨⟨Eq.refl _, Eq.refl _, Eq.refl _, Eq.refl _⟩, ?_⟩ | refine ⟨⟨Eq.refl _, Eq.refl _, Eq.refl _, Eq.refl _, Eq.refl _⟩, ?_⟩ | refine fun (_ : Nat) => ?_ | refine fun (_ : Option Addr) (_ : Nat) => ?_ | fail)
      conv => whnf
      refine .inl ⟨_, ok_cBig _ hc0, ?_⟩
      conv => whnf
      refine ⟨fun hb => ?_, fun hb => ?_⟩
      · conv => whnf
        refine .inl ⟨_, ok_checked5 _, ?_⟩
        conv => whnf
        intro g2 hg
        rfl
      conv => whnf
      refine ⟨fun _ => ?_, fun hx => absurd hx (by simp; omega)⟩
      conv => whnf
      refine .inl ⟨_, ok_checked5 _, ?_⟩
      conv => whnf
      intro g2 hg
      rfl)
end Go.Proofs.Ytjbhkahjhohaeaa
