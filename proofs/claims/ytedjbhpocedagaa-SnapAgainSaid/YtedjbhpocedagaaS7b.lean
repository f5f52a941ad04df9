/- Snapshots: the configuration of one. -/
import Derived.Test.YtedjbhpocedagaaS7
namespace Go.Proofs.Ytedjbhpocedagaa
open Go.Proofs.Ytedjbhpocedagaa.Sx Go.RowKit
abbrev cRou (s : Snap) (r : Rule) : List Value := cRoute (routeOf s r)
theorem ok_Config (g : GW) {a b d : Value} {s : Snap} (hs : rSnap g [a, b, d] s) (hsz : s.rules.length ≤ 1000000) : Ok Try.prog n_snap_Config [.agg ⟨[a, b, d]⟩] g fun v g' => ∃ oa n cap, v = .agg ⟨[a, .slice oa n cap, d]⟩ ∧ rSl 4 rRoute g' (.slice oa n cap) (confS s).routes := by
  obtain ⟨_, _, _, he, hl, hr, hk⟩ := hs
  cases he
  obtain ⟨oa, ca, rfl, a1, a2, a0, hl1⟩ := id hl
  obtain ⟨ob, cb, rfl, b1, b2, b0, hr1⟩ := id hr
  obtain ⟨od, cd, rfl, d1, d2, d0, hk1⟩ := id hk
  exact Ok.of_fn hm noT 0 t_snap_Config (args := [.v (.agg ⟨[.slice oa s.listens.length ca, .slice ob s.rules.length cb, .slice od s.clusters.length cd]⟩)]) (by
    repeat ((conv => whnf); first | refine ⟨Eq.refl _, ?_⟩ | refine ⟨⟨Eq.refl _, Eq.refl _⟩, ?_⟩ | refine ⟨⟨Eq.refl _, Eq.refl _, Eq.refl _⟩, ?_⟩ | refine ⟨⟨Eq.refl _, Eq.refl _, Eq.refl _, Eq.refl _⟩, ?_⟩ | refine ⟨⟨Eq.refl _, Eq.refl _, Eq.refl _, Eq.refl _, Eq.refl _⟩, ?_⟩ | refine fun (_ : Nat) => ?_ | refine fun (_ : Option Addr) (_ : Nat) => ?_ | fail)
    rename_i p0 p1 p2
    conv => whnf
    refine ⟨Nat × Option Addr × Nat, fun (k, _, _) => [.v (.int .i64 k)], fun (k, oR, cR) => ⟨g, [.row 10 oR k cR ty_api_Route 4 ((s.rules.take k).map (cRou s)).flatten, .blk 2 p2 ty_api_Config [.v (.slice oa s.listens.length ca), .row 10 oR k cR, .v (.slice od s.clusters.length cd)], .blk 1 p1 ty_api_Config [.v (.slice none 0 0), .v (.slice none 0 0), .v (.slice none 0 0)], .blk 0 p0 ty_api_Snap [.v (.slice oa s.listens.length ca), .v (.slice ob s.rules.length cb), .v (.slice od s.clusters.length cd)]], 40, g.w.heap.size⟩, fun (k, _, _) => k ≤ s.rules.length, fun (k, _, _) => s.rules.length - k, ?_, ?_⟩
    · intro fr w hw
      exact ⟨(0, none, 0), rfl, Nat.zero_le _, (hw.nil_row (nx' := 40) 10 ty_api_Route 4).fit (by simp [fitL, Res.eqv, concL, conc])⟩
    rintro ⟨k, oR, cR⟩ hkk
    have hkk : k ≤ s.rules.length := hkk
    repeat ((conv => whnf); first | refine ⟨Eq.refl _, ?_⟩ | refine ⟨⟨Eq.refl _, Eq.refl _⟩, ?_⟩ | refine ⟨⟨Eq.refl _, Eq.refl _, Eq.refl _⟩, ?_⟩ | refine ⟨⟨Eq.refl _, Eq.refl _, Eq.refl _, Eq.refl _⟩, ?_⟩ | refine ⟨⟨Eq.refl _, Eq.refl _, Eq.refl _, Eq.refl _, Eq.refl _⟩, ?_⟩ | refine fun (_ : Nat) => ?_ | refine fun (_ : Option Addr) (_ : Nat) => ?_ | fail)
    conv => whnf
    refine ⟨fun hlt => ?_, fun hlt => ?_⟩
    · have h' : k < s.rules.length := by have := of_decide_eq_true hlt; omega
      obtain ⟨⟨rl, rh, rp, rc⟩, hx⟩ := getL_of h'
      obtain ⟨a, rfl, ec, hec, ⟨rfl, _, _⟩, hc⟩ := hr1 k _ hx
      have hT := take_map (f := cRou s) hx
      repeat ((conv => whnf); first | refine ⟨Eq.refl _, ?_⟩ | refine ⟨⟨Eq.refl _, Eq.refl _⟩, ?_⟩ | refine ⟨⟨Eq.refl _, Eq.refl _, Eq.refl _⟩, ?_⟩ | refine ⟨⟨Eq.refl _, Eq.refl _, Eq.refl _, Eq.refl _⟩, ?_⟩ | refine ⟨⟨Eq.refl _, Eq.refl _, Eq.refl _, Eq.refl _, Eq.refl _⟩, ?_⟩ | refine fun (_ : Nat) => ?_ | refine fun (_ : Option Addr) (_ : Nat) => ?_ | fail)
      conv => whnf
      refine ⟨a, rfl, ⟨by omega, by omega⟩, ?_⟩
      conv => whnf
      refine ⟨_, ⟨rfl, hc⟩, ?_⟩
      repeat ((conv => whnf); first | refine ⟨Eq.refl _, ?_⟩ | refine ⟨⟨Eq.refl _, Eq.refl _⟩, ?_⟩ | refine ⟨⟨Eq.refl _, Eq.refl _, Eq.refl _⟩, ?_⟩ | refine ⟨⟨Eq.refl _, Eq.refl _, Eq.refl _, Eq.refl _⟩, ?_⟩ | refine ⟨⟨Eq.refl _, Eq.refl _, Eq.refl _, Eq.refl _, Eq.refl _⟩, ?_⟩ | refine fun (_ : Nat) => ?_ | refine fun (_ : Option Addr) (_ : Nat) => ?_ | fail)
      by_cases hA : 0 ≤ rl ∧ rl < s.listens.length
      · obtain ⟨n, rfl⟩ := Int.eq_ofNat_of_zero_le hA.1
        obtain ⟨y, hy⟩ := getL_of (show n < s.listens.length by omega)
        obtain ⟨aL, rfl, ecL, hecL, rfl, hcL⟩ := hl1 n y hy
        have hAn : nameAt s.listens (n : Int) = y := by unfold nameAt; rw [if_pos hA]; simp [hy]
        conv => whnf
        refine ⟨fun _ => ?_, fun hx => absurd (((decide_eq_true hA.1)).symm.trans hx) (by decide)⟩
        repeat ((conv => whnf); first | refine ⟨Eq.refl _, ?_⟩ | refine ⟨⟨Eq.refl _, Eq.refl _⟩, ?_⟩ | refine ⟨⟨Eq.refl _, Eq.refl _, Eq.refl _⟩, ?_⟩ | refine ⟨⟨Eq.refl _, Eq.refl _, Eq.refl _, Eq.refl _⟩, ?_⟩ | refine ⟨⟨Eq.refl _, Eq.refl _, Eq.refl _, Eq.refl _, Eq.refl _⟩, ?_⟩ | refine fun (_ : Nat) => ?_ | refine fun (_ : Option Addr) (_ : Nat) => ?_ | fail)
        conv => whnf
        refine ⟨fun _ => ?_, fun hx => absurd (((decide_eq_true hA.2)).symm.trans hx) (by decide)⟩
        repeat ((conv => whnf); first | refine ⟨Eq.refl _, ?_⟩ | refine ⟨⟨Eq.refl _, Eq.refl _⟩, ?_⟩ | refine ⟨⟨Eq.refl _, Eq.refl _, Eq.refl _⟩, ?_⟩ | refine ⟨⟨Eq.refl _, Eq.refl _, Eq.refl _, Eq.refl _⟩, ?_⟩ | refine ⟨⟨Eq.refl _, Eq.refl _, Eq.refl _, Eq.refl _, Eq.refl _⟩, ?_⟩ | refine fun (_ : Nat) => ?_ | refine fun (_ : Option Addr) (_ : Nat) => ?_ | fail)
        conv => whnf
        refine ⟨aL, rfl, ⟨hA.1, hA.2⟩, ?_⟩
        conv => whnf
        refine ⟨_, hcL 0 _ rfl, ?_⟩
        repeat ((conv => whnf); first | refine ⟨Eq.refl _, ?_⟩ | refine ⟨⟨Eq.refl _, Eq.refl _⟩, ?_⟩ | refine ⟨⟨Eq.refl _, Eq.refl _, Eq.refl _⟩, ?_⟩ | refine ⟨⟨Eq.refl _, Eq.refl _, Eq.refl _, Eq.refl _⟩, ?_⟩ | refine ⟨⟨Eq.refl _, Eq.refl _, Eq.refl _, Eq.refl _, Eq.refl _⟩, ?_⟩ | refine fun (_ : Nat) => ?_ | refine fun (_ : Option Addr) (_ : Nat) => ?_ | fail)
        by_cases hC : 0 ≤ rc ∧ rc < s.clusters.length
        · obtain ⟨m, rfl⟩ := Int.eq_ofNat_of_zero_le hC.1
          obtain ⟨z, hz⟩ := getL_of (show m < s.clusters.length by omega)
          obtain ⟨aC, rfl, ecC, hecC, ⟨hv, rfl, _, _, _, _, rfl, _⟩, hcC⟩ := hk1 m z hz
          have hCn : clusAt s.clusters (m : Int) = z.name := by unfold clusAt; rw [if_pos hC]; simp [hz]
          conv => whnf
          refine ⟨fun _ => ?_, fun hx => absurd (((decide_eq_true hC.1)).symm.trans hx) (by decide)⟩
          repeat ((conv => whnf); first | refine ⟨Eq.refl _, ?_⟩ | refine ⟨⟨Eq.refl _, Eq.refl _⟩, ?_⟩ | refine ⟨⟨Eq.refl _, Eq.refl _, Eq.refl _⟩, ?_⟩ | refine ⟨⟨Eq.refl _, Eq.refl _, Eq.refl _, Eq.refl _⟩, ?_⟩ | refine ⟨⟨Eq.refl _, Eq.refl _, Eq.refl _, Eq.refl _, Eq.refl _⟩, ?_⟩ | refine fun (_ : Nat) => ?_ | refine fun (_ : Option Addr) (_ : Nat) => ?_ | fail)
          conv => whnf
          refine ⟨fun _ => ?_, fun hx => absurd (((decide_eq_true hC.2)).symm.trans hx) (by decide)⟩
          repeat ((conv => whnf); first | refine ⟨Eq.refl _, ?_⟩ | refine ⟨⟨Eq.refl _, Eq.refl _⟩, ?_⟩ | refine ⟨⟨Eq.refl _, Eq.refl _, Eq.refl _⟩, ?_⟩ | refine ⟨⟨Eq.refl _, Eq.refl _, Eq.refl _, Eq.refl _⟩, ?_⟩ | refine ⟨⟨Eq.refl _, Eq.refl _, Eq.refl _, Eq.refl _, Eq.refl _⟩, ?_⟩ | refine fun (_ : Nat) => ?_ | refine fun (_ : Option Addr) (_ : Nat) => ?_ | fail)
          conv => whnf
          refine ⟨aC, rfl, ⟨hC.1, hC.2⟩, ?_⟩
          conv => whnf
          refine ⟨_, hcC 0 _ rfl, ?_⟩
          repeat ((conv => whnf); first | refine ⟨Eq.refl _, ?_⟩ | refine ⟨⟨Eq.refl _, Eq.refl _⟩, ?_⟩ | refine ⟨⟨Eq.refl _, Eq.refl _, Eq.refl _⟩, ?_⟩ | refine ⟨⟨Eq.refl _, Eq.refl _, Eq.refl _, Eq.refl _⟩, ?_⟩ | refine ⟨⟨Eq.refl _, Eq.refl _, Eq.refl _, Eq.refl _, Eq.refl _⟩, ?_⟩ | refine fun (_ : Nat) => ?_ | refine fun (_ : Option Addr) (_ : Nat) => ?_ | fail)
          conv => whnf
          refine ⟨⟨by unfold maxLen; omega, by omega⟩, fun oa2 cap2 => ?_⟩
          repeat ((conv => whnf); first | refine ⟨Eq.refl _, ?_⟩ | refine ⟨⟨Eq.refl _, Eq.refl _⟩, ?_⟩ | refine ⟨⟨Eq.refl _, Eq.refl _, Eq.refl _⟩, ?_⟩ | refine ⟨⟨Eq.refl _, Eq.refl _, Eq.refl _, Eq.refl _⟩, ?_⟩ | refine ⟨⟨Eq.refl _, Eq.refl _, Eq.refl _, Eq.refl _, Eq.refl _⟩, ?_⟩ | refine fun (_ : Nat) => ?_ | refine fun (_ : Option Addr) (_ : Nat) => ?_ | fail)
          conv => whnf
          refine fun fr w hw => ⟨(k + 1, oa2, cap2), congrArg (fun z => [Value.int .i64 z]) (wr1 h' b1 b2).symm, h', dec h', hw.fit ?_⟩
          simp only [hT]
          simp [fitL, Res.eqv, concL, conc, routeOf, hAn, hCn]
        have hCn : clusAt s.clusters rc = ⟨#[]⟩ := by unfold clusAt; rw [if_neg hC]
        by_cases hC0 : 0 ≤ rc
        · conv => whnf
          refine ⟨fun _ => ?_, fun hx => absurd (((decide_eq_true hC0)).symm.trans hx) (by decide)⟩
          repeat ((conv => whnf); first | refine ⟨Eq.refl _, ?_⟩ | refine ⟨⟨Eq.refl _, Eq.refl _⟩, ?_⟩ | refine ⟨⟨Eq.refl _, Eq.refl _, Eq.refl _⟩, ?_⟩ | refine ⟨⟨Eq.refl _, Eq.refl _, Eq.refl _, Eq.refl _⟩, ?_⟩ | refine ⟨⟨Eq.refl _, Eq.refl _, Eq.refl _, Eq.refl _, Eq.refl _⟩, ?_⟩ | refine fun (_ : Nat) => ?_ | refine fun (_ : Option Addr) (_ : Nat) => ?_ | fail)
          conv => whnf
          refine ⟨fun hx => absurd (hx.symm.trans ((decide_eq_false (show ¬ rc < s.clusters.length from fun h => hC ⟨hC0, h⟩)))) (by decide), fun _ => ?_⟩
          repeat ((conv => whnf); first | refine ⟨Eq.refl _, ?_⟩ | refine ⟨⟨Eq.refl _, Eq.refl _⟩, ?_⟩ | refine ⟨⟨Eq.refl _, Eq.refl _, Eq.refl _⟩, ?_⟩ | refine ⟨⟨Eq.refl _, Eq.refl _, Eq.refl _, Eq.refl _⟩, ?_⟩ | refine ⟨⟨Eq.refl _, Eq.refl _, Eq.refl _, Eq.refl _, Eq.refl _⟩, ?_⟩ | refine fun (_ : Nat) => ?_ | refine fun (_ : Option Addr) (_ : Nat) => ?_ | fail)
          conv => whnf
          refine ⟨⟨by unfold maxLen; omega, by omega⟩, fun oa2 cap2 => ?_⟩
          repeat ((conv => whnf); first | refine ⟨Eq.refl _, ?_⟩ | refine ⟨⟨Eq.refl _, Eq.refl _⟩, ?_⟩ | refine ⟨⟨Eq.refl _, Eq.refl _, Eq.refl _⟩, ?_⟩ | refine ⟨⟨Eq.refl _, Eq.refl _, Eq.refl _, Eq.refl _⟩, ?_⟩ | refine ⟨⟨Eq.refl _, Eq.refl _, Eq.refl _, Eq.refl _, Eq.refl _⟩, ?_⟩ | refine fun (_ : Nat) => ?_ | refine fun (_ : Option Addr) (_ : Nat) => ?_ | fail)
          conv => whnf
          refine fun fr w hw => ⟨(k + 1, oa2, cap2), congrArg (fun z => [Value.int .i64 z]) (wr1 h' b1 b2).symm, h', dec h', hw.fit ?_⟩
          simp only [hT]
          simp [fitL, Res.eqv, concL, conc, routeOf, hAn, hCn]
        · conv => whnf
          refine ⟨fun hx => absurd (hx.symm.trans ((decide_eq_false hC0))) (by decide), fun _ => ?_⟩
          repeat ((conv => whnf); first | refine ⟨Eq.refl _, ?_⟩ | refine ⟨⟨Eq.refl _, Eq.refl _⟩, ?_⟩ | refine ⟨⟨Eq.refl _, Eq.refl _, Eq.refl _⟩, ?_⟩ | refine ⟨⟨Eq.refl _, Eq.refl _, Eq.refl _, Eq.refl _⟩, ?_⟩ | refine ⟨⟨Eq.refl _, Eq.refl _, Eq.refl _, Eq.refl _, Eq.refl _⟩, ?_⟩ | refine fun (_ : Nat) => ?_ | refine fun (_ : Option Addr) (_ : Nat) => ?_ | fail)
          conv => whnf
          refine ⟨⟨by unfold maxLen; omega, by omega⟩, fun oa2 cap2 => ?_⟩
          repeat ((conv => whnf); first | refine ⟨Eq.refl _, ?_⟩ | refine ⟨⟨Eq.refl _, Eq.refl _⟩, ?_⟩ | refine ⟨⟨Eq.refl _, Eq.refl _, Eq.refl _⟩, ?_⟩ | refine ⟨⟨Eq.refl _, Eq.refl _, Eq.refl _, Eq.refl _⟩, ?_⟩ | refine ⟨⟨Eq.refl _, Eq.refl _, Eq.refl _, Eq.refl _, Eq.refl _⟩, ?_⟩ | refine fun (_ : Nat) => ?_ | refine fun (_ : Option Addr) (_ : Nat) => ?_ | fail)
          conv => whnf
          refine fun fr w hw => ⟨(k + 1, oa2, cap2), congrArg (fun z => [Value.int .i64 z]) (wr1 h' b1 b2).symm, h', dec h', hw.fit ?_⟩
          simp only [hT]
          simp [fitL, Res.eqv, concL, conc, routeOf, hAn, hCn]
      have hAn : nameAt s.listens rl = ⟨#[]⟩ := by unfold nameAt; rw [if_neg hA]
      by_cases hA0 : 0 ≤ rl
      · conv => whnf
        refine ⟨fun _ => ?_, fun hx => absurd (((decide_eq_true hA0)).symm.trans hx) (by decide)⟩
        repeat ((conv => whnf); first | refine ⟨Eq.refl _, ?_⟩ | refine ⟨⟨Eq.refl _, Eq.refl _⟩, ?_⟩ | refine ⟨⟨Eq.refl _, Eq.refl _, Eq.refl _⟩, ?_⟩ | refine ⟨⟨Eq.refl _, Eq.refl _, Eq.refl _, Eq.refl _⟩, ?_⟩ | refine ⟨⟨Eq.refl _, Eq.refl _, Eq.refl _, Eq.refl _, Eq.refl _⟩, ?_⟩ | refine fun (_ : Nat) => ?_ | refine fun (_ : Option Addr) (_ : Nat) => ?_ | fail)
        conv => whnf
        refine ⟨fun hx => absurd (hx.symm.trans ((decide_eq_false (show ¬ rl < s.listens.length from fun h => hA ⟨hA0, h⟩)))) (by decide), fun _ => ?_⟩
        repeat ((conv => whnf); first | refine ⟨Eq.refl _, ?_⟩ | refine ⟨⟨Eq.refl _, Eq.refl _⟩, ?_⟩ | refine ⟨⟨Eq.refl _, Eq.refl _, Eq.refl _⟩, ?_⟩ | refine ⟨⟨Eq.refl _, Eq.refl _, Eq.refl _, Eq.refl _⟩, ?_⟩ | refine ⟨⟨Eq.refl _, Eq.refl _, Eq.refl _, Eq.refl _, Eq.refl _⟩, ?_⟩ | refine fun (_ : Nat) => ?_ | refine fun (_ : Option Addr) (_ : Nat) => ?_ | fail)
        by_cases hC : 0 ≤ rc ∧ rc < s.clusters.length
        · obtain ⟨m, rfl⟩ := Int.eq_ofNat_of_zero_le hC.1
          obtain ⟨z, hz⟩ := getL_of (show m < s.clusters.length by omega)
          obtain ⟨aC, rfl, ecC, hecC, ⟨hv, rfl, _, _, _, _, rfl, _⟩, hcC⟩ := hk1 m z hz
          have hCn : clusAt s.clusters (m : Int) = z.name := by unfold clusAt; rw [if_pos hC]; simp [hz]
          conv => whnf
          refine ⟨fun _ => ?_, fun hx => absurd (((decide_eq_true hC.1)).symm.trans hx) (by decide)⟩
          repeat ((conv => whnf); first | refine ⟨Eq.refl _, ?_⟩ | refine ⟨⟨Eq.refl _, Eq.refl _⟩, ?_⟩ | refine ⟨⟨Eq.refl _, Eq.refl _, Eq.refl _⟩, ?_⟩ | refine ⟨⟨Eq.refl _, Eq.refl _, Eq.refl _, Eq.refl _⟩, ?_⟩ | refine ⟨⟨Eq.refl _, Eq.refl _, Eq.refl _, Eq.refl _, Eq.refl _⟩, ?_⟩ | refine fun (_ : Nat) => ?_ | refine fun (_ : Option Addr) (_ : Nat) => ?_ | fail)
          conv => whnf
          refine ⟨fun _ => ?_, fun hx => absurd (((decide_eq_true hC.2)).symm.trans hx) (by decide)⟩
          repeat ((conv => whnf); first | refine ⟨Eq.refl _, ?_⟩ | refine ⟨⟨Eq.refl _, Eq.refl _⟩, ?_⟩ | refine ⟨⟨Eq.refl _, Eq.refl _, Eq.refl _⟩, ?_⟩ | refine ⟨⟨Eq.refl _, Eq.refl _, Eq.refl _, Eq.refl _⟩, ?_⟩ | refine ⟨⟨Eq.refl _, Eq.refl _, Eq.refl _, Eq.refl _, Eq.refl _⟩, ?_⟩ | refine fun (_ : Nat) => ?_ | refine fun (_ : Option Addr) (_ : Nat) => ?_ | fail)
          conv => whnf
          refine ⟨aC, rfl, ⟨hC.1, hC.2⟩, ?_⟩
          conv => whnf
          refine ⟨_, hcC 0 _ rfl, ?_⟩
          repeat ((conv => whnf); first | refine ⟨Eq.refl _, ?_⟩ | refine ⟨⟨Eq.refl _, Eq.refl _⟩, ?_⟩ | refine ⟨⟨Eq.refl _, Eq.refl _, Eq.refl _⟩, ?_⟩ | refine ⟨⟨Eq.refl _, Eq.refl _, Eq.refl _, Eq.refl _⟩, ?_⟩ | refine ⟨⟨Eq.refl _, Eq.refl _, Eq.refl _, Eq.refl _, Eq.refl _⟩, ?_⟩ | refine fun (_ : Nat) => ?_ | refine fun (_ : Option Addr) (_ : Nat) => ?_ | fail)
          conv => whnf
          refine ⟨⟨by unfold maxLen; omega, by omega⟩, fun oa2 cap2 => ?_⟩
          repeat ((conv => whnf); first | refine ⟨Eq.refl _, ?_⟩ | refine ⟨⟨Eq.refl _, Eq.refl _⟩, ?_⟩ | refine ⟨⟨Eq.refl _, Eq.refl _, Eq.refl _⟩, ?_⟩ | refine ⟨⟨Eq.refl _, Eq.refl _, Eq.refl _, Eq.refl _⟩, ?_⟩ | refine ⟨⟨Eq.refl _, Eq.refl _, Eq.refl _, Eq.refl _, Eq.refl _⟩, ?_⟩ | refine fun (_ : Nat) => ?_ | refine fun (_ : Option Addr) (_ : Nat) => ?_ | fail)
          conv => whnf
          refine fun fr w hw => ⟨(k + 1, oa2, cap2), congrArg (fun z => [Value.int .i64 z]) (wr1 h' b1 b2).symm, h', dec h', hw.fit ?_⟩
          simp only [hT]
          simp [fitL, Res.eqv, concL, conc, routeOf, hAn, hCn]
        have hCn : clusAt s.clusters rc = ⟨#[]⟩ := by unfold clusAt; rw [if_neg hC]
        by_cases hC0 : 0 ≤ rc
        · conv => whnf
          refine ⟨fun _ => ?_, fun hx => absurd (((decide_eq_true hC0)).symm.trans hx) (by decide)⟩
          repeat ((conv => whnf); first | refine ⟨Eq.refl _, ?_⟩ | refine ⟨⟨Eq.refl _, Eq.refl _⟩, ?_⟩ | refine ⟨⟨Eq.refl _, Eq.refl _, Eq.refl _⟩, ?_⟩ | refine ⟨⟨Eq.refl _, Eq.refl _, Eq.refl _, Eq.refl _⟩, ?_⟩ | refine ⟨⟨Eq.refl _, Eq.refl _, Eq.refl _, Eq.refl _, Eq.refl _⟩, ?_⟩ | refine fun (_ : Nat) => ?_ | refine fun (_ : Option Addr) (_ : Nat) => ?_ | fail)
          conv => whnf
          refine ⟨fun hx => absurd (hx.symm.trans ((decide_eq_false (show ¬ rc < s.clusters.length from fun h => hC ⟨hC0, h⟩)))) (by decide), fun _ => ?_⟩
          repeat ((conv => whnf); first | refine ⟨Eq.refl _, ?_⟩ | refine ⟨⟨Eq.refl _, Eq.refl _⟩, ?_⟩ | refine ⟨⟨Eq.refl _, Eq.refl _, Eq.refl _⟩, ?_⟩ | refine ⟨⟨Eq.refl _, Eq.refl _, Eq.refl _, Eq.refl _⟩, ?_⟩ | refine ⟨⟨Eq.refl _, Eq.refl _, Eq.refl _, Eq.refl _, Eq.refl _⟩, ?_⟩ | refine fun (_ : Nat) => ?_ | refine fun (_ : Option Addr) (_ : Nat) => ?_ | fail)
          conv => whnf
          refine ⟨⟨by unfold maxLen; omega, by omega⟩, fun oa2 cap2 => ?_⟩
          repeat ((conv => whnf); first | refine ⟨Eq.refl _, ?_⟩ | refine ⟨⟨Eq.refl _, Eq.refl _⟩, ?_⟩ | refine ⟨⟨Eq.refl _, Eq.refl _, Eq.refl _⟩, ?_⟩ | refine ⟨⟨Eq.refl _, Eq.refl _, Eq.refl _, Eq.refl _⟩, ?_⟩ | refine ⟨⟨Eq.refl _, Eq.refl _, Eq.refl _, Eq.refl _, Eq.refl _⟩, ?_⟩ | refine fun (_ : Nat) => ?_ | refine fun (_ : Option Addr) (_ : Nat) => ?_ | fail)
          conv => whnf
          refine fun fr w hw => ⟨(k + 1, oa2, cap2), congrArg (fun z => [Value.int .i64 z]) (wr1 h' b1 b2).symm, h', dec h', hw.fit ?_⟩
          simp only [hT]
          simp [fitL, Res.eqv, concL, conc, routeOf, hAn, hCn]
        · conv => whnf
          refine ⟨fun hx => absurd (hx.symm.trans ((decide_eq_false hC0))) (by decide), fun _ => ?_⟩
          repeat ((conv => whnf); first | refine ⟨Eq.refl _, ?_⟩ | refine ⟨⟨Eq.refl _, Eq.refl _⟩, ?_⟩ | refine ⟨⟨Eq.refl _, Eq.refl _, Eq.refl _⟩, ?_⟩ | refine ⟨⟨Eq.refl _, Eq.refl _, Eq.refl _, Eq.refl _⟩, ?_⟩ | refine ⟨⟨Eq.refl _, Eq.refl _, Eq.refl _, Eq.refl _, Eq.refl _⟩, ?_⟩ | refine fun (_ : Nat) => ?_ | refine fun (_ : Option Addr) (_ : Nat) => ?_ | fail)
          conv => whnf
          refine ⟨⟨by unfold maxLen; omega, by omega⟩, fun oa2 cap2 => ?_⟩
          repeat ((conv => whnf); first | refine ⟨Eq.refl _, ?_⟩ | refine ⟨⟨Eq.refl _, Eq.refl _⟩, ?_⟩ | refine ⟨⟨Eq.refl _, Eq.refl _, Eq.refl _⟩, ?_⟩ | refine ⟨⟨Eq.refl _, Eq.refl _, Eq.refl _, Eq.refl _⟩, ?_⟩ | refine ⟨⟨Eq.refl _, Eq.refl _, Eq.refl _, Eq.refl _, Eq.refl _⟩, ?_⟩ | refine fun (_ : Nat) => ?_ | refine fun (_ : Option Addr) (_ : Nat) => ?_ | fail)
          conv => whnf
          refine fun fr w hw => ⟨(k + 1, oa2, cap2), congrArg (fun z => [Value.int .i64 z]) (wr1 h' b1 b2).symm, h', dec h', hw.fit ?_⟩
          simp only [hT]
          simp [fitL, Res.eqv, concL, conc, routeOf, hAn, hCn]
      · conv => whnf
        refine ⟨fun hx => absurd (hx.symm.trans ((decide_eq_false hA0))) (by decide), fun _ => ?_⟩
        repeat ((conv => whnf); first | refine ⟨Eq.refl _, ?_⟩ | refine ⟨⟨Eq.refl _, Eq.refl _⟩, ?_⟩ | refine ⟨⟨Eq.refl _, Eq.refl _, Eq.refl _⟩, ?_⟩ | refine ⟨⟨Eq.refl _, Eq.refl _, Eq.refl _, Eq.refl _⟩, ?_⟩ | refine ⟨⟨Eq.refl _, Eq.refl _, Eq.refl _, Eq.refl _, Eq.refl _⟩, ?_⟩ | refine fun (_ : Nat) => ?_ | refine fun (_ : Option Addr) (_ : Nat) => ?_ | fail)
        by_cases hC : 0 ≤ rc ∧ rc < s.clusters.length
        · obtain ⟨m, rfl⟩ := Int.eq_ofNat_of_zero_le hC.1
          obtain ⟨z, hz⟩ := getL_of (show m < s.clusters.length by omega)
          obtain ⟨aC, rfl, ecC, hecC, ⟨hv, rfl, _, _, _, _, rfl, _⟩, hcC⟩ := hk1 m z hz
          have hCn : clusAt s.clusters (m : Int) = z.name := by unfold clusAt; rw [if_pos hC]; simp [hz]
          conv => whnf
          refine ⟨fun _ => ?_, fun hx => absurd (((decide_eq_true hC.1)).symm.trans hx) (by decide)⟩
          repeat ((conv => whnf); first | refine ⟨Eq.refl _, ?_⟩ | refine ⟨⟨Eq.refl _, Eq.refl _⟩, ?_⟩ | refine ⟨⟨Eq.refl _, Eq.refl _, Eq.refl _⟩, ?_⟩ | refine ⟨⟨Eq.refl _, Eq.refl _, Eq.refl _, Eq.refl _⟩, ?_⟩ | refine ⟨⟨Eq.refl _, Eq.refl _, Eq.refl _, Eq.refl _, Eq.refl _⟩, ?_⟩ | refine fun (_ : Nat) => ?_ | refine fun (_ : Option Addr) (_ : Nat) => ?_ | fail)
          conv => whnf
          refine ⟨fun _ => ?_, fun hx => absurd (((decide_eq_true hC.2)).symm.trans hx) (by decide)⟩
          repeat ((conv => whnf); first | refine ⟨Eq.refl _, ?_⟩ | refine ⟨⟨Eq.refl _, Eq.refl _⟩, ?_⟩ | refine ⟨⟨Eq.refl _, Eq.refl _, Eq.refl _⟩, ?_⟩ | refine ⟨⟨Eq.refl _, Eq.refl _, Eq.refl _, Eq.refl _⟩, ?_⟩ | refine ⟨⟨Eq.refl _, Eq.refl _, Eq.refl _, Eq.refl _, Eq.refl _⟩, ?_⟩ | refine fun (_ : Nat) => ?_ | refine fun (_ : Option Addr) (_ : Nat) => ?_ | fail)
          conv => whnf
          refine ⟨aC, rfl, ⟨hC.1, hC.2⟩, ?_⟩
          conv => whnf
          refine ⟨_, hcC 0 _ rfl, ?_⟩
          repeat ((conv => whnf); first | refine ⟨Eq.refl _, ?_⟩ | refine ⟨⟨Eq.refl _, Eq.refl _⟩, ?_⟩ | refine ⟨⟨Eq.refl _, Eq.refl _, Eq.refl _⟩, ?_⟩ | refine ⟨⟨Eq.refl _, Eq.refl _, Eq.refl _, Eq.refl _⟩, ?_⟩ | refine ⟨⟨Eq.refl _, Eq.refl _, Eq.refl _, Eq.refl _, Eq.refl _⟩, ?_⟩ | refine fun (_ : Nat) => ?_ | refine fun (_ : Option Addr) (_ : Nat) => ?_ | fail)
          conv => whnf
          refine ⟨⟨by unfold maxLen; omega, by omega⟩, fun oa2 cap2 => ?_⟩
          repeat ((conv => whnf); first | refine ⟨Eq.refl _, ?_⟩ | refine ⟨⟨Eq.refl _, Eq.refl _⟩, ?_⟩ | refine ⟨⟨Eq.refl _, Eq.refl _, Eq.refl _⟩, ?_⟩ | refine ⟨⟨Eq.refl _, Eq.refl _, Eq.refl _, Eq.refl _⟩, ?_⟩ | refine ⟨⟨Eq.refl _, Eq.refl _, Eq.refl _, Eq.refl _, Eq.refl _⟩, ?_⟩ | refine fun (_ : Nat) => ?_ | refine fun (_ : Option Addr) (_ : Nat) => ?_ | fail)
          conv => whnf
          refine fun fr w hw => ⟨(k + 1, oa2, cap2), congrArg (fun z => [Value.int .i64 z]) (wr1 h' b1 b2).symm, h', dec h', hw.fit ?_⟩
          simp only [hT]
          simp [fitL, Res.eqv, concL, conc, routeOf, hAn, hCn]
        have hCn : clusAt s.clusters rc = ⟨#[]⟩ := by unfold clusAt; rw [if_neg hC]
        by_cases hC0 : 0 ≤ rc
        · conv => whnf
          refine ⟨fun _ => ?_, fun hx => absurd (((decide_eq_true hC0)).symm.trans hx) (by decide)⟩
          repeat ((conv => whnf); first | refine ⟨Eq.refl _, ?_⟩ | refine ⟨⟨Eq.refl _, Eq.refl _⟩, ?_⟩ | refine ⟨⟨Eq.refl _, Eq.refl _, Eq.refl _⟩, ?_⟩ | refine ⟨⟨Eq.refl _, Eq.refl _, Eq.refl _, Eq.refl _⟩, ?_⟩ | refine ⟨⟨Eq.refl _, Eq.refl _, Eq.refl _, Eq.refl _, Eq.refl _⟩, ?_⟩ | refine fun (_ : Nat) => ?_ | refine fun (_ : Option Addr) (_ : Nat) => ?_ | fail)
          conv => whnf
          refine ⟨fun hx => absurd (hx.symm.trans ((decide_eq_false (show ¬ rc < s.clusters.length from fun h => hC ⟨hC0, h⟩)))) (by decide), fun _ => ?_⟩
          repeat ((conv => whnf); first | refine ⟨Eq.refl _, ?_⟩ | refine ⟨⟨Eq.refl _, Eq.refl _⟩, ?_⟩ | refine ⟨⟨Eq.refl _, Eq.refl _, Eq.refl _⟩, ?_⟩ | refine ⟨⟨Eq.refl _, Eq.refl _, Eq.refl _, Eq.refl _⟩, ?_⟩ | refine ⟨⟨Eq.refl _, Eq.refl _, Eq.refl _, Eq.refl _, Eq.refl _⟩, ?_⟩ | refine fun (_ : Nat) => ?_ | refine fun (_ : Option Addr) (_ : Nat) => ?_ | fail)
          conv => whnf
          refine ⟨⟨by unfold maxLen; omega, by omega⟩, fun oa2 cap2 => ?_⟩
          repeat ((conv => whnf); first | refine ⟨Eq.refl _, ?_⟩ | refine ⟨⟨Eq.refl _, Eq.refl _⟩, ?_⟩ | refine ⟨⟨Eq.refl _, Eq.refl _, Eq.refl _⟩, ?_⟩ | refine ⟨⟨Eq.refl _, Eq.refl _, Eq.refl _, Eq.refl _⟩, ?_⟩ | refine ⟨⟨Eq.refl _, Eq.refl _, Eq.refl _, Eq.refl _, Eq.refl _⟩, ?_⟩ | refine fun (_ : Nat) => ?_ | refine fun (_ : Option Addr) (_ : Nat) => ?_ | fail)
          conv => whnf
          refine fun fr w hw => ⟨(k + 1, oa2, cap2), congrArg (fun z => [Value.int .i64 z]) (wr1 h' b1 b2).symm, h', dec h', hw.fit ?_⟩
          simp only [hT]
          simp [fitL, Res.eqv, concL, conc, routeOf, hAn, hCn]
        · conv => whnf
          refine ⟨fun hx => absurd (hx.symm.trans ((decide_eq_false hC0))) (by decide), fun _ => ?_⟩
          repeat ((conv => whnf); first | refine ⟨Eq.refl _, ?_⟩ | refine ⟨⟨Eq.refl _, Eq.refl _⟩, ?_⟩ | refine ⟨⟨Eq.refl _, Eq.refl _, Eq.refl _⟩, ?_⟩ | refine ⟨⟨Eq.refl _, Eq.refl _, Eq.refl _, Eq.refl _⟩, ?_⟩ | refine ⟨⟨Eq.refl _, Eq.refl _, Eq.refl _, Eq.refl _, Eq.refl _⟩, ?_⟩ | refine fun (_ : Nat) => ?_ | refine fun (_ : Option Addr) (_ : Nat) => ?_ | fail)
          conv => whnf
          refine ⟨⟨by unfold maxLen; omega, by omega⟩, fun oa2 cap2 => ?_⟩
          repeat ((conv => whnf); first | refine ⟨Eq.refl _, ?_⟩ | refine ⟨⟨Eq.refl _, Eq.refl _⟩, ?_⟩ | refine ⟨⟨Eq.refl _, Eq.refl _, Eq.refl _⟩, ?_⟩ | refine ⟨⟨Eq.refl _, Eq.refl _, Eq.refl _, Eq.refl _⟩, ?_⟩ | refine ⟨⟨Eq.refl _, Eq.refl _, Eq.refl _, Eq.refl _, Eq.refl _⟩, ?_⟩ | refine fun (_ : Nat) => ?_ | refine fun (_ : Option Addr) (_ : Nat) => ?_ | fail)
          conv => whnf
          refine fun fr w hw => ⟨(k + 1, oa2, cap2), congrArg (fun z => [Value.int .i64 z]) (wr1 h' b1 b2).symm, h', dec h', hw.fit ?_⟩
          simp only [hT]
          simp [fitL, Res.eqv, concL, conc, routeOf, hAn, hCn]
    have hz1 : k = s.rules.length := by have := of_decide_eq_false hlt; omega
    subst hz1
    repeat ((conv => whnf); first | refine ⟨Eq.refl _, ?_⟩ | refine ⟨⟨Eq.refl _, Eq.refl _⟩, ?_⟩ | refine ⟨⟨Eq.refl _, Eq.refl _, Eq.refl _⟩, ?_⟩ | refine ⟨⟨Eq.refl _, Eq.refl _, Eq.refl _, Eq.refl _⟩, ?_⟩ | refine ⟨⟨Eq.refl _, Eq.refl _, Eq.refl _, Eq.refl _, Eq.refl _⟩, ?_⟩ | refine fun (_ : Nat) => ?_ | refine fun (_ : Option Addr) (_ : Nat) => ?_ | fail)
    conv => whnf
    refine fun g1 hg1 hn1 hp1 => ?_
    conv => whnf
    intro g2 hg
    refine ⟨_, _, _, rfl, (rSl_ofE hp1.rd (confS s).routes cRoute ?_ (by simp [confS]) (fun _ _ => rfl) fun _ _ => rfl).mono rRoute_mono hg⟩
    rw [List.take_of_length_le (Nat.le_refl _)]; simp [confS, List.map_map, Function.comp_def])
end Go.Proofs.Ytedjbhpocedagaa
