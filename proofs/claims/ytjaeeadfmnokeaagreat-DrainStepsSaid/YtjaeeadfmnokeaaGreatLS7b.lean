/- Snapshots: the configuration of one. -/
import Derived.Test.YtjaeeadfmnokeaaGreatLK5b
namespace Go.Proofs.YtjaeeadfmnokeaaGreat
open Go.Proofs.YtjaeeadfmnokeaaGreat.Sx Go.RowKit
abbrev cRou (s : Snap) (r : Rule) : List Value := cRoute (routeOf s r)
theorem ok_Config (g : GW) {a b d : Value} {s : Snap} (hs : rSnap g [a, b, d] s) (hsz : s.rules.length ≤ 1000000) : Ok Tryz.prog n_snap_Config [.agg ⟨[a, b, d]⟩] g fun v g' => ∃ oa n cap, v = .agg ⟨[a, .slice oa n cap, d]⟩ ∧ rSl 4 rRoute g' (.slice oa n cap) (confS s).routes := by
  obtain ⟨_, _, _, he, hl, hr, hk⟩ := hs
  cases he
  obtain ⟨oa, ca, rfl, a1, a2, a0, hl1⟩ := id hl
  obtain ⟨ob, cb, rfl, b1, b2, b0, hr1⟩ := id hr
  obtain ⟨od, cd, rfl, d1, d2, d0, hk1⟩ := id hk
  exact Ok.of_fn hm noT 0 t_snap_Config (args := [.v (.agg ⟨[.slice oa s.listens.length ca, .slice ob s.rules.length cb, .slice od s.clusters.length cd]⟩)]) (by
    repeat ((conv => whnf); first | apply qza | apply qzb | apply qzc | apply qzd | apply qze | intro (_ : Nat) | intro (_ : Option Addr) (_ : Nat))
    rename_i p0 p1 p2
    conv => whnf
    refine ⟨Nat × Option Addr × Nat, fun (k, _, _) => [.v (.int .i64 k)], fun (k, oR, cR) => ⟨g, [.row 10 oR k cR ty_api_Route 4 ((s.rules.take k).map (cRou s)).flatten, .blk 2 p2 ty_api_Config [.v (.slice oa s.listens.length ca), .row 10 oR k cR, .v (.slice od s.clusters.length cd)], .blk 1 p1 ty_api_Config [.v (.slice none 0 0), .v (.slice none 0 0), .v (.slice none 0 0)], .blk 0 p0 ty_api_Snap [.v (.slice oa s.listens.length ca), .v (.slice ob s.rules.length cb), .v (.slice od s.clusters.length cd)]], 40, g.w.heap.size⟩, fun (k, _, _) => k ≤ s.rules.length, fun (k, _, _) => s.rules.length - k, ?_, ?_⟩
    · intro fr w hw
      exact ⟨(0, none, 0), rfl, Nat.zero_le _, (hw.nil_row (nx' := 40) 10 ty_api_Route 4).fit (by simp [fitL, Res.eqv, concL, conc])⟩
    rintro ⟨k, oR, cR⟩ hkk
    have hkk : k ≤ s.rules.length := hkk
    repeat ((conv => whnf); first | apply qza | apply qzb | apply qzc | apply qzd | apply qze | intro (_ : Nat) | intro (_ : Option Addr) (_ : Nat))
    conv => whnf
    refine ⟨fun hlt => ?_, fun hlt => ?_⟩
    · have h' : k < s.rules.length := by have := of_decide_eq_true hlt; omega
      obtain ⟨⟨rl, rh, rp, rc⟩, hx⟩ := getL_of h'
      obtain ⟨a, rfl, ec, hec, ⟨rfl, _, _⟩, hc⟩ := hr1 k _ hx
      have hT := take_map (f := cRou s) hx
      repeat ((conv => whnf); first | apply qza | apply qzb | apply qzc | apply qzd | apply qze | intro (_ : Nat) | intro (_ : Option Addr) (_ : Nat))
      conv => whnf
      refine ⟨a, rfl, ⟨by omega, by omega⟩, ?_⟩
      conv => whnf
      refine ⟨_, ⟨rfl, hc⟩, ?_⟩
      repeat ((conv => whnf); first | apply qza | apply qzb | apply qzc | apply qzd | apply qze | intro (_ : Nat) | intro (_ : Option Addr) (_ : Nat))
      by_cases hA : 0 ≤ rl ∧ rl < s.listens.length
      · obtain ⟨n, rfl⟩ := Int.eq_ofNat_of_zero_le hA.1
        obtain ⟨y, hy⟩ := getL_of (show n < s.listens.length by omega)
        obtain ⟨aL, rfl, ecL, hecL, rfl, hcL⟩ := hl1 n y hy
        have hAn : nameAt s.listens (n : Int) = y := by unfold nameAt; rw [if_pos hA]; simp [hy]
        conv => whnf
        refine ⟨fun _ => ?_, fun hx => absurd (((decide_eq_true hA.1)).symm.trans hx) (by decide)⟩
        repeat ((conv => whnf); first | apply qza | apply qzb | apply qzc | apply qzd | apply qze | intro (_ : Nat) | intro (_ : Option Addr) (_ : Nat))
        conv => whnf
        refine ⟨fun _ => ?_, fun hx => absurd (((decide_eq_true hA.2)).symm.trans hx) (by decide)⟩
        repeat ((conv => whnf); first | apply qza | apply qzb | apply qzc | apply qzd | apply qze | intro (_ : Nat) | intro (_ : Option Addr) (_ : Nat))
        conv => whnf
        refine ⟨aL, rfl, ⟨hA.1, hA.2⟩, ?_⟩
        conv => whnf
        refine ⟨_, hcL 0 _ rfl, ?_⟩
        repeat ((conv => whnf); first | apply qza | apply qzb | apply qzc | apply qzd | apply qze | intro (_ : Nat) | intro (_ : Option Addr) (_ : Nat))
        by_cases hC : 0 ≤ rc ∧ rc < s.clusters.length
        · obtain ⟨m, rfl⟩ := Int.eq_ofNat_of_zero_le hC.1
          obtain ⟨z, hz⟩ := getL_of (show m < s.clusters.length by omega)
          obtain ⟨aC, rfl, ecC, hecC, ⟨hv, rfl, _, _, _, _, rfl, _⟩, hcC⟩ := hk1 m z hz
          have hCn : clusAt s.clusters (m : Int) = z.name := by unfold clusAt; rw [if_pos hC]; simp [hz]
          conv => whnf
          refine ⟨fun _ => ?_, fun hx => absurd (((decide_eq_true hC.1)).symm.trans hx) (by decide)⟩
          repeat ((conv => whnf); first | apply qza | apply qzb | apply qzc | apply qzd | apply qze | intro (_ : Nat) | intro (_ : Option Addr) (_ : Nat))
          conv => whnf
          refine ⟨fun _ => ?_, fun hx => absurd (((decide_eq_true hC.2)).symm.trans hx) (by decide)⟩
          repeat ((conv => whnf); first | apply qza | apply qzb | apply qzc | apply qzd | apply qze | intro (_ : Nat) | intro (_ : Option Addr) (_ : Nat))
          conv => whnf
          refine ⟨aC, rfl, ⟨hC.1, hC.2⟩, ?_⟩
          conv => whnf
          refine ⟨_, hcC 0 _ rfl, ?_⟩
          repeat ((conv => whnf); first | apply qza | apply qzb | apply qzc | apply qzd | apply qze | intro (_ : Nat) | intro (_ : Option Addr) (_ : Nat))
          conv => whnf
          refine ⟨⟨by unfold maxLen; omega, by omega⟩, fun oa2 cap2 => ?_⟩
          repeat ((conv => whnf); first | apply qza | apply qzb | apply qzc | apply qzd | apply qze | intro (_ : Nat) | intro (_ : Option Addr) (_ : Nat))
          conv => whnf
          refine fun fr w hw => ⟨(k + 1, oa2, cap2), congrArg (fun z => [Value.int .i64 z]) (wr1 h' b1 b2).symm, h', dec h', hw.fit ?_⟩
          simp only [hT]
          simp [fitL, Res.eqv, concL, conc, routeOf, hAn, hCn]
        have hCn : clusAt s.clusters rc = ⟨#[]⟩ := by unfold clusAt; rw [if_neg hC]
        by_cases hC0 : 0 ≤ rc
        · conv => whnf
          refine ⟨fun _ => ?_, fun hx => absurd (((decide_eq_true hC0)).symm.trans hx) (by decide)⟩
          repeat ((conv => whnf); first | apply qza | apply qzb | apply qzc | apply qzd | apply qze | intro (_ : Nat) | intro (_ : Option Addr) (_ : Nat))
          conv => whnf
          refine ⟨fun hx => absurd (hx.symm.trans ((decide_eq_false (show ¬ rc < s.clusters.length from fun h => hC ⟨hC0, h⟩)))) (by decide), fun _ => ?_⟩
          repeat ((conv => whnf); first | apply qza | apply qzb | apply qzc | apply qzd | apply qze | intro (_ : Nat) | intro (_ : Option Addr) (_ : Nat))
          conv => whnf
          refine ⟨⟨by unfold maxLen; omega, by omega⟩, fun oa2 cap2 => ?_⟩
          repeat ((conv => whnf); first | apply qza | apply qzb | apply qzc | apply qzd | apply qze | intro (_ : Nat) | intro (_ : Option Addr) (_ : Nat))
          conv => whnf
          refine fun fr w hw => ⟨(k + 1, oa2, cap2), congrArg (fun z => [Value.int .i64 z]) (wr1 h' b1 b2).symm, h', dec h', hw.fit ?_⟩
          simp only [hT]
          simp [fitL, Res.eqv, concL, conc, routeOf, hAn, hCn]
        · conv => whnf
          refine ⟨fun hx => absurd (hx.symm.trans ((decide_eq_false hC0))) (by decide), fun _ => ?_⟩
          repeat ((conv => whnf); first | apply qza | apply qzb | apply qzc | apply qzd | apply qze | intro (_ : Nat) | intro (_ : Option Addr) (_ : Nat))
          conv => whnf
          refine ⟨⟨by unfold maxLen; omega, by omega⟩, fun oa2 cap2 => ?_⟩
          repeat ((conv => whnf); first | apply qza | apply qzb | apply qzc | apply qzd | apply qze | intro (_ : Nat) | intro (_ : Option Addr) (_ : Nat))
          conv => whnf
          refine fun fr w hw => ⟨(k + 1, oa2, cap2), congrArg (fun z => [Value.int .i64 z]) (wr1 h' b1 b2).symm, h', dec h', hw.fit ?_⟩
          simp only [hT]
          simp [fitL, Res.eqv, concL, conc, routeOf, hAn, hCn]
      have hAn : nameAt s.listens rl = ⟨#[]⟩ := by unfold nameAt; rw [if_neg hA]
      by_cases hA0 : 0 ≤ rl
      · conv => whnf
        refine ⟨fun _ => ?_, fun hx => absurd (((decide_eq_true hA0)).symm.trans hx) (by decide)⟩
        repeat ((conv => whnf); first | apply qza | apply qzb | apply qzc | apply qzd | apply qze | intro (_ : Nat) | intro (_ : Option Addr) (_ : Nat))
        conv => whnf
        refine ⟨fun hx => absurd (hx.symm.trans ((decide_eq_false (show ¬ rl < s.listens.length from fun h => hA ⟨hA0, h⟩)))) (by decide), fun _ => ?_⟩
        repeat ((conv => whnf); first | apply qza | apply qzb | apply qzc | apply qzd | apply qze | intro (_ : Nat) | intro (_ : Option Addr) (_ : Nat))
        by_cases hC : 0 ≤ rc ∧ rc < s.clusters.length
        · obtain ⟨m, rfl⟩ := Int.eq_ofNat_of_zero_le hC.1
          obtain ⟨z, hz⟩ := getL_of (show m < s.clusters.length by omega)
          obtain ⟨aC, rfl, ecC, hecC, ⟨hv, rfl, _, _, _, _, rfl, _⟩, hcC⟩ := hk1 m z hz
          have hCn : clusAt s.clusters (m : Int) = z.name := by unfold clusAt; rw [if_pos hC]; simp [hz]
          conv => whnf
          refine ⟨fun _ => ?_, fun hx => absurd (((decide_eq_true hC.1)).symm.trans hx) (by decide)⟩
          repeat ((conv => whnf); first | apply qza | apply qzb | apply qzc | apply qzd | apply qze | intro (_ : Nat) | intro (_ : Option Addr) (_ : Nat))
          conv => whnf
          refine ⟨fun _ => ?_, fun hx => absurd (((decide_eq_true hC.2)).symm.trans hx) (by decide)⟩
          repeat ((conv => whnf); first | apply qza | apply qzb | apply qzc | apply qzd | apply qze | intro (_ : Nat) | intro (_ : Option Addr) (_ : Nat))
          conv => whnf
          refine ⟨aC, rfl, ⟨hC.1, hC.2⟩, ?_⟩
          conv => whnf
          refine ⟨_, hcC 0 _ rfl, ?_⟩
          repeat ((conv => whnf); first | apply qza | apply qzb | apply qzc | apply qzd | apply qze | intro (_ : Nat) | intro (_ : Option Addr) (_ : Nat))
          conv => whnf
          refine ⟨⟨by unfold maxLen; omega, by omega⟩, fun oa2 cap2 => ?_⟩
          repeat ((conv => whnf); first | apply qza | apply qzb | apply qzc | apply qzd | apply qze | intro (_ : Nat) | intro (_ : Option Addr) (_ : Nat))
          conv => whnf
          refine fun fr w hw => ⟨(k + 1, oa2, cap2), congrArg (fun z => [Value.int .i64 z]) (wr1 h' b1 b2).symm, h', dec h', hw.fit ?_⟩
          simp only [hT]
          simp [fitL, Res.eqv, concL, conc, routeOf, hAn, hCn]
        have hCn : clusAt s.clusters rc = ⟨#[]⟩ := by unfold clusAt; rw [if_neg hC]
        by_cases hC0 : 0 ≤ rc
        · conv => whnf
          refine ⟨fun _ => ?_, fun hx => absurd (((decide_eq_true hC0)).symm.trans hx) (by decide)⟩
          repeat ((conv => whnf); first | apply qza | apply qzb | apply qzc | apply qzd | apply qze | intro (_ : Nat) | intro (_ : Option Addr) (_ : Nat))
          conv => whnf
          refine ⟨fun hx => absurd (hx.symm.trans ((decide_eq_false (show ¬ rc < s.clusters.length from fun h => hC ⟨hC0, h⟩)))) (by decide), fun _ => ?_⟩
          repeat ((conv => whnf); first | apply qza | apply qzb | apply qzc | apply qzd | apply qze | intro (_ : Nat) | intro (_ : Option Addr) (_ : Nat))
          conv => whnf
          refine ⟨⟨by unfold maxLen; omega, by omega⟩, fun oa2 cap2 => ?_⟩
          repeat ((conv => whnf); first | apply qza | apply qzb | apply qzc | apply qzd | apply qze | intro (_ : Nat) | intro (_ : Option Addr) (_ : Nat))
          conv => whnf
          refine fun fr w hw => ⟨(k + 1, oa2, cap2), congrArg (fun z => [Value.int .i64 z]) (wr1 h' b1 b2).symm, h', dec h', hw.fit ?_⟩
          simp only [hT]
          simp [fitL, Res.eqv, concL, conc, routeOf, hAn, hCn]
        · conv => whnf
          refine ⟨fun hx => absurd (hx.symm.trans ((decide_eq_false hC0))) (by decide), fun _ => ?_⟩
          repeat ((conv => whnf); first | apply qza | apply qzb | apply qzc | apply qzd | apply qze | intro (_ : Nat) | intro (_ : Option Addr) (_ : Nat))
          conv => whnf
          refine ⟨⟨by unfold maxLen; omega, by omega⟩, fun oa2 cap2 => ?_⟩
          repeat ((conv => whnf); first | apply qza | apply qzb | apply qzc | apply qzd | apply qze | intro (_ : Nat) | intro (_ : Option Addr) (_ : Nat))
          conv => whnf
          refine fun fr w hw => ⟨(k + 1, oa2, cap2), congrArg (fun z => [Value.int .i64 z]) (wr1 h' b1 b2).symm, h', dec h', hw.fit ?_⟩
          simp only [hT]
          simp [fitL, Res.eqv, concL, conc, routeOf, hAn, hCn]
      · conv => whnf
        refine ⟨fun hx => absurd (hx.symm.trans ((decide_eq_false hA0))) (by decide), fun _ => ?_⟩
        repeat ((conv => whnf); first | apply qza | apply qzb | apply qzc | apply qzd | apply qze | intro (_ : Nat) | intro (_ : Option Addr) (_ : Nat))
        by_cases hC : 0 ≤ rc ∧ rc < s.clusters.length
        · obtain ⟨m, rfl⟩ := Int.eq_ofNat_of_zero_le hC.1
          obtain ⟨z, hz⟩ := getL_of (show m < s.clusters.length by omega)
          obtain ⟨aC, rfl, ecC, hecC, ⟨hv, rfl, _, _, _, _, rfl, _⟩, hcC⟩ := hk1 m z hz
          have hCn : clusAt s.clusters (m : Int) = z.name := by unfold clusAt; rw [if_pos hC]; simp [hz]
          conv => whnf
          refine ⟨fun _ => ?_, fun hx => absurd (((decide_eq_true hC.1)).symm.trans hx) (by decide)⟩
          repeat ((conv => whnf); first | apply qza | apply qzb | apply qzc | apply qzd | apply qze | intro (_ : Nat) | intro (_ : Option Addr) (_ : Nat))
          conv => whnf
          refine ⟨fun _ => ?_, fun hx => absurd (((decide_eq_true hC.2)).symm.trans hx) (by decide)⟩
          repeat ((conv => whnf); first | apply qza | apply qzb | apply qzc | apply qzd | apply qze | intro (_ : Nat) | intro (_ : Option Addr) (_ : Nat))
          conv => whnf
          refine ⟨aC, rfl, ⟨hC.1, hC.2⟩, ?_⟩
          conv => whnf
          refine ⟨_, hcC 0 _ rfl, ?_⟩
          repeat ((conv => whnf); first | apply qza | apply qzb | apply qzc | apply qzd | apply qze | intro (_ : Nat) | intro (_ : Option Addr) (_ : Nat))
          conv => whnf
          refine ⟨⟨by unfold maxLen; omega, by omega⟩, fun oa2 cap2 => ?_⟩
          repeat ((conv => whnf); first | apply qza | apply qzb | apply qzc | apply qzd | apply qze | intro (_ : Nat) | intro (_ : Option Addr) (_ : Nat))
          conv => whnf
          refine fun fr w hw => ⟨(k + 1, oa2, cap2), congrArg (fun z => [Value.int .i64 z]) (wr1 h' b1 b2).symm, h', dec h', hw.fit ?_⟩
          simp only [hT]
          simp [fitL, Res.eqv, concL, conc, routeOf, hAn, hCn]
        have hCn : clusAt s.clusters rc = ⟨#[]⟩ := by unfold clusAt; rw [if_neg hC]
        by_cases hC0 : 0 ≤ rc
        · conv => whnf
          refine ⟨fun _ => ?_, fun hx => absurd (((decide_eq_true hC0)).symm.trans hx) (by decide)⟩
          repeat ((conv => whnf); first | apply qza | apply qzb | apply qzc | apply qzd | apply qze | intro (_ : Nat) | intro (_ : Option Addr) (_ : Nat))
          conv => whnf
          refine ⟨fun hx => absurd (hx.symm.trans ((decide_eq_false (show ¬ rc < s.clusters.length from fun h => hC ⟨hC0, h⟩)))) (by decide), fun _ => ?_⟩
          repeat ((conv => whnf); first | apply qza | apply qzb | apply qzc | apply qzd | apply qze | intro (_ : Nat) | intro (_ : Option Addr) (_ : Nat))
          conv => whnf
          refine ⟨⟨by unfold maxLen; omega, by omega⟩, fun oa2 cap2 => ?_⟩
          repeat ((conv => whnf); first | apply qza | apply qzb | apply qzc | apply qzd | apply qze | intro (_ : Nat) | intro (_ : Option Addr) (_ : Nat))
          conv => whnf
          refine fun fr w hw => ⟨(k + 1, oa2, cap2), congrArg (fun z => [Value.int .i64 z]) (wr1 h' b1 b2).symm, h', dec h', hw.fit ?_⟩
          simp only [hT]
          simp [fitL, Res.eqv, concL, conc, routeOf, hAn, hCn]
        · conv => whnf
          refine ⟨fun hx => absurd (hx.symm.trans ((decide_eq_false hC0))) (by decide), fun _ => ?_⟩
          repeat ((conv => whnf); first | apply qza | apply qzb | apply qzc | apply qzd | apply qze | intro (_ : Nat) | intro (_ : Option Addr) (_ : Nat))
          conv => whnf
          refine ⟨⟨by unfold maxLen; omega, by omega⟩, fun oa2 cap2 => ?_⟩
          repeat ((conv => whnf); first | apply qza | apply qzb | apply qzc | apply qzd | apply qze | intro (_ : Nat) | intro (_ : Option Addr) (_ : Nat))
          conv => whnf
          refine fun fr w hw => ⟨(k + 1, oa2, cap2), congrArg (fun z => [Value.int .i64 z]) (wr1 h' b1 b2).symm, h', dec h', hw.fit ?_⟩
          simp only [hT]
          simp [fitL, Res.eqv, concL, conc, routeOf, hAn, hCn]
    have hz1 : k = s.rules.length := by have := of_decide_eq_false hlt; omega
    subst hz1
    repeat ((conv => whnf); first | apply qza | apply qzb | apply qzc | apply qzd | apply qze | intro (_ : Nat) | intro (_ : Option Addr) (_ : Nat))
    conv => whnf
    refine fun g1 hg1 hn1 hp1 => ?_
    conv => whnf
    intro g2 hg
    refine ⟨_, _, _, rfl, (rSl_ofE hp1.rd (confS s).routes cRoute ?_ (by simp [confS]) (fun _ _ => rfl) fun _ _ => rfl).mono rRoute_mono hg⟩
    rw [List.take_of_length_le (Nat.le_refl _)]; simp [confS, List.map_map, Function.comp_def])
end Go.Proofs.YtjaeeadfmnokeaaGreat


/- What is the same. -/
namespace Go.Proofs.YtjaeeadfmnokeaaGreat
open Go.Proofs.YtjaeeadfmnokeaaGreat.Sx Go.RowKit
theorem take_eq {α : Type} {l m : List α} {k : Nat} {x y : α} (h : l.take k = m.take k) (hx : l[k]? = some x) (hy : m[k]? = some y) (e : x = y) : l.take (k + 1) = m.take (k + 1) := by
  obtain ⟨h1, h2⟩ := List.getElem?_eq_some_iff.1 hx
  obtain ⟨h3, h4⟩ := List.getElem?_eq_some_iff.1 hy
  rw [List.take_succ_eq_append_getElem h1, List.take_succ_eq_append_getElem h3, h, h2, h4, e]
theorem snap_ext {a b : Snap} (h1 : a.listens = b.listens) (h2 : a.rules = b.rules) (h3 : a.clusters = b.clusters) : a = b := by
  cases a; cases b; simp_all
theorem ok_sameTexts (g : GW) {v v' : Value} {l m : List BA} (hl : rSl 1 rStr g v l) (hm' : rSl 1 rStr g v' m) : OkV Tryz.prog n_hydrantref07_sameTexts [v, v'] g (.bool (eqB l m)) := by
  obtain ⟨oa, ca, rfl, a1, a2, a0, hl1⟩ := id hl
  obtain ⟨ob, cb, rfl, b1, b2, b0, hr1⟩ := id hm'
  exact Ok.of_fn hm noT 0 t_hydrantref07_sameTexts (args := [.v (.slice oa l.length ca), .v (.slice ob m.length cb)]) (by
    repeat ((conv => whnf); first | apply qza | apply qzb | apply qzc | apply qzd | apply qze | intro (_ : Nat) | intro (_ : Option Addr) (_ : Nat))
    conv => whnf
    refine ⟨fun k3 => ?_, fun k3 => ?_⟩
    · conv => whnf
      intro g2 hg
      rw [eqB_f (fun e => by rw [e] at k3; simp at k3)]
    have k3 : l.length = m.length := by simp at k3; omega
    repeat ((conv => whnf); first | apply qza | apply qzb | apply qzc | apply qzd | apply qze | intro (_ : Nat) | intro (_ : Option Addr) (_ : Nat))
    conv => whnf
    refine ⟨Nat, fun k => [.v (.int .i64 k)], fun _ => ⟨g, [], _, _⟩, fun k => k ≤ l.length ∧ l.take k = m.take k, fun k => l.length - k, loop_here 0 rfl ⟨Nat.zero_le _, rfl⟩ rfl, ?_⟩
    rintro k ⟨hkk, hp⟩
    repeat ((conv => whnf); first | apply qza | apply qzb | apply qzc | apply qzd | apply qze | intro (_ : Nat) | intro (_ : Option Addr) (_ : Nat))
    conv => whnf
    refine ⟨fun hlt => ?_, fun hlt => ?_⟩
    · have h' : k < l.length := by have := of_decide_eq_true hlt; omega
      obtain ⟨u, hu⟩ := getL_of h'
      obtain ⟨v, hv⟩ := getL_of (show k < m.length by omega)
      obtain ⟨a, rfl, ec, hec, rfl, hc⟩ := hl1 k u hu
      obtain ⟨a', rfl, ec', hec', rfl, hc'⟩ := hr1 k v hv
      repeat ((conv => whnf); first | apply qza | apply qzb | apply qzc | apply qzd | apply qze | intro (_ : Nat) | intro (_ : Option Addr) (_ : Nat))
      conv => whnf
      refine ⟨a, rfl, ⟨by omega, by omega⟩, ?_⟩
      conv => whnf
      refine ⟨_, hc 0 _ rfl, ?_⟩
      repeat ((conv => whnf); first | apply qza | apply qzb | apply qzc | apply qzd | apply qze | intro (_ : Nat) | intro (_ : Option Addr) (_ : Nat))
      conv => whnf
      refine ⟨a', rfl, ⟨by omega, by omega⟩, ?_⟩
      conv => whnf
      refine ⟨_, hc' 0 _ rfl, ?_⟩
      repeat ((conv => whnf); first | apply qza | apply qzb | apply qzc | apply qzd | apply qze | intro (_ : Nat) | intro (_ : Option Addr) (_ : Nat))
      conv => whnf
      refine ⟨fun he => ?_, fun he => ?_⟩
      · conv => whnf
        intro g2 hg
        rw [eqB_f (fun e => ?_)]
        rw [← e, hu] at hv
        cases hv
        simp at he
      · have huv : u = v := bs_ext (by simpa using he)
        conv => whnf
        refine fun fr w hw => ⟨k + 1, congrArg (fun z => [Value.int .i64 z]) (wr1 h' a1 a2).symm, ⟨h', take_eq hp hu hv huv⟩, dec h', hw⟩
    · conv => whnf
      intro g2 hg
      have := of_decide_eq_false hlt
      rw [List.take_of_length_le (by omega), List.take_of_length_le (by omega)] at hp
      rw [eqB_t hp])
theorem ok_sameClusters (g : GW) {v v' : Value} {l m : List Cluster} (hl : rSl 4 rCluster g v l) (hm' : rSl 4 rCluster g v' m) : OkV Tryz.prog n_hydrantref07_sameClusters [v, v'] g (.bool (eqB l m)) := by
  obtain ⟨oa, ca, rfl, a1, a2, a0, hl1⟩ := id hl
  obtain ⟨ob, cb, rfl, b1, b2, b0, hr1⟩ := id hm'
  exact Ok.of_fn hm noT 0 t_hydrantref07_sameClusters (args := [.v (.slice oa l.length ca), .v (.slice ob m.length cb)]) (by
    repeat ((conv => whnf); first | apply qza | apply qzb | apply qzc | apply qzd | apply qze | intro (_ : Nat) | intro (_ : Option Addr) (_ : Nat))
    conv => whnf
    refine ⟨fun k3 => ?_, fun k3 => ?_⟩
    · conv => whnf
      intro g2 hg
      rw [eqB_f (fun e => by rw [e] at k3; simp at k3)]
    have k3 : l.length = m.length := by simp at k3; omega
    repeat ((conv => whnf); first | apply qza | apply qzb | apply qzc | apply qzd | apply qze | intro (_ : Nat) | intro (_ : Option Addr) (_ : Nat))
    conv => whnf
    refine ⟨Nat, fun k => [.v (.int .i64 k)], fun _ => ⟨g, [], _, _⟩, fun k => k ≤ l.length ∧ l.take k = m.take k, fun k => l.length - k, loop_here 0 rfl ⟨Nat.zero_le _, rfl⟩ rfl, ?_⟩
    rintro k ⟨hkk, hp⟩
    repeat ((conv => whnf); first | apply qza | apply qzb | apply qzc | apply qzd | apply qze | intro (_ : Nat) | intro (_ : Option Addr) (_ : Nat))
    conv => whnf
    refine ⟨fun hlt => ?_, fun hlt => ?_⟩
    rotate_left
    · conv => whnf
      intro g2 hg
      have := of_decide_eq_false hlt
      rw [List.take_of_length_le (by omega), List.take_of_length_le (by omega)] at hp
      rw [eqB_t hp]
    have h' : k < l.length := by have := of_decide_eq_true hlt; omega
    obtain ⟨u, hu⟩ := getL_of h'
    obtain ⟨v, hv⟩ := getL_of (show k < m.length by omega)
    obtain ⟨a, rfl, ec, hec, ⟨hvu, rfl, _, _, ohu, chu, rfl, q1, q2, q0, hq⟩, hc⟩ := hl1 k u hu
    obtain ⟨a', rfl, ec', hec', ⟨hvv, rfl, _, _, ohv, chv, rfl, r1, r2, r0, hr⟩, hc'⟩ := hr1 k v hv
    have ne : u ≠ v → eqB l m = false := fun h => eqB_f fun e => h (by rw [e, hv] at hu; cases hu; rfl)
    repeat ((conv => whnf); first | apply qza | apply qzb | apply qzc | apply qzd | apply qze | intro (_ : Nat) | intro (_ : Option Addr) (_ : Nat))
    conv => whnf
    refine ⟨a, rfl, ⟨by omega, by omega⟩, ?_⟩
    conv => whnf
    refine ⟨_, hc 0 _ rfl, ?_⟩
    repeat ((conv => whnf); first | apply qza | apply qzb | apply qzc | apply qzd | apply qze | intro (_ : Nat) | intro (_ : Option Addr) (_ : Nat))
    conv => whnf
    refine ⟨a', rfl, ⟨by omega, by omega⟩, ?_⟩
    conv => whnf
    refine ⟨_, hc' 0 _ rfl, ?_⟩
    repeat ((conv => whnf); first | apply qza | apply qzb | apply qzc | apply qzd | apply qze | intro (_ : Nat) | intro (_ : Option Addr) (_ : Nat))
    conv => whnf
    refine ⟨fun c0 => ?_, fun c0 => ?_⟩
    · conv => whnf
      intro g2 hg
      rw [ne fun e => by subst e; simp at c0]
    repeat ((conv => whnf); first | apply qza | apply qzb | apply qzc | apply qzd | apply qze | intro (_ : Nat) | intro (_ : Option Addr) (_ : Nat))
    conv => whnf
    refine ⟨a, rfl, ⟨by omega, by omega⟩, ?_⟩
    conv => whnf
    refine ⟨_, hc 1 _ rfl, ?_⟩
    repeat ((conv => whnf); first | apply qza | apply qzb | apply qzc | apply qzd | apply qze | intro (_ : Nat) | intro (_ : Option Addr) (_ : Nat))
    conv => whnf
    refine ⟨a', rfl, ⟨by omega, by omega⟩, ?_⟩
    conv => whnf
    refine ⟨_, hc' 1 _ rfl, ?_⟩
    repeat ((conv => whnf); first | apply qza | apply qzb | apply qzc | apply qzd | apply qze | intro (_ : Nat) | intro (_ : Option Addr) (_ : Nat))
    conv => whnf
    refine ⟨fun c1 => ?_, fun c1 => ?_⟩
    · conv => whnf
      intro g2 hg
      rw [ne fun e => by subst e; simp at c1]
    repeat ((conv => whnf); first | apply qza | apply qzb | apply qzc | apply qzd | apply qze | intro (_ : Nat) | intro (_ : Option Addr) (_ : Nat))
    conv => whnf
    refine ⟨a, rfl, ⟨by omega, by omega⟩, ?_⟩
    conv => whnf
    refine ⟨_, hc 2 _ rfl, ?_⟩
    repeat ((conv => whnf); first | apply qza | apply qzb | apply qzc | apply qzd | apply qze | intro (_ : Nat) | intro (_ : Option Addr) (_ : Nat))
    conv => whnf
    refine ⟨a', rfl, ⟨by omega, by omega⟩, ?_⟩
    conv => whnf
    refine ⟨_, hc' 2 _ rfl, ?_⟩
    repeat ((conv => whnf); first | apply qza | apply qzb | apply qzc | apply qzd | apply qze | intro (_ : Nat) | intro (_ : Option Addr) (_ : Nat))
    conv => whnf
    refine ⟨fun c2 => ?_, fun c2 => ?_⟩
    · conv => whnf
      intro g2 hg
      rw [ne fun e => by subst e; simp at c2]
    repeat ((conv => whnf); first | apply qza | apply qzb | apply qzc | apply qzd | apply qze | intro (_ : Nat) | intro (_ : Option Addr) (_ : Nat))
    conv => whnf
    refine ⟨a, rfl, ⟨by omega, by omega⟩, ?_⟩
    conv => whnf
    refine ⟨_, hc 3 _ rfl, ?_⟩
    repeat ((conv => whnf); first | apply qza | apply qzb | apply qzc | apply qzd | apply qze | intro (_ : Nat) | intro (_ : Option Addr) (_ : Nat))
    conv => whnf
    refine ⟨a', rfl, ⟨by omega, by omega⟩, ?_⟩
    conv => whnf
    refine ⟨_, hc' 3 _ rfl, ?_⟩
    repeat ((conv => whnf); first | apply qza | apply qzb | apply qzc | apply qzd | apply qze | intro (_ : Nat) | intro (_ : Option Addr) (_ : Nat))
    conv => whnf
    refine ⟨fun c3 => ?_, fun c3 => ?_⟩
    · conv => whnf
      intro g2 hg
      rw [ne fun e => by subst e; simp at c3]
    have d0 : u.name = v.name := bs_ext (by simpa using c0)
    have d1 : u.policy = v.policy := by simpa using c1
    have d2 : u.slots = v.slots := by simpa using c2
    have d3 : u.health.length = v.health.length := by simp at c3; omega
    clear c0 c1 c2 c3
    repeat ((conv => whnf); first | apply qza | apply qzb | apply qzc | apply qzd | apply qze | intro (_ : Nat) | intro (_ : Option Addr) (_ : Nat))
    conv => whnf
    refine ⟨Nat, fun n => [.v (.int .i64 n)], fun _ => ⟨g, [], _, _⟩, fun n => n ≤ u.health.length ∧ u.health.take n = v.health.take n, fun n => u.health.length - n, loop_here 0 rfl ⟨Nat.zero_le _, rfl⟩ rfl, ?_⟩
    rintro n ⟨hnn, hpn⟩
    repeat ((conv => whnf); first | apply qza | apply qzb | apply qzc | apply qzd | apply qze | intro (_ : Nat) | intro (_ : Option Addr) (_ : Nat))
    conv => whnf
    refine ⟨a, rfl, ⟨by omega, by omega⟩, ?_⟩
    conv => whnf
    refine ⟨_, hc 3 _ rfl, ?_⟩
    repeat ((conv => whnf); first | apply qza | apply qzb | apply qzc | apply qzd | apply qze | intro (_ : Nat) | intro (_ : Option Addr) (_ : Nat))
    conv => whnf
    refine ⟨fun hltn => ?_, fun hltn => ?_⟩
    · have hn' : n < u.health.length := by have := of_decide_eq_true hltn; omega
      obtain ⟨p, hp'⟩ := getL_of hn'
      obtain ⟨q, hq'⟩ := getL_of (show n < v.health.length by omega)
      obtain ⟨aa, rfl, ecc, hecc, rfl, hcc⟩ := hq n p hp'
      obtain ⟨aa', rfl, ecc', hecc', rfl, hcc'⟩ := hr n q hq'
      conv => whnf
      refine ⟨a, rfl, ⟨by omega, by omega⟩, ?_⟩
      conv => whnf
      refine ⟨_, hc 3 _ rfl, ?_⟩
      repeat ((conv => whnf); first | apply qza | apply qzb | apply qzc | apply qzd | apply qze | intro (_ : Nat) | intro (_ : Option Addr) (_ : Nat))
      conv => whnf
      refine ⟨aa, rfl, ⟨by omega, by omega⟩, ?_⟩
      conv => whnf
      refine ⟨_, hcc 0 _ rfl, ?_⟩
      repeat ((conv => whnf); first | apply qza | apply qzb | apply qzc | apply qzd | apply qze | intro (_ : Nat) | intro (_ : Option Addr) (_ : Nat))
      conv => whnf
      refine ⟨a', rfl, ⟨by omega, by omega⟩, ?_⟩
      conv => whnf
      refine ⟨_, hc' 3 _ rfl, ?_⟩
      repeat ((conv => whnf); first | apply qza | apply qzb | apply qzc | apply qzd | apply qze | intro (_ : Nat) | intro (_ : Option Addr) (_ : Nat))
      conv => whnf
      refine ⟨aa', rfl, ⟨by omega, by omega⟩, ?_⟩
      conv => whnf
      refine ⟨_, hcc' 0 _ rfl, ?_⟩
      repeat ((conv => whnf); first | apply qza | apply qzb | apply qzc | apply qzd | apply qze | intro (_ : Nat) | intro (_ : Option Addr) (_ : Nat))
      conv => whnf
      refine ⟨fun he => ?_, fun he => ?_⟩
      · conv => whnf
        intro g2 hg
        rw [ne fun e => ?_]
        subst e
        rw [hp'] at hq'
        cases hq'
        simp at he
      · conv => whnf
        refine fun fr w hw => ⟨n + 1, congrArg (fun z => [Value.int .i64 z]) (wr1 hn' q1 q2).symm, ⟨hn', take_eq hpn hp' hq' (by simpa using he)⟩, dec hn', hw⟩
    have huv : u = v := cluster_ext d0 d1 d2 (by
      have := of_decide_eq_false hltn
      rwa [List.take_of_length_le (by omega), List.take_of_length_le (by omega)] at hpn)
    conv => whnf
    refine fun fr w hw => ⟨k + 1, congrArg (fun z => [Value.int .i64 z]) (wr1 h' a1 a2).symm, ⟨h', take_eq hp hu hv huv⟩, dec h', hw⟩)
theorem ok_Same (g : GW) {cs cs' : List Value} {x y : Snap} (hx : rSnap g cs x) (hy : rSnap g cs' y) : OkV Tryz.prog n_hydrantref07_Same [.agg ⟨cs⟩, .agg ⟨cs'⟩] g (.bool (eqB x y)) := by
  obtain ⟨a, b, d, rfl, hl, hr, hk⟩ := hx
  obtain ⟨a', b', d', rfl, hl', hr', hk'⟩ := hy
  obtain ⟨oa, ca, rfl, a1, a2, a0, hl1⟩ := id hl
  obtain ⟨ob, cb, rfl, b1, b2, b0, hr1⟩ := id hr
  obtain ⟨od, cd, rfl, d1, d2, d0, hk1⟩ := id hk
  obtain ⟨oe, ce, rfl, e1, e2, e0, hl1'⟩ := id hl'
  obtain ⟨og, cg, rfl, f1, f2, f0, hr1'⟩ := id hr'
  obtain ⟨oh, ch, rfl, g1, g2, g0, hk1'⟩ := id hk'
  exact Ok.of_fn hm noT 0 t_hydrantref07_Same (args := [.v (.agg ⟨[.slice oa x.listens.length ca, .slice ob x.rules.length cb, .slice od x.clusters.length cd]⟩), .v (.agg ⟨[.slice oe y.listens.length ce, .slice og y.rules.length cg, .slice oh y.clusters.length ch]⟩)]) (by
    repeat ((conv => whnf); first | apply qza | apply qzb | apply qzc | apply qzd | apply qze | intro (_ : Nat) | intro (_ : Option Addr) (_ : Nat))
    conv => whnf
    refine .inl ⟨_, ok_sameTexts _ hl hl', ?_⟩
    conv => whnf
    refine ⟨fun k1 => ?_, fun k1 => ?_⟩
    · conv => whnf
      intro g2 hg
      rw [eqB_f (fun e => by rw [e, eqB_t rfl] at k1; cases k1)]
    have k1 := eqB_iff.1 (nb0 k1)
    repeat ((conv => whnf); first | apply qza | apply qzb | apply qzc | apply qzd | apply qze | intro (_ : Nat) | intro (_ : Option Addr) (_ : Nat))
    conv => whnf
    refine .inl ⟨_, ok_sameClusters _ hk hk', ?_⟩
    conv => whnf
    refine ⟨fun k2 => ?_, fun k2 => ?_⟩
    · conv => whnf
      intro g2 hg
      rw [eqB_f (fun e => by rw [e, eqB_t rfl] at k2; cases k2)]
    have k2 := eqB_iff.1 (nb0 k2)
    repeat ((conv => whnf); first | apply qza | apply qzb | apply qzc | apply qzd | apply qze | intro (_ : Nat) | intro (_ : Option Addr) (_ : Nat))
    conv => whnf
    refine ⟨fun k3 => ?_, fun k3 => ?_⟩
    · conv => whnf
      intro g2 hg
      rw [eqB_f (fun e => by rw [e] at k3; simp at k3)]
    have k3 : x.rules.length = y.rules.length := by simp at k3; omega
    repeat ((conv => whnf); first | apply qza | apply qzb | apply qzc | apply qzd | apply qze | intro (_ : Nat) | intro (_ : Option Addr) (_ : Nat))
    conv => whnf
    refine ⟨Nat, fun k => [.v (.int .i64 k)], fun _ => ⟨g, [.blk 1 _ _ [.v (.slice oe y.listens.length ce), .v (.slice og y.rules.length cg), .v (.slice oh y.clusters.length ch)], .blk 0 _ _ [.v (.slice oa x.listens.length ca), .v (.slice ob x.rules.length cb), .v (.slice od x.clusters.length cd)]], _, _⟩, fun k => k ≤ x.rules.length ∧ x.rules.take k = y.rules.take k, fun k => x.rules.length - k, loop_here 0 rfl ⟨Nat.zero_le _, rfl⟩ rfl, ?_⟩
    rintro k ⟨hkk, hp⟩
    repeat ((conv => whnf); first | apply qza | apply qzb | apply qzc | apply qzd | apply qze | intro (_ : Nat) | intro (_ : Option Addr) (_ : Nat))
    conv => whnf
    refine ⟨fun hlt => ?_, fun hlt => ?_⟩
    · have h' : k < x.rules.length := by have := of_decide_eq_true hlt; omega
      obtain ⟨u, hu⟩ := getL_of h'
      obtain ⟨v, hv⟩ := getL_of (show k < y.rules.length by omega)
      obtain ⟨a, rfl, ec, hec, ⟨rfl, _, _⟩, hc⟩ := hr1 k u hu
      obtain ⟨a', rfl, ec', hec', ⟨rfl, _, _⟩, hc'⟩ := hr1' k v hv
      repeat ((conv => whnf); first | apply qza | apply qzb | apply qzc | apply qzd | apply qze | intro (_ : Nat) | intro (_ : Option Addr) (_ : Nat))
      conv => whnf
      refine ⟨a, rfl, ⟨by omega, by omega⟩, ?_⟩
      conv => whnf
      refine ⟨_, ⟨rfl, hc⟩, ?_⟩
      repeat ((conv => whnf); first | apply qza | apply qzb | apply qzc | apply qzd | apply qze | intro (_ : Nat) | intro (_ : Option Addr) (_ : Nat))
      conv => whnf
      refine ⟨a', rfl, ⟨by omega, by omega⟩, ?_⟩
      conv => whnf
      refine ⟨_, ⟨rfl, hc'⟩, ?_⟩
      repeat ((conv => whnf); first | apply qza | apply qzb | apply qzc | apply qzd | apply qze | intro (_ : Nat) | intro (_ : Option Addr) (_ : Nat))
      conv => whnf
      refine ⟨fun he => ?_, fun he => ?_⟩
      · conv => whnf
        intro g2 hg
        rw [eqB_f (fun e => ?_)]
        rw [← e, hu] at hv
        cases hv
        simp at he
      · have huv : u = v := by simp only [Bool.and_eq_true, beq_iff_eq, Bool.not_eq_false'] at he; exact rule_ext (by simpa using he.1) (bs_ext (by simpa using he.2.1)) (bs_ext (by simpa using he.2.2.1)) (by simpa using he.2.2.2)
        conv => whnf
        refine fun fr w hw => ⟨k + 1, congrArg (fun z => [Value.int .i64 z]) (wr1 h' b1 b2).symm, ⟨h', take_eq hp hu hv huv⟩, dec h', ?_⟩
        exact hw.fit (by simp [fitL, Res.eqv, concL, conc])
    · conv => whnf
      intro g2 hg
      have := of_decide_eq_false hlt
      rw [eqB_t (show x = y from ?_)]
      rw [List.take_of_length_le (by omega), List.take_of_length_le (by omega)] at hp
      exact snap_ext k1 hp k2)
end Go.Proofs.YtjaeeadfmnokeaaGreat


/- Snapshots: the document's building; whether one is right; what is found. -/
namespace Go.Proofs.YtjaeeadfmnokeaaGreat
open Go.Proofs.YtjaeeadfmnokeaaGreat.Sx Go.RowKit
theorem ok_sIs (g : GW) {cs : List Value} {s : Snap} (hs : rSnap g cs s) (hsz : s.rules.length ≤ 1000000) : OkV Tryz.prog n_snap_Is [.agg ⟨cs⟩] g (.bool (eqB (checkE (confS s)) none)) := by
  have hs0 := hs
  obtain ⟨a, b, d, rfl, hl, hr, hk⟩ := hs
  obtain ⟨oa, ca, rfl, a1, a2, a0, hl1⟩ := id hl
  obtain ⟨ob, cb, rfl, b1, b2, b0, hr1⟩ := id hr
  obtain ⟨od, cd, rfl, d1, d2, d0, hk1⟩ := id hk
  exact Ok.of_fn hm noT 0 t_snap_Is (args := [.v (.agg ⟨[.slice oa s.listens.length ca, .slice ob s.rules.length cb, .slice od s.clusters.length cd]⟩)]) (by
    repeat ((conv => whnf); first | apply qza | apply qzb | apply qzc | apply qzd | apply qze | intro (_ : Nat) | intro (_ : Option Addr) (_ : Nat))
    conv => whnf
    refine .inr ((ok_Config g hs0 hsz).mono fun v g1 hg1 hC => ?_)
    obtain ⟨oR, n, cR, rfl, hrt⟩ := hC
    have hcc : rConfig g1 [.slice oa s.listens.length ca, .slice oR n cR, .slice od s.clusters.length cd] (confS s) := ⟨_, _, _, rfl, hl.mono rStr_mono hg1, hrt, hk.mono rCluster_mono hg1⟩
    rcases ei_val (checkE (confS s)) with ⟨hz, hv⟩ | ⟨e, i, hz, hv⟩
    · conv => whnf
      refine .inl ⟨_, (ok_Check _ hcc).to hv, ?_⟩
      conv => whnf
      intro g2 hg
      rw [eqB_t hz]; rfl
    · have hne := checkE_ne hz
      conv => whnf
      refine .inl ⟨_, (ok_Check _ hcc).to hv, ?_⟩
      conv => whnf
      intro g2 hg
      rw [eqB_f (by rw [hz]; simp)]
      exact congrArg Value.bool (by simp; omega))
end Go.Proofs.YtjaeeadfmnokeaaGreat


/- Snapshots: the document's answer to: is it one? -/
namespace Go.Proofs.YtjaeeadfmnokeaaGreat
open Go.Proofs.YtjaeeadfmnokeaaGreat.Sx Go.RowKit
theorem ok_rConfig7 (g : GW) {a b d : Value} {s : Snap} (hs : rSnap g [a, b, d] s) (hsz : s.rules.length ≤ 1000000) : Ok Tryz.prog n_hydrantref07_Config [.agg ⟨[a, b, d]⟩] g fun v g' => ∃ oa n cap, v = .agg ⟨[a, .slice oa n cap, d]⟩ ∧ rSl 4 rRoute g' (.slice oa n cap) (confS s).routes := by
  obtain ⟨_, _, _, he, hl, hr, hk⟩ := hs
  cases he
  obtain ⟨oa, ca, rfl, a1, a2, a0, hl1⟩ := id hl
  obtain ⟨ob, cb, rfl, b1, b2, b0, hr1⟩ := id hr
  obtain ⟨od, cd, rfl, d1, d2, d0, hk1⟩ := id hk
  exact Ok.of_fn hm noT 0 t_hydrantref07_Config (args := [.v (.agg ⟨[.slice oa s.listens.length ca, .slice ob s.rules.length cb, .slice od s.clusters.length cd]⟩)]) (by
    repeat ((conv => whnf); first | apply qza | apply qzb | apply qzc | apply qzd | apply qze | intro (_ : Nat) | intro (_ : Option Addr) (_ : Nat))
    rename_i p0 p1 p2
    conv => whnf
    refine ⟨Nat × Option Addr × Nat, fun (k, _, _) => [.v (.int .i64 k)], fun (k, oR, cR) => ⟨g, [.row 10 oR k cR ty_api_Route 4 ((s.rules.take k).map (cRou s)).flatten, .blk 2 p2 ty_api_Config [.v (.slice oa s.listens.length ca), .row 10 oR k cR, .v (.slice od s.clusters.length cd)], .blk 1 p1 ty_api_Config [.v (.slice none 0 0), .v (.slice none 0 0), .v (.slice none 0 0)], .blk 0 p0 ty_api_Snap [.v (.slice oa s.listens.length ca), .v (.slice ob s.rules.length cb), .v (.slice od s.clusters.length cd)]], 40, g.w.heap.size⟩, fun (k, _, _) => k ≤ s.rules.length, fun (k, _, _) => s.rules.length - k, ?_, ?_⟩
    · intro fr w hw
      exact ⟨(0, none, 0), rfl, Nat.zero_le _, (hw.nil_row (nx' := 40) 10 ty_api_Route 4).fit (by simp [fitL, Res.eqv, concL, conc])⟩
    rintro ⟨k, oR, cR⟩ hkk
    have hkk : k ≤ s.rules.length := hkk
    repeat ((conv => whnf); first | apply qza | apply qzb | apply qzc | apply qzd | apply qze | intro (_ : Nat) | intro (_ : Option Addr) (_ : Nat))
    conv => whnf
    refine ⟨fun hlt => ?_, fun hlt => ?_⟩
    · have h' : k < s.rules.length := by have := of_decide_eq_true hlt; omega
      obtain ⟨⟨rl, rh, rp, rc⟩, hx⟩ := getL_of h'
      obtain ⟨a, rfl, ec, hec, ⟨rfl, _, _⟩, hc⟩ := hr1 k _ hx
      have hT := take_map (f := cRou s) hx
      repeat ((conv => whnf); first | apply qza | apply qzb | apply qzc | apply qzd | apply qze | intro (_ : Nat) | intro (_ : Option Addr) (_ : Nat))
      conv => whnf
      refine ⟨a, rfl, ⟨by omega, by omega⟩, ?_⟩
      conv => whnf
      refine ⟨_, ⟨rfl, hc⟩, ?_⟩
      repeat ((conv => whnf); first | apply qza | apply qzb | apply qzc | apply qzd | apply qze | intro (_ : Nat) | intro (_ : Option Addr) (_ : Nat))
      by_cases hA : 0 ≤ rl ∧ rl < s.listens.length
      · obtain ⟨n, rfl⟩ := Int.eq_ofNat_of_zero_le hA.1
        obtain ⟨y, hy⟩ := getL_of (show n < s.listens.length by omega)
        obtain ⟨aL, rfl, ecL, hecL, rfl, hcL⟩ := hl1 n y hy
        have hAn : nameAt s.listens (n : Int) = y := by unfold nameAt; rw [if_pos hA]; simp [hy]
        conv => whnf
        refine ⟨fun _ => ?_, fun hx => absurd (((decide_eq_true hA.1)).symm.trans hx) (by decide)⟩
        repeat ((conv => whnf); first | apply qza | apply qzb | apply qzc | apply qzd | apply qze | intro (_ : Nat) | intro (_ : Option Addr) (_ : Nat))
        conv => whnf
        refine ⟨fun _ => ?_, fun hx => absurd (((decide_eq_true hA.2)).symm.trans hx) (by decide)⟩
        repeat ((conv => whnf); first | apply qza | apply qzb | apply qzc | apply qzd | apply qze | intro (_ : Nat) | intro (_ : Option Addr) (_ : Nat))
        conv => whnf
        refine ⟨aL, rfl, ⟨hA.1, hA.2⟩, ?_⟩
        conv => whnf
        refine ⟨_, hcL 0 _ rfl, ?_⟩
        repeat ((conv => whnf); first | apply qza | apply qzb | apply qzc | apply qzd | apply qze | intro (_ : Nat) | intro (_ : Option Addr) (_ : Nat))
        by_cases hC : 0 ≤ rc ∧ rc < s.clusters.length
        · obtain ⟨m, rfl⟩ := Int.eq_ofNat_of_zero_le hC.1
          obtain ⟨z, hz⟩ := getL_of (show m < s.clusters.length by omega)
          obtain ⟨aC, rfl, ecC, hecC, ⟨hv, rfl, _, _, _, _, rfl, _⟩, hcC⟩ := hk1 m z hz
          have hCn : clusAt s.clusters (m : Int) = z.name := by unfold clusAt; rw [if_pos hC]; simp [hz]
          conv => whnf
          refine ⟨fun _ => ?_, fun hx => absurd (((decide_eq_true hC.1)).symm.trans hx) (by decide)⟩
          repeat ((conv => whnf); first | apply qza | apply qzb | apply qzc | apply qzd | apply qze | intro (_ : Nat) | intro (_ : Option Addr) (_ : Nat))
          conv => whnf
          refine ⟨fun _ => ?_, fun hx => absurd (((decide_eq_true hC.2)).symm.trans hx) (by decide)⟩
          repeat ((conv => whnf); first | apply qza | apply qzb | apply qzc | apply qzd | apply qze | intro (_ : Nat) | intro (_ : Option Addr) (_ : Nat))
          conv => whnf
          refine ⟨aC, rfl, ⟨hC.1, hC.2⟩, ?_⟩
          conv => whnf
          refine ⟨_, hcC 0 _ rfl, ?_⟩
          repeat ((conv => whnf); first | apply qza | apply qzb | apply qzc | apply qzd | apply qze | intro (_ : Nat) | intro (_ : Option Addr) (_ : Nat))
          conv => whnf
          refine ⟨⟨by unfold maxLen; omega, by omega⟩, fun oa2 cap2 => ?_⟩
          repeat ((conv => whnf); first | apply qza | apply qzb | apply qzc | apply qzd | apply qze | intro (_ : Nat) | intro (_ : Option Addr) (_ : Nat))
          conv => whnf
          refine fun fr w hw => ⟨(k + 1, oa2, cap2), congrArg (fun z => [Value.int .i64 z]) (wr1 h' b1 b2).symm, h', dec h', hw.fit ?_⟩
          simp only [hT]
          simp [fitL, Res.eqv, concL, conc, routeOf, hAn, hCn]
        have hCn : clusAt s.clusters rc = ⟨#[]⟩ := by unfold clusAt; rw [if_neg hC]
        by_cases hC0 : 0 ≤ rc
        · conv => whnf
          refine ⟨fun _ => ?_, fun hx => absurd (((decide_eq_true hC0)).symm.trans hx) (by decide)⟩
          repeat ((conv => whnf); first | apply qza | apply qzb | apply qzc | apply qzd | apply qze | intro (_ : Nat) | intro (_ : Option Addr) (_ : Nat))
          conv => whnf
          refine ⟨fun hx => absurd (hx.symm.trans ((decide_eq_false (show ¬ rc < s.clusters.length from fun h => hC ⟨hC0, h⟩)))) (by decide), fun _ => ?_⟩
          repeat ((conv => whnf); first | apply qza | apply qzb | apply qzc | apply qzd | apply qze | intro (_ : Nat) | intro (_ : Option Addr) (_ : Nat))
          conv => whnf
          refine ⟨⟨by unfold maxLen; omega, by omega⟩, fun oa2 cap2 => ?_⟩
          repeat ((conv => whnf); first | apply qza | apply qzb | apply qzc | apply qzd | apply qze | intro (_ : Nat) | intro (_ : Option Addr) (_ : Nat))
          conv => whnf
          refine fun fr w hw => ⟨(k + 1, oa2, cap2), congrArg (fun z => [Value.int .i64 z]) (wr1 h' b1 b2).symm, h', dec h', hw.fit ?_⟩
          simp only [hT]
          simp [fitL, Res.eqv, concL, conc, routeOf, hAn, hCn]
        · conv => whnf
          refine ⟨fun hx => absurd (hx.symm.trans ((decide_eq_false hC0))) (by decide), fun _ => ?_⟩
          repeat ((conv => whnf); first | apply qza | apply qzb | apply qzc | apply qzd | apply qze | intro (_ : Nat) | intro (_ : Option Addr) (_ : Nat))
          conv => whnf
          refine ⟨⟨by unfold maxLen; omega, by omega⟩, fun oa2 cap2 => ?_⟩
          repeat ((conv => whnf); first | apply qza | apply qzb | apply qzc | apply qzd | apply qze | intro (_ : Nat) | intro (_ : Option Addr) (_ : Nat))
          conv => whnf
          refine fun fr w hw => ⟨(k + 1, oa2, cap2), congrArg (fun z => [Value.int .i64 z]) (wr1 h' b1 b2).symm, h', dec h', hw.fit ?_⟩
          simp only [hT]
          simp [fitL, Res.eqv, concL, conc, routeOf, hAn, hCn]
      have hAn : nameAt s.listens rl = ⟨#[]⟩ := by unfold nameAt; rw [if_neg hA]
      by_cases hA0 : 0 ≤ rl
      · conv => whnf
        refine ⟨fun _ => ?_, fun hx => absurd (((decide_eq_true hA0)).symm.trans hx) (by decide)⟩
        repeat ((conv => whnf); first | apply qza | apply qzb | apply qzc | apply qzd | apply qze | intro (_ : Nat) | intro (_ : Option Addr) (_ : Nat))
        conv => whnf
        refine ⟨fun hx => absurd (hx.symm.trans ((decide_eq_false (show ¬ rl < s.listens.length from fun h => hA ⟨hA0, h⟩)))) (by decide), fun _ => ?_⟩
        repeat ((conv => whnf); first | apply qza | apply qzb | apply qzc | apply qzd | apply qze | intro (_ : Nat) | intro (_ : Option Addr) (_ : Nat))
        by_cases hC : 0 ≤ rc ∧ rc < s.clusters.length
        · obtain ⟨m, rfl⟩ := Int.eq_ofNat_of_zero_le hC.1
          obtain ⟨z, hz⟩ := getL_of (show m < s.clusters.length by omega)
          obtain ⟨aC, rfl, ecC, hecC, ⟨hv, rfl, _, _, _, _, rfl, _⟩, hcC⟩ := hk1 m z hz
          have hCn : clusAt s.clusters (m : Int) = z.name := by unfold clusAt; rw [if_pos hC]; simp [hz]
          conv => whnf
          refine ⟨fun _ => ?_, fun hx => absurd (((decide_eq_true hC.1)).symm.trans hx) (by decide)⟩
          repeat ((conv => whnf); first | apply qza | apply qzb | apply qzc | apply qzd | apply qze | intro (_ : Nat) | intro (_ : Option Addr) (_ : Nat))
          conv => whnf
          refine ⟨fun _ => ?_, fun hx => absurd (((decide_eq_true hC.2)).symm.trans hx) (by decide)⟩
          repeat ((conv => whnf); first | apply qza | apply qzb | apply qzc | apply qzd | apply qze | intro (_ : Nat) | intro (_ : Option Addr) (_ : Nat))
          conv => whnf
          refine ⟨aC, rfl, ⟨hC.1, hC.2⟩, ?_⟩
          conv => whnf
          refine ⟨_, hcC 0 _ rfl, ?_⟩
          repeat ((conv => whnf); first | apply qza | apply qzb | apply qzc | apply qzd | apply qze | intro (_ : Nat) | intro (_ : Option Addr) (_ : Nat))
          conv => whnf
          refine ⟨⟨by unfold maxLen; omega, by omega⟩, fun oa2 cap2 => ?_⟩
          repeat ((conv => whnf); first | apply qza | apply qzb | apply qzc | apply qzd | apply qze | intro (_ : Nat) | intro (_ : Option Addr) (_ : Nat))
          conv => whnf
          refine fun fr w hw => ⟨(k + 1, oa2, cap2), congrArg (fun z => [Value.int .i64 z]) (wr1 h' b1 b2).symm, h', dec h', hw.fit ?_⟩
          simp only [hT]
          simp [fitL, Res.eqv, concL, conc, routeOf, hAn, hCn]
        have hCn : clusAt s.clusters rc = ⟨#[]⟩ := by unfold clusAt; rw [if_neg hC]
        by_cases hC0 : 0 ≤ rc
        · conv => whnf
          refine ⟨fun _ => ?_, fun hx => absurd (((decide_eq_true hC0)).symm.trans hx) (by decide)⟩
          repeat ((conv => whnf); first | apply qza | apply qzb | apply qzc | apply qzd | apply qze | intro (_ : Nat) | intro (_ : Option Addr) (_ : Nat))
          conv => whnf
          refine ⟨fun hx => absurd (hx.symm.trans ((decide_eq_false (show ¬ rc < s.clusters.length from fun h => hC ⟨hC0, h⟩)))) (by decide), fun _ => ?_⟩
          repeat ((conv => whnf); first | apply qza | apply qzb | apply qzc | apply qzd | apply qze | intro (_ : Nat) | intro (_ : Option Addr) (_ : Nat))
          conv => whnf
          refine ⟨⟨by unfold maxLen; omega, by omega⟩, fun oa2 cap2 => ?_⟩
          repeat ((conv => whnf); first | apply qza | apply qzb | apply qzc | apply qzd | apply qze | intro (_ : Nat) | intro (_ : Option Addr) (_ : Nat))
          conv => whnf
          refine fun fr w hw => ⟨(k + 1, oa2, cap2), congrArg (fun z => [Value.int .i64 z]) (wr1 h' b1 b2).symm, h', dec h', hw.fit ?_⟩
          simp only [hT]
          simp [fitL, Res.eqv, concL, conc, routeOf, hAn, hCn]
        · conv => whnf
          refine ⟨fun hx => absurd (hx.symm.trans ((decide_eq_false hC0))) (by decide), fun _ => ?_⟩
          repeat ((conv => whnf); first | apply qza | apply qzb | apply qzc | apply qzd | apply qze | intro (_ : Nat) | intro (_ : Option Addr) (_ : Nat))
          conv => whnf
          refine ⟨⟨by unfold maxLen; omega, by omega⟩, fun oa2 cap2 => ?_⟩
          repeat ((conv => whnf); first | apply qza | apply qzb | apply qzc | apply qzd | apply qze | intro (_ : Nat) | intro (_ : Option Addr) (_ : Nat))
          conv => whnf
          refine fun fr w hw => ⟨(k + 1, oa2, cap2), congrArg (fun z => [Value.int .i64 z]) (wr1 h' b1 b2).symm, h', dec h', hw.fit ?_⟩
          simp only [hT]
          simp [fitL, Res.eqv, concL, conc, routeOf, hAn, hCn]
      · conv => whnf
        refine ⟨fun hx => absurd (hx.symm.trans ((decide_eq_false hA0))) (by decide), fun _ => ?_⟩
        repeat ((conv => whnf); first | apply qza | apply qzb | apply qzc | apply qzd | apply qze | intro (_ : Nat) | intro (_ : Option Addr) (_ : Nat))
        by_cases hC : 0 ≤ rc ∧ rc < s.clusters.length
        · obtain ⟨m, rfl⟩ := Int.eq_ofNat_of_zero_le hC.1
          obtain ⟨z, hz⟩ := getL_of (show m < s.clusters.length by omega)
          obtain ⟨aC, rfl, ecC, hecC, ⟨hv, rfl, _, _, _, _, rfl, _⟩, hcC⟩ := hk1 m z hz
          have hCn : clusAt s.clusters (m : Int) = z.name := by unfold clusAt; rw [if_pos hC]; simp [hz]
          conv => whnf
          refine ⟨fun _ => ?_, fun hx => absurd (((decide_eq_true hC.1)).symm.trans hx) (by decide)⟩
          repeat ((conv => whnf); first | apply qza | apply qzb | apply qzc | apply qzd | apply qze | intro (_ : Nat) | intro (_ : Option Addr) (_ : Nat))
          conv => whnf
          refine ⟨fun _ => ?_, fun hx => absurd (((decide_eq_true hC.2)).symm.trans hx) (by decide)⟩
          repeat ((conv => whnf); first | apply qza | apply qzb | apply qzc | apply qzd | apply qze | intro (_ : Nat) | intro (_ : Option Addr) (_ : Nat))
          conv => whnf
          refine ⟨aC, rfl, ⟨hC.1, hC.2⟩, ?_⟩
          conv => whnf
          refine ⟨_, hcC 0 _ rfl, ?_⟩
          repeat ((conv => whnf); first | apply qza | apply qzb | apply qzc | apply qzd | apply qze | intro (_ : Nat) | intro (_ : Option Addr) (_ : Nat))
          conv => whnf
          refine ⟨⟨by unfold maxLen; omega, by omega⟩, fun oa2 cap2 => ?_⟩
          repeat ((conv => whnf); first | apply qza | apply qzb | apply qzc | apply qzd | apply qze | intro (_ : Nat) | intro (_ : Option Addr) (_ : Nat))
          conv => whnf
          refine fun fr w hw => ⟨(k + 1, oa2, cap2), congrArg (fun z => [Value.int .i64 z]) (wr1 h' b1 b2).symm, h', dec h', hw.fit ?_⟩
          simp only [hT]
          simp [fitL, Res.eqv, concL, conc, routeOf, hAn, hCn]
        have hCn : clusAt s.clusters rc = ⟨#[]⟩ := by unfold clusAt; rw [if_neg hC]
        by_cases hC0 : 0 ≤ rc
        · conv => whnf
          refine ⟨fun _ => ?_, fun hx => absurd (((decide_eq_true hC0)).symm.trans hx) (by decide)⟩
          repeat ((conv => whnf); first | apply qza | apply qzb | apply qzc | apply qzd | apply qze | intro (_ : Nat) | intro (_ : Option Addr) (_ : Nat))
          conv => whnf
          refine ⟨fun hx => absurd (hx.symm.trans ((decide_eq_false (show ¬ rc < s.clusters.length from fun h => hC ⟨hC0, h⟩)))) (by decide), fun _ => ?_⟩
          repeat ((conv => whnf); first | apply qza | apply qzb | apply qzc | apply qzd | apply qze | intro (_ : Nat) | intro (_ : Option Addr) (_ : Nat))
          conv => whnf
          refine ⟨⟨by unfold maxLen; omega, by omega⟩, fun oa2 cap2 => ?_⟩
          repeat ((conv => whnf); first | apply qza | apply qzb | apply qzc | apply qzd | apply qze | intro (_ : Nat) | intro (_ : Option Addr) (_ : Nat))
          conv => whnf
          refine fun fr w hw => ⟨(k + 1, oa2, cap2), congrArg (fun z => [Value.int .i64 z]) (wr1 h' b1 b2).symm, h', dec h', hw.fit ?_⟩
          simp only [hT]
          simp [fitL, Res.eqv, concL, conc, routeOf, hAn, hCn]
        · conv => whnf
          refine ⟨fun hx => absurd (hx.symm.trans ((decide_eq_false hC0))) (by decide), fun _ => ?_⟩
          repeat ((conv => whnf); first | apply qza | apply qzb | apply qzc | apply qzd | apply qze | intro (_ : Nat) | intro (_ : Option Addr) (_ : Nat))
          conv => whnf
          refine ⟨⟨by unfold maxLen; omega, by omega⟩, fun oa2 cap2 => ?_⟩
          repeat ((conv => whnf); first | apply qza | apply qzb | apply qzc | apply qzd | apply qze | intro (_ : Nat) | intro (_ : Option Addr) (_ : Nat))
          conv => whnf
          refine fun fr w hw => ⟨(k + 1, oa2, cap2), congrArg (fun z => [Value.int .i64 z]) (wr1 h' b1 b2).symm, h', dec h', hw.fit ?_⟩
          simp only [hT]
          simp [fitL, Res.eqv, concL, conc, routeOf, hAn, hCn]
    have hz1 : k = s.rules.length := by have := of_decide_eq_false hlt; omega
    subst hz1
    repeat ((conv => whnf); first | apply qza | apply qzb | apply qzc | apply qzd | apply qze | intro (_ : Nat) | intro (_ : Option Addr) (_ : Nat))
    conv => whnf
    refine fun g1 hg1 hn1 hp1 => ?_
    conv => whnf
    intro g2 hg
    refine ⟨_, _, _, rfl, (rSl_ofE hp1.rd (confS s).routes cRoute ?_ (by simp [confS]) (fun _ _ => rfl) fun _ _ => rfl).mono rRoute_mono hg⟩
    rw [List.take_of_length_le (Nat.le_refl _)]; simp [confS, List.map_map, Function.comp_def])
/-- A snapshot that is not too big. -/
def SnS (s : Snap) : Prop := s.rules.length ≤ 1000000 ∧ ∀ r ∈ s.rules, r.host.size ≤ 100 ∧ r.path.size ≤ 100
theorem SnS.conf {s : Snap} (h : SnS s) : SmC (confS s) := by
  intro r hr
  simp only [confS, List.mem_map] at hr
  obtain ⟨x, hx, rfl⟩ := hr
  exact h.2 x hx
theorem ok_rsIs (g : GW) {cs : List Value} {s : Snap} (hs : rSnap g cs s) (hsn : SnS s) : OkV Tryz.prog n_hydrantref07_Is [.agg ⟨cs⟩] g (.bool (eqB (checkE (confS s)) none)) := by
  have hsz := hsn.1
  have hs0 := hs
  obtain ⟨a, b, d, rfl, hl, hr, hk⟩ := hs
  obtain ⟨oa, ca, rfl, a1, a2, a0, hl1⟩ := id hl
  obtain ⟨ob, cb, rfl, b1, b2, b0, hr1⟩ := id hr
  obtain ⟨od, cd, rfl, d1, d2, d0, hk1⟩ := id hk
  exact Ok.of_fn hm noT 0 t_hydrantref07_Is (args := [.v (.agg ⟨[.slice oa s.listens.length ca, .slice ob s.rules.length cb, .slice od s.clusters.length cd]⟩)]) (by
    repeat ((conv => whnf); first | apply qza | apply qzb | apply qzc | apply qzd | apply qze | intro (_ : Nat) | intro (_ : Option Addr) (_ : Nat))
    conv => whnf
    refine .inr ((ok_rConfig7 g hs0 hsz).mono fun v g1 hg1 hC => ?_)
    obtain ⟨oR, n, cR, rfl, hrt⟩ := hC
    have hcc : rConfig g1 [.slice oa s.listens.length ca, .slice oR n cR, .slice od s.clusters.length cd] (confS s) := ⟨_, _, _, rfl, hl.mono rStr_mono hg1, hrt, hk.mono rCluster_mono hg1⟩
    rcases ei_val (checkE (confS s)) with ⟨hz, hv⟩ | ⟨e, i, hz, hv⟩
    · conv => whnf
      refine .inl ⟨_, (ok_rCheck _ hcc hsn.conf).to hv, ?_⟩
      conv => whnf
      intro g2 hg
      rw [eqB_t hz]; rfl
    · have hne := checkE_ne hz
      conv => whnf
      refine .inl ⟨_, (ok_rCheck _ hcc hsn.conf).to hv, ?_⟩
      conv => whnf
      intro g2 hg
      rw [eqB_f (by rw [hz]; simp)]
      exact congrArg Value.bool (by simp; omega))
end Go.Proofs.YtjaeeadfmnokeaaGreat

