/- Snapshots: the configuration of one. -/
import Derived.Test.YtjaeeadfmnokeaaLB1
import Derived.Test.YtjaeeadfmnokeaaPl
namespace Go.Proofs.Ytjaeeadfmnokeaa
open Go.Proofs.Ytjaeeadfmnokeaa.Sx Go.RowKit
abbrev cRou (s : Snap) (r : Rule) : List Value := cRoute (routeOf s r)
theorem ok_Config (g : GW) {a b d : Value} {s : Snap} (hs : rSnap g [a, b, d] s) (hsz : s.rules.length ≤ 1000000) : Ok Try.prog n_snap_Config [.agg ⟨[a, b, d]⟩] g fun v g' => ∃ oa n cap, v = .agg ⟨[a, .slice oa n cap, d]⟩ ∧ rSl 4 rRoute g' (.slice oa n cap) (confS s).routes := by
  obtain ⟨_, _, _, he, hl, hr, hk⟩ := hs
  cases he
  obtain ⟨oa, ca, rfl, a1, a2, a0, hl1⟩ := id hl
  obtain ⟨ob, cb, rfl, b1, b2, b0, hr1⟩ := id hr
  obtain ⟨od, cd, rfl, d1, d2, d0, hk1⟩ := id hk
  exact Ok.of_fn hm noT 0 t_snap_Config (args := [.v (.agg ⟨[.slice oa s.listens.length ca, .slice ob s.rules.length cb, .slice od s.clusters.length cd]⟩)]) (by
    repeat ((conv => whnf); first | apply qza | apply qzb | apply qzc | apply qzd | apply qze | intro (_ : Nat) | intro (_ : Option Addr) (_ : Nat))
    rename_i p0 p1 p2
    conv => whnf
    refine ⟨Nat × Option Addr × Nat, fun (k, _, _) => [.v (.int .i64 k)], fun (k, oR, cR) => ⟨g, [.row 10 oR k cR ty_api_Route 4 ((s.rules.take k).map (cRou s)).flatten, .blk 2 p2 ty_api_Config [.v (.slice oa s.listens.length ca), .row 10 oR k cR, .v (.slice od s.clusters.length cd)], .blk 1 p1 ty_api_Config [.v (.slice none 0 0), .v (.slice none 0 0), .v (.slice none 0 0)], .blk 0 p0 ty_api_Snap [.v (.slice oa s.listens.length ca), .v (.slice ob s.rules.length cb), .v (.slice od s.clusters.length cd)]], 40, g.w.heap.size⟩, fun (k, _, _) => k ≤ s.rules.length, fun (k, _, _) => s.rules.length - k, ?_, ?_⟩
    · intro fr w hw
      exact ⟨(0, none, 0), rfl, Nat.zero_le _, (hw.nil_row (nx' := 40) 10 ty_api_Route 4).fit (by simp [fitL, Res.eqv, concL, conc])⟩
    rintro ⟨k, oR, cR⟩ hkk
    have hkk : k ≤ s.rules.length := hkk
    repeat ((conv => whnf); first | apply qza | apply qzb | apply qzc | apply qzd | apply qze | intro (_ : Nat) | intro (_ : Option Addr) (_ : Nat))
    conv => whnf
    refine ⟨fun hlt => ?_, fun hlt => ?_⟩
    · have h' : k < s.rules.length := by have := of_decide_eq_true hlt; omega
      obtain ⟨⟨rl, rh, rp, rc⟩, hx⟩ := getL_of h'
      obtain ⟨a, rfl, ec, hec, ⟨rfl, _, _⟩, hc⟩ := hr1 k _ hx
      have hT := take_map (f := cRou s) hx
      repeat ((conv => whnf); first | apply qza | apply qzb | apply qzc | apply qzd | apply qze | intro (_ : Nat) | intro (_ : Option Addr) (_ : Nat))
      conv => whnf
      refine ⟨a, rfl, ⟨by omega, by omega⟩, ?_⟩
      conv => whnf
      refine ⟨_, ⟨rfl, hc⟩, ?_⟩
      repeat ((conv => whnf); first | apply qza | apply qzb | apply qzc | apply qzd | apply qze | intro (_ : Nat) | intro (_ : Option Addr) (_ : Nat))
      by_cases hA : 0 ≤ rl ∧ rl < s.listens.length
      · obtain ⟨n, rfl⟩ := Int.eq_ofNat_of_zero_le hA.1
        obtain ⟨y, hy⟩ := getL_of (show n < s.listens.length by omega)
        obtain ⟨aL, rfl, ecL, hecL, rfl, hcL⟩ := hl1 n y hy
        have hAn : nameAt s.listens (n : Int) = y := by unfold nameAt; rw [if_pos hA]; simp [hy]
        conv => whnf
        refine ⟨fun _ => ?_, fun hx => absurd (((decide_eq_true hA.1)).symm.trans hx) (by decide)⟩
        repeat ((conv => whnf); first | apply qza | apply qzb | apply qzc | apply qzd | apply qze | intro (_ : Nat) | intro (_ : Option Addr) (_ : Nat))
        conv => whnf
        refine ⟨fun _ => ?_, fun hx => absurd (((decide_eq_true hA.2)).symm.trans hx) (by decide)⟩
        repeat ((conv => whnf); first | apply qza | apply qzb | apply qzc | apply qzd | apply qze | intro (_ : Nat) | intro (_ : Option Addr) (_ : Nat))
        conv => whnf
        refine ⟨aL, rfl, ⟨hA.1, hA.2⟩, ?_⟩
        conv => whnf
        refine ⟨_, hcL 0 _ rfl, ?_⟩
        repeat ((conv => whnf); first | apply qza | apply qzb | apply qzc | apply qzd | apply qze | intro (_ : Nat) | intro (_ : Option Addr) (_ : Nat))
        by_cases hC : 0 ≤ rc ∧ rc < s.clusters.length
        · obtain ⟨m, rfl⟩ := Int.eq_ofNat_of_zero_le hC.1
          obtain ⟨z, hz⟩ := getL_of (show m < s.clusters.length by omega)
          obtain ⟨aC, rfl, ecC, hecC, ⟨hv, rfl, _, _, _, _, rfl, _⟩, hcC⟩ := hk1 m z hz
          have hCn : clusAt s.clusters (m : Int) = z.name := by unfold clusAt; rw [if_pos hC]; simp [hz]
          conv => whnf
          refine ⟨fun _ => ?_, fun hx => absurd (((decide_eq_true hC.1)).symm.trans hx) (by decide)⟩
          repeat ((conv => whnf); first | apply qza | apply qzb | apply qzc | apply qzd | apply qze | intro (_ : Nat) | intro (_ : Option Addr) (_ : Nat))
          conv => whnf
          refine ⟨fun _ => ?_, fun hx => absurd (((decide_eq_true hC.2)).symm.trans hx) (by decide)⟩
          repeat ((conv => whnf); first | apply qza | apply qzb | apply qzc | apply qzd | apply qze | intro (_ : Nat) | intro (_ : Option Addr) (_ : Nat))
          conv => whnf
          refine ⟨aC, rfl, ⟨hC.1, hC.2⟩, ?_⟩
          conv => whnf
          refine ⟨_, hcC 0 _ rfl, ?_⟩
          repeat ((conv => whnf); first | apply qza | apply qzb | apply qzc | apply qzd | apply qze | intro (_ : Nat) | intro (_ : Option Addr) (_ : Nat))
          conv => whnf
          refine ⟨⟨by unfold maxLen; omega, by omega⟩, fun oa2 cap2 => ?_⟩
          repeat ((conv => whnf); first | apply qza | apply qzb | apply qzc | apply qzd | apply qze | intro (_ : Nat) | intro (_ : Option Addr) (_ : Nat))
          conv => whnf
          refine fun fr w hw => ⟨(k + 1, oa2, cap2), congrArg (fun z => [Value.int .i64 z]) (wr1 h' b1 b2).symm, h', dec h', hw.fit ?_⟩
          simp only [hT]
          simp [fitL, Res.eqv, concL, conc, routeOf, hAn, hCn]
        have hCn : clusAt s.clusters rc = ⟨#[]⟩ := by unfold clusAt; rw [if_neg hC]
        by_cases hC0 : 0 ≤ rc
        · conv => whnf
          refine ⟨fun _ => ?_, fun hx => absurd (((decide_eq_true hC0)).symm.trans hx) (by decide)⟩
          repeat ((conv => whnf); first | apply qza | apply qzb | apply qzc | apply qzd | apply qze | intro (_ : Nat) | intro (_ : Option Addr) (_ : Nat))
          conv => whnf
          refine ⟨fun hx => absurd (hx.symm.trans ((decide_eq_false (show ¬ rc < s.clusters.length from fun h => hC ⟨hC0, h⟩)))) (by decide), fun _ => ?_⟩
          repeat ((conv => whnf); first | apply qza | apply qzb | apply qzc | apply qzd | apply qze | intro (_ : Nat) | intro (_ : Option Addr) (_ : Nat))
          conv => whnf
          refine ⟨⟨by unfold maxLen; omega, by omega⟩, fun oa2 cap2 => ?_⟩
          repeat ((conv => whnf); first | apply qza | apply qzb | apply qzc | apply qzd | apply qze | intro (_ : Nat) | intro (_ : Option Addr) (_ : Nat))
          conv => whnf
          refine fun fr w hw => ⟨(k + 1, oa2, cap2), congrArg (fun z => [Value.int .i64 z]) (wr1 h' b1 b2).symm, h', dec h', hw.fit ?_⟩
          simp only [hT]
          simp [fitL, Res.eqv, concL, conc, routeOf, hAn, hCn]
        · conv => whnf
          refine ⟨fun hx => absurd (hx.symm.trans ((decide_eq_false hC0))) (by decide), fun _ => ?_⟩
          repeat ((conv => whnf); first | apply qza | apply qzb | apply qzc | apply qzd | apply qze | intro (_ : Nat) | intro (_ : Option Addr) (_ : Nat))
          conv => whnf
          refine ⟨⟨by unfold maxLen; omega, by omega⟩, fun oa2 cap2 => ?_⟩
          repeat ((conv => whnf); first | apply qza | apply qzb | apply qzc | apply qzd | apply qze | intro (_ : Nat) | intro (_ : Option Addr) (_ : Nat))
          conv => whnf
          refine fun fr w hw => ⟨(k + 1, oa2, cap2), congrArg (fun z => [Value.int .i64 z]) (wr1 h' b1 b2).symm, h', dec h', hw.fit ?_⟩
          simp only [hT]
          simp [fitL, Res.eqv, concL, conc, routeOf, hAn, hCn]
      have hAn : nameAt s.listens rl = ⟨#[]⟩ := by unfold nameAt; rw [if_neg hA]
      by_cases hA0 : 0 ≤ rl
      · conv => whnf
        refine ⟨fun _ => ?_, fun hx => absurd (((decide_eq_true hA0)).symm.trans hx) (by decide)⟩
        repeat ((conv => whnf); first | apply qza | apply qzb | apply qzc | apply qzd | apply qze | intro (_ : Nat) | intro (_ : Option Addr) (_ : Nat))
        conv => whnf
        refine ⟨fun hx => absurd (hx.symm.trans ((decide_eq_false (show ¬ rl < s.listens.length from fun h => hA ⟨hA0, h⟩)))) (by decide), fun _ => ?_⟩
        repeat ((conv => whnf); first | apply qza | apply qzb | apply qzc | apply qzd | apply qze | intro (_ : Nat) | intro (_ : Option Addr) (_ : Nat))
        by_cases hC : 0 ≤ rc ∧ rc < s.clusters.length
        · obtain ⟨m, rfl⟩ := Int.eq_ofNat_of_zero_le hC.1
          obtain ⟨z, hz⟩ := getL_of (show m < s.clusters.length by omega)
          obtain ⟨aC, rfl, ecC, hecC, ⟨hv, rfl, _, _, _, _, rfl, _⟩, hcC⟩ := hk1 m z hz
          have hCn : clusAt s.clusters (m : Int) = z.name := by unfold clusAt; rw [if_pos hC]; simp [hz]
          conv => whnf
          refine ⟨fun _ => ?_, fun hx => absurd (((decide_eq_true hC.1)).symm.trans hx) (by decide)⟩
          repeat ((conv => whnf); first | apply qza | apply qzb | apply qzc | apply qzd | apply qze | intro (_ : Nat) | intro (_ : Option Addr) (_ : Nat))
          conv => whnf
          refine ⟨fun _ => ?_, fun hx => absurd (((decide_eq_true hC.2)).symm.trans hx) (by decide)⟩
          repeat ((conv => whnf); first | apply qza | apply qzb | apply qzc | apply qzd | apply qze | intro (_ : Nat) | intro (_ : Option Addr) (_ : Nat))
          conv => whnf
          refine ⟨aC, rfl, ⟨hC.1, hC.2⟩, ?_⟩
          conv => whnf
          refine ⟨_, hcC 0 _ rfl, ?_⟩
          repeat ((conv => whnf); first | apply qza | apply qzb | apply qzc | apply qzd | apply qze | intro (_ : Nat) | intro (_ : Option Addr) (_ : Nat))
          conv => whnf
          refine ⟨⟨by unfold maxLen; omega, by omega⟩, fun oa2 cap2 => ?_⟩
          repeat ((conv => whnf); first | apply qza | apply qzb | apply qzc | apply qzd | apply qze | intro (_ : Nat) | intro (_ : Option Addr) (_ : Nat))
          conv => whnf
          refine fun fr w hw => ⟨(k + 1, oa2, cap2), congrArg (fun z => [Value.int .i64 z]) (wr1 h' b1 b2).symm, h', dec h', hw.fit ?_⟩
          simp only [hT]
          simp [fitL, Res.eqv, concL, conc, routeOf, hAn, hCn]
        have hCn : clusAt s.clusters rc = ⟨#[]⟩ := by unfold clusAt; rw [if_neg hC]
        by_cases hC0 : 0 ≤ rc
        · conv => whnf
          refine ⟨fun _ => ?_, fun hx => absurd (((decide_eq_true hC0)).symm.trans hx) (by decide)⟩
          repeat ((conv => whnf); first | apply qza | apply qzb | apply qzc | apply qzd | apply qze | intro (_ : Nat) | intro (_ : Option Addr) (_ : Nat))
          conv => whnf
          refine ⟨fun hx => absurd (hx.symm.trans ((decide_eq_false (show ¬ rc < s.clusters.length from fun h => hC ⟨hC0, h⟩)))) (by decide), fun _ => ?_⟩
          repeat ((conv => whnf); first | apply qza | apply qzb | apply qzc | apply qzd | apply qze | intro (_ : Nat) | intro (_ : Option Addr) (_ : Nat))
          conv => whnf
          refine ⟨⟨by unfold maxLen; omega, by omega⟩, fun oa2 cap2 => ?_⟩
          repeat ((conv => whnf); first | apply qza | apply qzb | apply qzc | apply qzd | apply qze | intro (_ : Nat) | intro (_ : Option Addr) (_ : Nat))
          conv => whnf
          refine fun fr w hw => ⟨(k + 1, oa2, cap2), congrArg (fun z => [Value.int .i64 z]) (wr1 h' b1 b2).symm, h', dec h', hw.fit ?_⟩
          simp only [hT]
          simp [fitL, Res.eqv, concL, conc, routeOf, hAn, hCn]
        · conv => whnf
          refine ⟨fun hx => absurd (hx.symm.trans ((decide_eq_false hC0))) (by decide), fun _ => ?_⟩
          repeat ((conv => whnf); first | apply qza | apply qzb | apply qzc | apply qzd | apply qze | intro (_ : Nat) | intro (_ : Option Addr) (_ : Nat))
          conv => whnf
          refine ⟨⟨by unfold maxLen; omega, by omega⟩, fun oa2 cap2 => ?_⟩
          repeat ((conv => whnf); first | apply qza | apply qzb | apply qzc | apply qzd | apply qze | intro (_ : Nat) | intro (_ : Option Addr) (_ : Nat))
          conv => whnf
          refine fun fr w hw => ⟨(k + 1, oa2, cap2), congrArg (fun z => [Value.int .i64 z]) (wr1 h' b1 b2).symm, h', dec h', hw.fit ?_⟩
          simp only [hT]
          simp [fitL, Res.eqv, concL, conc, routeOf, hAn, hCn]
      · conv => whnf
        refine ⟨fun hx => absurd (hx.symm.trans ((decide_eq_false hA0))) (by decide), fun _ => ?_⟩
        repeat ((conv => whnf); first | apply qza | apply qzb | apply qzc | apply qzd | apply qze | intro (_ : Nat) | intro (_ : Option Addr) (_ : Nat))
        by_cases hC : 0 ≤ rc ∧ rc < s.clusters.length
        · obtain ⟨m, rfl⟩ := Int.eq_ofNat_of_zero_le hC.1
          obtain ⟨z, hz⟩ := getL_of (show m < s.clusters.length by omega)
          obtain ⟨aC, rfl, ecC, hecC, ⟨hv, rfl, _, _, _, _, rfl, _⟩, hcC⟩ := hk1 m z hz
          have hCn : clusAt s.clusters (m : Int) = z.name := by unfold clusAt; rw [if_pos hC]; simp [hz]
          conv => whnf
          refine ⟨fun _ => ?_, fun hx => absurd (((decide_eq_true hC.1)).symm.trans hx) (by decide)⟩
          repeat ((conv => whnf); first | apply qza | apply qzb | apply qzc | apply qzd | apply qze | intro (_ : Nat) | intro (_ : Option Addr) (_ : Nat))
          conv => whnf
          refine ⟨fun _ => ?_, fun hx => absurd (((decide_eq_true hC.2)).symm.trans hx) (by decide)⟩
          repeat ((conv => whnf); first | apply qza | apply qzb | apply qzc | apply qzd | apply qze | intro (_ : Nat) | intro (_ : Option Addr) (_ : Nat))
          conv => whnf
          refine ⟨aC, rfl, ⟨hC.1, hC.2⟩, ?_⟩
          conv => whnf
          refine ⟨_, hcC 0 _ rfl, ?_⟩
          repeat ((conv => whnf); first | apply qza | apply qzb | apply qzc | apply qzd | apply qze | intro (_ : Nat) | intro (_ : Option Addr) (_ : Nat))
          conv => whnf
          refine ⟨⟨by unfold maxLen; omega, by omega⟩, fun oa2 cap2 => ?_⟩
          repeat ((conv => whnf); first | apply qza | apply qzb | apply qzc | apply qzd | apply qze | intro (_ : Nat) | intro (_ : Option Addr) (_ : Nat))
          conv => whnf
          refine fun fr w hw => ⟨(k + 1, oa2, cap2), congrArg (fun z => [Value.int .i64 z]) (wr1 h' b1 b2).symm, h', dec h', hw.fit ?_⟩
          simp only [hT]
          simp [fitL, Res.eqv, concL, conc, routeOf, hAn, hCn]
        have hCn : clusAt s.clusters rc = ⟨#[]⟩ := by unfold clusAt; rw [if_neg hC]
        by_cases hC0 : 0 ≤ rc
        · conv => whnf
          refine ⟨fun _ => ?_, fun hx => absurd (((decide_eq_true hC0)).symm.trans hx) (by decide)⟩
          repeat ((conv => whnf); first | apply qza | apply qzb | apply qzc | apply qzd | apply qze | intro (_ : Nat) | intro (_ : Option Addr) (_ : Nat))
          conv => whnf
          refine ⟨fun hx => absurd (hx.symm.trans ((decide_eq_false (show ¬ rc < s.clusters.length from fun h => hC ⟨hC0, h⟩)))) (by decide), fun _ => ?_⟩
          repeat ((conv => whnf); first | apply qza | apply qzb | apply qzc | apply qzd | apply qze | intro (_ : Nat) | intro (_ : Option Addr) (_ : Nat))
          conv => whnf
          refine ⟨⟨by unfold maxLen; omega, by omega⟩, fun oa2 cap2 => ?_⟩
          repeat ((conv => whnf); first | apply qza | apply qzb | apply qzc | apply qzd | apply qze | intro (_ : Nat) | intro (_ : Option Addr) (_ : Nat))
          conv => whnf
          refine fun fr w hw => ⟨(k + 1, oa2, cap2), congrArg (fun z => [Value.int .i64 z]) (wr1 h' b1 b2).symm, h', dec h', hw.fit ?_⟩
          simp only [hT]
          simp [fitL, Res.eqv, concL, conc, routeOf, hAn, hCn]
        · conv => whnf
          refine ⟨fun hx => absurd (hx.symm.trans ((decide_eq_false hC0))) (by decide), fun _ => ?_⟩
          repeat ((conv => whnf); first | apply qza | apply qzb | apply qzc | apply qzd | apply qze | intro (_ : Nat) | intro (_ : Option Addr) (_ : Nat))
          conv => whnf
          refine ⟨⟨by unfold maxLen; omega, by omega⟩, fun oa2 cap2 => ?_⟩
          repeat ((conv => whnf); first | apply qza | apply qzb | apply qzc | apply qzd | apply qze | intro (_ : Nat) | intro (_ : Option Addr) (_ : Nat))
          conv => whnf
          refine fun fr w hw => ⟨(k + 1, oa2, cap2), congrArg (fun z => [Value.int .i64 z]) (wr1 h' b1 b2).symm, h', dec h', hw.fit ?_⟩
          simp only [hT]
          simp [fitL, Res.eqv, concL, conc, routeOf, hAn, hCn]
    have hz1 : k = s.rules.length := by have := of_decide_eq_false hlt; omega
    subst hz1
    repeat ((conv => whnf); first | apply qza | apply qzb | apply qzc | apply qzd | apply qze | intro (_ : Nat) | intro (_ : Option Addr) (_ : Nat))
    conv => whnf
    refine fun g1 hg1 hn1 hp1 => ?_
    conv => whnf
    intro g2 hg
    refine ⟨_, _, _, rfl, (rSl_ofE hp1.rd (confS s).routes cRoute ?_ (by simp [confS]) (fun _ _ => rfl) fun _ _ => rfl).mono rRoute_mono hg⟩
    rw [List.take_of_length_le (Nat.le_refl _)]; simp [confS, List.map_map, Function.comp_def])
end Go.Proofs.Ytjaeeadfmnokeaa


/- What is the same. -/
namespace Go.Proofs.Ytjaeeadfmnokeaa
open Go.Proofs.Ytjaeeadfmnokeaa.Sx Go.RowKit
theorem take_eq {α : Type} {l m : List α} {k : Nat} {x y : α} (h : l.take k = m.take k) (hx : l[k]? = some x) (hy : m[k]? = some y) (e : x = y) : l.take (k + 1) = m.take (k + 1) := by
  obtain ⟨h1, h2⟩ := List.getElem?_eq_some_iff.1 hx
  obtain ⟨h3, h4⟩ := List.getElem?_eq_some_iff.1 hy
  rw [List.take_succ_eq_append_getElem h1, List.take_succ_eq_append_getElem h3, h, h2, h4, e]
theorem snap_ext {a b : Snap} (h1 : a.listens = b.listens) (h2 : a.rules = b.rules) (h3 : a.clusters = b.clusters) : a = b := by
  cases a; cases b; simp_all
theorem ok_sameTexts (g : GW) {v v' : Value} {l m : List BA} (hl : rSl 1 rStr g v l) (hm' : rSl 1 rStr g v' m) : OkV Try.prog n_hydrantref07_sameTexts [v, v'] g (.bool (eqB l m)) := by
  obtain ⟨oa, ca, rfl, a1, a2, a0, hl1⟩ := id hl
  obtain ⟨ob, cb, rfl, b1, b2, b0, hr1⟩ := id hm'
  exact Ok.of_fn hm noT 0 t_hydrantref07_sameTexts (args := [.v (.slice oa l.length ca), .v (.slice ob m.length cb)]) (by
    repeat ((conv => whnf); first | apply qza | apply qzb | apply qzc | apply qzd | apply qze | intro (_ : Nat) | intro (_ : Option Addr) (_ : Nat))
    conv => whnf
    refine ⟨fun k3 => ?_, fun k3 => ?_⟩
    · conv => whnf
      intro g2 hg
      rw [eqB_f (fun e => by rw [e] at k3; simp at k3)]
    have k3 : l.length = m.length := by simp at k3; omega
    repeat ((conv => whnf); first | apply qza | apply qzb | apply qzc | apply qzd | apply qze | intro (_ : Nat) | intro (_ : Option Addr) (_ : Nat))
    conv => whnf
    refine ⟨Nat, fun k => [.v (.int .i64 k)], fun _ => ⟨g, [], _, _⟩, fun k => k ≤ l.length ∧ l.take k = m.take k, fun k => l.length - k, loop_here 0 rfl ⟨Nat.zero_le _, rfl⟩ rfl, ?_⟩
    rintro k ⟨hkk, hp⟩
    repeat ((conv => whnf); first | apply qza | apply qzb | apply qzc | apply qzd | apply qze | intro (_ : Nat) | intro (_ : Option Addr) (_ : Nat))
    conv => whnf
    refine ⟨fun hlt => ?_, fun hlt => ?_⟩
    · have h' : k < l.length := by have := of_decide_eq_true hlt; omega
      obtain ⟨u, hu⟩ := getL_of h'
      obtain ⟨v, hv⟩ := getL_of (show k < m.length by omega)
      obtain ⟨a, rfl, ec, hec, rfl, hc⟩ := hl1 k u hu
      obtain ⟨a', rfl, ec', hec', rfl, hc'⟩ := hr1 k v hv
      repeat ((conv => whnf); first | apply qza | apply qzb | apply qzc | apply qzd | apply qze | intro (_ : Nat) | intro (_ : Option Addr) (_ : Nat))
      conv => whnf
      refine ⟨a, rfl, ⟨by omega, by omega⟩, ?_⟩
      conv => whnf
      refine ⟨_, hc 0 _ rfl, ?_⟩
      repeat ((conv => whnf); first | apply qza | apply qzb | apply qzc | apply qzd | apply qze | intro (_ : Nat) | intro (_ : Option Addr) (_ : Nat))
      conv => whnf
      refine ⟨a', rfl, ⟨by omega, by omega⟩, ?_⟩
      conv => whnf
      refine ⟨_, hc' 0 _ rfl, ?_⟩
      repeat ((conv => whnf); first | apply qza | apply qzb | apply qzc | apply qzd | apply qze | intro (_ : Nat) | intro (_ : Option Addr) (_ : Nat))
      conv => whnf
      refine ⟨fun he => ?_, fun he => ?_⟩
      · conv => whnf
        intro g2 hg
        rw [eqB_f (fun e => ?_)]
        rw [← e, hu] at hv
        cases hv
        simp at he
      · have huv : u = v := bs_ext (by simpa using he)
        conv => whnf
        refine fun fr w hw => ⟨k + 1, congrArg (fun z => [Value.int .i64 z]) (wr1 h' a1 a2).symm, ⟨h', take_eq hp hu hv huv⟩, dec h', hw⟩
    · conv => whnf
      intro g2 hg
      have := of_decide_eq_false hlt
      rw [List.take_of_length_le (by omega), List.take_of_length_le (by omega)] at hp
      rw [eqB_t hp])
theorem ok_sameClusters (g : GW) {v v' : Value} {l m : List Cluster} (hl : rSl 4 rCluster g v l) (hm' : rSl 4 rCluster g v' m) : OkV Try.prog n_hydrantref07_sameClusters [v, v'] g (.bool (eqB l m)) := by
  obtain ⟨oa, ca, rfl, a1, a2, a0, hl1⟩ := id hl
  obtain ⟨ob, cb, rfl, b1, b2, b0, hr1⟩ := id hm'
  exact Ok.of_fn hm noT 0 t_hydrantref07_sameClusters (args := [.v (.slice oa l.length ca), .v (.slice ob m.length cb)]) (by
    repeat ((conv => whnf); first | apply qza | apply qzb | apply qzc | apply qzd | apply qze | intro (_ : Nat) | intro (_ : Option Addr) (_ : Nat))
    conv => whnf
    refine ⟨fun k3 => ?_, fun k3 => ?_⟩
    · conv => whnf
      intro g2 hg
      rw [eqB_f (fun e => by rw [e] at k3; simp at k3)]
    have k3 : l.length = m.length := by simp at k3; omega
    repeat ((conv => whnf); first | apply qza | apply qzb | apply qzc | apply qzd | apply qze | intro (_ : Nat) | intro (_ : Option Addr) (_ : Nat))
    conv => whnf
    refine ⟨Nat, fun k => [.v (.int .i64 k)], fun _ => ⟨g, [], _, _⟩, fun k => k ≤ l.length ∧ l.take k = m.take k, fun k => l.length - k, loop_here 0 rfl ⟨Nat.zero_le _, rfl⟩ rfl, ?_⟩
    rintro k ⟨hkk, hp⟩
    repeat ((conv => whnf); first | apply qza | apply qzb | apply qzc | apply qzd | apply qze | intro (_ : Nat) | intro (_ : Option Addr) (_ : Nat))
    conv => whnf
    refine ⟨fun hlt => ?_, fun hlt => ?_⟩
    rotate_left
    · conv => whnf
      intro g2 hg
      have := of_decide_eq_false hlt
      rw [List.take_of_length_le (by omega), List.take_of_length_le (by omega)] at hp
      rw [eqB_t hp]
    have h' : k < l.length := by have := of_decide_eq_true hlt; omega
    obtain ⟨u, hu⟩ := getL_of h'
    obtain ⟨v, hv⟩ := getL_of (show k < m.length by omega)
    obtain ⟨a, rfl, ec, hec, ⟨hvu, rfl, _, _, ohu, chu, rfl, q1, q2, q0, hq⟩, hc⟩ := hl1 k u hu
    obtain ⟨a', rfl, ec', hec', ⟨hvv, rfl, _, _, ohv, chv, rfl, r1, r2, r0, hr⟩, hc'⟩ := hr1 k v hv
    have ne : u ≠ v → eqB l m = false := fun h => eqB_f fun e => h (by rw [e, hv] at hu; cases hu; rfl)
    repeat ((conv => whnf); first | apply qza | apply qzb | apply qzc | apply qzd | apply qze | intro (_ : Nat) | intro (_ : Option Addr) (_ : Nat))
    conv => whnf
    refine ⟨a, rfl, ⟨by omega, by omega⟩, ?_⟩
    conv => whnf
    refine ⟨_, hc 0 _ rfl, ?_⟩
    repeat ((conv => whnf); first | apply qza | apply qzb | apply qzc | apply qzd | apply qze | intro (_ : Nat) | intro (_ : Option Addr) (_ : Nat))
    conv => whnf
    refine ⟨a', rfl, ⟨by omega, by omega⟩, ?_⟩
    conv => whnf
    refine ⟨_, hc' 0 _ rfl, ?_⟩
    repeat ((conv => whnf); first | apply qza | apply qzb | apply qzc | apply qzd | apply qze | intro (_ : Nat) | intro (_ : Option Addr) (_ : Nat))
    conv => whnf
    refine ⟨fun c0 => ?_, fun c0 => ?_⟩
    · conv => whnf
      intro g2 hg
      rw [ne fun e => by subst e; simp at c0]
    repeat ((conv => whnf); first | apply qza | apply qzb | apply qzc | apply qzd | apply qze | intro (_ : Nat) | intro (_ : Option Addr) (_ : Nat))
    conv => whnf
    refine ⟨a, rfl, ⟨by omega, by omega⟩, ?_⟩
    conv => whnf
    refine ⟨_, hc 1 _ rfl, ?_⟩
    repeat ((conv => whnf); first | apply qza | apply qzb | apply qzc | apply qzd | apply qze | intro (_ : Nat) | intro (_ : Option Addr) (_ : Nat))
    conv => whnf
    refine ⟨a', rfl, ⟨by omega, by omega⟩, ?_⟩
    conv => whnf
    refine ⟨_, hc' 1 _ rfl, ?_⟩
    repeat ((conv => whnf); first | apply qza | apply qzb | apply qzc | apply qzd | apply qze | intro (_ : Nat) | intro (_ : Option Addr) (_ : Nat))
    conv => whnf
    refine ⟨fun c1 => ?_, fun c1 => ?_⟩
    · conv => whnf
      intro g2 hg
      rw [ne fun e => by subst e; simp at c1]
    repeat ((conv => whnf); first | apply qza | apply qzb | apply qzc | apply qzd | apply qze | intro (_ : Nat) | intro (_ : Option Addr) (_ : Nat))
    conv => whnf
    refine ⟨a, rfl, ⟨by omega, by omega⟩, ?_⟩
    conv => whnf
    refine ⟨_, hc 2 _ rfl, ?_⟩
    repeat ((conv => whnf); first | apply qza | apply qzb | apply qzc | apply qzd | apply qze | intro (_ : Nat) | intro (_ : Option Addr) (_ : Nat))
    conv => whnf
    refine ⟨a', rfl, ⟨by omega, by omega⟩, ?_⟩
    conv => whnf
    refine ⟨_, hc' 2 _ rfl, ?_⟩
    repeat ((conv => whnf); first | apply qza | apply qzb | apply qzc | apply qzd | apply qze | intro (_ : Nat) | intro (_ : Option Addr) (_ : Nat))
    conv => whnf
    refine ⟨fun c2 => ?_, fun c2 => ?_⟩
    · conv => whnf
      intro g2 hg
      rw [ne fun e => by subst e; simp at c2]
    repeat ((conv => whnf); first | apply qza | apply qzb | apply qzc | apply qzd | apply qze | intro (_ : Nat) | intro (_ : Option Addr) (_ : Nat))
    conv => whnf
    refine ⟨a, rfl, ⟨by omega, by omega⟩, ?_⟩
    conv => whnf
    refine ⟨_, hc 3 _ rfl, ?_⟩
    repeat ((conv => whnf); first | apply qza | apply qzb | apply qzc | apply qzd | apply qze | intro (_ : Nat) | intro (_ : Option Addr) (_ : Nat))
    conv => whnf
    refine ⟨a', rfl, ⟨by omega, by omega⟩, ?_⟩
    conv => whnf
    refine ⟨_, hc' 3 _ rfl, ?_⟩
    repeat ((conv => whnf); first | apply qza | apply qzb | apply qzc | apply qzd | apply qze | intro (_ : Nat) | intro (_ : Option Addr) (_ : Nat))
    conv => whnf
    refine ⟨fun c3 => ?_, fun c3 => ?_⟩
    · conv => whnf
      intro g2 hg
      rw [ne fun e => by subst e; simp at c3]
    have d0 : u.name = v.name := bs_ext (by simpa using c0)
    have d1 : u.policy = v.policy := by simpa using c1
    have d2 : u.slots = v.slots := by simpa using c2
    have d3 : u.health.length = v.health.length := by simp at c3; omega
    clear c0 c1 c2 c3
    repeat ((conv => whnf); first | apply qza | apply qzb | apply qzc | apply qzd | apply qze | intro (_ : Nat) | intro (_ : Option Addr) (_ : Nat))
    conv => whnf
    refine ⟨Nat, fun n => [.v (.int .i64 n)], fun _ => ⟨g, [], _, _⟩, fun n => n ≤ u.health.length ∧ u.health.take n = v.health.take n, fun n => u.health.length - n, loop_here 0 rfl ⟨Nat.zero_le _, rfl⟩ rfl, ?_⟩
    rintro n ⟨hnn, hpn⟩
    repeat ((conv => whnf); first | apply qza | apply qzb | apply qzc | apply qzd | apply qze | intro (_ : Nat) | intro (_ : Option Addr) (_ : Nat))
    conv => whnf
    refine ⟨a, rfl, ⟨by omega, by omega⟩, ?_⟩
    conv => whnf
    refine ⟨_, hc 3 _ rfl, ?_⟩
    repeat ((conv => whnf); first | apply qza | apply qzb | apply qzc | apply qzd | apply qze | intro (_ : Nat) | intro (_ : Option Addr) (_ : Nat))
    conv => whnf
    refine ⟨fun hltn => ?_, fun hltn => ?_⟩
    · have hn' : n < u.health.length := by have := of_decide_eq_true hltn; omega
      obtain ⟨p, hp'⟩ := getL_of hn'
      obtain ⟨q, hq'⟩ := getL_of (show n < v.health.length by omega)
      obtain ⟨aa, rfl, ecc, hecc, rfl, hcc⟩ := hq n p hp'
      obtain ⟨aa', rfl, ecc', hecc', rfl, hcc'⟩ := hr n q hq'
      conv => whnf
      refine ⟨a, rfl, ⟨by omega, by omega⟩, ?_⟩
      conv => whnf
      refine ⟨_, hc 3 _ rfl, ?_⟩
      repeat ((conv => whnf); first | apply qza | apply qzb | apply qzc | apply qzd | apply qze | intro (_ : Nat) | intro (_ : Option Addr) (_ : Nat))
      conv => whnf
      refine ⟨aa, rfl, ⟨by omega, by omega⟩, ?_⟩
      conv => whnf
      refine ⟨_, hcc 0 _ rfl, ?_⟩
      repeat ((conv => whnf); first | apply qza | apply qzb | apply qzc | apply qzd | apply qze | intro (_ : Nat) | intro (_ : Option Addr) (_ : Nat))
      conv => whnf
      refine ⟨a', rfl, ⟨by omega, by omega⟩, ?_⟩
      conv => whnf
      refine ⟨_, hc' 3 _ rfl, ?_⟩
      repeat ((conv => whnf); first | apply qza | apply qzb | apply qzc | apply qzd | apply qze | intro (_ : Nat) | intro (_ : Option Addr) (_ : Nat))
      conv => whnf
      refine ⟨aa', rfl, ⟨by omega, by omega⟩, ?_⟩
      conv => whnf
      refine ⟨_, hcc' 0 _ rfl, ?_⟩
      repeat ((conv => whnf); first | apply qza | apply qzb | apply qzc | apply qzd | apply qze | intro (_ : Nat) | intro (_ : Option Addr) (_ : Nat))
      conv => whnf
      refine ⟨fun he => ?_, fun he => ?_⟩
      · conv => whnf
        intro g2 hg
        rw [ne fun e => ?_]
        subst e
        rw [hp'] at hq'
        cases hq'
        simp at he
      · conv => whnf
        refine fun fr w hw => ⟨n + 1, congrArg (fun z => [Value.int .i64 z]) (wr1 hn' q1 q2).symm, ⟨hn', take_eq hpn hp' hq' (by simpa using he)⟩, dec hn', hw⟩
    have huv : u = v := cluster_ext d0 d1 d2 (by
      have := of_decide_eq_false hltn
      rwa [List.take_of_length_le (by omega), List.take_of_length_le (by omega)] at hpn)
    conv => whnf
    refine fun fr w hw => ⟨k + 1, congrArg (fun z => [Value.int .i64 z]) (wr1 h' a1 a2).symm, ⟨h', take_eq hp hu hv huv⟩, dec h', hw⟩)
theorem ok_Same (g : GW) {cs cs' : List Value} {x y : Snap} (hx : rSnap g cs x) (hy : rSnap g cs' y) : OkV Try.prog n_hydrantref07_Same [.agg ⟨cs⟩, .agg ⟨cs'⟩] g (.bool (eqB x y)) := by
  obtain ⟨a, b, d, rfl, hl, hr, hk⟩ := hx
  obtain ⟨a', b', d', rfl, hl', hr', hk'⟩ := hy
  obtain ⟨oa, ca, rfl, a1, a2, a0, hl1⟩ := id hl
  obtain ⟨ob, cb, rfl, b1, b2, b0, hr1⟩ := id hr
  obtain ⟨od, cd, rfl, d1, d2, d0, hk1⟩ := id hk
  obtain ⟨oe, ce, rfl, e1, e2, e0, hl1'⟩ := id hl'
  obtain ⟨og, cg, rfl, f1, f2, f0, hr1'⟩ := id hr'
  obtain ⟨oh, ch, rfl, g1, g2, g0, hk1'⟩ := id hk'
  exact Ok.of_fn hm noT 0 t_hydrantref07_Same (args := [.v (.agg ⟨[.slice oa x.listens.length ca, .slice ob x.rules.length cb, .slice od x.clusters.length cd]⟩), .v (.agg ⟨[.slice oe y.listens.length ce, .slice og y.rules.length cg, .slice oh y.clusters.length ch]⟩)]) (by
    repeat ((conv => whnf); first | apply qza | apply qzb | apply qzc | apply qzd | apply qze | intro (_ : Nat) | intro (_ : Option Addr) (_ : Nat))
    conv => whnf
    refine .inl ⟨_, ok_sameTexts _ hl hl', ?_⟩
    conv => whnf
    refine ⟨fun k1 => ?_, fun k1 => ?_⟩
    · conv => whnf
      intro g2 hg
      rw [eqB_f (fun e => by rw [e, eqB_t rfl] at k1; cases k1)]
    have k1 := eqB_iff.1 (nb0 k1)
    repeat ((conv => whnf); first | apply qza | apply qzb | apply qzc | apply qzd | apply qze | intro (_ : Nat) | intro (_ : Option Addr) (_ : Nat))
    conv => whnf
    refine .inl ⟨_, ok_sameClusters _ hk hk', ?_⟩
    conv => whnf
    refine ⟨fun k2 => ?_, fun k2 => ?_⟩
    · conv => whnf
      intro g2 hg
      rw [eqB_f (fun e => by rw [e, eqB_t rfl] at k2; cases k2)]
    have k2 := eqB_iff.1 (nb0 k2)
    repeat ((conv => whnf); first | apply qza | apply qzb | apply qzc | apply qzd | apply qze | intro (_ : Nat) | intro (_ : Option Addr) (_ : Nat))
    conv => whnf
    refine ⟨fun k3 => ?_, fun k3 => ?_⟩
    · conv => whnf
      intro g2 hg
      rw [eqB_f (fun e => by rw [e] at k3; simp at k3)]
    have k3 : x.rules.length = y.rules.length := by simp at k3; omega
    repeat ((conv => whnf); first | apply qza | apply qzb | apply qzc | apply qzd | apply qze | intro (_ : Nat) | intro (_ : Option Addr) (_ : Nat))
    conv => whnf
    refine ⟨Nat, fun k => [.v (.int .i64 k)], fun _ => ⟨g, [.blk 1 _ _ [.v (.slice oe y.listens.length ce), .v (.slice og y.rules.length cg), .v (.slice oh y.clusters.length ch)], .blk 0 _ _ [.v (.slice oa x.listens.length ca), .v (.slice ob x.rules.length cb), .v (.slice od x.clusters.length cd)]], _, _⟩, fun k => k ≤ x.rules.length ∧ x.rules.take k = y.rules.take k, fun k => x.rules.length - k, loop_here 0 rfl ⟨Nat.zero_le _, rfl⟩ rfl, ?_⟩
    rintro k ⟨hkk, hp⟩
    repeat ((conv => whnf); first | apply qza | apply qzb | apply qzc | apply qzd | apply qze | intro (_ : Nat) | intro (_ : Option Addr) (_ : Nat))
    conv => whnf
    refine ⟨fun hlt => ?_, fun hlt => ?_⟩
    · have h' : k < x.rules.length := by have := of_decide_eq_true hlt; omega
      obtain ⟨u, hu⟩ := getL_of h'
      obtain ⟨v, hv⟩ := getL_of (show k < y.rules.length by omega)
      obtain ⟨a, rfl, ec, hec, ⟨rfl, _, _⟩, hc⟩ := hr1 k u hu
      obtain ⟨a', rfl, ec', hec', ⟨rfl, _, _⟩, hc'⟩ := hr1' k v hv
      repeat ((conv => whnf); first | apply qza | apply qzb | apply qzc | apply qzd | apply qze | intro (_ : Nat) | intro (_ : Option Addr) (_ : Nat))
      conv => whnf
      refine ⟨a, rfl, ⟨by omega, by omega⟩, ?_⟩
      conv => whnf
      refine ⟨_, ⟨rfl, hc⟩, ?_⟩
      repeat ((conv => whnf); first | apply qza | apply qzb | apply qzc | apply qzd | apply qze | intro (_ : Nat) | intro (_ : Option Addr) (_ : Nat))
      conv => whnf
      refine ⟨a', rfl, ⟨by omega, by omega⟩, ?_⟩
      conv => whnf
      refine ⟨_, ⟨rfl, hc'⟩, ?_⟩
      repeat ((conv => whnf); first | apply qza | apply qzb | apply qzc | apply qzd | apply qze | intro (_ : Nat) | intro (_ : Option Addr) (_ : Nat))
      conv => whnf
      refine ⟨fun he => ?_, fun he => ?_⟩
      · conv => whnf
        intro g2 hg
        rw [eqB_f (fun e => ?_)]
        rw [← e, hu] at hv
        cases hv
        simp at he
      · have huv : u = v := by simp only [Bool.and_eq_true, beq_iff_eq, Bool.not_eq_false'] at he; exact rule_ext (by simpa using he.1) (bs_ext (by simpa using he.2.1)) (bs_ext (by simpa using he.2.2.1)) (by simpa using he.2.2.2)
        conv => whnf
        refine fun fr w hw => ⟨k + 1, congrArg (fun z => [Value.int .i64 z]) (wr1 h' b1 b2).symm, ⟨h', take_eq hp hu hv huv⟩, dec h', ?_⟩
        exact hw.fit (by simp [fitL, Res.eqv, concL, conc])
    · conv => whnf
      intro g2 hg
      have := of_decide_eq_false hlt
      rw [eqB_t (show x = y from ?_)]
      rw [List.take_of_length_le (by omega), List.take_of_length_le (by omega)] at hp
      exact snap_ext k1 hp k2)
end Go.Proofs.Ytjaeeadfmnokeaa


/- Snapshots: the document's building; whether one is right; what is found. -/
namespace Go.Proofs.Ytjaeeadfmnokeaa
open Go.Proofs.Ytjaeeadfmnokeaa.Sx Go.RowKit
theorem ok_sIs (g : GW) {cs : List Value} {s : Snap} (hs : rSnap g cs s) (hsz : s.rules.length ≤ 1000000) : OkV Try.prog n_snap_Is [.agg ⟨cs⟩] g (.bool (eqB (checkE (confS s)) none)) := by
  have hs0 := hs
  obtain ⟨a, b, d, rfl, hl, hr, hk⟩ := hs
  obtain ⟨oa, ca, rfl, a1, a2, a0, hl1⟩ := id hl
  obtain ⟨ob, cb, rfl, b1, b2, b0, hr1⟩ := id hr
  obtain ⟨od, cd, rfl, d1, d2, d0, hk1⟩ := id hk
  exact Ok.of_fn hm noT 0 t_snap_Is (args := [.v (.agg ⟨[.slice oa s.listens.length ca, .slice ob s.rules.length cb, .slice od s.clusters.length cd]⟩)]) (by
    repeat ((conv => whnf); first | apply qza | apply qzb | apply qzc | apply qzd | apply qze | intro (_ : Nat) | intro (_ : Option Addr) (_ : Nat))
    conv => whnf
    refine .inr ((ok_Config g hs0 hsz).mono fun v g1 hg1 hC => ?_)
    obtain ⟨oR, n, cR, rfl, hrt⟩ := hC
    have hcc : rConfig g1 [.slice oa s.listens.length ca, .slice oR n cR, .slice od s.clusters.length cd] (confS s) := ⟨_, _, _, rfl, hl.mono rStr_mono hg1, hrt, hk.mono rCluster_mono hg1⟩
    rcases ei_val (checkE (confS s)) with ⟨hz, hv⟩ | ⟨e, i, hz, hv⟩
    · conv => whnf
      refine .inl ⟨_, (ok_Check _ hcc).to hv, ?_⟩
      conv => whnf
      intro g2 hg
      rw [eqB_t hz]; rfl
    · have hne := checkE_ne hz
      conv => whnf
      refine .inl ⟨_, (ok_Check _ hcc).to hv, ?_⟩
      conv => whnf
      intro g2 hg
      rw [eqB_f (by rw [hz]; simp)]
      exact congrArg Value.bool (by simp; omega))
end Go.Proofs.Ytjaeeadfmnokeaa


/- Snapshots: the document's answer to: is it one? -/
namespace Go.Proofs.Ytjaeeadfmnokeaa
open Go.Proofs.Ytjaeeadfmnokeaa.Sx Go.RowKit
/-- A snapshot that is not too big. -/
def SnS (s : Snap) : Prop := s.rules.length ≤ 1000000 ∧ ∀ r ∈ s.rules, r.host.size ≤ 100 ∧ r.path.size ≤ 100
end Go.Proofs.Ytjaeeadfmnokeaa


/- Slots: words with tags; which ones are free. -/
namespace Go.Proofs.Ytjaeeadfmnokeaa
open Go.Proofs.Ytjaeeadfmnokeaa.Sx Go.RowKit
theorem wrap32 {w : Int} (hw : InU w) : IntKind.u32.wrap w = w % 4294967296 := by
  rw [IntKind.wrap_u32]
theorem idx_wr {w : Int} : InR (w % 4294967296) ∧ InR (w % 4294967296 - 1) := by
  have h1 := Int.emod_nonneg w (show (4294967296 : Int) ≠ 0 by decide)
  have h2 := Int.emod_lt_of_pos w (show (0 : Int) < 4294967296 by decide)
  unfold InR; omega
theorem ok_tIdx (g : GW) {w : Int} (hw : InU w) : OkV Try.prog n_tag_Index [.int .u64 w] g (.int .i64 (idxT w)) :=
  Ok.of_fn hm noT 0 t_tag_Index (args := [.v (.int .u64 w)]) (by
    repeat ((conv => whnf); first | apply qza | apply qzb | apply qzc | apply qzd | apply qze | intro (_ : Nat) | intro (_ : Option Addr) (_ : Nat))
    conv => whnf
    intro g2 hg
    rw [wrap32 hw, wr idx_wr.1, show w % 4294967296 + -1 = w % 4294967296 - 1 from rfl, wr idx_wr.2]; rfl)
theorem or_u64 {t i : Int} (ht : 0 ≤ t ∧ t < 4294967296) (hi : 0 ≤ i ∧ i < 4294967296) : bitsI .or .u64 (t * 4294967296) i = t * 4294967296 + i := by
  obtain ⟨a, rfl⟩ := Int.eq_ofNat_of_zero_le ht.1
  obtain ⟨b, rfl⟩ := Int.eq_ofNat_of_zero_le hi.1
  have h := Nat.shiftLeft_add_eq_or_of_lt (i := 32) (b := b) (by omega) a
  rw [Nat.shiftLeft_eq, show (2 : Nat) ^ 32 = 4294967296 by decide] at h
  rw [show (a : Int) * 4294967296 = ((a * 4294967296 : Nat) : Int) by omega]
  have e1 : (BitVec.ofInt 64 ((a * 4294967296 : Nat) : Int)).toNat = a * 4294967296 := by
    rw [BitVec.ofInt_natCast, BitVec.toNat_ofNat]; omega
  have e2 : (BitVec.ofInt 64 (b : Int)).toNat = b := by
    rw [BitVec.ofInt_natCast, BitVec.toNat_ofNat]; omega
  show IntKind.u64.wrap ((BitVec.ofInt 64 ((a * 4294967296 : Nat) : Int) ||| BitVec.ofInt 64 (b : Int)).toNat : Int) = _
  rw [BitVec.toNat_or, e1, e2, ← h, IntWalk.u64_in _ (by omega)]; omega
theorem ok_tMake (g : GW) {t i : Int} (ht : 0 ≤ t ∧ t < 4294967296) (hi : InR i) : OkV Try.prog n_tag_Make [.int .u32 t, .int .i64 i] g (.tuple #[.int .u64 (if placeB i then t * 4294967296 + (i + 1) else 0), .int .i64 (if placeB i then 0 else 1)]) :=
  Ok.of_fn hm noT 0 t_tag_Make (args := [.v (.int .u32 t), .v (.int .i64 i)]) (by
    repeat ((conv => whnf); first | apply qza | apply qzb | apply qzc | apply qzd | apply qze | intro (_ : Nat) | intro (_ : Option Addr) (_ : Nat))
    conv => whnf
    refine ⟨fun h => ?_, fun h => ?_⟩
    · repeat ((conv => whnf); first | apply qza | apply qzb | apply qzc | apply qzd | apply qze | intro (_ : Nat) | intro (_ : Option Addr) (_ : Nat))
      conv => whnf
      intro g2 hg
      have : placeB i = false := by unfold placeB; have := of_decide_eq_true h; simp; omega
      rw [this]; rfl
    · repeat ((conv => whnf); first | apply qza | apply qzb | apply qzc | apply qzd | apply qze | intro (_ : Nat) | intro (_ : Option Addr) (_ : Nat))
      conv => whnf
      refine ⟨fun h2 => ?_, fun h2 => ?_⟩
      · repeat ((conv => whnf); first | apply qza | apply qzb | apply qzc | apply qzd | apply qze | intro (_ : Nat) | intro (_ : Option Addr) (_ : Nat))
        conv => whnf
        intro g2 hg
        have : placeB i = false := by unfold placeB; have := of_decide_eq_true h2; simp; omega
        rw [this]; rfl
      · repeat ((conv => whnf); first | apply qza | apply qzb | apply qzc | apply qzd | apply qze | intro (_ : Nat) | intro (_ : Option Addr) (_ : Nat))
        conv => whnf
        refine ⟨by decide, ?_⟩
        repeat ((conv => whnf); first | apply qza | apply qzb | apply qzc | apply qzd | apply qze | intro (_ : Nat) | intro (_ : Option Addr) (_ : Nat))
        conv => whnf
        intro g2 hg
        have h1 := of_decide_eq_false h
        have h2 := of_decide_eq_false h2
        have : placeB i = true := by unfold placeB; simp; omega
        rw [this]
        have e1 : IntKind.u64.wrap t = t := IntWalk.u64_in t (by omega)
        have e2 : IntKind.u64.wrap (t * 2 ^ min (Int.toNat 32) IntKind.u64.bits) = t * 4294967296 := by
          rw [show (2 : Int) ^ min (Int.toNat 32) IntKind.u64.bits = 4294967296 by decide]; exact IntWalk.u64_in _ (by omega)
        have e3 : IntKind.u64.wrap (IntKind.i64.wrap (i - -1)) = i + 1 := by rw [wr (by unfold InR; omega)]; exact IntWalk.u64_in _ (by omega)
        rw [e1, e2, e3, or_u64 ht (by omega)]; rfl)
def tCh : List (Nat × FnI) := [(n_slots_chain, f_slots_chain), (n_slots_chain_1, f_slots_chain_1)]
theorem tCh_ok : TblOk Try.prog tCh := by
  intro x hx
  simp only [tCh, List.mem_cons, List.not_mem_nil, or_false] at hx
  rcases hx with rfl | rfl
  · exact ⟨_, _, t_slots_chain⟩
  · exact ⟨_, _, t_slots_chain_1⟩
def FreeP (e : EndC) (v : Value) (g' : GW) : Prop := match freeL e with
  | none => v = .tuple #[.slice none 0 0, .int .i64 11]
  | some l => ∃ oa cap, v = .tuple #[.slice oa l.length cap, .int .i64 0] ∧ rSl 1 rInt g' (.slice oa l.length cap) l
abbrev cInt (l : List Int) : List Value := l.map fun x => Value.int .i64 x
theorem ok_sFree (g : GW) {cs : List Value} {e : EndC} (he : rEn g cs e) : Ok Try.prog n_slots_Free [.agg ⟨cs⟩] g (FreeP e) := by
  obtain ⟨⟨n, rfl, hH, hA, hN⟩, hsz⟩ := he
  obtain ⟨oa, ca, rfl, a1, a2, a0, hr⟩ := id hN
  exact Ok.of_fn hm tCh_ok 2 t_slots_Free (args := [.v (.agg ⟨[.int .u64 e.head, .slice oa e.next.length ca, .int .i64 e.active]⟩)]) (by
    repeat ((conv => whnf); first | apply qza | apply qzb | apply qzc | apply qzd | apply qze | intro (_ : Nat) | intro (_ : Option Addr) (_ : Nat))
    conv => whnf
    refine ⟨k_slots_chain_1, fun lp rr => ?_⟩
    repeat ((conv => whnf); first | apply qza | apply qzb | apply qzc | apply qzd | apply qze | intro (_ : Nat) | intro (_ : Option Addr) (_ : Nat))
    conv => whnf
    refine ⟨⟨by omega, by omega, by omega, by omega⟩, fun _ => ?_⟩
    repeat ((conv => whnf); first | apply qza | apply qzb | apply qzc | apply qzd | apply qze | intro (_ : Nat) | intro (_ : Option Addr) (_ : Nat))
    conv => whnf
    refine .inl ⟨_, ok_tIdx _ hH, ?_⟩
    rename_i q0 q1 q2 q3 q4 q5
    repeat ((conv => whnf); first | apply qza | apply qzb | apply qzc | apply qzd | apply qze | intro (_ : Nat) | intro (_ : Option Addr) (_ : Nat))
    conv => whnf
    refine ⟨Int × List Int × Option Addr × Nat, fun (i, _, _, _) => [.v (.int .i64 i)], fun (_, out, oX, cX) => ⟨g, [.row 7 oX out.length cX ty_int 1 (cInt out), .row 6 (some ⟨q5, 0, none⟩) e.next.length e.next.length ty_bool 1 (seenL e.next.length out), .lp 5 lp rr .ready, .blk 4 q4 ty_api_End [.v (.int .u64 e.head), .v (.slice oa e.next.length ca), .v (.int .i64 e.active)], .blk 3 q3 ty_sl_int [.row 7 oX out.length cX], .blk 2 q2 ty_api_Errno [.v (.int .i64 0)], .blk 1 q1 ty_sl_int [.v (.slice none 0 0)], .blk 0 q0 ty_api_End [.v (.int .u64 e.head), .v (.slice oa e.next.length ca), .v (.int .i64 e.active)]], 40, g.w.heap.size⟩, fun (i, out, _, _) => InR i ∧ out.Nodup ∧ (∀ x ∈ out, 0 ≤ x ∧ x < e.next.length) ∧ chainL e.next (e.next.length + 1 - out.length) out i = freeL e, fun (_, out, _, _) => e.next.length - out.length, ?_, ?_⟩
    · intro fr w hw
      exact ⟨(idxT e.head, [], none, 0), rfl, ⟨by have := idxT_rng e.head; unfold InR; omega, List.nodup_nil, by simp, rfl⟩, (hw.nil_row (nx' := 40) 7 ty_int 1).fit (by simp [fitL, Res.eqv, concL, conc, seenL_nil])⟩
    rintro ⟨i, out, oX, cX⟩ ⟨hi, hnd, hin, hch⟩
    repeat ((conv => whnf); first | apply qza | apply qzb | apply qzc | apply qzd | apply qze | intro (_ : Nat) | intro (_ : Option Addr) (_ : Nat))
    conv => whnf
    refine ⟨fun h1 => ?_, fun h1 => ?_⟩
    · have hne : i ≠ -1 := by simpa using h1
      have hbad : (i < 0 ∨ (e.next.length : Int) ≤ i ∨ i ∈ out) → freeL e = none := fun hb => by
        have hlen := nodup_len hnd hin
        rw [show e.next.length + 1 - out.length = (e.next.length - out.length) + 1 by omega] at hch
        simp only [chainL, if_neg hne, if_pos hb] at hch
        exact hch.symm
      repeat ((conv => whnf); first | apply qza | apply qzb | apply qzc | apply qzd | apply qze | intro (_ : Nat) | intro (_ : Option Addr) (_ : Nat))
      conv => whnf
      refine ⟨fun h2 => ?_, fun h2 => ?_⟩
      · repeat ((conv => whnf); first | apply qza | apply qzb | apply qzc | apply qzd | apply qze | intro (_ : Nat) | intro (_ : Option Addr) (_ : Nat))
        conv => whnf
        refine ⟨fun _ => ?_, fun h => nomatch h⟩
        repeat ((conv => whnf); first | apply qza | apply qzb | apply qzc | apply qzd | apply qze | intro (_ : Nat) | intro (_ : Option Addr) (_ : Nat))
        conv => whnf
        intro g2 hg
        unfold FreeP
        rw [hbad (.inl (by simpa using h2))]
      · repeat ((conv => whnf); first | apply qza | apply qzb | apply qzc | apply qzd | apply qze | intro (_ : Nat) | intro (_ : Option Addr) (_ : Nat))
        conv => whnf
        refine ⟨fun h3 => ?_, fun h3 => ?_⟩
        · repeat ((conv => whnf); first | apply qza | apply qzb | apply qzc | apply qzd | apply qze | intro (_ : Nat) | intro (_ : Option Addr) (_ : Nat))
          conv => whnf
          refine ⟨fun _ => ?_, fun h => nomatch h⟩
          repeat ((conv => whnf); first | apply qza | apply qzb | apply qzc | apply qzd | apply qze | intro (_ : Nat) | intro (_ : Option Addr) (_ : Nat))
          conv => whnf
          intro g2 hg
          unfold FreeP
          rw [hbad (.inr (.inl (by simpa using h3)))]
        · have hi0 : 0 ≤ i ∧ i < e.next.length := by simp at h2 h3; omega
          have hsg := seenL_get (n := e.next.length) (out := out) hi0
          obtain ⟨y, hy⟩ := getL_of (l := e.next) (i := i.toNat) (by omega)
          obtain ⟨a, rfl, ec, hec, ⟨rfl, hyr⟩, hc⟩ := hr i.toNat y hy
          repeat ((conv => whnf); first | apply qza | apply qzb | apply qzc | apply qzd | apply qze | intro (_ : Nat) | intro (_ : Option Addr) (_ : Nat))
          conv => whnf
          refine ⟨hi0, ?_⟩
          repeat ((conv => whnf); first | apply qza | apply qzb | apply qzc | apply qzd | apply qze | intro (_ : Nat) | intro (_ : Option Addr) (_ : Nat))
          conv => whnf
          refine ⟨_, by simpa using hsg, ?_⟩
          repeat ((conv => whnf); first | apply qza | apply qzb | apply qzc | apply qzd | apply qze | intro (_ : Nat) | intro (_ : Option Addr) (_ : Nat))
          conv => whnf
          refine ⟨fun h4 => ?_, fun h4 => ?_⟩
          · repeat ((conv => whnf); first | apply qza | apply qzb | apply qzc | apply qzd | apply qze | intro (_ : Nat) | intro (_ : Option Addr) (_ : Nat))
            conv => whnf
            refine ⟨fun _ => ?_, fun h => nomatch h⟩
            repeat ((conv => whnf); first | apply qza | apply qzb | apply qzc | apply qzd | apply qze | intro (_ : Nat) | intro (_ : Option Addr) (_ : Nat))
            conv => whnf
            intro g2 hg
            unfold FreeP
            rw [hbad (.inr (.inr (by simpa using h4)))]
          · have h4' : i ∉ out := by simpa using h4
            have hnd2 : (out ++ [i]).Nodup := List.nodup_append.2 ⟨hnd, by simp, fun a ha b hb hab => h4' (by simp at hb; rw [← hb, ← hab]; exact ha)⟩
            have hin2 : ∀ x ∈ out ++ [i], 0 ≤ x ∧ x < e.next.length := fun x hx => by
              rcases List.mem_append.1 hx with hx | hx
              · exact hin x hx
              · simp at hx; subst hx; exact hi0
            have hlen2 := nodup_len hnd2 hin2
            have hset := seenL_set (out := out) hi0
            simp only [List.length_append, List.length_cons, List.length_nil] at hlen2
            repeat ((conv => whnf); first | apply qza | apply qzb | apply qzc | apply qzd | apply qze | intro (_ : Nat) | intro (_ : Option Addr) (_ : Nat))
            conv => whnf
            refine ⟨hi0, ?_⟩
            repeat ((conv => whnf); first | apply qza | apply qzb | apply qzc | apply qzd | apply qze | intro (_ : Nat) | intro (_ : Option Addr) (_ : Nat))
            conv => whnf
            refine ⟨⟨by rw [seenL_len]; omega, by decide⟩, ?_⟩
            repeat ((conv => whnf); first | apply qza | apply qzb | apply qzc | apply qzd | apply qze | intro (_ : Nat) | intro (_ : Option Addr) (_ : Nat))
            conv => whnf
            refine ⟨fun hx => absurd hx (by simp; omega), fun _ => ?_⟩
            repeat ((conv => whnf); first | apply qza | apply qzb | apply qzc | apply qzd | apply qze | intro (_ : Nat) | intro (_ : Option Addr) (_ : Nat))
            conv => whnf
            refine ⟨fun hx => absurd hx (by simp; omega), fun _ => ?_⟩
            repeat ((conv => whnf); first | apply qza | apply qzb | apply qzc | apply qzd | apply qze | intro (_ : Nat) | intro (_ : Option Addr) (_ : Nat))
            conv => whnf
            refine ⟨⟨by unfold maxLen; omega, by omega⟩, fun oa2 cap2 => ?_⟩
            repeat ((conv => whnf); first | apply qza | apply qzb | apply qzc | apply qzd | apply qze | intro (_ : Nat) | intro (_ : Option Addr) (_ : Nat))
            conv => whnf
            refine ⟨a, rfl, hi0, ?_⟩
            conv => whnf
            refine ⟨_, hc 0 _ rfl, ?_⟩
            repeat ((conv => whnf); first | apply qza | apply qzb | apply qzc | apply qzd | apply qze | intro (_ : Nat) | intro (_ : Option Addr) (_ : Nat))
            conv => whnf
            refine fun fr w hw => ⟨(y, out ++ [i], oa2, cap2), rfl, ⟨hyr, hnd2, hin2, ?_⟩, by simp only [List.length_append, List.length_cons, List.length_nil]; omega, ?_⟩
            · rw [show e.next.length + 1 - out.length = (e.next.length + 1 - (out ++ [i]).length) + 1 by simp; omega] at hch
              simp only [chainL, if_neg hne, if_neg (show ¬ (i < 0 ∨ (e.next.length : Int) ≤ i ∨ i ∈ out) by rintro (h | h | h); omega; omega; exact h4' h)] at hch
              rw [← hch]
              unfold nxtL
              rw [hy]; rfl
            · have hset2 : List.take i.toNat (seenL e.next.length out) ++ Value.bool true :: List.drop (i.toNat + 1) (seenL e.next.length out) = seenL e.next.length (out ++ [i]) := by rw [← hset]; simp
              exact hw.fit (by simp [fitL, Res.eqv, concL, conc, hset2])
    · have hi1 : i = -1 := by simpa using h1
      subst hi1
      have hlen := nodup_len hnd hin
      rw [show e.next.length + 1 - out.length = (e.next.length - out.length) + 1 by omega] at hch
      simp only [chainL, if_true] at hch
      repeat ((conv => whnf); first | apply qza | apply qzb | apply qzc | apply qzd | apply qze | intro (_ : Nat) | intro (_ : Option Addr) (_ : Nat))
      conv => whnf
      refine ⟨fun h => (nomatch h), fun _ => ?_⟩
      conv => whnf
      refine ⟨fun _ => ?_, fun h => nomatch h⟩
      repeat ((conv => whnf); first | apply qza | apply qzb | apply qzc | apply qzd | apply qze | intro (_ : Nat) | intro (_ : Option Addr) (_ : Nat))
      conv => whnf
      refine fun g1 hg1 hn1 hp1 => ?_
      repeat ((conv => whnf); first | apply qza | apply qzb | apply qzc | apply qzd | apply qze | intro (_ : Nat) | intro (_ : Option Addr) (_ : Nat))
      conv => whnf
      intro g2 hg
      unfold FreeP
      rw [← hch]
      exact ⟨oX, cX, rfl, (rSl_of1 hp1.rd out (fun x => .int .i64 x) rfl fun x hx => ⟨rfl, by have := hin x hx; unfold InR; omega⟩).mono rInt_mono hg⟩)
theorem ok_sIsE (g : GW) {cs : List Value} {e : EndC} (he : rEn g cs e) : OkV Try.prog n_slots_Is [.agg ⟨cs⟩] g (.bool (endB e)) := by
  have he0 := he
  obtain ⟨⟨n, rfl, hH, hA, hN⟩, hsz⟩ := he
  obtain ⟨oa, ca, rfl, a1, a2, a0, hr⟩ := id hN
  exact Ok.of_fn hm noT 0 t_slots_Is (args := [.v (.agg ⟨[.int .u64 e.head, .slice oa e.next.length ca, .int .i64 e.active]⟩)]) (by
    repeat ((conv => whnf); first | apply qza | apply qzb | apply qzc | apply qzd | apply qze | intro (_ : Nat) | intro (_ : Option Addr) (_ : Nat))
    refine .inr ((ok_sFree _ he0).mono fun v g1 hg1 hF => ?_)
    unfold FreeP at hF
    unfold endB
    cases hf : freeL e with
    | none =>
      rw [hf] at hF
      subst hF
      repeat ((conv => whnf); first | apply qza | apply qzb | apply qzc | apply qzd | apply qze | intro (_ : Nat) | intro (_ : Option Addr) (_ : Nat))
      conv => whnf
      refine ⟨fun h => (nomatch h), fun _ => ?_⟩
      repeat ((conv => whnf); first | apply qza | apply qzb | apply qzc | apply qzd | apply qze | intro (_ : Nat) | intro (_ : Option Addr) (_ : Nat))
      conv => whnf
      intro g2 hg
      rfl
    | some l =>
      rw [hf] at hF
      obtain ⟨oX, cX, rfl, _⟩ := hF
      repeat ((conv => whnf); first | apply qza | apply qzb | apply qzc | apply qzd | apply qze | intro (_ : Nat) | intro (_ : Option Addr) (_ : Nat))
      conv => whnf
      refine ⟨fun _ => ?_, fun h => nomatch h⟩
      repeat ((conv => whnf); first | apply qza | apply qzb | apply qzc | apply qzd | apply qze | intro (_ : Nat) | intro (_ : Option Addr) (_ : Nat))
      conv => whnf
      refine ⟨fun h1 => ?_, fun h1 => ?_⟩
      · repeat ((conv => whnf); first | apply qza | apply qzb | apply qzc | apply qzd | apply qze | intro (_ : Nat) | intro (_ : Option Addr) (_ : Nat))
        conv => whnf
        refine ⟨fun h2 => ?_, fun h2 => ?_⟩
        · repeat ((conv => whnf); first | apply qza | apply qzb | apply qzc | apply qzd | apply qze | intro (_ : Nat) | intro (_ : Option Addr) (_ : Nat))
          conv => whnf
          intro g2 hg
          have k1 := of_decide_eq_true h1
          have k2 := of_decide_eq_true h2
          rw [decide_eq_true (show 1 ≤ e.next.length by omega), decide_eq_true (show e.next.length ≤ 4 by omega)]; rfl
        · repeat ((conv => whnf); first | apply qza | apply qzb | apply qzc | apply qzd | apply qze | intro (_ : Nat) | intro (_ : Option Addr) (_ : Nat))
          conv => whnf
          intro g2 hg
          have k2 := of_decide_eq_false h2
          rw [decide_eq_false (show ¬ e.next.length ≤ 4 by omega)]; simp
      · repeat ((conv => whnf); first | apply qza | apply qzb | apply qzc | apply qzd | apply qze | intro (_ : Nat) | intro (_ : Option Addr) (_ : Nat))
        conv => whnf
        intro g2 hg
        have k1 := of_decide_eq_false h1
        rw [decide_eq_false (show ¬ 1 ≤ e.next.length by omega)]; simp)
end Go.Proofs.Ytjaeeadfmnokeaa

