/- Worlds: is one right? The program's answer. -/
import Derived.Test.YtkkhdnddplkobaaGreatLW9a
import Derived.Test.YtkkhdnddplkobaaGreatPl
import Derived.Test.YtkkhdnddplkobaaGreatLS7b
namespace Go.Proofs.YtkkhdnddplkobaaGreat
open Go.Proofs.YtkkhdnddplkobaaGreat.Sx Go.RowKit
/-- A world whose snapshots are not too big. -/
def SnW (w : Wd) : Prop := ∀ v ∈ w.versions, SnS v.snap
theorem wdB_iff {w : Wd} : wdB w = true ↔ groundB w = true ∧ (0 ≤ w.current ∧ w.current < w.versions.length) ∧ limboB w.limbo = true ∧ w.limbo.all (limB w) = true ∧ allI (verB w) w.versions = true ∧ allI (listenB w.listens) w.listens = true := by
  unfold wdB
  simp only [Bool.and_eq_true, decide_eq_true_eq]
  constructor
  · rintro ⟨⟨⟨⟨⟨⟨h1, h2⟩, h3⟩, h4⟩, h5⟩, h6⟩, h7⟩
    exact ⟨h1, ⟨h2, h3⟩, h4, h5, h6, h7⟩
  · rintro ⟨h1, ⟨h2, h3⟩, h4, h5, h6, h7⟩
    exact ⟨⟨⟨⟨⟨⟨h1, h2⟩, h3⟩, h4⟩, h5⟩, h6⟩, h7⟩
theorem wdB_f {w : Wd} (h : ¬ (groundB w = true ∧ (0 ≤ w.current ∧ w.current < w.versions.length) ∧ limboB w.limbo = true ∧ w.limbo.all (limB w) = true ∧ allI (verB w) w.versions = true ∧ allI (listenB w.listens) w.listens = true)) : wdB w = false := by
  rw [Bool.eq_false_iff]; intro hh; exact h (wdB_iff.1 hh)
theorem ok_wIs (g : GW) {cs : List Value} {w : Wd} (hw : rWo g cs w) (hsn : SnW w) : OkV Tryz.prog n_world_Is [.agg ⟨cs⟩] g (.bool (wdB w)) := by
  have hw0 := hw
  obtain ⟨a, b, c, d, e, rfl, ⟨i1, i2, i3⟩, hP, hV, hL, hC, hR⟩ := hw
  obtain ⟨oa, ca, rfl, a1, a2, a0, hP1⟩ := id hP
  obtain ⟨ob, cb, rfl, b1, b2, b0, hV1⟩ := id hV
  obtain ⟨oc, cc, rfl, c1, c2, c0, hL1⟩ := id hL
  obtain ⟨od, cd, rfl, d1, d2, d0, hC1⟩ := id hC
  obtain ⟨oe, ce, rfl, e1, e2, e0, hR1⟩ := id hR
  exact Ok.of_fn hm noT 0 t_world_Is (args := [.v (.agg ⟨[.int .i64 w.epoch, .int .i64 w.current, .int .i64 w.lock, .slice oa w.pins.length ca, .slice ob w.versions.length cb, .slice oc w.listens.length cc, .slice od w.counts.length cd, .slice oe w.limbo.length ce]⟩)]) (by
    repeat ((conv => whnf); first | apply qza | apply qzb | apply qzc | apply qzd | apply qze | intro (_ : Nat) | intro (_ : Option Addr) (_ : Nat))
    conv => whnf
    refine .inl ⟨_, ok_ground _ hw0, ?_⟩
    repeat ((conv => whnf); first | apply qza | apply qzb | apply qzc | apply qzd | apply qze | intro (_ : Nat) | intro (_ : Option Addr) (_ : Nat))
    conv => whnf
    refine ⟨fun z1 => ?_, fun z1 => ?_⟩
    · repeat ((conv => whnf); first | apply qza | apply qzb | apply qzc | apply qzd | apply qze | intro (_ : Nat) | intro (_ : Option Addr) (_ : Nat))
      conv => whnf
      intro g2 hg
      rw [wdB_f fun h => by rw [h.1] at z1; cases z1]
    repeat ((conv => whnf); first | apply qza | apply qzb | apply qzc | apply qzd | apply qze | intro (_ : Nat) | intro (_ : Option Addr) (_ : Nat))
    conv => whnf
    refine ⟨fun z2 => ?_, fun z2 => ?_⟩
    · repeat ((conv => whnf); first | apply qza | apply qzb | apply qzc | apply qzd | apply qze | intro (_ : Nat) | intro (_ : Option Addr) (_ : Nat))
      conv => whnf
      intro g2 hg
      rw [wdB_f fun h => by have := of_decide_eq_true z2; have := h.2.1; omega]
    repeat ((conv => whnf); first | apply qza | apply qzb | apply qzc | apply qzd | apply qze | intro (_ : Nat) | intro (_ : Option Addr) (_ : Nat))
    conv => whnf
    refine ⟨fun z3 => ?_, fun z3 => ?_⟩
    · repeat ((conv => whnf); first | apply qza | apply qzb | apply qzc | apply qzd | apply qze | intro (_ : Nat) | intro (_ : Option Addr) (_ : Nat))
      conv => whnf
      intro g2 hg
      rw [wdB_f fun h => by have := of_decide_eq_true z3; have := h.2.1; omega]
    repeat ((conv => whnf); first | apply qza | apply qzb | apply qzc | apply qzd | apply qze | intro (_ : Nat) | intro (_ : Option Addr) (_ : Nat))
    conv => whnf
    refine .inl ⟨_, ok_lIs _ hR, ?_⟩
    repeat ((conv => whnf); first | apply qza | apply qzb | apply qzc | apply qzd | apply qze | intro (_ : Nat) | intro (_ : Option Addr) (_ : Nat))
    conv => whnf
    refine ⟨fun z4 => ?_, fun z4 => ?_⟩
    · repeat ((conv => whnf); first | apply qza | apply qzb | apply qzc | apply qzd | apply qze | intro (_ : Nat) | intro (_ : Option Addr) (_ : Nat))
      conv => whnf
      intro g2 hg
      rw [wdB_f fun h => by rw [h.2.2.1] at z4; cases z4]
    have k1 := nb0 z1
    have k2 := of_decide_eq_false z2
    have k3 := of_decide_eq_false z3
    have k4 := nb0 z4
    clear z1 z2 z3 z4
    repeat ((conv => whnf); first | apply qza | apply qzb | apply qzc | apply qzd | apply qze | intro (_ : Nat) | intro (_ : Option Addr) (_ : Nat))
    rename_i q0 qm
    conv => whnf
    refine ⟨Nat, fun k => [.v (.int .i64 k)], fun k => ⟨g, [.mp 1 qm .i64 (mFold (w.limbo.take k)), .blk 0 q0 ty_api_World [.v (.int .i64 w.epoch), .v (.int .i64 w.current), .v (.int .i64 w.lock), .v (.slice oa w.pins.length ca), .v (.slice ob w.versions.length cb), .v (.slice oc w.listens.length cc), .v (.slice od w.counts.length cd), .v (.slice oe w.limbo.length ce)]], 10, g.w.heap.size⟩, fun k => k ≤ w.limbo.length ∧ (w.limbo.take k).all (limB w) = true, fun k => w.limbo.length - k, fun fr w' hw => ⟨0, rfl, ⟨Nat.zero_le _, by simp⟩, hw.fit (by simp [fitL, Res.eqv, concL, conc, mFold])⟩, ?_⟩
    rintro k ⟨hk, hp⟩
    repeat ((conv => whnf); first | apply qza | apply qzb | apply qzc | apply qzd | apply qze | intro (_ : Nat) | intro (_ : Option Addr) (_ : Nat))
    conv => whnf
    refine ⟨fun hlt => ?_, fun hlt => ?_⟩
    · have h' : k < w.limbo.length := by have := of_decide_eq_true hlt; omega
      obtain ⟨x, hx⟩ := getL_of h'
      obtain ⟨a, rfl, ec, hec, ⟨rfl, xr1, xr2⟩, hc⟩ := hR1 k x hx
      obtain ⟨x1, x2⟩ := List.getElem?_eq_some_iff.1 hx
      have hT : (w.limbo.take (k + 1)).all (limB w) = limB w x := by rw [all_take x1, hp, x2]; rfl
      have hF := mFold_take hx
      repeat ((conv => whnf); first | apply qza | apply qzb | apply qzc | apply qzd | apply qze | intro (_ : Nat) | intro (_ : Option Addr) (_ : Nat))
      conv => whnf
      refine ⟨a, rfl, ⟨by omega, by omega⟩, ?_⟩
      conv => whnf
      refine ⟨_, ⟨rfl, hc⟩, ?_⟩
      repeat ((conv => whnf); first | apply qza | apply qzb | apply qzc | apply qzd | apply qze | intro (_ : Nat) | intro (_ : Option Addr) (_ : Nat))
      conv => whnf
      refine ⟨fun y1 => ?_, fun y1 => ?_⟩
      · repeat ((conv => whnf); first | apply qza | apply qzb | apply qzc | apply qzd | apply qze | intro (_ : Nat) | intro (_ : Option Addr) (_ : Nat))
        conv => whnf
        intro g2 hg
        have y1' := of_decide_eq_true y1
        rw [wdB_f fun h => by have h4 := h.2.2.2.1; rw [all_false x1 (by rw [x2]; unfold limB; rw [decide_eq_false (by omega)]; rfl)] at h4; cases h4]
      have y1' := of_decide_eq_false y1
      repeat ((conv => whnf); first | apply qza | apply qzb | apply qzc | apply qzd | apply qze | intro (_ : Nat) | intro (_ : Option Addr) (_ : Nat))
      conv => whnf
      refine ⟨fun y2 => ?_, fun y2 => ?_⟩
      · repeat ((conv => whnf); first | apply qza | apply qzb | apply qzc | apply qzd | apply qze | intro (_ : Nat) | intro (_ : Option Addr) (_ : Nat))
        conv => whnf
        intro g2 hg
        have y2' := beqT y2
        rw [wdB_f fun h => by have h4 := h.2.2.2.1; rw [all_false x1 (by rw [x2]; unfold limB; rw [decide_eq_false (show ¬ x.version ≠ w.current by simpa using y2')]; simp)] at h4; cases h4]
      have y2' := beqF y2
      repeat ((conv => whnf); first | apply qza | apply qzb | apply qzc | apply qzd | apply qze | intro (_ : Nat) | intro (_ : Option Addr) (_ : Nat))
      conv => whnf
      refine ⟨fun y3 => ?_, fun y3 => ?_⟩
      · repeat ((conv => whnf); first | apply qza | apply qzb | apply qzc | apply qzd | apply qze | intro (_ : Nat) | intro (_ : Option Addr) (_ : Nat))
        conv => whnf
        intro g2 hg
        have y3' := of_decide_eq_true y3
        rw [wdB_f fun h => by have h4 := h.2.2.2.1; rw [all_false x1 (by rw [x2]; unfold limB; rw [decide_eq_false (show ¬ x.at_ ≤ w.epoch by omega)]; simp)] at h4; cases h4]
      have y3' := of_decide_eq_false y3
      repeat ((conv => whnf); first | apply qza | apply qzb | apply qzc | apply qzd | apply qze | intro (_ : Nat) | intro (_ : Option Addr) (_ : Nat))
      conv => whnf
      refine fun fr w' hw => ⟨k + 1, congrArg (fun z => [Value.int .i64 z]) (wr1 h' e1 e2).symm, ⟨h', by rw [hT]; unfold limB; rw [decide_eq_true (show x.version < w.versions.length by omega), decide_eq_true y2', decide_eq_true (show x.at_ ≤ w.epoch by omega)]; rfl⟩, dec h', hw.fit ?_⟩
      simp only [hF]
      simp [fitL, Res.eqv, concL, conc]
    have hkL := of_decide_eq_false hlt
    rw [List.take_of_length_le (by omega)] at hp
    obtain rfl : k = w.limbo.length := by omega
    have hlk := fun n => mFold_look (n := n) (limbo_uq k4) (Nat.le_refl w.limbo.length)
    rw [List.take_length] at hlk
    simp only [List.take_length]
    clear hlt hkL hk
    repeat ((conv => whnf); first | apply qza | apply qzb | apply qzc | apply qzd | apply qze | intro (_ : Nat) | intro (_ : Option Addr) (_ : Nat))
    conv => whnf
    refine ⟨Nat, fun k => [.v (.int .i64 k)], fun _ => ⟨g, [.mp 1 qm .i64 (mFold w.limbo), .blk 0 q0 ty_api_World [.v (.int .i64 w.epoch), .v (.int .i64 w.current), .v (.int .i64 w.lock), .v (.slice oa w.pins.length ca), .v (.slice ob w.versions.length cb), .v (.slice oc w.listens.length cc), .v (.slice od w.counts.length cd), .v (.slice oe w.limbo.length ce)]], 10, g.w.heap.size⟩, fun k => k ≤ w.versions.length ∧ AllK (verB w) w.versions k, fun k => w.versions.length - k, fun fr w' hw => ⟨0, rfl, ⟨Nat.zero_le _, AllK.zero _ _⟩, hw.fit (by simp [fitL, Res.eqv, concL, conc])⟩, ?_⟩
    rintro k ⟨hk, hq⟩
    repeat ((conv => whnf); first | apply qza | apply qzb | apply qzc | apply qzd | apply qze | intro (_ : Nat) | intro (_ : Option Addr) (_ : Nat))
    conv => whnf
    refine ⟨fun hlt => ?_, fun hlt => ?_⟩
    · have h' : k < w.versions.length := by have := of_decide_eq_true hlt; omega
      obtain ⟨x, hx⟩ := getL_of h'
      obtain ⟨a, rfl, ec, hec, hxv, hc⟩ := hV1 k x hx
      have hxv0 := hxv
      obtain ⟨va, vb, vd, vn, rfl, ⟨_, _, _, hee, ⟨oa', ca', rfl, _⟩, ⟨ob', cb', rfl, _⟩, ⟨od', cd', rfl, _⟩⟩, ⟨on', cn', rfl, _⟩⟩ := hxv
      cases hee
      repeat ((conv => whnf); first | apply qza | apply qzb | apply qzc | apply qzd | apply qze | intro (_ : Nat) | intro (_ : Option Addr) (_ : Nat))
      conv => whnf
      refine ⟨a, rfl, ⟨by omega, by omega⟩, ?_⟩
      conv => whnf
      refine ⟨_, ⟨rfl, hc⟩, ?_⟩
      repeat ((conv => whnf); first | apply qza | apply qzb | apply qzc | apply qzd | apply qze | intro (_ : Nat) | intro (_ : Option Addr) (_ : Nat))
      conv => whnf
      refine .inl ⟨_, ok_wVersion _ hxv0 (hsn x (List.mem_of_getElem? hx)), ?_⟩
      repeat ((conv => whnf); first | apply qza | apply qzb | apply qzc | apply qzd | apply qze | intro (_ : Nat) | intro (_ : Option Addr) (_ : Nat))
      conv => whnf
      refine ⟨fun y1 => ?_, fun y1 => ?_⟩
      · repeat ((conv => whnf); first | apply qza | apply qzb | apply qzc | apply qzd | apply qze | intro (_ : Nat) | intro (_ : Option Addr) (_ : Nat))
        conv => whnf
        intro g2 hg
        rw [wdB_f fun h => by have h4 := h.2.2.2.2.1; rw [allI_false hx (by unfold verB; rw [nb1 y1]; rfl)] at h4; cases h4]
      repeat ((conv => whnf); first | apply qza | apply qzb | apply qzc | apply qzd | apply qze | intro (_ : Nat) | intro (_ : Option Addr) (_ : Nat))
      rcases ho : mGet (k : Int) (mFold w.limbo) with _ | u
      · have hl0 := hlk (k : Int)
        rw [ho] at hl0
        simp only [lookV, Value.bool.injEq] at hl0
        conv => whnf
        refine ⟨none, rfl, ?_⟩
        repeat ((conv => whnf); first | apply qza | apply qzb | apply qzc | apply qzd | apply qze | intro (_ : Nat) | intro (_ : Option Addr) (_ : Nat))
        conv => whnf
        refine ⟨fun y2 => ?_, fun y2 => ?_⟩
        · repeat ((conv => whnf); first | apply qza | apply qzb | apply qzc | apply qzd | apply qze | intro (_ : Nat) | intro (_ : Option Addr) (_ : Nat))
          conv => whnf
          intro g2 hg
          rw [wdB_f fun h => by have h4 := h.2.2.2.2.1; rw [allI_false hx (by unfold verB; rw [nb0 y1, ← hl0]; simpa using y2)] at h4; cases h4]
        repeat ((conv => whnf); first | apply qza | apply qzb | apply qzc | apply qzd | apply qze | intro (_ : Nat) | intro (_ : Option Addr) (_ : Nat))
        conv => whnf
        refine fun fr w' hw => ⟨k + 1, congrArg (fun z => [Value.int .i64 z]) (wr1 h' b1 b2).symm, ⟨h', hq.succ hx (by unfold verB; rw [nb0 y1, ← hl0]; simpa using y2)⟩, dec h', ?_⟩
        exact hw.fit (by simp [fitL, Res.eqv, concL, conc])
      · have hl0 := hlk (k : Int)
        rw [ho] at hl0
        simp only [lookV] at hl0
        subst hl0
        conv => whnf
        refine ⟨_, rfl, ?_⟩
        repeat ((conv => whnf); first | apply qza | apply qzb | apply qzc | apply qzd | apply qze | intro (_ : Nat) | intro (_ : Option Addr) (_ : Nat))
        conv => whnf
        refine ⟨fun y2 => ?_, fun y2 => ?_⟩
        · repeat ((conv => whnf); first | apply qza | apply qzb | apply qzc | apply qzd | apply qze | intro (_ : Nat) | intro (_ : Option Addr) (_ : Nat))
          conv => whnf
          intro g2 hg
          rw [wdB_f fun h => by have h4 := h.2.2.2.2.1; rw [allI_false hx (by unfold verB; rw [nb0 y1]; simpa using y2)] at h4; cases h4]
        repeat ((conv => whnf); first | apply qza | apply qzb | apply qzc | apply qzd | apply qze | intro (_ : Nat) | intro (_ : Option Addr) (_ : Nat))
        conv => whnf
        refine fun fr w' hw => ⟨k + 1, congrArg (fun z => [Value.int .i64 z]) (wr1 h' b1 b2).symm, ⟨h', hq.succ hx (by unfold verB; rw [nb0 y1]; simpa using y2)⟩, dec h', ?_⟩
        exact hw.fit (by simp [fitL, Res.eqv, concL, conc])
    have hqD := hq.done (by have := of_decide_eq_false hlt; omega)
    clear hlt hk hq
    repeat ((conv => whnf); first | apply qza | apply qzb | apply qzc | apply qzd | apply qze | intro (_ : Nat) | intro (_ : Option Addr) (_ : Nat))
    conv => whnf
    refine ⟨Nat, fun k => [.v (.int .i64 k)], fun _ => ⟨g, [.mp 1 qm .i64 (mFold w.limbo), .blk 0 q0 ty_api_World [.v (.int .i64 w.epoch), .v (.int .i64 w.current), .v (.int .i64 w.lock), .v (.slice oa w.pins.length ca), .v (.slice ob w.versions.length cb), .v (.slice oc w.listens.length cc), .v (.slice od w.counts.length cd), .v (.slice oe w.limbo.length ce)]], 10, g.w.heap.size⟩, fun k => k ≤ w.listens.length ∧ AllK (listenB w.listens) w.listens k, fun k => w.listens.length - k, fun fr w' hw => ⟨0, rfl, ⟨Nat.zero_le _, AllK.zero _ _⟩, hw.fit (by simp [fitL, Res.eqv, concL, conc])⟩, ?_⟩
    rintro k ⟨hk, hq⟩
    repeat ((conv => whnf); first | apply qza | apply qzb | apply qzc | apply qzd | apply qze | intro (_ : Nat) | intro (_ : Option Addr) (_ : Nat))
    conv => whnf
    refine ⟨fun hlt => ?_, fun hlt => ?_⟩
    · have h' : k < w.listens.length := by have := of_decide_eq_true hlt; omega
      obtain ⟨x, hx⟩ := getL_of h'
      obtain ⟨a, rfl, ec, hec, ⟨rfl, hxa⟩, hc⟩ := hL1 k x hx
      repeat ((conv => whnf); first | apply qza | apply qzb | apply qzc | apply qzd | apply qze | intro (_ : Nat) | intro (_ : Option Addr) (_ : Nat))
      conv => whnf
      refine ⟨a, rfl, ⟨by omega, by omega⟩, ?_⟩
      conv => whnf
      refine ⟨_, ⟨rfl, hc⟩, ?_⟩
      repeat ((conv => whnf); first | apply qza | apply qzb | apply qzc | apply qzd | apply qze | intro (_ : Nat) | intro (_ : Option Addr) (_ : Nat))
      conv => whnf
      refine .inl ⟨_, ok_gIs _ (x := x) ⟨rfl, hxa⟩, ?_⟩
      repeat ((conv => whnf); first | apply qza | apply qzb | apply qzc | apply qzd | apply qze | intro (_ : Nat) | intro (_ : Option Addr) (_ : Nat))
      conv => whnf
      refine ⟨fun y1 => ?_, fun y1 => ?_⟩
      · repeat ((conv => whnf); first | apply qza | apply qzb | apply qzc | apply qzd | apply qze | intro (_ : Nat) | intro (_ : Option Addr) (_ : Nat))
        conv => whnf
        intro g2 hg
        rw [wdB_f fun h => by have h4 := h.2.2.2.2.2; rw [allI_false hx (by unfold listenB; rw [nb1 y1]; rfl)] at h4; cases h4]
      repeat ((conv => whnf); first | apply qza | apply qzb | apply qzc | apply qzd | apply qze | intro (_ : Nat) | intro (_ : Option Addr) (_ : Nat))
      conv => whnf
      refine .inl ⟨_, ok_gPlace _ hL _, ?_⟩
      repeat ((conv => whnf); first | apply qza | apply qzb | apply qzc | apply qzd | apply qze | intro (_ : Nat) | intro (_ : Option Addr) (_ : Nat))
      conv => whnf
      refine ⟨fun y2 => ?_, fun y2 => ?_⟩
      · repeat ((conv => whnf); first | apply qza | apply qzb | apply qzc | apply qzd | apply qze | intro (_ : Nat) | intro (_ : Option Addr) (_ : Nat))
        conv => whnf
        intro g2 hg
        rw [wdB_f fun h => by have h4 := h.2.2.2.2.2; rw [allI_false hx (by unfold listenB; rw [decide_eq_false (bneT y2)]; simp)] at h4; cases h4]
      repeat ((conv => whnf); first | apply qza | apply qzb | apply qzc | apply qzd | apply qze | intro (_ : Nat) | intro (_ : Option Addr) (_ : Nat))
      conv => whnf
      refine fun fr w' hw => ⟨k + 1, congrArg (fun z => [Value.int .i64 z]) (wr1 h' c1 c2).symm, ⟨h', hq.succ hx (by unfold listenB; rw [nb0 y1, decide_eq_true (bneF y2)]; rfl)⟩, dec h', ?_⟩
      exact hw.fit (by simp [fitL, Res.eqv, concL, conc])
    have hrD := hq.done (by have := of_decide_eq_false hlt; omega)
    repeat ((conv => whnf); first | apply qza | apply qzb | apply qzc | apply qzd | apply qze | intro (_ : Nat) | intro (_ : Option Addr) (_ : Nat))
    conv => whnf
    intro g2 hg
    rw [wdB_iff.2 ⟨k1, ⟨by omega, by omega⟩, k4, hp, hqD, hrD⟩])
end Go.Proofs.YtkkhdnddplkobaaGreat


/- Worlds: is one right? The document's answer. -/
namespace Go.Proofs.YtkkhdnddplkobaaGreat
open Go.Proofs.YtkkhdnddplkobaaGreat.Sx Go.RowKit
end Go.Proofs.YtkkhdnddplkobaaGreat


/- Slots: those of a new endpoint. -/
namespace Go.Proofs.YtkkhdnddplkobaaGreat
open Go.Proofs.YtkkhdnddplkobaaGreat.Sx Go.RowKit
def FreshP (n : Int) (v : Value) (g' : GW) : Prop :=
  ((1 ≤ n ∧ n ≤ 4) ∧ ∃ oa cap, v = .tuple #[.agg ⟨[.int .u64 1, .slice oa n.toNat cap, .int .i64 0]⟩, .int .i64 0] ∧ rSl 1 rInt g' (.slice oa n.toNat cap) (freshE n.toNat).next) ∨
  (¬ (1 ≤ n ∧ n ≤ 4) ∧ v = .tuple #[.agg ⟨[.int .u64 0, .slice none 0 0, .int .i64 0]⟩, .int .i64 1])
abbrev upE (k : Nat) : List (List Value) := (List.range k).map fun (i : Nat) => [Value.int .i64 ((i : Int) + 1)]
theorem upE_succ (k : Nat) : upE (k + 1) = upE k ++ [[Value.int .i64 ((k : Int) + 1)]] := by simp [upE, List.range_succ]
theorem upE_sz {k : Nat} : ∀ e ∈ upE k, e.length = 1 := fun e he => by
  obtain ⟨x, _, rfl⟩ := List.mem_map.1 he; rfl
theorem ok_Fresh (g : GW) {n : Int} : Ok Tryz.prog n_slots_Fresh [.int .i64 n] g (FreshP n) :=
  Ok.of_fn hm noT 0 t_slots_Fresh (args := [.v (.int .i64 n)]) (by
    repeat ((conv => whnf); first | apply qza | apply qzb | apply qzc | apply qzd | apply qze | intro (_ : Nat) | intro (_ : Option Addr) (_ : Nat))
    conv => whnf
    refine ⟨fun z1 => ?_, fun z1 => ?_⟩
    · repeat ((conv => whnf); first | apply qza | apply qzb | apply qzc | apply qzd | apply qze | intro (_ : Nat) | intro (_ : Option Addr) (_ : Nat))
      conv => whnf
      intro g2 hg
      exact .inr ⟨by have := of_decide_eq_true z1; omega, rfl⟩
    repeat ((conv => whnf); first | apply qza | apply qzb | apply qzc | apply qzd | apply qze | intro (_ : Nat) | intro (_ : Option Addr) (_ : Nat))
    conv => whnf
    refine ⟨fun z2 => ?_, fun z2 => ?_⟩
    · repeat ((conv => whnf); first | apply qza | apply qzb | apply qzc | apply qzd | apply qze | intro (_ : Nat) | intro (_ : Option Addr) (_ : Nat))
      conv => whnf
      intro g2 hg
      exact .inr ⟨by have := of_decide_eq_true z2; omega, rfl⟩
    have k1 := of_decide_eq_false z1
    have k2 := of_decide_eq_false z2
    obtain ⟨N, rfl⟩ := Int.eq_ofNat_of_zero_le (show 0 ≤ n by omega)
    repeat ((conv => whnf); first | apply qza | apply qzb | apply qzc | apply qzd | apply qze | intro (_ : Nat) | intro (_ : Option Addr) (_ : Nat))
    conv => whnf
    refine ⟨⟨by omega, by omega, by omega, by omega⟩, fun _ => ?_⟩
    repeat ((conv => whnf); first | apply qza | apply qzb | apply qzc | apply qzd | apply qze | intro (_ : Nat) | intro (_ : Option Addr) (_ : Nat))
    rename_i q0 q1 q2
    conv => whnf
    refine ⟨Nat, fun k => [.v (.int .i64 k)], fun k => ⟨g, [.blk 2 q2 ty_api_End [.v (.int .u64 0), .row 1 (some ⟨q1, 0, none⟩) N N, .v (.int .i64 0)], .row 1 (some ⟨q1, 0, none⟩) N N ty_int 1 (rowK (upE k) [.int .i64 0] (N - k)), .blk 0 q0 ty_api_End [.v (.int .u64 0), .v (.slice none 0 0), .v (.int .i64 0)]], 3, g.w.heap.size⟩, fun k => k ≤ N, fun k => N - k, fun fr w hw => ⟨0, rfl, Nat.zero_le _, hw.fit (by simp [fitL, Res.eqv, concL, conc, rowK, upE])⟩, ?_⟩
    intro k hk
    have hlen := rowK_len (m := N - k) (z := [.int .i64 0]) (upE_sz (k := k)) rfl
    have hul : (upE k).length = k := by simp [upE]
    repeat ((conv => whnf); first | apply qza | apply qzb | apply qzc | apply qzd | apply qze | intro (_ : Nat) | intro (_ : Option Addr) (_ : Nat))
    conv => whnf
    refine ⟨fun hlt => ?_, fun hlt => ?_⟩
    · have h' : k < N := by have := of_decide_eq_true hlt; omega
      have hset := rowK_set (m := N - k) (z := [.int .i64 0]) (upE_sz (k := k)) rfl (by omega) (ec := [.int .i64 ((k : Int) + 1)]) rfl hul.symm
      rw [← upE_succ] at hset
      repeat ((conv => whnf); first | apply qza | apply qzb | apply qzc | apply qzd | apply qze | intro (_ : Nat) | intro (_ : Option Addr) (_ : Nat))
      conv => whnf
      refine ⟨⟨by omega, by omega⟩, ?_⟩
      repeat ((conv => whnf); first | apply qza | apply qzb | apply qzc | apply qzd | apply qze | intro (_ : Nat) | intro (_ : Option Addr) (_ : Nat))
      conv => whnf
      refine ⟨⟨by rw [hlen, hul]; simp; omega, by decide⟩, ?_⟩
      repeat ((conv => whnf); first | apply qza | apply qzb | apply qzc | apply qzd | apply qze | intro (_ : Nat) | intro (_ : Option Addr) (_ : Nat))
      conv => whnf
      refine fun fr w hw => ⟨k + 1, congrArg (fun z => [Value.int .i64 z]) (by rw [wr (show InR ((k : Int) + 1) by unfold InR; omega)]; omega), h', dec h', hw.fit ?_⟩
      rw [show N - (k + 1) = N - k - 1 by omega, ← hset]
      simp [fitL, Res.eqv, concL, conc, wr (show InR ((k : Int) + 1) by unfold InR; omega)]
    have hkN : k = N := by have := of_decide_eq_false hlt; omega
    subst hkN
    rw [Nat.sub_self, hul] at hlen
    repeat ((conv => whnf); first | apply qza | apply qzb | apply qzc | apply qzd | apply qze | intro (_ : Nat) | intro (_ : Option Addr) (_ : Nat))
    conv => whnf
    refine ⟨⟨by rw [wr (by unfold InR; omega)]; omega, by rw [wr (by unfold InR; omega)]; omega⟩, ?_⟩
    repeat ((conv => whnf); first | apply qza | apply qzb | apply qzc | apply qzd | apply qze | intro (_ : Nat) | intro (_ : Option Addr) (_ : Nat))
    conv => whnf
    refine ⟨⟨by rw [Nat.sub_self, hlen, wr (by unfold InR; omega)]; simp; omega, by decide⟩, ?_⟩
    repeat ((conv => whnf); first | apply qza | apply qzb | apply qzc | apply qzd | apply qze | intro (_ : Nat) | intro (_ : Option Addr) (_ : Nat))
    conv => whnf
    refine .inl ⟨_, (ok_tMake _ (t := 0) (i := 0) (by decide) (by decide)).to (show _ = Value.tuple #[.int .u64 1, .int .i64 0] from rfl), ?_⟩
    repeat ((conv => whnf); first | apply qza | apply qzb | apply qzc | apply qzd | apply qze | intro (_ : Nat) | intro (_ : Option Addr) (_ : Nat))
    conv => whnf
    refine fun g1 hg1 hn1 hp1 => ?_
    repeat ((conv => whnf); first | apply qza | apply qzb | apply qzc | apply qzd | apply qze | intro (_ : Nat) | intro (_ : Option Addr) (_ : Nat))
    conv => whnf
    intro g2 hg
    refine .inl ⟨⟨by omega, by omega⟩, _, _, rfl, ?_⟩
    have hN : k = 1 ∨ k = 2 ∨ k = 3 ∨ k = 4 := by omega
    rcases hN with rfl | rfl | rfl | rfl
    all_goals exact (rSl_of1 hp1.rd (freshE _).next (fun x => .int .i64 x) rfl fun x hx => ⟨rfl, by simp [freshE, List.range, List.range.loop] at hx; unfold InR; omega⟩).mono rInt_mono hg)
theorem fresh_en {g : GW} {n : Int} {oa : Option Addr} {cap : Nat} (h : 1 ≤ n ∧ n ≤ 4) (hr : rSl 1 rInt g (.slice oa n.toNat cap) (freshE n.toNat).next) : rEn g [.int .u64 1, .slice oa n.toNat cap, .int .i64 0] (freshE n.toNat) :=
  ⟨⟨_, rfl, show InU 1 by decide, show InR 0 by decide, hr⟩, by simp [freshE]; omega⟩
end Go.Proofs.YtkkhdnddplkobaaGreat


/- Worlds: a snapshot's cells. -/
namespace Go.Proofs.YtkkhdnddplkobaaGreat
open Go.Proofs.YtkkhdnddplkobaaGreat.Sx Go.RowKit
def CellsP (s : Snap) (v : Value) (g' : GW) : Prop :=
  (checkE (confS s) = none ∧ ∃ a b d oa n cap, v = .tuple #[.agg ⟨[a, b, d, .slice oa n cap, .bool false]⟩, .int .i64 0] ∧ rVe g' [a, b, d, .slice oa n cap, .bool false] (cellsV s)) ∨
  (checkE (confS s) ≠ none ∧ v = .tuple #[.agg ⟨[.slice none 0 0, .slice none 0 0, .slice none 0 0, .slice none 0 0, .bool false]⟩, .int .i64 1])
theorem ok_Cells (g : GW) {cs : List Value} {s : Snap} (hs : rSnap g cs s) (hsz : s.rules.length ≤ 1000000) : Ok Tryz.prog n_world_Cells [.agg ⟨cs⟩] g (CellsP s) := by
  have hs0 := hs
  obtain ⟨a, b, d, rfl, hl, hr, hk⟩ := hs
  obtain ⟨oa, ca, rfl, a1, a2, a0, hl1⟩ := id hl
  obtain ⟨ob, cb, rfl, b1, b2, b0, hr1⟩ := id hr
  obtain ⟨od, cd, rfl, d1, d2, d0, hk1⟩ := id hk
  exact Ok.of_fn hm noT 0 t_world_Cells (args := [.v (.agg ⟨[.slice oa s.listens.length ca, .slice ob s.rules.length cb, .slice od s.clusters.length cd]⟩)]) (by
    repeat ((conv => whnf); first | apply qza | apply qzb | apply qzc | apply qzd | apply qze | intro (_ : Nat) | intro (_ : Option Addr) (_ : Nat))
    conv => whnf
    refine .inl ⟨_, ok_sIs _ hs0 hsz, ?_⟩
    repeat ((conv => whnf); first | apply qza | apply qzb | apply qzc | apply qzd | apply qze | intro (_ : Nat) | intro (_ : Option Addr) (_ : Nat))
    conv => whnf
    refine ⟨fun z1 => ?_, fun z1 => ?_⟩
    · repeat ((conv => whnf); first | apply qza | apply qzb | apply qzc | apply qzd | apply qze | intro (_ : Nat) | intro (_ : Option Addr) (_ : Nat))
      conv => whnf
      intro g2 hg
      refine .inr ⟨fun h => ?_, rfl⟩
      rw [eqB_t h] at z1; cases z1
    have hz := eqB_iff.1 (nb0 z1)
    have G := good_iff.1 hz
    have hclL : s.clusters.length ≤ 4 := G.size.2.2.2
    have hcl : ∀ x ∈ s.clusters, (1 ≤ x.slots ∧ x.slots ≤ 4) ∧ (1 ≤ x.health.length ∧ x.health.length ≤ 4) := fun x hx => (G.cl x hx).2.2
    repeat ((conv => whnf); first | apply qza | apply qzb | apply qzc | apply qzd | apply qze | intro (_ : Nat) | intro (_ : Option Addr) (_ : Nat))
    rename_i q0 q1 q2
    conv => whnf
    refine ⟨Nat × List (List Value) × Option Addr × Nat × GW, fun (k, _, _, _, _) => [.v (.int .i64 k)], fun (k, ecs, oX, cX, g') => ⟨g', [.row 10 oX k cX ty_api_Group 2 ecs.flatten, .blk 2 q2 ty_api_Version [.v (.slice oa s.listens.length ca), .v (.slice ob s.rules.length cb), .v (.slice od s.clusters.length cd), .row 10 oX k cX, .v (.bool false)], .blk 1 q1 ty_api_Version [.v (.slice none 0 0), .v (.slice none 0 0), .v (.slice none 0 0), .v (.slice none 0 0), .v (.bool false)], .blk 0 q0 ty_api_Snap [.v (.slice oa s.listens.length ca), .v (.slice ob s.rules.length cb), .v (.slice od s.clusters.length cd)]], 20, g.w.heap.size⟩, fun (k, ecs, _, _, g') => k ≤ s.clusters.length ∧ g ≤ g' ∧ rEls 2 rGr g' ecs ((s.clusters.take k).map fun c => (⟨0, c.health.map fun _ => freshE c.slots.toNat⟩ : Group)), fun (k, _, _, _, _) => s.clusters.length - k, fun fr w hw => ⟨(0, [], none, 0, g), rfl, ⟨Nat.zero_le _, GW.refl _, rEls_nil _⟩, (hw.nil_row (nx' := 20) 10 ty_api_Group 2).fit (by simp [fitL, Res.eqv, concL, conc])⟩, ?_⟩
    rintro ⟨k, ecs, oX, cX, g'⟩ ⟨hkk, hgg, hE⟩
    repeat ((conv => whnf); first | apply qza | apply qzb | apply qzc | apply qzd | apply qze | intro (_ : Nat) | intro (_ : Option Addr) (_ : Nat))
    conv => whnf
    refine ⟨fun hlt => ?_, fun hlt => ?_⟩
    · have h' : k < s.clusters.length := by have := of_decide_eq_true hlt; omega
      obtain ⟨x, hx⟩ := getL_of h'
      obtain ⟨x1, x2⟩ := List.getElem?_eq_some_iff.1 hx
      have hxc := hcl x (List.mem_of_getElem? hx)
      obtain ⟨a, rfl, ec, hec, ⟨hv, rfl, _, _, ⟨oh, ch, rfl, t1, t2, _⟩⟩, hc⟩ := hk1 k x hx
      repeat ((conv => whnf); first | apply qza | apply qzb | apply qzc | apply qzd | apply qze | intro (_ : Nat) | intro (_ : Option Addr) (_ : Nat))
      conv => whnf
      refine ⟨a, rfl, ⟨by omega, by omega⟩, ?_⟩
      conv => whnf
      refine ⟨_, ⟨rfl, hc.mono hgg⟩, ?_⟩
      repeat ((conv => whnf); first | apply qza | apply qzb | apply qzc | apply qzd | apply qze | intro (_ : Nat) | intro (_ : Option Addr) (_ : Nat))
      rename_i qc qg
      conv => whnf
      refine ⟨Nat × List (List Value) × Option Addr × Nat × GW, fun (n, _, _, _, _) => [.v (.int .i64 n)], fun (n, ecs2, oE, cE, g2) => ⟨g2, [.row 30 oE n cE ty_api_End 3 ecs2.flatten, .blk 21 qg ty_api_Group [.v (.int .u64 0), .row 30 oE n cE], .blk 20 qc ty_api_Cluster [.v (.string x.name), .v (.int .i64 x.policy), .v (.int .i64 x.slots), .v (.slice oh x.health.length ch)], .row 10 oX k cX ty_api_Group 2 ecs.flatten, .blk 2 q2 ty_api_Version [.v (.slice oa s.listens.length ca), .v (.slice ob s.rules.length cb), .v (.slice (some a) s.clusters.length cd), .row 10 oX k cX, .v (.bool false)], .blk 1 q1 ty_api_Version [.v (.slice none 0 0), .v (.slice none 0 0), .v (.slice none 0 0), .v (.slice none 0 0), .v (.bool false)], .blk 0 q0 ty_api_Snap [.v (.slice oa s.listens.length ca), .v (.slice ob s.rules.length cb), .v (.slice (some a) s.clusters.length cd)]], 40, g.w.heap.size⟩, fun (n, ecs2, _, _, g2) => n ≤ x.health.length ∧ g' ≤ g2 ∧ rEls 3 rEn g2 ecs2 ((x.health.take n).map fun _ => freshE x.slots.toNat), fun (n, _, _, _, _) => x.health.length - n, fun fr w hw => ⟨(0, [], none, 0, g'), rfl, ⟨Nat.zero_le _, GW.refl _, rEls_nil _⟩, (hw.nil_row (nx' := 40) 30 ty_api_End 3).fit (by simp [fitL, Res.eqv, concL, conc])⟩, ?_⟩
      rintro ⟨n, ecs2, oE, cE, g2⟩ ⟨hn, hg2, hE2⟩
      repeat ((conv => whnf); first | apply qza | apply qzb | apply qzc | apply qzd | apply qze | intro (_ : Nat) | intro (_ : Option Addr) (_ : Nat))
      conv => whnf
      refine ⟨fun hln => ?_, fun hln => ?_⟩
      · have h2 : n < x.health.length := by have := of_decide_eq_true hln; omega
        repeat ((conv => whnf); first | apply qza | apply qzb | apply qzc | apply qzd | apply qze | intro (_ : Nat) | intro (_ : Option Addr) (_ : Nat))
        refine .inr ((ok_Fresh _).mono fun v g3 hg3 hF => ?_)
        rcases hF with ⟨_, oF, cF, rfl, hF⟩ | ⟨hF, _⟩
        rotate_left
        · exact absurd hxc.1 hF
        have hEn := fresh_en hxc.1 hF
        have hT : ((x.health.take (n + 1)).map fun _ => freshE x.slots.toNat) = ((x.health.take n).map fun _ => freshE x.slots.toNat) ++ [freshE x.slots.toNat] := by
          rw [List.take_succ_eq_append_getElem h2, List.map_append]; rfl
        repeat ((conv => whnf); first | apply qza | apply qzb | apply qzc | apply qzd | apply qze | intro (_ : Nat) | intro (_ : Option Addr) (_ : Nat))
        conv => whnf
        refine ⟨fun h => (nomatch h), fun _ => ?_⟩
        repeat ((conv => whnf); first | apply qza | apply qzb | apply qzc | apply qzd | apply qze | intro (_ : Nat) | intro (_ : Option Addr) (_ : Nat))
        conv => whnf
        refine ⟨⟨by unfold maxLen; omega, by omega⟩, fun oa2 cap2 => ?_⟩
        repeat ((conv => whnf); first | apply qza | apply qzb | apply qzc | apply qzd | apply qze | intro (_ : Nat) | intro (_ : Option Addr) (_ : Nat))
        conv => whnf
        refine fun fr w hw => ⟨(n + 1, ecs2 ++ [[.int .u64 1, .slice oF x.slots.toNat cF, .int .i64 0]], oa2, cap2, g3), congrArg (fun z => [Value.int .i64 z]) (wr1 h2 t1 t2).symm, ⟨h2, GW.trans hg2 hg3, by rw [hT]; exact rEls_snoc (rEls_up rEn_mono hg3 hE2) rfl hEn⟩, dec h2, hw.fit (by simp [fitL, Res.eqv, concL, conc])⟩
      have hnL : n = x.health.length := by have := of_decide_eq_false hln; omega
      subst hnL
      rw [List.take_length] at hE2
      have hT : ((s.clusters.take (k + 1)).map fun c => (⟨0, c.health.map fun _ => freshE c.slots.toNat⟩ : Group)) = ((s.clusters.take k).map fun c => (⟨0, c.health.map fun _ => freshE c.slots.toNat⟩ : Group)) ++ [⟨0, x.health.map fun _ => freshE x.slots.toNat⟩] := by
        rw [List.take_succ_eq_append_getElem x1, List.map_append, x2]; rfl
      repeat ((conv => whnf); first | apply qza | apply qzb | apply qzc | apply qzd | apply qze | intro (_ : Nat) | intro (_ : Option Addr) (_ : Nat))
      conv => whnf
      refine fun g3 hg3 hn3 hp3 => ?_
      have hSl := rEls_sl (rEls_up rEn_mono hg3 hE2) hp3 (by simp)
      repeat ((conv => whnf); first | apply qza | apply qzb | apply qzc | apply qzd | apply qze | intro (_ : Nat) | intro (_ : Option Addr) (_ : Nat))
      conv => whnf
      refine ⟨⟨by unfold maxLen; omega, by omega⟩, fun oa2 cap2 => ?_⟩
      repeat ((conv => whnf); first | apply qza | apply qzb | apply qzc | apply qzd | apply qze | intro (_ : Nat) | intro (_ : Option Addr) (_ : Nat))
      conv => whnf
      refine fun fr w hw => ⟨(k + 1, ecs ++ [[.int .u64 0, .slice oE x.health.length cE]], oa2, cap2, g3), congrArg (fun z => [Value.int .i64 z]) (wr1 h' d1 d2).symm, ⟨h', GW.trans hgg (GW.trans hg2 hg3), by rw [hT]; exact rEls_snoc (rEls_up rGr_mono (GW.trans hg2 hg3) hE) rfl ⟨_, rfl, show InU 0 by decide, hSl⟩⟩, dec h', hw.fit (by simp [fitL, Res.eqv, concL, conc])⟩
    have hkL : k = s.clusters.length := by have := of_decide_eq_false hlt; omega
    subst hkL
    rw [List.take_length] at hE
    repeat ((conv => whnf); first | apply qza | apply qzb | apply qzc | apply qzd | apply qze | intro (_ : Nat) | intro (_ : Option Addr) (_ : Nat))
    conv => whnf
    refine fun g3 hg3 hn3 hp3 => ?_
    have hSl := rEls_sl (rEls_up rGr_mono hg3 hE) hp3 (by simp)
    repeat ((conv => whnf); first | apply qza | apply qzb | apply qzc | apply qzd | apply qze | intro (_ : Nat) | intro (_ : Option Addr) (_ : Nat))
    conv => whnf
    intro g2 hg
    exact .inl ⟨hz, _, _, _, _, _, _, rfl, ⟨_, _, _, _, rfl, rSnap_mono _ _ _ _ (GW.trans hgg (GW.trans hg3 hg)) hs0, hSl.mono rGr_mono hg⟩⟩)
end Go.Proofs.YtkkhdnddplkobaaGreat


/- Worlds: counts of a new world. -/
namespace Go.Proofs.YtkkhdnddplkobaaGreat
open Go.Proofs.YtkkhdnddplkobaaGreat.Sx Go.RowKit
def ShardP (n : Int) (v : Value) (g' : GW) : Prop :=
  ((1 ≤ n ∧ n ≤ 8) ∧ ∃ oa cap, v = .tuple #[.slice oa n.toNat cap, .int .i64 0] ∧ rSl 1 rRow g' (.slice oa n.toNat cap) (zCounts n.toNat)) ∨
  (¬ (1 ≤ n ∧ n ≤ 8) ∧ v = .tuple #[.slice none 0 0, .int .i64 1])
theorem ok_ShardNew (g : GW) {n : Int} : Ok Tryz.prog n_shard_New [.int .i64 n] g (ShardP n) :=
  Ok.of_fn hm noT 0 t_shard_New (args := [.v (.int .i64 n)]) (by
    repeat ((conv => whnf); first | apply qza | apply qzb | apply qzc | apply qzd | apply qze | intro (_ : Nat) | intro (_ : Option Addr) (_ : Nat))
    conv => whnf
    refine ⟨fun z1 => ?_, fun z1 => ?_⟩
    · repeat ((conv => whnf); first | apply qza | apply qzb | apply qzc | apply qzd | apply qze | intro (_ : Nat) | intro (_ : Option Addr) (_ : Nat))
      conv => whnf
      intro g2 hg
      exact .inr ⟨by have := of_decide_eq_true z1; omega, rfl⟩
    repeat ((conv => whnf); first | apply qza | apply qzb | apply qzc | apply qzd | apply qze | intro (_ : Nat) | intro (_ : Option Addr) (_ : Nat))
    conv => whnf
    refine ⟨fun z2 => ?_, fun z2 => ?_⟩
    · repeat ((conv => whnf); first | apply qza | apply qzb | apply qzc | apply qzd | apply qze | intro (_ : Nat) | intro (_ : Option Addr) (_ : Nat))
      conv => whnf
      intro g2 hg
      exact .inr ⟨by have := of_decide_eq_true z2; omega, rfl⟩
    have k1 := of_decide_eq_false z1
    have k2 := of_decide_eq_false z2
    obtain ⟨N, rfl⟩ := Int.eq_ofNat_of_zero_le (show 0 ≤ n by omega)
    repeat ((conv => whnf); first | apply qza | apply qzb | apply qzc | apply qzd | apply qze | intro (_ : Nat) | intro (_ : Option Addr) (_ : Nat))
    conv => whnf
    refine ⟨⟨by omega, by omega, by omega, by omega⟩, fun _ => ?_⟩
    repeat ((conv => whnf); first | apply qza | apply qzb | apply qzc | apply qzd | apply qze | intro (_ : Nat) | intro (_ : Option Addr) (_ : Nat))
    rename_i q1
    conv => whnf
    refine ⟨Nat × List (List Value) × GW, fun (k, _, _) => [.v (.int .i64 k)], fun (k, ecs, g') => ⟨g', [.row 0 (some ⟨q1, 0, none⟩) N N ty_sl_uint64 1 (rowK ecs [.slice none 0 0] (N - k))], 10, g.w.heap.size⟩, fun (k, ecs, g') => k ≤ N ∧ g ≤ g' ∧ rEls 1 rRow g' ecs (zCounts k), fun (k, _, _) => N - k, fun fr w hw => ⟨(0, [], g), rfl, ⟨Nat.zero_le _, GW.refl _, rEls_nil _⟩, hw.fit (by simp [fitL, Res.eqv, concL, conc, rowK])⟩, ?_⟩
    rintro ⟨k, ecs, g'⟩ ⟨hk, hgg, hE⟩
    have hel : ecs.length = k := by have := hE.1.1; simpa [zCounts] using this
    have hlen := rowK_len (m := N - k) (z := [.slice none 0 0]) hE.1.2 rfl
    repeat ((conv => whnf); first | apply qza | apply qzb | apply qzc | apply qzd | apply qze | intro (_ : Nat) | intro (_ : Option Addr) (_ : Nat))
    conv => whnf
    refine ⟨fun hlt => ?_, fun hlt => ?_⟩
    · have h' : k < N := by have := of_decide_eq_true hlt; omega
      repeat ((conv => whnf); first | apply qza | apply qzb | apply qzc | apply qzd | apply qze | intro (_ : Nat) | intro (_ : Option Addr) (_ : Nat))
      conv => whnf
      refine ⟨⟨by decide, by decide, by decide, by decide⟩, fun _ => ?_⟩
      repeat ((conv => whnf); first | apply qza | apply qzb | apply qzc | apply qzd | apply qze | intro (_ : Nat) | intro (_ : Option Addr) (_ : Nat))
      conv => whnf
      refine ⟨⟨by omega, by omega⟩, ?_⟩
      repeat ((conv => whnf); first | apply qza | apply qzb | apply qzc | apply qzd | apply qze | intro (_ : Nat) | intro (_ : Option Addr) (_ : Nat))
      rename_i q2
      conv => whnf
      refine fun g2 hg2 hn2 hp2 => ?_
      have hrow : rSl 1 rU64 g2 (.slice (some ⟨q2, 0, none⟩) 6 6) [0, 0, 0, 0, 0, 0] := rSl_of1 hp2.rd [0, 0, 0, 0, 0, 0] (fun x => .int .u64 x) rfl fun x hx => ⟨rfl, by simp at hx; subst hx; decide⟩
      have hset := rowK_set (m := N - k) (z := [.slice none 0 0]) hE.1.2 rfl (by omega) (ec := [.slice (some ⟨q2, 0, none⟩) 6 6]) rfl hel.symm
      have hT : zCounts (k + 1) = zCounts k ++ [[0, 0, 0, 0, 0, 0]] := by simp [zCounts, List.range_succ]
      repeat ((conv => whnf); first | apply qza | apply qzb | apply qzc | apply qzd | apply qze | intro (_ : Nat) | intro (_ : Option Addr) (_ : Nat))
      conv => whnf
      refine ⟨⟨by rw [hlen, hel]; simp; omega, by decide⟩, ?_⟩
      repeat ((conv => whnf); first | apply qza | apply qzb | apply qzc | apply qzd | apply qze | intro (_ : Nat) | intro (_ : Option Addr) (_ : Nat))
      conv => whnf
      refine fun fr w hw => ⟨(k + 1, ecs ++ [[.slice (some ⟨q2, 0, none⟩) 6 6]], g2), congrArg (fun z => [Value.int .i64 z]) (by rw [wr (show InR ((k : Int) + 1) by unfold InR; omega)]; omega), ⟨h', GW.trans hgg hg2, by rw [hT]; exact rEls_snoc (rEls_up rRow_mono hg2 hE) rfl ⟨_, rfl, hrow⟩⟩, dec h', hw.fit ?_⟩
      rw [show N - (k + 1) = N - k - 1 by omega, ← hset]
      simp [fitL, Res.eqv, concL, conc]
    have hkN : k = N := by have := of_decide_eq_false hlt; omega
    subst hkN
    repeat ((conv => whnf); first | apply qza | apply qzb | apply qzc | apply qzd | apply qze | intro (_ : Nat) | intro (_ : Option Addr) (_ : Nat))
    conv => whnf
    refine fun g2 hg2 hn2 hp2 => ?_
    rw [Nat.sub_self, rowK_done] at hp2
    have hSl := rEls_sl (rEls_up rRow_mono hg2 hE) hp2 (by simp [zCounts])
    repeat ((conv => whnf); first | apply qza | apply qzb | apply qzc | apply qzd | apply qze | intro (_ : Nat) | intro (_ : Option Addr) (_ : Nat))
    conv => whnf
    intro g2 hg
    exact .inl ⟨⟨by omega, by omega⟩, _, _, rfl, hSl.mono rRow_mono hg⟩)
end Go.Proofs.YtkkhdnddplkobaaGreat


/- Worlds: what is cloned: rows. -/
namespace Go.Proofs.YtkkhdnddplkobaaGreat
open Go.Proofs.YtkkhdnddplkobaaGreat.Sx Go.RowKit
abbrev wT : WTy := ⟨ty_int, ty_api_End, ty_api_Group, ty_api_Version, ty_api_Listen, ty_uint64, ty_sl_uint64, ty_api_Retired⟩
abbrev cI1 (x : Int) : List Value := [.int .i64 x]
abbrev cU1 (x : Int) : List Value := [.int .u64 x]
abbrev cLi (x : Listen) : List Value := [.string x.name, .bool x.drain, .int .i64 x.active, .bool x.closed]
abbrev cRe (x : Retired) : List Value := [.int .i64 x.version, .int .i64 x.at_, .bool x.gone]
theorem oneF' {α : Type} {l : List α} {f : α → List Value} (h : ∀ x ∈ l, (f x).all Value.oneCell' = true) : ∀ u ∈ (l.map f).flatten, u.oneCell' = true := oneF h
theorem ok_cInt (g0 g : GW) (h0 : g0 ≤ g) {v : Value} {l : List Int} (hl : rSl 1 rInt g v l) (hlen : l.length ≤ 17592186044416) : Ok Tryz.prog n_slices_Clone___int_int [v] g fun v' g' => oSl ty_int 1 (oLf rInt) g' g0.w.heap.size (NEW g g') v' l := by
  obtain ⟨oa, ca, rfl, a1, a2, a0, hr⟩ := id hl
  have hR : ∀ x ∈ l, InR x := fun x hx => by
    obtain ⟨i, hi⟩ := List.getElem?_of_mem hx
    obtain ⟨_, _, _, _, ⟨_, h⟩, _⟩ := hr i x hi
    exact h
  have hrd := rSl_rd hl cI1 fun _ _ h => h.1
  exact Ok.of_fn hm noT 0 t_slices_Clone___int_int (args := [.v (.slice oa l.length ca)]) (by
    cases oa with
    | none =>
      repeat ((conv => whnf); first | apply qza | apply qzb | apply qzc | apply qzd | apply qze | intro (_ : Nat) | intro (_ : Option Addr) (_ : Nat))
      conv => whnf
      refine ⟨fun _ => ?_, fun h => nomatch h⟩
      repeat ((conv => whnf); first | apply qza | apply qzb | apply qzc | apply qzd | apply qze | intro (_ : Nat) | intro (_ : Option Addr) (_ : Nat))
      conv => whnf
      intro g2 hg
      exact .inl ⟨List.length_eq_zero_iff.1 (a0 rfl).1, none, rfl⟩
    | some a =>
      repeat ((conv => whnf); first | apply qza | apply qzb | apply qzc | apply qzd | apply qze | intro (_ : Nat) | intro (_ : Option Addr) (_ : Nat))
      conv => whnf
      refine ⟨fun h => (nomatch h), fun _ => ?_⟩
      repeat ((conv => whnf); first | apply qza | apply qzb | apply qzc | apply qzd | apply qze | intro (_ : Nat) | intro (_ : Option Addr) (_ : Nat))
      conv => whnf
      refine ⟨⟨rfl, rfl, rfl, rfl, Nat.zero_le _⟩, ?_⟩
      conv => whnf
      refine ⟨_, ⟨hrd, oneF' fun _ _ => rfl⟩, ?_⟩
      repeat ((conv => whnf); first | apply qza | apply qzb | apply qzc | apply qzd | apply qze | intro (_ : Nat) | intro (_ : Option Addr) (_ : Nat))
      conv => whnf
      refine ⟨⟨by unfold maxLen; omega, by omega⟩, fun oa2 cap2 => ?_⟩
      repeat ((conv => whnf); first | apply qza | apply qzb | apply qzc | apply qzd | apply qze | intro (_ : Nat) | intro (_ : Option Addr) (_ : Nat))
      conv => whnf
      refine fun g1 hg1 hn1 hp1 => ?_
      conv => whnf
      intro g2 hg
      simp only [Nat.zero_add, List.nil_append] at hp1
      have hE := oEls_leaf (sz := 1) (r := rInt) g g g0.w.heap.size cI1 l fun x hx => ⟨rfl, rfl, hR x hx⟩
      have := oSl_up (oLf_fr rInt_any) hg (oEls_sl (oLf_fr rInt_any) hE (GW.refl _) hg1 (hp1.lo_le h0.1) rfl hn1)
      rwa [Nat.zero_add])
theorem ok_cU (g0 g : GW) (h0 : g0 ≤ g) {v : Value} {l : List Int} (hl : rSl 1 rU64 g v l) (hlen : l.length ≤ 17592186044416) : Ok Tryz.prog n_slices_Clone___uint64_uint64 [v] g fun v' g' => oSl ty_uint64 1 (oLf rU64) g' g0.w.heap.size (NEW g g') v' l := by
  obtain ⟨oa, ca, rfl, a1, a2, a0, hr⟩ := id hl
  have hR : ∀ x ∈ l, InU x := fun x hx => by
    obtain ⟨i, hi⟩ := List.getElem?_of_mem hx
    obtain ⟨_, _, _, _, ⟨_, h⟩, _⟩ := hr i x hi
    exact h
  have hrd := rSl_rd hl cU1 fun _ _ h => h.1
  exact Ok.of_fn hm noT 0 t_slices_Clone___uint64_uint64 (args := [.v (.slice oa l.length ca)]) (by
    cases oa with
    | none =>
      repeat ((conv => whnf); first | apply qza | apply qzb | apply qzc | apply qzd | apply qze | intro (_ : Nat) | intro (_ : Option Addr) (_ : Nat))
      conv => whnf
      refine ⟨fun _ => ?_, fun h => nomatch h⟩
      repeat ((conv => whnf); first | apply qza | apply qzb | apply qzc | apply qzd | apply qze | intro (_ : Nat) | intro (_ : Option Addr) (_ : Nat))
      conv => whnf
      intro g2 hg
      exact .inl ⟨List.length_eq_zero_iff.1 (a0 rfl).1, none, rfl⟩
    | some a =>
      repeat ((conv => whnf); first | apply qza | apply qzb | apply qzc | apply qzd | apply qze | intro (_ : Nat) | intro (_ : Option Addr) (_ : Nat))
      conv => whnf
      refine ⟨fun h => (nomatch h), fun _ => ?_⟩
      repeat ((conv => whnf); first | apply qza | apply qzb | apply qzc | apply qzd | apply qze | intro (_ : Nat) | intro (_ : Option Addr) (_ : Nat))
      conv => whnf
      refine ⟨⟨rfl, rfl, rfl, rfl, Nat.zero_le _⟩, ?_⟩
      conv => whnf
      refine ⟨_, ⟨hrd, oneF' fun _ _ => rfl⟩, ?_⟩
      repeat ((conv => whnf); first | apply qza | apply qzb | apply qzc | apply qzd | apply qze | intro (_ : Nat) | intro (_ : Option Addr) (_ : Nat))
      conv => whnf
      refine ⟨⟨by unfold maxLen; omega, by omega⟩, fun oa2 cap2 => ?_⟩
      repeat ((conv => whnf); first | apply qza | apply qzb | apply qzc | apply qzd | apply qze | intro (_ : Nat) | intro (_ : Option Addr) (_ : Nat))
      conv => whnf
      refine fun g1 hg1 hn1 hp1 => ?_
      conv => whnf
      intro g2 hg
      simp only [Nat.zero_add, List.nil_append] at hp1
      have hE := oEls_leaf (sz := 1) (r := rU64) g g g0.w.heap.size cU1 l fun x hx => ⟨rfl, rfl, hR x hx⟩
      have := oSl_up (oLf_fr rU64_any) hg (oEls_sl (oLf_fr rU64_any) hE (GW.refl _) hg1 (hp1.lo_le h0.1) rfl hn1)
      rwa [Nat.zero_add])
theorem ok_cLi (g0 g : GW) (h0 : g0 ≤ g) {v : Value} {l : List Listen} (hl : rSl 4 rListen g v l) (hlen : l.length ≤ 1000000) : Ok Tryz.prog n_slices_Clone___api_Listen_api_Listen [v] g fun v' g' => oSl ty_api_Listen 4 (oLf rListen) g' g0.w.heap.size (NEW g g') v' l := by
  obtain ⟨oa, ca, rfl, a1, a2, a0, hr⟩ := id hl
  have hR : ∀ x ∈ l, InR x.active := fun x hx => by
    obtain ⟨i, hi⟩ := List.getElem?_of_mem hx
    obtain ⟨_, _, _, _, ⟨_, h⟩, _⟩ := hr i x hi
    exact h
  have hrd := rSl_rd hl cLi fun _ _ h => h.1
  exact Ok.of_fn hm noT 0 t_slices_Clone___api_Listen_api_Listen (args := [.v (.slice oa l.length ca)]) (by
    cases oa with
    | none =>
      repeat ((conv => whnf); first | apply qza | apply qzb | apply qzc | apply qzd | apply qze | intro (_ : Nat) | intro (_ : Option Addr) (_ : Nat))
      conv => whnf
      refine ⟨fun _ => ?_, fun h => nomatch h⟩
      repeat ((conv => whnf); first | apply qza | apply qzb | apply qzc | apply qzd | apply qze | intro (_ : Nat) | intro (_ : Option Addr) (_ : Nat))
      conv => whnf
      intro g2 hg
      exact .inl ⟨List.length_eq_zero_iff.1 (a0 rfl).1, none, rfl⟩
    | some a =>
      repeat ((conv => whnf); first | apply qza | apply qzb | apply qzc | apply qzd | apply qze | intro (_ : Nat) | intro (_ : Option Addr) (_ : Nat))
      conv => whnf
      refine ⟨fun h => (nomatch h), fun _ => ?_⟩
      repeat ((conv => whnf); first | apply qza | apply qzb | apply qzc | apply qzd | apply qze | intro (_ : Nat) | intro (_ : Option Addr) (_ : Nat))
      conv => whnf
      refine ⟨⟨rfl, rfl, rfl, rfl, Nat.zero_le _⟩, ?_⟩
      conv => whnf
      refine ⟨_, ⟨hrd, oneF' fun _ _ => rfl⟩, ?_⟩
      repeat ((conv => whnf); first | apply qza | apply qzb | apply qzc | apply qzd | apply qze | intro (_ : Nat) | intro (_ : Option Addr) (_ : Nat))
      conv => whnf
      refine ⟨⟨by unfold maxLen; omega, by omega⟩, fun oa2 cap2 => ?_⟩
      repeat ((conv => whnf); first | apply qza | apply qzb | apply qzc | apply qzd | apply qze | intro (_ : Nat) | intro (_ : Option Addr) (_ : Nat))
      conv => whnf
      refine fun g1 hg1 hn1 hp1 => ?_
      conv => whnf
      intro g2 hg
      simp only [Nat.zero_add, List.nil_append] at hp1
      have hE := oEls_leaf (sz := 4) (r := rListen) g g g0.w.heap.size cLi l fun x hx => ⟨rfl, rfl, hR x hx⟩
      have := oSl_up (oLf_fr rListen_any) hg (oEls_sl (oLf_fr rListen_any) hE (GW.refl _) hg1 (hp1.lo_le h0.1) rfl hn1)
      rwa [Nat.zero_add])
theorem ok_cRe (g0 g : GW) (h0 : g0 ≤ g) {v : Value} {l : List Retired} (hl : rSl 3 rRetired g v l) (hlen : l.length ≤ 1000000) : Ok Tryz.prog n_slices_Clone___api_Retired_api_Retired [v] g fun v' g' => oSl ty_api_Retired 3 (oLf rRetired) g' g0.w.heap.size (NEW g g') v' l := by
  obtain ⟨oa, ca, rfl, a1, a2, a0, hr⟩ := id hl
  have hR : ∀ x ∈ l, InR x.version ∧ InR x.at_ := fun x hx => by
    obtain ⟨i, hi⟩ := List.getElem?_of_mem hx
    obtain ⟨_, _, _, _, ⟨_, h⟩, _⟩ := hr i x hi
    exact h
  have hrd := rSl_rd hl cRe fun _ _ h => h.1
  exact Ok.of_fn hm noT 0 t_slices_Clone___api_Retired_api_Retired (args := [.v (.slice oa l.length ca)]) (by
    cases oa with
    | none =>
      repeat ((conv => whnf); first | apply qza | apply qzb | apply qzc | apply qzd | apply qze | intro (_ : Nat) | intro (_ : Option Addr) (_ : Nat))
      conv => whnf
      refine ⟨fun _ => ?_, fun h => nomatch h⟩
      repeat ((conv => whnf); first | apply qza | apply qzb | apply qzc | apply qzd | apply qze | intro (_ : Nat) | intro (_ : Option Addr) (_ : Nat))
      conv => whnf
      intro g2 hg
      exact .inl ⟨List.length_eq_zero_iff.1 (a0 rfl).1, none, rfl⟩
    | some a =>
      repeat ((conv => whnf); first | apply qza | apply qzb | apply qzc | apply qzd | apply qze | intro (_ : Nat) | intro (_ : Option Addr) (_ : Nat))
      conv => whnf
      refine ⟨fun h => (nomatch h), fun _ => ?_⟩
      repeat ((conv => whnf); first | apply qza | apply qzb | apply qzc | apply qzd | apply qze | intro (_ : Nat) | intro (_ : Option Addr) (_ : Nat))
      conv => whnf
      refine ⟨⟨rfl, rfl, rfl, rfl, Nat.zero_le _⟩, ?_⟩
      conv => whnf
      refine ⟨_, ⟨hrd, oneF' fun _ _ => rfl⟩, ?_⟩
      repeat ((conv => whnf); first | apply qza | apply qzb | apply qzc | apply qzd | apply qze | intro (_ : Nat) | intro (_ : Option Addr) (_ : Nat))
      conv => whnf
      refine ⟨⟨by unfold maxLen; omega, by omega⟩, fun oa2 cap2 => ?_⟩
      repeat ((conv => whnf); first | apply qza | apply qzb | apply qzc | apply qzd | apply qze | intro (_ : Nat) | intro (_ : Option Addr) (_ : Nat))
      conv => whnf
      refine fun g1 hg1 hn1 hp1 => ?_
      conv => whnf
      intro g2 hg
      simp only [Nat.zero_add, List.nil_append] at hp1
      have hE := oEls_leaf (sz := 3) (r := rRetired) g g g0.w.heap.size cRe l fun x hx => ⟨rfl, rfl, hR x hx⟩
      have := oSl_up (oLf_fr rRetired_any) hg (oEls_sl (oLf_fr rRetired_any) hE (GW.refl _) hg1 (hp1.lo_le h0.1) rfl hn1)
      rwa [Nat.zero_add])
end Go.Proofs.YtkkhdnddplkobaaGreat

