/- Counts that are read: the document's step. -/
import Derived.Test.YtkkhdnddplkobaaGreatLW9s2
import Derived.Test.YtkkhdnddplkobaaGreatPl
import Derived.Test.YtkkhdnddplkobaaGreatLW9p
import Derived.Test.YtkkhdnddplkobaaGreatLW9k
import Derived.Test.YtkkhdnddplkobaaGreatLW9w
import Derived.Test.YtkkhdnddplkobaaGreatLW9n
import Derived.Test.YtkkhdnddplkobaaGreatF
namespace Go.Proofs.YtkkhdnddplkobaaGreat
open Go.Proofs.YtkkhdnddplkobaaGreat.Sx Go.RowKit
def tS25 : List (Nat × FnI) := [(n_hydrantref20_Other, f_hydrantref20_Other), (n_hydrantref22_Done, f_hydrantref22_Done)]
theorem tS25_ok : TblOk Tryz.prog tS25 := by
  intro x hx
  simp only [tS25, List.mem_cons, List.not_mem_nil, or_false] at hx
  rcases hx with rfl | rfl
  · exact ⟨_, _, t_hydrantref20_Other⟩
  · exact ⟨_, _, t_hydrantref22_Done⟩
set_option maxHeartbeats 8000000 in
set_option maxRecDepth 100000 in
theorem ok_rsStep (g : GW) {cs ms : List Value} {w : Wd} {m : Mach} (hw : rWo g cs w) (hM : rMach g ms m) (hsn : SnW w) (hb : BgW 1000000 w) : Ok Tryz.prog n_hydrantref25_Step [.agg ⟨cs⟩, .agg ⟨ms⟩] g (StatP w m) := by
  have hw0 := hw
  have hM0 := hM
  obtain ⟨a, b, c, d, e, rfl, ⟨i1, i2, i3⟩, hP, hV, hL, hC, hR⟩ := hw
  obtain ⟨oa, ca, rfl, a1, a2, a0, hP1⟩ := id hP
  obtain ⟨ob, cb, rfl, b1, b2, b0, hV1⟩ := id hV
  obtain ⟨oc, cc, rfl, c1, c2, c0, hL1⟩ := id hL
  obtain ⟨od, cd, rfl, d1, d2, d0, hC1⟩ := id hC
  obtain ⟨oe, ce, rfl, e1, e2, e0, hR1⟩ := id hR
  obtain ⟨ma, mb, md, rfl, hok, hop, hcf⟩ := hM
  obtain ⟨_, _, _, he, ⟨o1, t1, rfl, _⟩, ⟨o2, t2, rfl, _⟩, ⟨o3, t3, rfl, _⟩⟩ := id hcf
  cases he
  exact Ok.of_fn hm tS25_ok 2 t_hydrantref25_Step (args := [.v (.agg ⟨[.int .i64 w.epoch, .int .i64 w.current, .int .i64 w.lock, .slice oa w.pins.length ca, .slice ob w.versions.length cb, .slice oc w.listens.length cc, .slice od w.counts.length cd, .slice oe w.limbo.length ce]⟩), .v (.agg ⟨m.cs (.slice o1 m.op.config.listens.length t1) (.slice o2 m.op.config.routes.length t2) (.slice o3 m.op.config.clusters.length t3)⟩)]) (by
    repeat ((conv => whnf); first | apply qza | apply qzb | apply qzc | apply qzd | apply qze | intro (_ : Nat) | intro (_ : Option Addr) (_ : Nat))
    conv => whnf
    refine .inl ⟨_, ok_rSuits _ hw0 hM0 hsn hb, ?_⟩
    repeat ((conv => whnf); first | apply qza | apply qzb | apply qzc | apply qzd | apply qze | intro (_ : Nat) | intro (_ : Option Addr) (_ : Nat))
    conv => whnf
    refine ⟨fun z4 => ?_, fun z4 => ?_⟩
    · repeat ((conv => whnf); first | apply qza | apply qzb | apply qzc | apply qzd | apply qze | intro (_ : Nat) | intro (_ : Option Addr) (_ : Nat))
      conv => whnf
      intro g2 hg
      obtain ⟨hMm, hE⟩ := stat_no (w := w) (m := m) (fun h => by rw [h.1] at z4; cases z4)
      exact ⟨_, _, by rw [hE]; rfl, rWo_mono _ _ _ _ hg hw0, by rw [hMm]; exact rMach_mono _ _ _ _ hg hM0⟩
    have hs := nb0 z4
    repeat ((conv => whnf); first | apply qza | apply qzb | apply qzc | apply qzd | apply qze | intro (_ : Nat) | intro (_ : Option Addr) (_ : Nat))
    conv => whnf
    refine ⟨fun z1 => ?_, fun z1 => ?_⟩
    · repeat ((conv => whnf); first | apply qza | apply qzb | apply qzc | apply qzd | apply qze | intro (_ : Nat) | intro (_ : Option Addr) (_ : Nat))
      conv => whnf
      intro g2 hg
      obtain ⟨hMm, hE⟩ := stat_no (w := w) (m := m) (fun h => bneT z1 h.2.1)
      exact ⟨_, _, by rw [hE]; rfl, rWo_mono _ _ _ _ hg hw0, by rw [hMm]; exact rMach_mono _ _ _ _ hg hM0⟩
    repeat ((conv => whnf); first | apply qza | apply qzb | apply qzc | apply qzd | apply qze | intro (_ : Nat) | intro (_ : Option Addr) (_ : Nat))
    conv => whnf
    refine ⟨fun z3 => ?_, fun z3 => ?_⟩
    · repeat ((conv => whnf); first | apply qza | apply qzb | apply qzc | apply qzd | apply qze | intro (_ : Nat) | intro (_ : Option Addr) (_ : Nat))
      conv => whnf
      intro g2 hg
      obtain ⟨hMm, hE⟩ := stat_no (w := w) (m := m) (fun h => by have := of_decide_eq_true z3; omega)
      exact ⟨_, _, by rw [hE]; rfl, rWo_mono _ _ _ _ hg hw0, by rw [hMm]; exact rMach_mono _ _ _ _ hg hM0⟩
    repeat ((conv => whnf); first | apply qza | apply qzb | apply qzc | apply qzd | apply qze | intro (_ : Nat) | intro (_ : Option Addr) (_ : Nat))
    conv => whnf
    refine ⟨fun z2 => ?_, fun z2 => ?_⟩
    · repeat ((conv => whnf); first | apply qza | apply qzb | apply qzc | apply qzd | apply qze | intro (_ : Nat) | intro (_ : Option Addr) (_ : Nat))
      conv => whnf
      intro g2 hg
      obtain ⟨hMm, hE⟩ := stat_no (w := w) (m := m) (fun h => by have := of_decide_eq_true z2; omega)
      exact ⟨_, _, by rw [hE]; rfl, rWo_mono _ _ _ _ hg hw0, by rw [hMm]; exact rMach_mono _ _ _ _ hg hM0⟩
    have hk1 := bneF z1
    have hk2 := of_decide_eq_false z2
    have hk3 := of_decide_eq_false z3
    have hgo : statGo w m := ⟨hs, hk1, by omega, by omega⟩
    obtain ⟨_, _, _, hS⟩ := suitB_iff.1 hs
    have hi0 := hS.i
    have hk0 := hS.k
    have hi : m.i.toNat < w.counts.length := by omega
    obtain ⟨row, hrow, hlen, hc8⟩ := stat_row hS.right hi
    obtain ⟨x, hx⟩ := getL_of (l := row) (i := m.k.toNat) (by omega)
    have hcnt : cntAt w m = x := by unfold cntAt; rw [hrow]; show (row[m.k.toNat]?).getD 0 = x; rw [hx]; rfl
    have hQ : statC w m = m.counts.set (IntKind.u64.wrap (m.counts.get m.k.toNat + x)) m.k.toNat := by unfold statC; rw [hcnt]
    obtain ⟨ad, rfl, ec, hec, ⟨rv, rfl, hrv⟩, hcr⟩ := hC1 m.i.toNat row hrow
    obtain ⟨ao, ac, rfl, r1, r2, r0, hr1⟩ := id hrv
    obtain ⟨ar, rfl, ec2, hec2, ⟨rfl, hxu⟩, hcx⟩ := hr1 m.k.toNat x hx
    repeat ((conv => whnf); first | apply qza | apply qzb | apply qzc | apply qzd | apply qze | intro (_ : Nat) | intro (_ : Option Addr) (_ : Nat))
    refine .inr ((ok_rClone _ hw0 hb).mono fun v g3 hg3 hO => ?_)
    obtain ⟨cs, T, rfl, hT⟩ := hO
    have hF := oWo_rd hT
    obtain ⟨_, _, _, _, _, _, _, _, _, _, rfl⟩ := rWo_open hF
    replace hcr := hcr 0 _ rfl
    replace hcx := hcx 0 _ rfl
    replace hcr := Rc.mono hcr hg3
    replace hcx := Rc.mono hcx hg3
    repeat ((conv => whnf); first | apply qza | apply qzb | apply qzc | apply qzd | apply qze | intro (_ : Nat) | intro (_ : Option Addr) (_ : Nat))
    rcases k6 ⟨hk0, show m.k ≤ 5 by omega⟩ with hk | hk | hk | hk | hk | hk
    · rw [hk] at hx hcx hQ
      rw [hk]
      repeat ((conv => whnf); first | apply qza | apply qzb | apply qzc | apply qzd | apply qze | intro (_ : Nat) | intro (_ : Option Addr) (_ : Nat))
      conv => whnf
      refine ⟨0, ⟨rfl, by decide⟩, ?_⟩
      repeat ((conv => whnf); first | apply qza | apply qzb | apply qzc | apply qzd | apply qze | intro (_ : Nat) | intro (_ : Option Addr) (_ : Nat))
      conv => whnf
      refine ⟨_, rfl, ⟨by omega, by omega⟩, ?_⟩
      repeat ((conv => whnf); first | apply qza | apply qzb | apply qzc | apply qzd | apply qze | intro (_ : Nat) | intro (_ : Option Addr) (_ : Nat))
      conv => whnf
      refine ⟨_, hcr, ?_⟩
      repeat ((conv => whnf); first | apply qza | apply qzb | apply qzc | apply qzd | apply qze | intro (_ : Nat) | intro (_ : Option Addr) (_ : Nat))
      conv => whnf
      refine ⟨_, rfl, ⟨by omega, by omega⟩, ?_⟩
      repeat ((conv => whnf); first | apply qza | apply qzb | apply qzc | apply qzd | apply qze | intro (_ : Nat) | intro (_ : Option Addr) (_ : Nat))
      conv => whnf
      refine ⟨_, hcx, ?_⟩
      repeat ((conv => whnf); first | apply qza | apply qzb | apply qzc | apply qzd | apply qze | intro (_ : Nat) | intro (_ : Option Addr) (_ : Nat))
      conv => whnf
      refine ⟨0, ⟨rfl, by decide⟩, ?_⟩
      repeat ((conv => whnf); first | apply qza | apply qzb | apply qzc | apply qzd | apply qze | intro (_ : Nat) | intro (_ : Option Addr) (_ : Nat))
      have hK : statK m = 1 := by unfold statK; rw [if_neg (by omega), hk] <;> rfl
      have hI : statI m = m.i := if_neg (by omega)
      conv => whnf
      refine ⟨fun hx => absurd hx (by decide), fun _ => ?_⟩
      repeat ((conv => whnf); first | apply qza | apply qzb | apply qzc | apply qzd | apply qze | intro (_ : Nat) | intro (_ : Option Addr) (_ : Nat))
      conv => whnf
      refine ⟨fun y2 => ?_, fun y2 => ?_⟩
      · obtain ⟨hMm, hE⟩ := stat_more hgo (by have := of_decide_eq_true y2; rw [hI]; omega)
        repeat ((conv => whnf); first | apply qza | apply qzb | apply qzc | apply qzd | apply qze | intro (_ : Nat) | intro (_ : Option Addr) (_ : Nat))
        conv => whnf
        intro g2 hg
        refine ⟨_, _, by rw [hE, hk] <;> rfl, rWo_mono _ _ _ _ hg hF, ?_⟩
        rw [hMm]
        exact ⟨_, _, _, by rw [hQ, hI, hK] <;> rfl, { hok with counts := statC_ok hok.counts, i := show InR (statI m) from by rw [hI]; exact hok.i, k := show InR (statK m) from by rw [hK]; decide }, hop, rConfig_mono _ _ _ _ (GW.trans hg3 hg) hcf⟩
      · obtain ⟨hMm, hE⟩ := stat_last hgo (by have := of_decide_eq_false y2; rw [hI]; omega)
        repeat ((conv => whnf); first | apply qza | apply qzb | apply qzc | apply qzd | apply qze | intro (_ : Nat) | intro (_ : Option Addr) (_ : Nat))
        conv => whnf
        intro g2 hg
        refine ⟨_, _, by rw [hE, hk, hQ] <;> rfl, rWo_mono _ _ _ _ hg hF, ?_⟩
        rw [hMm]
        exact ⟨_, _, _, by rw [hQ, hI, hK] <;> rfl, { hok with counts := statC_ok hok.counts, i := show InR (statI m) from by rw [hI]; exact hok.i, k := show InR (statK m) from by rw [hK]; decide, answer := statA_ok (statC_ok hok.counts) }, hop, rConfig_mono _ _ _ _ (GW.trans hg3 hg) hcf⟩
    · rw [hk] at hx hcx hQ
      rw [hk]
      repeat ((conv => whnf); first | apply qza | apply qzb | apply qzc | apply qzd | apply qze | intro (_ : Nat) | intro (_ : Option Addr) (_ : Nat))
      conv => whnf
      refine ⟨1, ⟨rfl, by decide⟩, ?_⟩
      repeat ((conv => whnf); first | apply qza | apply qzb | apply qzc | apply qzd | apply qze | intro (_ : Nat) | intro (_ : Option Addr) (_ : Nat))
      conv => whnf
      refine ⟨_, rfl, ⟨by omega, by omega⟩, ?_⟩
      repeat ((conv => whnf); first | apply qza | apply qzb | apply qzc | apply qzd | apply qze | intro (_ : Nat) | intro (_ : Option Addr) (_ : Nat))
      conv => whnf
      refine ⟨_, hcr, ?_⟩
      repeat ((conv => whnf); first | apply qza | apply qzb | apply qzc | apply qzd | apply qze | intro (_ : Nat) | intro (_ : Option Addr) (_ : Nat))
      conv => whnf
      refine ⟨_, rfl, ⟨by omega, by omega⟩, ?_⟩
      repeat ((conv => whnf); first | apply qza | apply qzb | apply qzc | apply qzd | apply qze | intro (_ : Nat) | intro (_ : Option Addr) (_ : Nat))
      conv => whnf
      refine ⟨_, hcx, ?_⟩
      repeat ((conv => whnf); first | apply qza | apply qzb | apply qzc | apply qzd | apply qze | intro (_ : Nat) | intro (_ : Option Addr) (_ : Nat))
      conv => whnf
      refine ⟨1, ⟨rfl, by decide⟩, ?_⟩
      repeat ((conv => whnf); first | apply qza | apply qzb | apply qzc | apply qzd | apply qze | intro (_ : Nat) | intro (_ : Option Addr) (_ : Nat))
      have hK : statK m = 2 := by unfold statK; rw [if_neg (by omega), hk] <;> rfl
      have hI : statI m = m.i := if_neg (by omega)
      conv => whnf
      refine ⟨fun hx => absurd hx (by decide), fun _ => ?_⟩
      repeat ((conv => whnf); first | apply qza | apply qzb | apply qzc | apply qzd | apply qze | intro (_ : Nat) | intro (_ : Option Addr) (_ : Nat))
      conv => whnf
      refine ⟨fun y2 => ?_, fun y2 => ?_⟩
      · obtain ⟨hMm, hE⟩ := stat_more hgo (by have := of_decide_eq_true y2; rw [hI]; omega)
        repeat ((conv => whnf); first | apply qza | apply qzb | apply qzc | apply qzd | apply qze | intro (_ : Nat) | intro (_ : Option Addr) (_ : Nat))
        conv => whnf
        intro g2 hg
        refine ⟨_, _, by rw [hE, hk] <;> rfl, rWo_mono _ _ _ _ hg hF, ?_⟩
        rw [hMm]
        exact ⟨_, _, _, by rw [hQ, hI, hK] <;> rfl, { hok with counts := statC_ok hok.counts, i := show InR (statI m) from by rw [hI]; exact hok.i, k := show InR (statK m) from by rw [hK]; decide }, hop, rConfig_mono _ _ _ _ (GW.trans hg3 hg) hcf⟩
      · obtain ⟨hMm, hE⟩ := stat_last hgo (by have := of_decide_eq_false y2; rw [hI]; omega)
        repeat ((conv => whnf); first | apply qza | apply qzb | apply qzc | apply qzd | apply qze | intro (_ : Nat) | intro (_ : Option Addr) (_ : Nat))
        conv => whnf
        intro g2 hg
        refine ⟨_, _, by rw [hE, hk, hQ] <;> rfl, rWo_mono _ _ _ _ hg hF, ?_⟩
        rw [hMm]
        exact ⟨_, _, _, by rw [hQ, hI, hK] <;> rfl, { hok with counts := statC_ok hok.counts, i := show InR (statI m) from by rw [hI]; exact hok.i, k := show InR (statK m) from by rw [hK]; decide, answer := statA_ok (statC_ok hok.counts) }, hop, rConfig_mono _ _ _ _ (GW.trans hg3 hg) hcf⟩
    · rw [hk] at hx hcx hQ
      rw [hk]
      repeat ((conv => whnf); first | apply qza | apply qzb | apply qzc | apply qzd | apply qze | intro (_ : Nat) | intro (_ : Option Addr) (_ : Nat))
      conv => whnf
      refine ⟨2, ⟨rfl, by decide⟩, ?_⟩
      repeat ((conv => whnf); first | apply qza | apply qzb | apply qzc | apply qzd | apply qze | intro (_ : Nat) | intro (_ : Option Addr) (_ : Nat))
      conv => whnf
      refine ⟨_, rfl, ⟨by omega, by omega⟩, ?_⟩
      repeat ((conv => whnf); first | apply qza | apply qzb | apply qzc | apply qzd | apply qze | intro (_ : Nat) | intro (_ : Option Addr) (_ : Nat))
      conv => whnf
      refine ⟨_, hcr, ?_⟩
      repeat ((conv => whnf); first | apply qza | apply qzb | apply qzc | apply qzd | apply qze | intro (_ : Nat) | intro (_ : Option Addr) (_ : Nat))
      conv => whnf
      refine ⟨_, rfl, ⟨by omega, by omega⟩, ?_⟩
      repeat ((conv => whnf); first | apply qza | apply qzb | apply qzc | apply qzd | apply qze | intro (_ : Nat) | intro (_ : Option Addr) (_ : Nat))
      conv => whnf
      refine ⟨_, hcx, ?_⟩
      repeat ((conv => whnf); first | apply qza | apply qzb | apply qzc | apply qzd | apply qze | intro (_ : Nat) | intro (_ : Option Addr) (_ : Nat))
      conv => whnf
      refine ⟨2, ⟨rfl, by decide⟩, ?_⟩
      repeat ((conv => whnf); first | apply qza | apply qzb | apply qzc | apply qzd | apply qze | intro (_ : Nat) | intro (_ : Option Addr) (_ : Nat))
      have hK : statK m = 3 := by unfold statK; rw [if_neg (by omega), hk] <;> rfl
      have hI : statI m = m.i := if_neg (by omega)
      conv => whnf
      refine ⟨fun hx => absurd hx (by decide), fun _ => ?_⟩
      repeat ((conv => whnf); first | apply qza | apply qzb | apply qzc | apply qzd | apply qze | intro (_ : Nat) | intro (_ : Option Addr) (_ : Nat))
      conv => whnf
      refine ⟨fun y2 => ?_, fun y2 => ?_⟩
      · obtain ⟨hMm, hE⟩ := stat_more hgo (by have := of_decide_eq_true y2; rw [hI]; omega)
        repeat ((conv => whnf); first | apply qza | apply qzb | apply qzc | apply qzd | apply qze | intro (_ : Nat) | intro (_ : Option Addr) (_ : Nat))
        conv => whnf
        intro g2 hg
        refine ⟨_, _, by rw [hE, hk] <;> rfl, rWo_mono _ _ _ _ hg hF, ?_⟩
        rw [hMm]
        exact ⟨_, _, _, by rw [hQ, hI, hK] <;> rfl, { hok with counts := statC_ok hok.counts, i := show InR (statI m) from by rw [hI]; exact hok.i, k := show InR (statK m) from by rw [hK]; decide }, hop, rConfig_mono _ _ _ _ (GW.trans hg3 hg) hcf⟩
      · obtain ⟨hMm, hE⟩ := stat_last hgo (by have := of_decide_eq_false y2; rw [hI]; omega)
        repeat ((conv => whnf); first | apply qza | apply qzb | apply qzc | apply qzd | apply qze | intro (_ : Nat) | intro (_ : Option Addr) (_ : Nat))
        conv => whnf
        intro g2 hg
        refine ⟨_, _, by rw [hE, hk, hQ] <;> rfl, rWo_mono _ _ _ _ hg hF, ?_⟩
        rw [hMm]
        exact ⟨_, _, _, by rw [hQ, hI, hK] <;> rfl, { hok with counts := statC_ok hok.counts, i := show InR (statI m) from by rw [hI]; exact hok.i, k := show InR (statK m) from by rw [hK]; decide, answer := statA_ok (statC_ok hok.counts) }, hop, rConfig_mono _ _ _ _ (GW.trans hg3 hg) hcf⟩
    · rw [hk] at hx hcx hQ
      rw [hk]
      repeat ((conv => whnf); first | apply qza | apply qzb | apply qzc | apply qzd | apply qze | intro (_ : Nat) | intro (_ : Option Addr) (_ : Nat))
      conv => whnf
      refine ⟨3, ⟨rfl, by decide⟩, ?_⟩
      repeat ((conv => whnf); first | apply qza | apply qzb | apply qzc | apply qzd | apply qze | intro (_ : Nat) | intro (_ : Option Addr) (_ : Nat))
      conv => whnf
      refine ⟨_, rfl, ⟨by omega, by omega⟩, ?_⟩
      repeat ((conv => whnf); first | apply qza | apply qzb | apply qzc | apply qzd | apply qze | intro (_ : Nat) | intro (_ : Option Addr) (_ : Nat))
      conv => whnf
      refine ⟨_, hcr, ?_⟩
      repeat ((conv => whnf); first | apply qza | apply qzb | apply qzc | apply qzd | apply qze | intro (_ : Nat) | intro (_ : Option Addr) (_ : Nat))
      conv => whnf
      refine ⟨_, rfl, ⟨by omega, by omega⟩, ?_⟩
      repeat ((conv => whnf); first | apply qza | apply qzb | apply qzc | apply qzd | apply qze | intro (_ : Nat) | intro (_ : Option Addr) (_ : Nat))
      conv => whnf
      refine ⟨_, hcx, ?_⟩
      repeat ((conv => whnf); first | apply qza | apply qzb | apply qzc | apply qzd | apply qze | intro (_ : Nat) | intro (_ : Option Addr) (_ : Nat))
      conv => whnf
      refine ⟨3, ⟨rfl, by decide⟩, ?_⟩
      repeat ((conv => whnf); first | apply qza | apply qzb | apply qzc | apply qzd | apply qze | intro (_ : Nat) | intro (_ : Option Addr) (_ : Nat))
      have hK : statK m = 4 := by unfold statK; rw [if_neg (by omega), hk] <;> rfl
      have hI : statI m = m.i := if_neg (by omega)
      conv => whnf
      refine ⟨fun hx => absurd hx (by decide), fun _ => ?_⟩
      repeat ((conv => whnf); first | apply qza | apply qzb | apply qzc | apply qzd | apply qze | intro (_ : Nat) | intro (_ : Option Addr) (_ : Nat))
      conv => whnf
      refine ⟨fun y2 => ?_, fun y2 => ?_⟩
      · obtain ⟨hMm, hE⟩ := stat_more hgo (by have := of_decide_eq_true y2; rw [hI]; omega)
        repeat ((conv => whnf); first | apply qza | apply qzb | apply qzc | apply qzd | apply qze | intro (_ : Nat) | intro (_ : Option Addr) (_ : Nat))
        conv => whnf
        intro g2 hg
        refine ⟨_, _, by rw [hE, hk] <;> rfl, rWo_mono _ _ _ _ hg hF, ?_⟩
        rw [hMm]
        exact ⟨_, _, _, by rw [hQ, hI, hK] <;> rfl, { hok with counts := statC_ok hok.counts, i := show InR (statI m) from by rw [hI]; exact hok.i, k := show InR (statK m) from by rw [hK]; decide }, hop, rConfig_mono _ _ _ _ (GW.trans hg3 hg) hcf⟩
      · obtain ⟨hMm, hE⟩ := stat_last hgo (by have := of_decide_eq_false y2; rw [hI]; omega)
        repeat ((conv => whnf); first | apply qza | apply qzb | apply qzc | apply qzd | apply qze | intro (_ : Nat) | intro (_ : Option Addr) (_ : Nat))
        conv => whnf
        intro g2 hg
        refine ⟨_, _, by rw [hE, hk, hQ] <;> rfl, rWo_mono _ _ _ _ hg hF, ?_⟩
        rw [hMm]
        exact ⟨_, _, _, by rw [hQ, hI, hK] <;> rfl, { hok with counts := statC_ok hok.counts, i := show InR (statI m) from by rw [hI]; exact hok.i, k := show InR (statK m) from by rw [hK]; decide, answer := statA_ok (statC_ok hok.counts) }, hop, rConfig_mono _ _ _ _ (GW.trans hg3 hg) hcf⟩
    · rw [hk] at hx hcx hQ
      rw [hk]
      repeat ((conv => whnf); first | apply qza | apply qzb | apply qzc | apply qzd | apply qze | intro (_ : Nat) | intro (_ : Option Addr) (_ : Nat))
      conv => whnf
      refine ⟨4, ⟨rfl, by decide⟩, ?_⟩
      repeat ((conv => whnf); first | apply qza | apply qzb | apply qzc | apply qzd | apply qze | intro (_ : Nat) | intro (_ : Option Addr) (_ : Nat))
      conv => whnf
      refine ⟨_, rfl, ⟨by omega, by omega⟩, ?_⟩
      repeat ((conv => whnf); first | apply qza | apply qzb | apply qzc | apply qzd | apply qze | intro (_ : Nat) | intro (_ : Option Addr) (_ : Nat))
      conv => whnf
      refine ⟨_, hcr, ?_⟩
      repeat ((conv => whnf); first | apply qza | apply qzb | apply qzc | apply qzd | apply qze | intro (_ : Nat) | intro (_ : Option Addr) (_ : Nat))
      conv => whnf
      refine ⟨_, rfl, ⟨by omega, by omega⟩, ?_⟩
      repeat ((conv => whnf); first | apply qza | apply qzb | apply qzc | apply qzd | apply qze | intro (_ : Nat) | intro (_ : Option Addr) (_ : Nat))
      conv => whnf
      refine ⟨_, hcx, ?_⟩
      repeat ((conv => whnf); first | apply qza | apply qzb | apply qzc | apply qzd | apply qze | intro (_ : Nat) | intro (_ : Option Addr) (_ : Nat))
      conv => whnf
      refine ⟨4, ⟨rfl, by decide⟩, ?_⟩
      repeat ((conv => whnf); first | apply qza | apply qzb | apply qzc | apply qzd | apply qze | intro (_ : Nat) | intro (_ : Option Addr) (_ : Nat))
      have hK : statK m = 5 := by unfold statK; rw [if_neg (by omega), hk] <;> rfl
      have hI : statI m = m.i := if_neg (by omega)
      conv => whnf
      refine ⟨fun hx => absurd hx (by decide), fun _ => ?_⟩
      repeat ((conv => whnf); first | apply qza | apply qzb | apply qzc | apply qzd | apply qze | intro (_ : Nat) | intro (_ : Option Addr) (_ : Nat))
      conv => whnf
      refine ⟨fun y2 => ?_, fun y2 => ?_⟩
      · obtain ⟨hMm, hE⟩ := stat_more hgo (by have := of_decide_eq_true y2; rw [hI]; omega)
        repeat ((conv => whnf); first | apply qza | apply qzb | apply qzc | apply qzd | apply qze | intro (_ : Nat) | intro (_ : Option Addr) (_ : Nat))
        conv => whnf
        intro g2 hg
        refine ⟨_, _, by rw [hE, hk] <;> rfl, rWo_mono _ _ _ _ hg hF, ?_⟩
        rw [hMm]
        exact ⟨_, _, _, by rw [hQ, hI, hK] <;> rfl, { hok with counts := statC_ok hok.counts, i := show InR (statI m) from by rw [hI]; exact hok.i, k := show InR (statK m) from by rw [hK]; decide }, hop, rConfig_mono _ _ _ _ (GW.trans hg3 hg) hcf⟩
      · obtain ⟨hMm, hE⟩ := stat_last hgo (by have := of_decide_eq_false y2; rw [hI]; omega)
        repeat ((conv => whnf); first | apply qza | apply qzb | apply qzc | apply qzd | apply qze | intro (_ : Nat) | intro (_ : Option Addr) (_ : Nat))
        conv => whnf
        intro g2 hg
        refine ⟨_, _, by rw [hE, hk, hQ] <;> rfl, rWo_mono _ _ _ _ hg hF, ?_⟩
        rw [hMm]
        exact ⟨_, _, _, by rw [hQ, hI, hK] <;> rfl, { hok with counts := statC_ok hok.counts, i := show InR (statI m) from by rw [hI]; exact hok.i, k := show InR (statK m) from by rw [hK]; decide, answer := statA_ok (statC_ok hok.counts) }, hop, rConfig_mono _ _ _ _ (GW.trans hg3 hg) hcf⟩
    · rw [hk] at hx hcx hQ
      rw [hk]
      repeat ((conv => whnf); first | apply qza | apply qzb | apply qzc | apply qzd | apply qze | intro (_ : Nat) | intro (_ : Option Addr) (_ : Nat))
      conv => whnf
      refine ⟨5, ⟨rfl, by decide⟩, ?_⟩
      repeat ((conv => whnf); first | apply qza | apply qzb | apply qzc | apply qzd | apply qze | intro (_ : Nat) | intro (_ : Option Addr) (_ : Nat))
      conv => whnf
      refine ⟨_, rfl, ⟨by omega, by omega⟩, ?_⟩
      repeat ((conv => whnf); first | apply qza | apply qzb | apply qzc | apply qzd | apply qze | intro (_ : Nat) | intro (_ : Option Addr) (_ : Nat))
      conv => whnf
      refine ⟨_, hcr, ?_⟩
      repeat ((conv => whnf); first | apply qza | apply qzb | apply qzc | apply qzd | apply qze | intro (_ : Nat) | intro (_ : Option Addr) (_ : Nat))
      conv => whnf
      refine ⟨_, rfl, ⟨by omega, by omega⟩, ?_⟩
      repeat ((conv => whnf); first | apply qza | apply qzb | apply qzc | apply qzd | apply qze | intro (_ : Nat) | intro (_ : Option Addr) (_ : Nat))
      conv => whnf
      refine ⟨_, hcx, ?_⟩
      repeat ((conv => whnf); first | apply qza | apply qzb | apply qzc | apply qzd | apply qze | intro (_ : Nat) | intro (_ : Option Addr) (_ : Nat))
      conv => whnf
      refine ⟨5, ⟨rfl, by decide⟩, ?_⟩
      repeat ((conv => whnf); first | apply qza | apply qzb | apply qzc | apply qzd | apply qze | intro (_ : Nat) | intro (_ : Option Addr) (_ : Nat))
      have hK : statK m = 0 := by unfold statK; rw [if_pos hk]
      have hI : statI m = m.i + 1 := if_pos hk
      conv => whnf
      refine ⟨fun _ => ?_, fun hx => absurd hx (by decide)⟩
      repeat ((conv => whnf); first | apply qza | apply qzb | apply qzc | apply qzd | apply qze | intro (_ : Nat) | intro (_ : Option Addr) (_ : Nat))
      have hwi : IntKind.i64.wrap (m.i + 1) = m.i + 1 := wr (by unfold InR; omega)
      conv => whnf
      refine ⟨fun y2 => ?_, fun y2 => ?_⟩
      · obtain ⟨hMm, hE⟩ := stat_more hgo (by have := of_decide_eq_true y2; rw [hwi] at this; rw [hI]; omega)
        repeat ((conv => whnf); first | apply qza | apply qzb | apply qzc | apply qzd | apply qze | intro (_ : Nat) | intro (_ : Option Addr) (_ : Nat))
        conv => whnf
        intro g2 hg
        refine ⟨_, _, by rw [hE, hk] <;> rfl, rWo_mono _ _ _ _ hg hF, ?_⟩
        rw [hMm]
        exact ⟨_, _, _, by rw [hQ, hI, hK, hwi] <;> rfl, { hok with counts := statC_ok hok.counts, i := show InR (statI m) from by rw [hI]; unfold InR; omega, k := show InR (statK m) from by rw [hK]; decide }, hop, rConfig_mono _ _ _ _ (GW.trans hg3 hg) hcf⟩
      · obtain ⟨hMm, hE⟩ := stat_last hgo (by have := of_decide_eq_false y2; rw [hwi] at this; rw [hI]; omega)
        repeat ((conv => whnf); first | apply qza | apply qzb | apply qzc | apply qzd | apply qze | intro (_ : Nat) | intro (_ : Option Addr) (_ : Nat))
        conv => whnf
        intro g2 hg
        refine ⟨_, _, by rw [hE, hk, hQ] <;> rfl, rWo_mono _ _ _ _ hg hF, ?_⟩
        rw [hMm]
        exact ⟨_, _, _, by rw [hQ, hI, hK, hwi] <;> rfl, { hok with counts := statC_ok hok.counts, i := show InR (statI m) from by rw [hI]; unfold InR; omega, k := show InR (statK m) from by rw [hK]; decide, answer := statA_ok (statC_ok hok.counts) }, hop, rConfig_mono _ _ _ _ (GW.trans hg3 hg) hcf⟩)
end Go.Proofs.YtkkhdnddplkobaaGreat


/- Pins: a thread is pinned no more. -/
namespace Go.Proofs.YtkkhdnddplkobaaGreat
open Go.Proofs.YtkkhdnddplkobaaGreat.Sx Go.RowKit
end Go.Proofs.YtkkhdnddplkobaaGreat


/- Pins: a thread is pinned no more; the document's answer. -/
namespace Go.Proofs.YtkkhdnddplkobaaGreat
open Go.Proofs.YtkkhdnddplkobaaGreat.Sx Go.RowKit
end Go.Proofs.YtkkhdnddplkobaaGreat


/- Machines: the document's sameness is true of the same datum. -/
namespace Go.Proofs.YtkkhdnddplkobaaGreat
open Go.Proofs.YtkkhdnddplkobaaGreat.Sx Go.RowKit
set_option maxRecDepth 100000 in
theorem ok_sameOps (g : GW) {o : OpD} {a1 a2 a3 b1 b2 b3 : Option Addr} {p1 p2 p3 q1 q2 q3 l1 l2 l3 : Nat} : OkV Tryz.prog n_hydrantref19_sameOps [.agg ⟨[.int .i64 o.kind, .string o.listen, .string o.host, .string o.path, .int .i64 o.d0, .int .i64 o.d1, .int .i64 o.n, .slice a1 l1 p1, .slice a2 l2 p2, .slice a3 l3 p3]⟩, .agg ⟨[.int .i64 o.kind, .string o.listen, .string o.host, .string o.path, .int .i64 o.d0, .int .i64 o.d1, .int .i64 o.n, .slice b1 l1 q1, .slice b2 l2 q2, .slice b3 l3 q3]⟩] g (.bool true) :=
  Ok.of_fn hm noT 0 t_hydrantref19_sameOps (args := [.v (.agg ⟨[.int .i64 o.kind, .string o.listen, .string o.host, .string o.path, .int .i64 o.d0, .int .i64 o.d1, .int .i64 o.n, .slice a1 l1 p1, .slice a2 l2 p2, .slice a3 l3 p3]⟩), .v (.agg ⟨[.int .i64 o.kind, .string o.listen, .string o.host, .string o.path, .int .i64 o.d0, .int .i64 o.d1, .int .i64 o.n, .slice b1 l1 q1, .slice b2 l2 q2, .slice b3 l3 q3]⟩)]) (by
    repeat ((conv => whnf); first | apply qza | apply qzb | apply qzc | apply qzd | apply qze | intro (_ : Nat) | intro (_ : Option Addr) (_ : Nat))
    conv => whnf
    refine ⟨fun _ => ?_, fun hx => absurd hx (by simp)⟩
    repeat ((conv => whnf); first | apply qza | apply qzb | apply qzc | apply qzd | apply qze | intro (_ : Nat) | intro (_ : Option Addr) (_ : Nat))
    conv => whnf
    refine ⟨fun _ => ?_, fun hx => absurd hx (by simp)⟩
    repeat ((conv => whnf); first | apply qza | apply qzb | apply qzc | apply qzd | apply qze | intro (_ : Nat) | intro (_ : Option Addr) (_ : Nat))
    conv => whnf
    refine ⟨fun _ => ?_, fun hx => absurd hx (by simp)⟩
    repeat ((conv => whnf); first | apply qza | apply qzb | apply qzc | apply qzd | apply qze | intro (_ : Nat) | intro (_ : Option Addr) (_ : Nat))
    conv => whnf
    refine ⟨fun _ => ?_, fun hx => absurd hx (by simp)⟩
    repeat ((conv => whnf); first | apply qza | apply qzb | apply qzc | apply qzd | apply qze | intro (_ : Nat) | intro (_ : Option Addr) (_ : Nat))
    conv => whnf
    refine ⟨fun _ => ?_, fun hx => absurd hx (by simp)⟩
    repeat ((conv => whnf); first | apply qza | apply qzb | apply qzc | apply qzd | apply qze | intro (_ : Nat) | intro (_ : Option Addr) (_ : Nat))
    conv => whnf
    refine ⟨fun _ => ?_, fun hx => absurd hx (by simp)⟩
    repeat ((conv => whnf); first | apply qza | apply qzb | apply qzc | apply qzd | apply qze | intro (_ : Nat) | intro (_ : Option Addr) (_ : Nat))
    conv => whnf
    refine ⟨fun _ => ?_, fun hx => absurd hx (by simp)⟩
    repeat ((conv => whnf); first | apply qza | apply qzb | apply qzc | apply qzd | apply qze | intro (_ : Nat) | intro (_ : Option Addr) (_ : Nat))
    conv => whnf
    refine ⟨fun _ => ?_, fun hx => absurd hx (by simp)⟩
    repeat ((conv => whnf); first | apply qza | apply qzb | apply qzc | apply qzd | apply qze | intro (_ : Nat) | intro (_ : Option Addr) (_ : Nat))
    conv => whnf
    refine ⟨fun _ => ?_, fun hx => absurd hx (by simp)⟩
    repeat ((conv => whnf); first | apply qza | apply qzb | apply qzc | apply qzd | apply qze | intro (_ : Nat) | intro (_ : Option Addr) (_ : Nat))
    conv => whnf
    intro g2 hg
    simp)
set_option maxHeartbeats 4000000 in
set_option maxRecDepth 100000 in
theorem ok_sameM (g : GW) {ms ms' : List Value} {m : Mach} (hM : rMach g ms m) (hM' : rMach g ms' m) : OkV Tryz.prog n_hydrantref19_Same [.agg ⟨ms⟩, .agg ⟨ms'⟩] g (.bool true) := by
  obtain ⟨o1, t1, o2, t2, o3, t3, rfl⟩ := rMach_open hM
  obtain ⟨q1, u1, q2, u2, q3, u3, rfl⟩ := rMach_open hM'
  exact Ok.of_fn hm noT 0 t_hydrantref19_Same (args := [.v (.agg ⟨m.cs (.slice o1 m.op.config.listens.length t1) (.slice o2 m.op.config.routes.length t2) (.slice o3 m.op.config.clusters.length t3)⟩), .v (.agg ⟨m.cs (.slice q1 m.op.config.listens.length u1) (.slice q2 m.op.config.routes.length u2) (.slice q3 m.op.config.clusters.length u3)⟩)]) (by
    repeat ((conv => whnf); first | apply qza | apply qzb | apply qzc | apply qzd | apply qze | intro (_ : Nat) | intro (_ : Option Addr) (_ : Nat))
    conv => whnf
    refine .inl ⟨_, ok_sameOps _, ?_⟩
    repeat ((conv => whnf); first | apply qza | apply qzb | apply qzc | apply qzd | apply qze | intro (_ : Nat) | intro (_ : Option Addr) (_ : Nat))
    conv => whnf
    refine ⟨fun h => (nomatch h), fun _ => ?_⟩
    repeat ((conv => whnf); first | apply qza | apply qzb | apply qzc | apply qzd | apply qze | intro (_ : Nat) | intro (_ : Option Addr) (_ : Nat))
    conv => whnf
    refine ⟨fun _ => ?_, fun hx => absurd hx (by simp)⟩
    repeat ((conv => whnf); first | apply qza | apply qzb | apply qzc | apply qzd | apply qze | intro (_ : Nat) | intro (_ : Option Addr) (_ : Nat))
    conv => whnf
    refine ⟨fun _ => ?_, fun hx => absurd hx (by simp)⟩
    repeat ((conv => whnf); first | apply qza | apply qzb | apply qzc | apply qzd | apply qze | intro (_ : Nat) | intro (_ : Option Addr) (_ : Nat))
    conv => whnf
    refine ⟨fun _ => ?_, fun hx => absurd hx (by simp)⟩
    repeat ((conv => whnf); first | apply qza | apply qzb | apply qzc | apply qzd | apply qze | intro (_ : Nat) | intro (_ : Option Addr) (_ : Nat))
    conv => whnf
    refine ⟨fun _ => ?_, fun hx => absurd hx (by simp)⟩
    repeat ((conv => whnf); first | apply qza | apply qzb | apply qzc | apply qzd | apply qze | intro (_ : Nat) | intro (_ : Option Addr) (_ : Nat))
    conv => whnf
    refine ⟨fun _ => ?_, fun hx => absurd hx (by simp)⟩
    repeat ((conv => whnf); first | apply qza | apply qzb | apply qzc | apply qzd | apply qze | intro (_ : Nat) | intro (_ : Option Addr) (_ : Nat))
    conv => whnf
    refine ⟨fun _ => ?_, fun hx => absurd hx (by simp)⟩
    repeat ((conv => whnf); first | apply qza | apply qzb | apply qzc | apply qzd | apply qze | intro (_ : Nat) | intro (_ : Option Addr) (_ : Nat))
    conv => whnf
    refine ⟨fun _ => ?_, fun hx => absurd hx (by simp)⟩
    repeat ((conv => whnf); first | apply qza | apply qzb | apply qzc | apply qzd | apply qze | intro (_ : Nat) | intro (_ : Option Addr) (_ : Nat))
    conv => whnf
    refine ⟨fun _ => ?_, fun hx => absurd hx (by simp)⟩
    repeat ((conv => whnf); first | apply qza | apply qzb | apply qzc | apply qzd | apply qze | intro (_ : Nat) | intro (_ : Option Addr) (_ : Nat))
    conv => whnf
    refine ⟨fun _ => ?_, fun hx => absurd hx (by simp)⟩
    repeat ((conv => whnf); first | apply qza | apply qzb | apply qzc | apply qzd | apply qze | intro (_ : Nat) | intro (_ : Option Addr) (_ : Nat))
    conv => whnf
    refine ⟨fun _ => ?_, fun hx => absurd hx (by simp)⟩
    repeat ((conv => whnf); first | apply qza | apply qzb | apply qzc | apply qzd | apply qze | intro (_ : Nat) | intro (_ : Option Addr) (_ : Nat))
    conv => whnf
    refine ⟨fun _ => ?_, fun hx => absurd hx (by simp)⟩
    repeat ((conv => whnf); first | apply qza | apply qzb | apply qzc | apply qzd | apply qze | intro (_ : Nat) | intro (_ : Option Addr) (_ : Nat))
    conv => whnf
    refine ⟨fun _ => ?_, fun hx => absurd hx (by simp)⟩
    repeat ((conv => whnf); first | apply qza | apply qzb | apply qzc | apply qzd | apply qze | intro (_ : Nat) | intro (_ : Option Addr) (_ : Nat))
    conv => whnf
    refine ⟨fun _ => ?_, fun hx => absurd hx (by simp)⟩
    repeat ((conv => whnf); first | apply qza | apply qzb | apply qzc | apply qzd | apply qze | intro (_ : Nat) | intro (_ : Option Addr) (_ : Nat))
    conv => whnf
    refine ⟨fun _ => ?_, fun hx => absurd hx (by simp)⟩
    repeat ((conv => whnf); first | apply qza | apply qzb | apply qzc | apply qzd | apply qze | intro (_ : Nat) | intro (_ : Option Addr) (_ : Nat))
    conv => whnf
    refine ⟨fun _ => ?_, fun hx => absurd hx (by simp)⟩
    repeat ((conv => whnf); first | apply qza | apply qzb | apply qzc | apply qzd | apply qze | intro (_ : Nat) | intro (_ : Option Addr) (_ : Nat))
    conv => whnf
    refine ⟨fun _ => ?_, fun hx => absurd hx (by simp)⟩
    repeat ((conv => whnf); first | apply qza | apply qzb | apply qzc | apply qzd | apply qze | intro (_ : Nat) | intro (_ : Option Addr) (_ : Nat))
    conv => whnf
    intro g2 hg
    simp)
end Go.Proofs.YtkkhdnddplkobaaGreat


/- Pins: the steps' table. -/
namespace Go.Proofs.YtkkhdnddplkobaaGreat
open Go.Proofs.YtkkhdnddplkobaaGreat.Sx Go.RowKit
end Go.Proofs.YtkkhdnddplkobaaGreat


/- Pins: a step, another place. -/
namespace Go.Proofs.YtkkhdnddplkobaaGreat
open Go.Proofs.YtkkhdnddplkobaaGreat.Sx Go.RowKit
end Go.Proofs.YtkkhdnddplkobaaGreat


/- Pins: a step, place 0. -/
namespace Go.Proofs.YtkkhdnddplkobaaGreat
open Go.Proofs.YtkkhdnddplkobaaGreat.Sx Go.RowKit
end Go.Proofs.YtkkhdnddplkobaaGreat


/- Pins: a step, place 1. -/
namespace Go.Proofs.YtkkhdnddplkobaaGreat
open Go.Proofs.YtkkhdnddplkobaaGreat.Sx Go.RowKit
end Go.Proofs.YtkkhdnddplkobaaGreat


/- Pins: a step, place 2. -/
namespace Go.Proofs.YtkkhdnddplkobaaGreat
open Go.Proofs.YtkkhdnddplkobaaGreat.Sx Go.RowKit
end Go.Proofs.YtkkhdnddplkobaaGreat


/- Pins: a step, at any place. -/
namespace Go.Proofs.YtkkhdnddplkobaaGreat
open Go.Proofs.YtkkhdnddplkobaaGreat.Sx Go.RowKit
end Go.Proofs.YtkkhdnddplkobaaGreat


/- Pins: the law's example, first part. -/
namespace Go.Proofs.YtkkhdnddplkobaaGreat
open Go.Proofs.YtkkhdnddplkobaaGreat.Sx Go.RowKit
end Go.Proofs.YtkkhdnddplkobaaGreat


/- Pins: the law's example. -/
namespace Go.Proofs.YtkkhdnddplkobaaGreat
open Go.Proofs.YtkkhdnddplkobaaGreat.Sx Go.RowKit
section
variable {g : GW} {cs ms : List Value} {e pc ep : Int} {p : List Int} (hw : rWo g cs (wP e p)) (hM : rMach g ms (mP pc ep)) (he : 0 ≤ e ∧ e ≤ 100) (hl : p.length = 2) (hp : ∀ x ∈ p, 0 ≤ x ∧ x ≤ e + 1)
include hw hM he hl hp
end
end Go.Proofs.YtkkhdnddplkobaaGreat


/- The law PinOff. -/
namespace Go.Proofs.YtkkhdnddplkobaaGreat
open Go.Proofs.YtkkhdnddplkobaaGreat.Sx Go.RowKit
theorem BgW.up {K K' : Nat} {w : Wd} (h : BgW K w) (k : K ≤ K') : BgW K' w := by
  obtain ⟨⟨h1, h2, h3, h4, h5⟩, h6, h7⟩ := h
  refine ⟨⟨by omega, by omega, by omega, by omega, by omega⟩, fun r hr => by have := h6 r hr; omega, fun v hv => ?_⟩
  obtain ⟨a, b⟩ := h7 v hv
  exact ⟨by omega, fun y hy => by have := b y hy; unfold BgG at this ⊢; omega⟩
end Go.Proofs.YtkkhdnddplkobaaGreat


/- The law StatsSteps. -/
namespace Go.Proofs.YtkkhdnddplkobaaGreat
open Go.Proofs.YtkkhdnddplkobaaGreat.Sx Go.RowKit
set_option maxHeartbeats 8000000 in
set_option maxRecDepth 100000 in
theorem ok_StatsSteps (g : GW) {cs ms : List Value} {w : Wd} {m : Mach} (hw : rWo g cs w) (hM : rMach g ms m) : OkV Tryz.prog n_hydrantlaw25_StatsSteps [.agg ⟨cs⟩, .agg ⟨ms⟩] g (.bool true) := by
  obtain ⟨oa, ca, ob, cb, oc, cc, od, cd, oe, ce, rfl⟩ := rWo_open hw
  obtain ⟨o1, t1, o2, t2, o3, t3, rfl⟩ := rMach_open hM
  exact Ok.of_fn hm noT 0 t_hydrantlaw25_StatsSteps (args := [.v (.agg ⟨[.int .i64 w.epoch, .int .i64 w.current, .int .i64 w.lock, .slice oa w.pins.length ca, .slice ob w.versions.length cb, .slice oc w.listens.length cc, .slice od w.counts.length cd, .slice oe w.limbo.length ce]⟩), .v (.agg ⟨m.cs (.slice o1 m.op.config.listens.length t1) (.slice o2 m.op.config.routes.length t2) (.slice o3 m.op.config.clusters.length t3)⟩)]) (by
    repeat ((conv => whnf); first | apply qza | apply qzb | apply qzc | apply qzd | apply qze | intro (_ : Nat) | intro (_ : Option Addr) (_ : Nat))
    refine .inr ((ok_rBigW _ hw).mono fun v g1 hg1 hB => ?_)
    obtain ⟨b, rfl, hB⟩ := hB
    repeat ((conv => whnf); first | apply qza | apply qzb | apply qzc | apply qzd | apply qze | intro (_ : Nat) | intro (_ : Option Addr) (_ : Nat))
    conv => whnf
    refine ⟨fun z1 => ?_, fun z1 => ?_⟩
    · repeat ((conv => whnf); first | apply qza | apply qzb | apply qzc | apply qzd | apply qze | intro (_ : Nat) | intro (_ : Option Addr) (_ : Nat))
      conv => whnf
      intro g2 hg
      rfl
    obtain ⟨hb, hsn⟩ := hB z1
    have hb' := BgW.up (K' := 1000000) hb (by decide)
    have hw1 := rWo_mono _ _ _ _ hg1 hw
    have hM1 := rMach_mono _ _ _ _ hg1 hM
    repeat ((conv => whnf); first | apply qza | apply qzb | apply qzc | apply qzd | apply qze | intro (_ : Nat) | intro (_ : Option Addr) (_ : Nat))
    refine .inr ((ok_sStep _ hw1 hM1 hsn hb').mono fun v g2 hg2 hO => ?_)
    obtain ⟨csa, msa, rfl, hwa, hMa⟩ := hO
    obtain ⟨_, _, _, _, _, _, _, _, _, _, rfl⟩ := rWo_open hwa
    obtain ⟨_, _, _, _, _, _, rfl⟩ := rMach_open hMa
    have hw2 := rWo_mono _ _ _ _ hg2 hw1
    have hM2 := rMach_mono _ _ _ _ hg2 hM1
    repeat ((conv => whnf); first | apply qza | apply qzb | apply qzc | apply qzd | apply qze | intro (_ : Nat) | intro (_ : Option Addr) (_ : Nat))
    refine .inr ((ok_rsStep _ hw2 hM2 hsn hb').mono fun v g3 hg3 hO => ?_)
    obtain ⟨csb, msb, rfl, hwb, hMb⟩ := hO
    obtain ⟨_, _, _, _, _, _, _, _, _, _, rfl⟩ := rWo_open hwb
    obtain ⟨_, _, _, _, _, _, rfl⟩ := rMach_open hMb
    repeat ((conv => whnf); first | apply qza | apply qzb | apply qzc | apply qzd | apply qze | intro (_ : Nat) | intro (_ : Option Addr) (_ : Nat))
    conv => whnf
    refine .inl ⟨_, ok_read _, ?_⟩
    repeat ((conv => whnf); first | apply qza | apply qzb | apply qzc | apply qzd | apply qze | intro (_ : Nat) | intro (_ : Option Addr) (_ : Nat))
    conv => whnf
    refine ⟨fun _ => ?_, fun h => nomatch h⟩
    repeat ((conv => whnf); first | apply qza | apply qzb | apply qzc | apply qzd | apply qze | intro (_ : Nat) | intro (_ : Option Addr) (_ : Nat))
    conv => whnf
    refine .inl ⟨_, ok_sameW _ (rWo_mono _ _ _ _ hg3 hwa) hwb, ?_⟩
    repeat ((conv => whnf); first | apply qza | apply qzb | apply qzc | apply qzd | apply qze | intro (_ : Nat) | intro (_ : Option Addr) (_ : Nat))
    conv => whnf
    refine ⟨fun _ => ?_, fun h => nomatch h⟩
    repeat ((conv => whnf); first | apply qza | apply qzb | apply qzc | apply qzd | apply qze | intro (_ : Nat) | intro (_ : Option Addr) (_ : Nat))
    conv => whnf
    refine .inl ⟨_, ok_sameM _ (rMach_mono _ _ _ _ hg3 hMa) hMb, ?_⟩
    repeat ((conv => whnf); first | apply qza | apply qzb | apply qzc | apply qzd | apply qze | intro (_ : Nat) | intro (_ : Option Addr) (_ : Nat))
    conv => whnf
    refine ⟨fun _ => ?_, fun h => nomatch h⟩
    repeat ((conv => whnf); first | apply qza | apply qzb | apply qzc | apply qzd | apply qze | intro (_ : Nat) | intro (_ : Option Addr) (_ : Nat))
    conv => whnf
    intro g2 hg
    simp)
end Go.Proofs.YtkkhdnddplkobaaGreat


/- What came in of this seat's types is plain data. -/
namespace Go.Proofs.YtkkhdnddplkobaaGreat
open Go.Proofs.YtkkhdnddplkobaaGreat.Sx
section
variable {H : Type} {enc : TypeId × Value → H} {W : World}
theorem op_api_Rule : Rds enc Tryz.prog W ty_api_Rule rRule := rd_rule (tS := ty_string) (tI := ty_int) (by kernel_rfl) (by kernel_rfl) (by kernel_rfl) (by kernel_rfl)
theorem op_api_Route : Rds enc Tryz.prog W ty_api_Route rRoute := rd_route (tS := ty_string) (by kernel_rfl) (by kernel_rfl) (by kernel_rfl)
theorem op_api_Cluster : Rds enc Tryz.prog W ty_api_Cluster rCluster := rd_cluster (tS := ty_string) (tI := ty_int) (tL := ty_sl_bool) (tB := ty_bool) (by kernel_rfl) (by kernel_rfl) (by kernel_rfl) (by kernel_rfl) (by kernel_rfl) (by kernel_rfl) (by kernel_rfl)
theorem op_api_Config : Rds enc Tryz.prog W ty_api_Config rConfig := by
  intro fuel cs x h
  obtain ⟨a, b, d, rfl, ⟨l0, h0⟩, ⟨l1, h1⟩, l2, h2⟩ := rd_three (t0 := ty_sl_string) (t1 := ty_sl_api_Route) (t2 := ty_sl_api_Cluster) (e0 := ty_string) (e1 := ty_api_Route) (e2 := ty_api_Cluster) (z0 := 1) (z1 := 4) (z2 := 4)
    (by kernel_rfl) (by kernel_rfl) (by kernel_rfl) (by kernel_rfl) (by kernel_rfl) (by kernel_rfl) (by kernel_rfl) (by kernel_rfl) (by omega) (by omega) (by omega) (rd_str (by kernel_rfl)) op_api_Route op_api_Cluster h
  exact ⟨⟨l0, l1, l2⟩, a, b, d, rfl, h0, h1, h2⟩
end
end Go.Proofs.YtkkhdnddplkobaaGreat


/- What came in of a snapshot is plain data. -/
namespace Go.Proofs.YtkkhdnddplkobaaGreat
open Go.Proofs.YtkkhdnddplkobaaGreat.Sx
section
variable {H : Type} {enc : TypeId × Value → H} {W : World}
theorem op_api_Snap : Rds enc Tryz.prog W ty_api_Snap rSnap := by
  intro fuel cs x h
  obtain ⟨a, b, d, rfl, ⟨l0, h0⟩, ⟨l1, h1⟩, l2, h2⟩ := rd_three (t0 := ty_sl_string) (t1 := ty_sl_api_Rule) (t2 := ty_sl_api_Cluster) (e0 := ty_string) (e1 := ty_api_Rule) (e2 := ty_api_Cluster) (z0 := 1) (z1 := 4) (z2 := 4)
    (by kernel_rfl) (by kernel_rfl) (by kernel_rfl) (by kernel_rfl) (by kernel_rfl) (by kernel_rfl) (by kernel_rfl) (by kernel_rfl) (by omega) (by omega) (by omega) (rd_str (by kernel_rfl)) op_api_Rule op_api_Cluster h
  exact ⟨⟨l0, l1, l2⟩, a, b, d, rfl, h0, h1, h2⟩
end
end Go.Proofs.YtkkhdnddplkobaaGreat


/- What came in of worlds and machines is plain data. -/
namespace Go.Proofs.YtkkhdnddplkobaaGreat
open Go.Proofs.YtkkhdnddplkobaaGreat.Sx
section
variable {H : Type} {enc : TypeId × Value → H} {W : World}
theorem op_api_Listen : Rds enc Tryz.prog W ty_api_Listen rListen := by
  intro fuel cs x h
  obtain ⟨hl, hg⟩ := fld_at (l := [(0, 1, ty_string), (1, 1, ty_bool), (2, 1, ty_int), (3, 1, ty_bool)]) (by kernel_rfl) h
  rw [show Tryz.prog.cellsOf ty_api_Listen = 4 by kernel_rfl] at hl
  match cs, hl with
  | [a, b, c, d], _ =>
    obtain ⟨s0, e0⟩ := (rd_str (by kernel_rfl)).fld (hg 0 _ _ _ rfl)
    obtain ⟨s1, e1⟩ := (rd_bool (by kernel_rfl)).fld (hg 1 _ _ _ rfl)
    obtain ⟨s2, e2, w2⟩ := (rd_int (by kernel_rfl)).fld (hg 2 _ _ _ rfl)
    obtain ⟨s3, e3⟩ := (rd_bool (by kernel_rfl)).fld (hg 3 _ _ _ rfl)
    cases e0; cases e1; cases e2; cases e3
    exact ⟨⟨s0, s1, s2, s3⟩, rfl, w2⟩
theorem op_api_Retired : Rds enc Tryz.prog W ty_api_Retired rRetired := by
  intro fuel cs x h
  obtain ⟨hl, hg⟩ := fld_at (l := [(0, 1, ty_int), (1, 1, ty_int), (2, 1, ty_bool)]) (by kernel_rfl) h
  rw [show Tryz.prog.cellsOf ty_api_Retired = 3 by kernel_rfl] at hl
  match cs, hl with
  | [a, b, c], _ =>
    obtain ⟨s0, e0, w0⟩ := (rd_int (by kernel_rfl)).fld (hg 0 _ _ _ rfl)
    obtain ⟨s1, e1, w1⟩ := (rd_int (by kernel_rfl)).fld (hg 1 _ _ _ rfl)
    obtain ⟨s2, e2⟩ := (rd_bool (by kernel_rfl)).fld (hg 2 _ _ _ rfl)
    cases e0; cases e1; cases e2
    exact ⟨⟨s0, s1, s2⟩, rfl, w0, w1⟩
theorem op_api_End : RdsW enc Tryz.prog W ty_api_End rEn := by
  intro fuel cs x h hs
  obtain ⟨hl, hg⟩ := fldW_at (l := [(0, 1, ty_uint64), (1, 1, ty_sl_int), (2, 1, ty_int)]) (by kernel_rfl) h hs
  rw [show Tryz.prog.cellsOf ty_api_End = 3 by kernel_rfl] at hl
  match cs, hl with
  | [a, b, c], _ =>
    obtain ⟨s0, e0, w0⟩ := (rd_u64 (by kernel_rfl)).fld (tr1 (hg 0 _ _ _ rfl))
    obtain ⟨s1, v, e1, h1, hb⟩ := (rw_slice (t := ty_sl_int) (e := ty_int) (sz := 1) (by kernel_rfl) (by kernel_rfl) (rd_int (by kernel_rfl)).w).fld (hg 1 _ _ _ rfl)
    obtain ⟨s2, e2, w2⟩ := (rd_int (by kernel_rfl)).fld (tr1 (hg 2 _ _ _ rfl))
    cases e0; cases e1; cases e2
    refine ⟨⟨s0, s1, s2⟩, ⟨_, rfl, w0, w2, h1⟩, ?_⟩
    rw [show Tryz.prog.bytesOf ty_int = 8 by kernel_rfl] at hb
    unfold reachBytes at hb
    show s1.length ≤ 17592186044416
    omega
theorem op_api_Group : RdsW enc Tryz.prog W ty_api_Group rGr := by
  intro fuel cs x h hs
  obtain ⟨hl, hg⟩ := fldW_at (l := [(0, 1, ty_uint64), (1, 1, ty_sl_api_End)]) (by kernel_rfl) h hs
  rw [show Tryz.prog.cellsOf ty_api_Group = 2 by kernel_rfl] at hl
  match cs, hl with
  | [a, b], _ =>
    obtain ⟨s0, e0, w0⟩ := (rd_u64 (by kernel_rfl)).fld (tr1 (hg 0 _ _ _ rfl))
    obtain ⟨s1, v, e1, h1⟩ := (rw_sl (t := ty_sl_api_End) (e := ty_api_End) (sz := 3) (by kernel_rfl) (by kernel_rfl) op_api_End).fld (hg 1 _ _ _ rfl)
    cases e0; cases e1
    exact ⟨⟨s0, s1⟩, _, rfl, w0, h1⟩
theorem op_api_Version : RdsW enc Tryz.prog W ty_api_Version rVe := by
  intro fuel cs x h hs
  obtain ⟨hl, hg⟩ := fldW_at (l := [(0, 3, ty_api_Snap), (3, 1, ty_sl_api_Group), (4, 1, ty_bool)]) (by kernel_rfl) h hs
  rw [show Tryz.prog.cellsOf ty_api_Version = 5 by kernel_rfl] at hl
  match cs, hl with
  | [a, b, c, d, e], _ =>
    obtain ⟨s0, e0⟩ := (op_api_Snap (enc := enc)).fld (tr1 (hg 0 _ _ _ rfl))
    obtain ⟨s1, v, e1, h1⟩ := (rw_sl (t := ty_sl_api_Group) (e := ty_api_Group) (sz := 2) (by kernel_rfl) (by kernel_rfl) op_api_Group).fld (hg 1 _ _ _ rfl)
    obtain ⟨s2, e2⟩ := (rd_bool (by kernel_rfl)).fld (tr1 (hg 2 _ _ _ rfl))
    cases e1; cases e2
    exact ⟨⟨s0, s1, s2⟩, _, _, _, _, rfl, e0, h1⟩
theorem op_row : Rds enc Tryz.prog W ty_sl_uint64 rRow := by
  intro fuel cs x h
  obtain ⟨l, v, rfl, h1⟩ := (rd_slice (t := ty_sl_uint64) (e := ty_uint64) (sz := 1) (by kernel_rfl) (by kernel_rfl) (by omega) (rd_u64 (by kernel_rfl))) fuel cs x h
  exact ⟨l, _, rfl, h1⟩
theorem op_api_World : RdsW enc Tryz.prog W ty_api_World rWo := by
  intro fuel cs x h hs
  obtain ⟨hl, hg⟩ := fldW_at (l := [(0, 1, ty_int), (1, 1, ty_int), (2, 1, ty_int), (3, 1, ty_sl_int), (4, 1, ty_sl_api_Version), (5, 1, ty_sl_api_Listen), (6, 1, ty_slsl_uint64), (7, 1, ty_sl_api_Retired)]) (by kernel_rfl) h hs
  rw [show Tryz.prog.cellsOf ty_api_World = 8 by kernel_rfl] at hl
  match cs, hl with
  | [c0, c1, c2, c3, c4, c5, c6, c7], _ =>
    obtain ⟨s0, e0, w0⟩ := (rd_int (by kernel_rfl)).fld (tr1 (hg 0 _ _ _ rfl))
    obtain ⟨s1, e1, w1⟩ := (rd_int (by kernel_rfl)).fld (tr1 (hg 1 _ _ _ rfl))
    obtain ⟨s2, e2, w2⟩ := (rd_int (by kernel_rfl)).fld (tr1 (hg 2 _ _ _ rfl))
    obtain ⟨s3, v3, e3, h3⟩ := (rd_slice (t := ty_sl_int) (e := ty_int) (sz := 1) (by kernel_rfl) (by kernel_rfl) (by omega) (rd_int (by kernel_rfl))).fld (tr1 (hg 3 _ _ _ rfl))
    obtain ⟨s4, v4, e4, h4⟩ := (rw_sl (t := ty_sl_api_Version) (e := ty_api_Version) (sz := 5) (by kernel_rfl) (by kernel_rfl) op_api_Version).fld (hg 4 _ _ _ rfl)
    obtain ⟨s5, v5, e5, h5⟩ := (rd_slice (t := ty_sl_api_Listen) (e := ty_api_Listen) (sz := 4) (by kernel_rfl) (by kernel_rfl) (by omega) op_api_Listen).fld (tr1 (hg 5 _ _ _ rfl))
    obtain ⟨s6, v6, e6, h6⟩ := (rd_slice (t := ty_slsl_uint64) (e := ty_sl_uint64) (sz := 1) (by kernel_rfl) (by kernel_rfl) (by omega) op_row).fld (tr1 (hg 6 _ _ _ rfl))
    obtain ⟨s7, v7, e7, h7⟩ := (rd_slice (t := ty_sl_api_Retired) (e := ty_api_Retired) (sz := 3) (by kernel_rfl) (by kernel_rfl) (by omega) op_api_Retired).fld (tr1 (hg 7 _ _ _ rfl))
    cases e0; cases e1; cases e2; cases e3; cases e4; cases e5; cases e6; cases e7
    exact ⟨⟨s0, s1, s2, s3, s4, s5, s6, s7⟩, _, _, _, _, _, rfl, ⟨w0, w1, w2⟩, h3, h4, h5, h6, h7⟩
theorem op_c6 : Rds enc Tryz.prog W ty_a6_uint64 fun _ cs (c : C6) => cs = c.cs ∧ c.ok := rd_c6 (e := ty_uint64) (by kernel_rfl) (by kernel_rfl) (by kernel_rfl) (by kernel_rfl)
theorem op_api_Answer : Rds enc Tryz.prog W ty_api_Answer rAns := by
  intro fuel cs x h
  obtain ⟨hl, hg⟩ := fld_at (l := [(0, 1, ty_int), (1, 1, ty_int), (2, 1, ty_int), (3, 1, ty_int), (4, 1, ty_int), (5, 1, ty_int), (6, 1, ty_int), (7, 6, ty_a6_uint64)]) (by kernel_rfl) h
  rw [show Tryz.prog.cellsOf ty_api_Answer = 13 by kernel_rfl] at hl
  match cs, hl with
  | [c0, c1, c2, c3, c4, c5, c6, d0, d1, d2, d3, d4, d5], _ =>
    obtain ⟨s0, e0, w0⟩ := (rd_int (by kernel_rfl)).fld (hg 0 _ _ _ rfl)
    obtain ⟨s1, e1, w1⟩ := (rd_int (by kernel_rfl)).fld (hg 1 _ _ _ rfl)
    obtain ⟨s2, e2, w2⟩ := (rd_int (by kernel_rfl)).fld (hg 2 _ _ _ rfl)
    obtain ⟨s3, e3, w3⟩ := (rd_int (by kernel_rfl)).fld (hg 3 _ _ _ rfl)
    obtain ⟨s4, e4, w4⟩ := (rd_int (by kernel_rfl)).fld (hg 4 _ _ _ rfl)
    obtain ⟨s5, e5, w5⟩ := (rd_int (by kernel_rfl)).fld (hg 5 _ _ _ rfl)
    obtain ⟨s6, e6, w6⟩ := (rd_int (by kernel_rfl)).fld (hg 6 _ _ _ rfl)
    obtain ⟨s7, e7, w7⟩ := (op_c6 (enc := enc)).fld (hg 7 _ _ _ rfl)
    cases e0; cases e1; cases e2; cases e3; cases e4; cases e5; cases e6; cases e7
    exact ⟨⟨s0, s1, s2, s3, s4, s5, s6, s7⟩, rfl, ⟨w0, w1, w2, w3, w4, w5, w6, w7⟩⟩
theorem op_api_Op : Rds enc Tryz.prog W ty_api_Op fun g cs (o : OpD) => ∃ a b d, cs = [.int .i64 o.kind, .string o.listen, .string o.host, .string o.path, .int .i64 o.d0, .int .i64 o.d1, .int .i64 o.n, a, b, d] ∧ (InR o.kind ∧ InR o.d0 ∧ InR o.d1 ∧ InR o.n) ∧ rConfig g [a, b, d] o.config := by
  intro fuel cs x h
  obtain ⟨hl, hg⟩ := fld_at (l := [(0, 1, ty_int), (1, 1, ty_string), (2, 1, ty_string), (3, 1, ty_string), (4, 1, ty_int), (5, 1, ty_int), (6, 1, ty_int), (7, 3, ty_api_Config)]) (by kernel_rfl) h
  rw [show Tryz.prog.cellsOf ty_api_Op = 10 by kernel_rfl] at hl
  match cs, hl with
  | [c0, c1, c2, c3, c4, c5, c6, d0, d1, d2], _ =>
    obtain ⟨s0, e0, w0⟩ := (rd_int (by kernel_rfl)).fld (hg 0 _ _ _ rfl)
    obtain ⟨s1, e1⟩ := (rd_str (by kernel_rfl)).fld (hg 1 _ _ _ rfl)
    obtain ⟨s2, e2⟩ := (rd_str (by kernel_rfl)).fld (hg 2 _ _ _ rfl)
    obtain ⟨s3, e3⟩ := (rd_str (by kernel_rfl)).fld (hg 3 _ _ _ rfl)
    obtain ⟨s4, e4, w4⟩ := (rd_int (by kernel_rfl)).fld (hg 4 _ _ _ rfl)
    obtain ⟨s5, e5, w5⟩ := (rd_int (by kernel_rfl)).fld (hg 5 _ _ _ rfl)
    obtain ⟨s6, e6, w6⟩ := (rd_int (by kernel_rfl)).fld (hg 6 _ _ _ rfl)
    obtain ⟨s7, e7⟩ := (op_api_Config (enc := enc)).fld (hg 7 _ _ _ rfl)
    cases e0; cases e1; cases e2; cases e3; cases e4; cases e5; cases e6
    exact ⟨⟨s0, s1, s2, s3, s4, s5, s6, s7⟩, _, _, _, rfl, ⟨w0, w4, w5, w6⟩, e7⟩
theorem op_api_Machine : Rds enc Tryz.prog W ty_api_Machine rMach := by
  intro fuel cs x h
  obtain ⟨hl, hg⟩ := fld_at (l := [(0, 10, ty_api_Op), (10, 1, ty_int), (11, 1, ty_int), (12, 1, ty_int), (13, 1, ty_int), (14, 1, ty_int), (15, 1, ty_int), (16, 1, ty_int), (17, 1, ty_int), (18, 1, ty_int), (19, 1, ty_uint64), (20, 1, ty_int), (21, 1, ty_int), (22, 1, ty_int), (23, 1, ty_int), (24, 1, ty_bool), (25, 13, ty_api_Answer), (38, 6, ty_a6_uint64)]) (by kernel_rfl) h
  rw [show Tryz.prog.cellsOf ty_api_Machine = 44 by kernel_rfl] at hl
  match cs, hl with
  | p0 :: p1 :: p2 :: p3 :: p4 :: p5 :: p6 :: p7 :: p8 :: p9 :: c10 :: c11 :: c12 :: c13 :: c14 :: c15 :: c16 :: c17 :: c18 :: c19 :: c20 :: c21 :: c22 :: c23 :: c24 :: a0 :: a1 :: a2 :: a3 :: a4 :: a5 :: a6 :: a7 :: a8 :: a9 :: a10 :: a11 :: a12 :: n0 :: n1 :: n2 :: n3 :: n4 :: n5 :: [], _ =>
    obtain ⟨s0, xa, xb, xd, e0, w0, hc⟩ := (op_api_Op (enc := enc)).fld (hg 0 _ _ _ rfl)
    obtain ⟨s1, e1, w1⟩ := (rd_int (by kernel_rfl)).fld (hg 1 _ _ _ rfl)
    obtain ⟨s2, e2, w2⟩ := (rd_int (by kernel_rfl)).fld (hg 2 _ _ _ rfl)
    obtain ⟨s3, e3, w3⟩ := (rd_int (by kernel_rfl)).fld (hg 3 _ _ _ rfl)
    obtain ⟨s4, e4, w4⟩ := (rd_int (by kernel_rfl)).fld (hg 4 _ _ _ rfl)
    obtain ⟨s5, e5, w5⟩ := (rd_int (by kernel_rfl)).fld (hg 5 _ _ _ rfl)
    obtain ⟨s6, e6, w6⟩ := (rd_int (by kernel_rfl)).fld (hg 6 _ _ _ rfl)
    obtain ⟨s7, e7, w7⟩ := (rd_int (by kernel_rfl)).fld (hg 7 _ _ _ rfl)
    obtain ⟨s8, e8, w8⟩ := (rd_int (by kernel_rfl)).fld (hg 8 _ _ _ rfl)
    obtain ⟨s9, e9, w9⟩ := (rd_int (by kernel_rfl)).fld (hg 9 _ _ _ rfl)
    obtain ⟨s10, e10, w10⟩ := (rd_u64 (by kernel_rfl)).fld (hg 10 _ _ _ rfl)
    obtain ⟨s11, e11, w11⟩ := (rd_int (by kernel_rfl)).fld (hg 11 _ _ _ rfl)
    obtain ⟨s12, e12, w12⟩ := (rd_int (by kernel_rfl)).fld (hg 12 _ _ _ rfl)
    obtain ⟨s13, e13, w13⟩ := (rd_int (by kernel_rfl)).fld (hg 13 _ _ _ rfl)
    obtain ⟨s14, e14, w14⟩ := (rd_int (by kernel_rfl)).fld (hg 14 _ _ _ rfl)
    obtain ⟨s15, e15⟩ := (rd_bool (by kernel_rfl)).fld (hg 15 _ _ _ rfl)
    obtain ⟨s16, e16, w16⟩ := (op_api_Answer (enc := enc)).fld (hg 16 _ _ _ rfl)
    obtain ⟨s17, e17, w17⟩ := (op_c6 (enc := enc)).fld (hg 17 _ _ _ rfl)
    cases e0; cases e1; cases e2; cases e3; cases e4; cases e5; cases e6; cases e7; cases e8; cases e9; cases e10; cases e11; cases e12; cases e13; cases e14; cases e15; cases e16; cases e17
    exact ⟨⟨s0, s1, s2, s3, s4, s5, s6, s7, s8, s9, s10, s11, s12, s13, s14, s15, s16, s17⟩, _, _, _, rfl, ⟨w1, w2, w3, w4, w5, w6, w7, w8, w9, w10, w11, w12, w13, w14, w16, w17⟩, w0, hc⟩
end
end Go.Proofs.YtkkhdnddplkobaaGreat

