/- Counts that are read: a step. -/
import Derived.Test.YtkkhdnddplkobaaLW9t
import Derived.Test.YtkkhdnddplkobaaPl
import Derived.Test.YtkkhdnddplkobaaLW9b
import Derived.Test.YtkkhdnddplkobaaF
namespace Go.Proofs.Ytkkhdnddplkobaa
open Go.Proofs.Ytkkhdnddplkobaa.Sx Go.RowKit
def StatP (w : Wd) (m : Mach) (v : Value) (g' : GW) : Prop := ∃ cs ms, v = .tuple #[.agg ⟨cs⟩, .agg ⟨ms⟩, .agg ⟨(statE w m).cs⟩] ∧ rWo g' cs w ∧ rMach g' ms (statM w m)
set_option maxHeartbeats 4000000 in
set_option maxRecDepth 100000 in
theorem ok_sStep (g : GW) {cs ms : List Value} {w : Wd} {m : Mach} (hw : rWo g cs w) (hM : rMach g ms m) (hsn : SnW w) (hb : BgW 1000000 w) : Ok Try.prog n_stats_Step [.agg ⟨cs⟩, .agg ⟨ms⟩] g (StatP w m) := by
  have hw0 := hw
  have hM0 := hM
  obtain ⟨a, b, c, d, e, rfl, ⟨i1, i2, i3⟩, hP, hV, hL, hC, hR⟩ := hw
  obtain ⟨oa, ca, rfl, a1, a2, a0, hP1⟩ := id hP
  obtain ⟨ob, cb, rfl, b1, b2, b0, hV1⟩ := id hV
  obtain ⟨oc, cc, rfl, c1, c2, c0, hL1⟩ := id hL
  obtain ⟨od, cd, rfl, d1, d2, d0, hC1⟩ := id hC
  obtain ⟨oe, ce, rfl, e1, e2, e0, hR1⟩ := id hR
  obtain ⟨ma, mb, md, rfl, hok, hop, hcf⟩ := hM
  obtain ⟨_, _, _, he, ⟨o1, t1, rfl, _⟩, ⟨o2, t2, rfl, _⟩, ⟨o3, t3, rfl, _⟩⟩ := id hcf
  cases he
  exact Ok.of_fn hm noT 0 t_stats_Step (args := [.v (.agg ⟨[.int .i64 w.epoch, .int .i64 w.current, .int .i64 w.lock, .slice oa w.pins.length ca, .slice ob w.versions.length cb, .slice oc w.listens.length cc, .slice od w.counts.length cd, .slice oe w.limbo.length ce]⟩), .v (.agg ⟨m.cs (.slice o1 m.op.config.listens.length t1) (.slice o2 m.op.config.routes.length t2) (.slice o3 m.op.config.clusters.length t3)⟩)]) (by
    repeat ((conv => whnf); first | apply qza | apply qzb | apply qzc | apply qzd | apply qze | intro (_ : Nat) | intro (_ : Option Addr) (_ : Nat))
    conv => whnf
    refine ⟨fun z1 => ?_, fun z1 => ?_⟩
    · repeat ((conv => whnf); first | apply qza | apply qzb | apply qzc | apply qzd | apply qze | intro (_ : Nat) | intro (_ : Option Addr) (_ : Nat))
      conv => whnf
      intro g2 hg
      obtain ⟨hMm, hE⟩ := stat_no (w := w) (m := m) (fun h => bneT z1 h.2.1)
      exact ⟨_, _, by rw [hE]; rfl, rWo_mono _ _ _ _ hg hw0, by rw [hMm]; exact rMach_mono _ _ _ _ hg hM0⟩
    repeat ((conv => whnf); first | apply qza | apply qzb | apply qzc | apply qzd | apply qze | intro (_ : Nat) | intro (_ : Option Addr) (_ : Nat))
    conv => whnf
    refine ⟨fun z2 => ?_, fun z2 => ?_⟩
    · repeat ((conv => whnf); first | apply qza | apply qzb | apply qzc | apply qzd | apply qze | intro (_ : Nat) | intro (_ : Option Addr) (_ : Nat))
      conv => whnf
      intro g2 hg
      obtain ⟨hMm, hE⟩ := stat_no (w := w) (m := m) (fun h => by have := of_decide_eq_true z2; omega)
      exact ⟨_, _, by rw [hE]; rfl, rWo_mono _ _ _ _ hg hw0, by rw [hMm]; exact rMach_mono _ _ _ _ hg hM0⟩
    repeat ((conv => whnf); first | apply qza | apply qzb | apply qzc | apply qzd | apply qze | intro (_ : Nat) | intro (_ : Option Addr) (_ : Nat))
    conv => whnf
    refine ⟨fun z3 => ?_, fun z3 => ?_⟩
    · repeat ((conv => whnf); first | apply qza | apply qzb | apply qzc | apply qzd | apply qze | intro (_ : Nat) | intro (_ : Option Addr) (_ : Nat))
      conv => whnf
      intro g2 hg
      obtain ⟨hMm, hE⟩ := stat_no (w := w) (m := m) (fun h => by have := of_decide_eq_true z3; omega)
      exact ⟨_, _, by rw [hE]; rfl, rWo_mono _ _ _ _ hg hw0, by rw [hMm]; exact rMach_mono _ _ _ _ hg hM0⟩
    repeat ((conv => whnf); first | apply qza | apply qzb | apply qzc | apply qzd | apply qze | intro (_ : Nat) | intro (_ : Option Addr) (_ : Nat))
    conv => whnf
    refine .inl ⟨_, ok_Suits _ hw0 hM0 hsn hb, ?_⟩
    repeat ((conv => whnf); first | apply qza | apply qzb | apply qzc | apply qzd | apply qze | intro (_ : Nat) | intro (_ : Option Addr) (_ : Nat))
    conv => whnf
    refine ⟨fun z4 => ?_, fun z4 => ?_⟩
    · repeat ((conv => whnf); first | apply qza | apply qzb | apply qzc | apply qzd | apply qze | intro (_ : Nat) | intro (_ : Option Addr) (_ : Nat))
      conv => whnf
      intro g2 hg
      obtain ⟨hMm, hE⟩ := stat_no (w := w) (m := m) (fun h => by rw [h.1] at z4; cases z4)
      exact ⟨_, _, by rw [hE]; rfl, rWo_mono _ _ _ _ hg hw0, by rw [hMm]; exact rMach_mono _ _ _ _ hg hM0⟩
    have hs := nb0 z4
    have hk1 := bneF z1
    have hk2 := of_decide_eq_false z2
    have hk3 := of_decide_eq_false z3
    have hgo : statGo w m := ⟨hs, hk1, by omega, by omega⟩
    obtain ⟨_, _, _, hS⟩ := suitB_iff.1 hs
    have hi0 := hS.i
    have hk0 := hS.k
    have hi : m.i.toNat < w.counts.length := by omega
    obtain ⟨row, hrow, hlen, hc8⟩ := stat_row hS.right hi
    obtain ⟨x, hx⟩ := getL_of (l := row) (i := m.k.toNat) (by omega)
    have hcnt : cntAt w m = x := by unfold cntAt; rw [hrow]; show (row[m.k.toNat]?).getD 0 = x; rw [hx]; rfl
    obtain ⟨ad, rfl, ec, hec, ⟨rv, rfl, hrv⟩, hcr⟩ := hC1 m.i.toNat row hrow
    obtain ⟨ao, ac, rfl, r1, r2, r0, hr1⟩ := id hrv
    obtain ⟨ar, rfl, ec2, hec2, ⟨rfl, hxu⟩, hcx⟩ := hr1 m.k.toNat x hx
    repeat ((conv => whnf); first | apply qza | apply qzb | apply qzc | apply qzd | apply qze | intro (_ : Nat) | intro (_ : Option Addr) (_ : Nat))
    conv => whnf
    refine ⟨_, rfl, ⟨by omega, by omega⟩, ?_⟩
    repeat ((conv => whnf); first | apply qza | apply qzb | apply qzc | apply qzd | apply qze | intro (_ : Nat) | intro (_ : Option Addr) (_ : Nat))
    conv => whnf
    refine ⟨_, hcr 0 _ rfl, ?_⟩
    repeat ((conv => whnf); first | apply qza | apply qzb | apply qzc | apply qzd | apply qze | intro (_ : Nat) | intro (_ : Option Addr) (_ : Nat))
    conv => whnf
    refine ⟨_, rfl, ⟨by omega, by omega⟩, ?_⟩
    repeat ((conv => whnf); first | apply qza | apply qzb | apply qzc | apply qzd | apply qze | intro (_ : Nat) | intro (_ : Option Addr) (_ : Nat))
    conv => whnf
    refine ⟨_, hcx 0 _ rfl, ?_⟩
    repeat ((conv => whnf); first | apply qza | apply qzb | apply qzc | apply qzd | apply qze | intro (_ : Nat) | intro (_ : Option Addr) (_ : Nat))
    conv => whnf
    refine .inl ⟨_, ok_more _ m.counts x ⟨hk0, by omega⟩, ?_⟩
    repeat ((conv => whnf); first | apply qza | apply qzb | apply qzc | apply qzd | apply qze | intro (_ : Nat) | intro (_ : Option Addr) (_ : Nat))
    have hwk : IntKind.i64.wrap (m.k + 1) = m.k + 1 := wr (by unfold InR; omega)
    have hQ : statC w m = m.counts.set (IntKind.u64.wrap (m.counts.get m.k.toNat + x)) m.k.toNat := by unfold statC; rw [hcnt]
    rw [← hQ]
    repeat ((conv => whnf); first | apply qza | apply qzb | apply qzc | apply qzd | apply qze | intro (_ : Nat) | intro (_ : Option Addr) (_ : Nat))
    conv => whnf
    refine ⟨fun y1 => ?_, fun y1 => ?_⟩
    · have hk5 : m.k = 5 := by have := beqT y1; rw [hwk] at this; omega
      have hK : statK m = 0 := if_pos hk5
      have hI : statI m = m.i + 1 := if_pos hk5
      have hwi : IntKind.i64.wrap (m.i + 1) = m.i + 1 := wr (by unfold InR; omega)
      repeat ((conv => whnf); first | apply qza | apply qzb | apply qzc | apply qzd | apply qze | intro (_ : Nat) | intro (_ : Option Addr) (_ : Nat))
      conv => whnf
      refine ⟨fun y2 => ?_, fun y2 => ?_⟩
      · obtain ⟨hMm, hE⟩ := stat_last hgo (by have := beqT y2; rw [hwi] at this; rw [hI]; exact this)
        repeat ((conv => whnf); first | apply qza | apply qzb | apply qzc | apply qzd | apply qze | intro (_ : Nat) | intro (_ : Option Addr) (_ : Nat))
        refine .inr ((ok_Clone _ hw0 hb).mono fun v g3 hg3 hO => ?_)
        obtain ⟨cs, T, rfl, hT⟩ := hO
        have hF := oWo_rd hT
        obtain ⟨_, _, _, _, _, _, _, _, _, _, rfl⟩ := rWo_open hF
        repeat ((conv => whnf); first | apply qza | apply qzb | apply qzc | apply qzd | apply qze | intro (_ : Nat) | intro (_ : Option Addr) (_ : Nat))
        conv => whnf
        intro g2 hg
        refine ⟨_, _, by rw [hE]; rfl, rWo_mono _ _ _ _ hg hF, ?_⟩
        rw [hMm]
        exact ⟨_, _, _, by rw [hwi, hI, hK] <;> rfl, { hok with counts := statC_ok hok.counts, i := show InR (statI m) from by rw [hI]; unfold InR; omega, k := show InR (statK m) from by rw [hK]; exact z0, answer := statA_ok (statC_ok hok.counts) }, hop, rConfig_mono _ _ _ _ (GW.trans hg3 hg) hcf⟩
      · obtain ⟨hMm, hE⟩ := stat_more hgo (by have := beqF y2; rw [hwi] at this; rw [hI]; exact this)
        repeat ((conv => whnf); first | apply qza | apply qzb | apply qzc | apply qzd | apply qze | intro (_ : Nat) | intro (_ : Option Addr) (_ : Nat))
        refine .inr ((ok_Clone _ hw0 hb).mono fun v g3 hg3 hO => ?_)
        obtain ⟨cs, T, rfl, hT⟩ := hO
        have hF := oWo_rd hT
        obtain ⟨_, _, _, _, _, _, _, _, _, _, rfl⟩ := rWo_open hF
        repeat ((conv => whnf); first | apply qza | apply qzb | apply qzc | apply qzd | apply qze | intro (_ : Nat) | intro (_ : Option Addr) (_ : Nat))
        conv => whnf
        intro g2 hg
        refine ⟨_, _, by rw [hE]; rfl, rWo_mono _ _ _ _ hg hF, ?_⟩
        rw [hMm]
        exact ⟨_, _, _, by rw [hwi, hI, hK] <;> rfl, { hok with counts := statC_ok hok.counts, i := show InR (statI m) from by rw [hI]; unfold InR; omega, k := show InR (statK m) from by rw [hK]; exact z0 }, hop, rConfig_mono _ _ _ _ (GW.trans hg3 hg) hcf⟩
    · have hk5 : m.k ≠ 5 := by have := beqF y1; rw [hwk] at this; omega
      have hK : statK m = m.k + 1 := if_neg hk5
      have hI : statI m = m.i := if_neg hk5
      repeat ((conv => whnf); first | apply qza | apply qzb | apply qzc | apply qzd | apply qze | intro (_ : Nat) | intro (_ : Option Addr) (_ : Nat))
      conv => whnf
      refine ⟨fun y2 => ?_, fun y2 => ?_⟩
      · obtain ⟨hMm, hE⟩ := stat_last hgo (by have := beqT y2; rw [hI]; exact this)
        repeat ((conv => whnf); first | apply qza | apply qzb | apply qzc | apply qzd | apply qze | intro (_ : Nat) | intro (_ : Option Addr) (_ : Nat))
        refine .inr ((ok_Clone _ hw0 hb).mono fun v g3 hg3 hO => ?_)
        obtain ⟨cs, T, rfl, hT⟩ := hO
        have hF := oWo_rd hT
        obtain ⟨_, _, _, _, _, _, _, _, _, _, rfl⟩ := rWo_open hF
        repeat ((conv => whnf); first | apply qza | apply qzb | apply qzc | apply qzd | apply qze | intro (_ : Nat) | intro (_ : Option Addr) (_ : Nat))
        conv => whnf
        intro g2 hg
        refine ⟨_, _, by rw [hE]; rfl, rWo_mono _ _ _ _ hg hF, ?_⟩
        rw [hMm]
        exact ⟨_, _, _, by rw [hwk, hI, hK] <;> rfl, { hok with counts := statC_ok hok.counts, i := show InR (statI m) from by rw [hI]; exact hok.i, k := show InR (statK m) from by rw [hK]; unfold InR; omega, answer := statA_ok (statC_ok hok.counts) }, hop, rConfig_mono _ _ _ _ (GW.trans hg3 hg) hcf⟩
      · obtain ⟨hMm, hE⟩ := stat_more hgo (by have := beqF y2; rw [hI]; exact this)
        repeat ((conv => whnf); first | apply qza | apply qzb | apply qzc | apply qzd | apply qze | intro (_ : Nat) | intro (_ : Option Addr) (_ : Nat))
        refine .inr ((ok_Clone _ hw0 hb).mono fun v g3 hg3 hO => ?_)
        obtain ⟨cs, T, rfl, hT⟩ := hO
        have hF := oWo_rd hT
        obtain ⟨_, _, _, _, _, _, _, _, _, _, rfl⟩ := rWo_open hF
        repeat ((conv => whnf); first | apply qza | apply qzb | apply qzc | apply qzd | apply qze | intro (_ : Nat) | intro (_ : Option Addr) (_ : Nat))
        conv => whnf
        intro g2 hg
        refine ⟨_, _, by rw [hE]; rfl, rWo_mono _ _ _ _ hg hF, ?_⟩
        rw [hMm]
        exact ⟨_, _, _, by rw [hwk, hI, hK] <;> rfl, { hok with counts := statC_ok hok.counts, i := show InR (statI m) from by rw [hI]; exact hok.i, k := show InR (statK m) from by rw [hK]; unfold InR; omega }, hop, rConfig_mono _ _ _ _ (GW.trans hg3 hg) hcf⟩)
end Go.Proofs.Ytkkhdnddplkobaa


/- Counts that are read: law 25's example. -/
namespace Go.Proofs.Ytkkhdnddplkobaa
open Go.Proofs.Ytkkhdnddplkobaa.Sx Go.RowKit
theorem wR_sn : SnW wR := by
  intro v hv
  have : v = cellsV (snapP 1 [true]) := by simpa [wR, newW] using hv
  subst this
  refine ⟨by decide, fun r hr => ?_⟩
  have : r = ⟨0, ⟨#[42]⟩, ⟨#[47]⟩, 0⟩ := by simpa [cellsV, snapP] using hr
  subst this
  decide
theorem wR_bg : BgW 1000000 wR := by
  refine ⟨⟨by decide, by decide, by decide, by decide, by decide⟩, by decide, fun v hv => ?_⟩
  have : v = cellsV (snapP 1 [true]) := by simpa [wR, newW] using hv
  subst this
  refine ⟨by decide, fun y hy => ?_⟩
  have : y = ⟨0, [freshE 1]⟩ := by simpa [cellsV, snapP] using hy
  subst this
  show 1 ≤ 1000000
  decide
theorem ok_plain25 (g : GW) : Ok Try.prog n_hydrantlaw25_plain [] g fun v g' => ∃ cs, v = .agg ⟨cs⟩ ∧ rWo g' cs wR :=
  Ok.of_fn hm noT 0 t_hydrantlaw25_plain (args := []) (by
    repeat ((conv => whnf); first | apply qza | apply qzb | apply qzc | apply qzd | apply qze | intro (_ : Nat) | intro (_ : Option Addr) (_ : Nat))
    conv => whnf
    refine ⟨1, rfl, by unfold maxLen; omega, fun g1 hg1 hn1 hp1 => ?_⟩
    repeat ((conv => whnf); first | apply qza | apply qzb | apply qzc | apply qzd | apply qze | intro (_ : Nat) | intro (_ : Option Addr) (_ : Nat))
    conv => whnf
    refine ⟨4, rfl, by unfold maxLen; omega, fun g2 hg2 hn2 hp2 => ?_⟩
    repeat ((conv => whnf); first | apply qza | apply qzb | apply qzc | apply qzd | apply qze | intro (_ : Nat) | intro (_ : Option Addr) (_ : Nat))
    conv => whnf
    refine ⟨1, rfl, by unfold maxLen; omega, fun g3 hg3 hn3 hp3 => ?_⟩
    repeat ((conv => whnf); first | apply qza | apply qzb | apply qzc | apply qzd | apply qze | intro (_ : Nat) | intro (_ : Option Addr) (_ : Nat))
    conv => whnf
    refine ⟨4, rfl, by unfold maxLen; omega, fun g4 hg4 hn4 hp4 => ?_⟩
    repeat ((conv => whnf); first | apply qza | apply qzb | apply qzc | apply qzd | apply qze | intro (_ : Nat) | intro (_ : Option Addr) (_ : Nat))
    conv => whnf
    refine ⟨1, rfl, by unfold maxLen; omega, fun g5 hg5 hn5 hp5 => ?_⟩
    have hs := snapP_rd (n := 1) (h := [true]) (hp1.mono (GW.trans hg2 (GW.trans hg3 (GW.trans hg4 hg5)))) (hp2.mono (GW.trans hg3 (GW.trans hg4 hg5))) (hp4.mono hg5) (hp3.mono (GW.trans hg4 hg5)) (by decide)
    have hl := rSl_of1 (R := rStr) hp5.rd [sInW] .string rfl fun _ _ => rfl
    conv => whnf
    refine .inr ((ok_New _ hs hl (t := 2) (by decide) (by decide)).mono fun v g6 hg6 hN => ?_)
    rcases hN with ⟨_, cs, rfl, hw⟩ | ⟨h, _⟩
    rotate_left
    · exact absurd snapP_ok1 h
    obtain ⟨oa, ca, ob, cb, oc, cc, od, cd, oe, ce, rfl⟩ := rWo_open hw
    repeat ((conv => whnf); first | apply qza | apply qzb | apply qzc | apply qzd | apply qze | intro (_ : Nat) | intro (_ : Option Addr) (_ : Nat))
    conv => whnf
    refine ⟨1, rfl, by unfold maxLen; omega, fun g7 hg7 hn7 hp7 => ?_⟩
    repeat ((conv => whnf); first | apply qza | apply qzb | apply qzc | apply qzd | apply qze | intro (_ : Nat) | intro (_ : Option Addr) (_ : Nat))
    conv => whnf
    refine ⟨1, rfl, by unfold maxLen; omega, fun g8 hg8 hn8 hp8 => ?_⟩
    repeat ((conv => whnf); first | apply qza | apply qzb | apply qzc | apply qzd | apply qze | intro (_ : Nat) | intro (_ : Option Addr) (_ : Nat))
    conv => whnf
    refine ⟨1, rfl, by unfold maxLen; omega, fun g9 hg9 hn9 hp9 => ?_⟩
    repeat ((conv => whnf); first | apply qza | apply qzb | apply qzc | apply qzd | apply qze | intro (_ : Nat) | intro (_ : Option Addr) (_ : Nat))
    conv => whnf
    intro g2 hg
    have hr := rows2 (l1 := [3, 1, 2, 0, 0, 0]) (l2 := [4, 4, 0, 0, 0, 0]) hp9 (hp7.mono (GW.trans hg8 hg9)) (hp8.mono hg9) (by decide) (by decide)
    exact ⟨_, rfl, rWo_mono _ _ _ _ hg (rWo_counts (rWo_mono _ _ _ _ (GW.trans hg7 (GW.trans hg8 hg9)) hw) hr)⟩)
end Go.Proofs.Ytkkhdnddplkobaa


/- Counts that are read: law 25's example is read. -/
namespace Go.Proofs.Ytkkhdnddplkobaa
open Go.Proofs.Ytkkhdnddplkobaa.Sx Go.RowKit
structure RdSt where
  j : Nat
  g : GW
  o1 : Option Addr
  t1 : Nat
  o2 : Option Addr
  t2 : Nat
  o3 : Option Addr
  t3 : Nat
abbrev RdSt.ms (x : RdSt) : List Value := (mR x.j).cs (.slice x.o1 (mR x.j).op.config.listens.length x.t1) (.slice x.o2 (mR x.j).op.config.routes.length x.t2) (.slice x.o3 (mR x.j).op.config.clusters.length x.t3)
theorem ok_step25 (g : GW) {cs ms : List Value} {j : Nat} (hw : rWo g cs wR) (hM : rMach g ms (mR j)) (hj : j < 12) : Ok Try.prog n_stats_Step [.agg ⟨cs⟩, .agg ⟨ms⟩] g fun v g' => ∃ cs ms, v = .tuple #[.agg ⟨cs⟩, .agg ⟨ms⟩, .agg ⟨(statE wR (mR j)).cs⟩] ∧ rWo g' cs wR ∧ rMach g' ms (mR (j + 1)) :=
  (ok_sStep g hw hM wR_sn wR_bg).mono fun v g' _ hS => by
    obtain ⟨cs', ms', rfl, hw', hM'⟩ := hS
    rw [mR_next hj] at hM'
    exact ⟨_, _, rfl, hw', hM'⟩
set_option maxHeartbeats 4000000 in
set_option maxRecDepth 100000 in
theorem ok_read (g : GW) : OkV Try.prog n_hydrantlaw25_read [] g (.bool true) :=
  Ok.of_fn hm noT 0 t_hydrantlaw25_read (args := []) (by
    repeat ((conv => whnf); first | apply qza | apply qzb | apply qzc | apply qzd | apply qze | intro (_ : Nat) | intro (_ : Option Addr) (_ : Nat))
    refine .inr ((ok_plain25 _).mono fun v ga hga hO => ?_)
    obtain ⟨cs, rfl, hwa⟩ := hO
    obtain ⟨oa, ca, ob, cb, oc, cc, od, cd, oe, ce, rfl⟩ := rWo_open hwa
    have hMa := rMach_R ga
    repeat ((conv => whnf); first | apply qza | apply qzb | apply qzc | apply qzd | apply qze | intro (_ : Nat) | intro (_ : Option Addr) (_ : Nat))
    rename_i q0 q1
    refine .inr ((ok_step25 _ hwa hMa (by decide)).mono fun v gb hgb hO => ?_)
    obtain ⟨cs, ms, rfl, hwb, hMb⟩ := hO
    rw [mR_first]
    obtain ⟨ob1, cb1, ob2, cb2, ob3, cb3, ob4, cb4, ob5, cb5, rfl⟩ := rWo_open hwb
    obtain ⟨p1, u1, p2, u2, p3, u3, rfl⟩ := rMach_open hMb
    repeat ((conv => whnf); first | apply qza | apply qzb | apply qzc | apply qzd | apply qze | intro (_ : Nat) | intro (_ : Option Addr) (_ : Nat))
    rename_i q2 q3 q4
    conv => whnf
    refine ⟨RdSt, fun x => [.v (.int .i64 x.j)], fun x => ⟨x.g, [.blk 4 q4 ty_api_Event ((⟨0, 0, 1, 10, -1, false, 0, false, false, false, ans0⟩ : Ev).cs.map SV.v), .blk 3 q3 ty_api_Machine ((Mach.cs (.slice p1 (mR 1).op.config.listens.length u1) (.slice p2 (mR 1).op.config.routes.length u2) (.slice p3 (mR 1).op.config.clusters.length u3) (mR 1)).map SV.v), .blk 2 q2 ty_api_World _, .blk 1 q1 ty_api_Machine (x.ms.map SV.v), .blk 0 q0 ty_api_World ([.int .i64 wR.epoch, .int .i64 wR.current, .int .i64 wR.lock, .slice oa wR.pins.length ca, .slice ob wR.versions.length cb, .slice oc wR.listens.length cc, .slice od wR.counts.length cd, .slice oe wR.limbo.length ce].map SV.v)], _, _⟩, fun x => x.j ≤ 12 ∧ ga ≤ x.g ∧ rMach x.g x.ms (mR x.j), fun x => 12 - x.j, loop_here (⟨0, gb, none, 0, none, 0, none, 0⟩ : RdSt) rfl ⟨Nat.zero_le _, hgb, rMach_mono _ _ _ _ hgb hMa⟩ rfl, ?_⟩
    intro x hx
    obtain ⟨hj, hxg, hxM⟩ := hx
    repeat ((conv => whnf); first | apply qza | apply qzb | apply qzc | apply qzd | apply qze | intro (_ : Nat) | intro (_ : Option Addr) (_ : Nat))
    conv => whnf
    refine ⟨fun _ => ?_, fun hx => absurd (((decide_eq_true (show (x.j : Int) < 20 by omega))).symm.trans hx) (by decide)⟩
    repeat ((conv => whnf); first | apply qza | apply qzb | apply qzc | apply qzd | apply qze | intro (_ : Nat) | intro (_ : Option Addr) (_ : Nat))
    conv => whnf
    refine ⟨fun y1 => ?_, fun y1 => ?_⟩
    · have hlt : x.j < 12 := by
        rcases Nat.lt_or_ge x.j 12 with h | h
        · exact h
        · obtain h12 : x.j = 12 := by omega
          rw [h12, mR_done] at y1; cases y1
      repeat ((conv => whnf); first | apply qza | apply qzb | apply qzc | apply qzd | apply qze | intro (_ : Nat) | intro (_ : Option Addr) (_ : Nat))
      refine .inr ((ok_step25 _ (rWo_mono _ _ _ _ hxg hwa) hxM hlt).mono fun v gc hgc hO => ?_)
      obtain ⟨cs, ms, rfl, hwc, hMc⟩ := hO
      obtain ⟨oc1, cc1, oc2, cc2, oc3, cc3, oc4, cc4, oc5, cc5, rfl⟩ := rWo_open hwc
      obtain ⟨v1, w1, v2, w2, v3, w3, rfl⟩ := rMach_open hMc
      repeat ((conv => whnf); first | apply qza | apply qzb | apply qzc | apply qzd | apply qze | intro (_ : Nat) | intro (_ : Option Addr) (_ : Nat))
      conv => whnf
      refine fun fr w hw => ⟨⟨x.j + 1, gc, v1, w1, v2, w2, v3, w3⟩, congrArg (fun z => [Value.int .i64 z]) (by rw [wr (by unfold InR; omega)]; rfl), ⟨hlt, GW.trans hxg hgc, hMc⟩, by show 12 - (x.j + 1) < 12 - x.j; omega, hw.fit (by simp [fitL, Res.eqv, concL, conc])⟩
    have h12 : x.j = 12 := by
      rcases Nat.lt_or_ge x.j 12 with h | h
      · rw [(mR_facts x.j h).1.2.1] at y1; cases y1
      · omega
    obtain ⟨j, g0, o1, t1, o2, t2, o3, t3⟩ := x
    obtain rfl : j = 12 := h12
    repeat ((conv => whnf); first | apply qza | apply qzb | apply qzc | apply qzd | apply qze | intro (_ : Nat) | intro (_ : Option Addr) (_ : Nat))
    conv => whnf
    refine ⟨fun _ => ?_, fun hx => absurd hx (by decide)⟩
    repeat ((conv => whnf); first | apply qza | apply qzb | apply qzc | apply qzd | apply qze | intro (_ : Nat) | intro (_ : Option Addr) (_ : Nat))
    conv => whnf
    refine ⟨fun _ => ?_, fun hx => absurd hx (by decide)⟩
    repeat ((conv => whnf); first | apply qza | apply qzb | apply qzc | apply qzd | apply qze | intro (_ : Nat) | intro (_ : Option Addr) (_ : Nat))
    conv => whnf
    refine ⟨0, ⟨rfl, by decide⟩, ?_⟩
    repeat ((conv => whnf); first | apply qza | apply qzb | apply qzc | apply qzd | apply qze | intro (_ : Nat) | intro (_ : Option Addr) (_ : Nat))
    conv => whnf
    refine ⟨fun _ => ?_, fun hx => absurd hx (by decide)⟩
    repeat ((conv => whnf); first | apply qza | apply qzb | apply qzc | apply qzd | apply qze | intro (_ : Nat) | intro (_ : Option Addr) (_ : Nat))
    conv => whnf
    refine ⟨fun _ => ?_, fun hx => absurd hx (by simp)⟩
    repeat ((conv => whnf); first | apply qza | apply qzb | apply qzc | apply qzd | apply qze | intro (_ : Nat) | intro (_ : Option Addr) (_ : Nat))
    conv => whnf
    intro g2 hg
    rfl)
end Go.Proofs.Ytkkhdnddplkobaa


/- Counts: their sum. -/
namespace Go.Proofs.Ytkkhdnddplkobaa
open Go.Proofs.Ytkkhdnddplkobaa.Sx Go.RowKit
theorem kn6 {k : Nat} (h : k < 6) : k = 0 ∨ k = 1 ∨ k = 2 ∨ k = 3 ∨ k = 4 ∨ k = 5 := by omega
theorem ok_Sum (g : GW) {v : Value} {l : List (List Int)} (hl : rSl 1 rRow g v l) (h : shardB l = true) : OkV Try.prog n_shard_Sum [v] g (.tuple #[.agg ⟨(partC l (6 * l.length)).cs⟩, .int .i64 0]) := by
  obtain ⟨oa, ca, rfl, a1, a2, a0, hr⟩ := id hl
  have h6 : ∀ r ∈ l, r.length = 6 := by
    unfold shardB at h
    simp only [Bool.and_eq_true, List.all_eq_true, decide_eq_true_eq] at h
    exact h.1.1
  exact Ok.of_fn hm noT 0 t_shard_Sum (args := [.v (.slice oa l.length ca)]) (by
    repeat ((conv => whnf); first | apply qza | apply qzb | apply qzc | apply qzd | apply qze | intro (_ : Nat) | intro (_ : Option Addr) (_ : Nat))
    rename_i q2 q4
    conv => whnf
    refine .inl ⟨_, (ok_hIs _ hl).to (congrArg Value.bool h), ?_⟩
    repeat ((conv => whnf); first | apply qza | apply qzb | apply qzc | apply qzd | apply qze | intro (_ : Nat) | intro (_ : Option Addr) (_ : Nat))
    conv => whnf
    refine ⟨fun h => (nomatch h), fun _ => ?_⟩
    repeat ((conv => whnf); first | apply qza | apply qzb | apply qzc | apply qzd | apply qze | intro (_ : Nat) | intro (_ : Option Addr) (_ : Nat))
    conv => whnf
    refine ⟨Nat, fun i => [.v (.int .i64 i)], fun i => ⟨g, [.blk 1 q4 ty_a6_uint64 ((partC l (6 * i)).cs.map SV.v), .blk 0 q2 ty_a6_uint64 (c60.cs.map SV.v)], 40, _⟩, fun i => i ≤ l.length, fun i => l.length - i, fun fr u hu => ⟨0, rfl, Nat.zero_le _, hu.fit (by simp [fitL, Res.eqv, concL, conc, partC, c60])⟩, ?_⟩
    intro i hi
    repeat ((conv => whnf); first | apply qza | apply qzb | apply qzc | apply qzd | apply qze | intro (_ : Nat) | intro (_ : Option Addr) (_ : Nat))
    conv => whnf
    refine ⟨fun y1 => ?_, fun y1 => ?_⟩
    · have hlt : i < l.length := by have := of_decide_eq_true y1; omega
      obtain ⟨row, hrow⟩ := getL_of hlt
      obtain ⟨ad, rfl, ec, hec, ⟨rv, rfl, hrv⟩, hcr⟩ := hr i row hrow
      obtain ⟨ao, ac, rfl, r1, r2, r0, hr1⟩ := id hrv
      have hlen := h6 row (List.mem_of_getElem? hrow)
      repeat ((conv => whnf); first | apply qza | apply qzb | apply qzc | apply qzd | apply qze | intro (_ : Nat) | intro (_ : Option Addr) (_ : Nat))
      conv => whnf
      refine ⟨_, rfl, ⟨by omega, by omega⟩, ?_⟩
      repeat ((conv => whnf); first | apply qza | apply qzb | apply qzc | apply qzd | apply qze | intro (_ : Nat) | intro (_ : Option Addr) (_ : Nat))
      conv => whnf
      refine ⟨_, hcr 0 _ rfl, ?_⟩
      repeat ((conv => whnf); first | apply qza | apply qzb | apply qzc | apply qzd | apply qze | intro (_ : Nat) | intro (_ : Option Addr) (_ : Nat))
      conv => whnf
      refine ⟨Nat, fun k => [.v (.int .i64 k)], fun k => ⟨g, [.blk 1 q4 ty_a6_uint64 ((partC l (6 * i + k)).cs.map SV.v), .blk 0 q2 ty_a6_uint64 (c60.cs.map SV.v)], 40, _⟩, fun k => k ≤ 6, fun k => 6 - k, loop_here 0 rfl (Nat.zero_le _) rfl, ?_⟩
      intro k hk
      repeat ((conv => whnf); first | apply qza | apply qzb | apply qzc | apply qzd | apply qze | intro (_ : Nat) | intro (_ : Option Addr) (_ : Nat))
      conv => whnf
      refine ⟨fun y2 => ?_, fun y2 => ?_⟩
      · have hk6 : k < 6 := by have := of_decide_eq_true y2; omega
        obtain ⟨x, hx⟩ := getL_of (l := row) (i := k) (by omega)
        obtain ⟨ar, rfl, ec2, hec2, ⟨rfl, hxu⟩, hcx⟩ := hr1 k x hx
        have hcell : cellAt l i k = x := by unfold cellAt; rw [hrow]; show (row[k]?).getD 0 = x; rw [hx]; rfl
        replace hcx := hcx 0 _ rfl
        rcases kn6 hk6 with rfl | rfl | rfl | rfl | rfl | rfl
        · repeat ((conv => whnf); first | apply qza | apply qzb | apply qzc | apply qzd | apply qze | intro (_ : Nat) | intro (_ : Option Addr) (_ : Nat))
          conv => whnf
          refine ⟨0, ⟨rfl, by decide⟩, ?_⟩
          repeat ((conv => whnf); first | apply qza | apply qzb | apply qzc | apply qzd | apply qze | intro (_ : Nat) | intro (_ : Option Addr) (_ : Nat))
          conv => whnf
          refine ⟨_, rfl, ⟨by omega, by omega⟩, ?_⟩
          repeat ((conv => whnf); first | apply qza | apply qzb | apply qzc | apply qzd | apply qze | intro (_ : Nat) | intro (_ : Option Addr) (_ : Nat))
          conv => whnf
          refine ⟨_, hcx, ?_⟩
          repeat ((conv => whnf); first | apply qza | apply qzb | apply qzc | apply qzd | apply qze | intro (_ : Nat) | intro (_ : Option Addr) (_ : Nat))
          conv => whnf
          refine ⟨0, ⟨rfl, by decide⟩, ?_⟩
          repeat ((conv => whnf); first | apply qza | apply qzb | apply qzc | apply qzd | apply qze | intro (_ : Nat) | intro (_ : Option Addr) (_ : Nat))
          conv => whnf
          refine fun fr u hu => ⟨1, rfl, by decide, by decide, hu.fit (by have hst := partC_step l (i := i) (k := 0) (by decide); rw [hcell] at hst; show fitL _ [.blk 1 q4 ty_a6_uint64 ((partC l (6 * i + 0 + 1)).cs.map SV.v), .blk 0 q2 ty_a6_uint64 (c60.cs.map SV.v)]; rw [hst]; simp [fitL, Res.eqv, concL, conc, C6.set, C6.get])⟩
        · repeat ((conv => whnf); first | apply qza | apply qzb | apply qzc | apply qzd | apply qze | intro (_ : Nat) | intro (_ : Option Addr) (_ : Nat))
          conv => whnf
          refine ⟨1, ⟨rfl, by decide⟩, ?_⟩
          repeat ((conv => whnf); first | apply qza | apply qzb | apply qzc | apply qzd | apply qze | intro (_ : Nat) | intro (_ : Option Addr) (_ : Nat))
          conv => whnf
          refine ⟨_, rfl, ⟨by omega, by omega⟩, ?_⟩
          repeat ((conv => whnf); first | apply qza | apply qzb | apply qzc | apply qzd | apply qze | intro (_ : Nat) | intro (_ : Option Addr) (_ : Nat))
          conv => whnf
          refine ⟨_, hcx, ?_⟩
          repeat ((conv => whnf); first | apply qza | apply qzb | apply qzc | apply qzd | apply qze | intro (_ : Nat) | intro (_ : Option Addr) (_ : Nat))
          conv => whnf
          refine ⟨1, ⟨rfl, by decide⟩, ?_⟩
          repeat ((conv => whnf); first | apply qza | apply qzb | apply qzc | apply qzd | apply qze | intro (_ : Nat) | intro (_ : Option Addr) (_ : Nat))
          conv => whnf
          refine fun fr u hu => ⟨2, rfl, by decide, by decide, hu.fit (by have hst := partC_step l (i := i) (k := 1) (by decide); rw [hcell] at hst; show fitL _ [.blk 1 q4 ty_a6_uint64 ((partC l (6 * i + 1 + 1)).cs.map SV.v), .blk 0 q2 ty_a6_uint64 (c60.cs.map SV.v)]; rw [hst]; simp [fitL, Res.eqv, concL, conc, C6.set, C6.get])⟩
        · repeat ((conv => whnf); first | apply qza | apply qzb | apply qzc | apply qzd | apply qze | intro (_ : Nat) | intro (_ : Option Addr) (_ : Nat))
          conv => whnf
          refine ⟨2, ⟨rfl, by decide⟩, ?_⟩
          repeat ((conv => whnf); first | apply qza | apply qzb | apply qzc | apply qzd | apply qze | intro (_ : Nat) | intro (_ : Option Addr) (_ : Nat))
          conv => whnf
          refine ⟨_, rfl, ⟨by omega, by omega⟩, ?_⟩
          repeat ((conv => whnf); first | apply qza | apply qzb | apply qzc | apply qzd | apply qze | intro (_ : Nat) | intro (_ : Option Addr) (_ : Nat))
          conv => whnf
          refine ⟨_, hcx, ?_⟩
          repeat ((conv => whnf); first | apply qza | apply qzb | apply qzc | apply qzd | apply qze | intro (_ : Nat) | intro (_ : Option Addr) (_ : Nat))
          conv => whnf
          refine ⟨2, ⟨rfl, by decide⟩, ?_⟩
          repeat ((conv => whnf); first | apply qza | apply qzb | apply qzc | apply qzd | apply qze | intro (_ : Nat) | intro (_ : Option Addr) (_ : Nat))
          conv => whnf
          refine fun fr u hu => ⟨3, rfl, by decide, by decide, hu.fit (by have hst := partC_step l (i := i) (k := 2) (by decide); rw [hcell] at hst; show fitL _ [.blk 1 q4 ty_a6_uint64 ((partC l (6 * i + 2 + 1)).cs.map SV.v), .blk 0 q2 ty_a6_uint64 (c60.cs.map SV.v)]; rw [hst]; simp [fitL, Res.eqv, concL, conc, C6.set, C6.get])⟩
        · repeat ((conv => whnf); first | apply qza | apply qzb | apply qzc | apply qzd | apply qze | intro (_ : Nat) | intro (_ : Option Addr) (_ : Nat))
          conv => whnf
          refine ⟨3, ⟨rfl, by decide⟩, ?_⟩
          repeat ((conv => whnf); first | apply qza | apply qzb | apply qzc | apply qzd | apply qze | intro (_ : Nat) | intro (_ : Option Addr) (_ : Nat))
          conv => whnf
          refine ⟨_, rfl, ⟨by omega, by omega⟩, ?_⟩
          repeat ((conv => whnf); first | apply qza | apply qzb | apply qzc | apply qzd | apply qze | intro (_ : Nat) | intro (_ : Option Addr) (_ : Nat))
          conv => whnf
          refine ⟨_, hcx, ?_⟩
          repeat ((conv => whnf); first | apply qza | apply qzb | apply qzc | apply qzd | apply qze | intro (_ : Nat) | intro (_ : Option Addr) (_ : Nat))
          conv => whnf
          refine ⟨3, ⟨rfl, by decide⟩, ?_⟩
          repeat ((conv => whnf); first | apply qza | apply qzb | apply qzc | apply qzd | apply qze | intro (_ : Nat) | intro (_ : Option Addr) (_ : Nat))
          conv => whnf
          refine fun fr u hu => ⟨4, rfl, by decide, by decide, hu.fit (by have hst := partC_step l (i := i) (k := 3) (by decide); rw [hcell] at hst; show fitL _ [.blk 1 q4 ty_a6_uint64 ((partC l (6 * i + 3 + 1)).cs.map SV.v), .blk 0 q2 ty_a6_uint64 (c60.cs.map SV.v)]; rw [hst]; simp [fitL, Res.eqv, concL, conc, C6.set, C6.get])⟩
        · repeat ((conv => whnf); first | apply qza | apply qzb | apply qzc | apply qzd | apply qze | intro (_ : Nat) | intro (_ : Option Addr) (_ : Nat))
          conv => whnf
          refine ⟨4, ⟨rfl, by decide⟩, ?_⟩
          repeat ((conv => whnf); first | apply qza | apply qzb | apply qzc | apply qzd | apply qze | intro (_ : Nat) | intro (_ : Option Addr) (_ : Nat))
          conv => whnf
          refine ⟨_, rfl, ⟨by omega, by omega⟩, ?_⟩
          repeat ((conv => whnf); first | apply qza | apply qzb | apply qzc | apply qzd | apply qze | intro (_ : Nat) | intro (_ : Option Addr) (_ : Nat))
          conv => whnf
          refine ⟨_, hcx, ?_⟩
          repeat ((conv => whnf); first | apply qza | apply qzb | apply qzc | apply qzd | apply qze | intro (_ : Nat) | intro (_ : Option Addr) (_ : Nat))
          conv => whnf
          refine ⟨4, ⟨rfl, by decide⟩, ?_⟩
          repeat ((conv => whnf); first | apply qza | apply qzb | apply qzc | apply qzd | apply qze | intro (_ : Nat) | intro (_ : Option Addr) (_ : Nat))
          conv => whnf
          refine fun fr u hu => ⟨5, rfl, by decide, by decide, hu.fit (by have hst := partC_step l (i := i) (k := 4) (by decide); rw [hcell] at hst; show fitL _ [.blk 1 q4 ty_a6_uint64 ((partC l (6 * i + 4 + 1)).cs.map SV.v), .blk 0 q2 ty_a6_uint64 (c60.cs.map SV.v)]; rw [hst]; simp [fitL, Res.eqv, concL, conc, C6.set, C6.get])⟩
        · repeat ((conv => whnf); first | apply qza | apply qzb | apply qzc | apply qzd | apply qze | intro (_ : Nat) | intro (_ : Option Addr) (_ : Nat))
          conv => whnf
          refine ⟨5, ⟨rfl, by decide⟩, ?_⟩
          repeat ((conv => whnf); first | apply qza | apply qzb | apply qzc | apply qzd | apply qze | intro (_ : Nat) | intro (_ : Option Addr) (_ : Nat))
          conv => whnf
          refine ⟨_, rfl, ⟨by omega, by omega⟩, ?_⟩
          repeat ((conv => whnf); first | apply qza | apply qzb | apply qzc | apply qzd | apply qze | intro (_ : Nat) | intro (_ : Option Addr) (_ : Nat))
          conv => whnf
          refine ⟨_, hcx, ?_⟩
          repeat ((conv => whnf); first | apply qza | apply qzb | apply qzc | apply qzd | apply qze | intro (_ : Nat) | intro (_ : Option Addr) (_ : Nat))
          conv => whnf
          refine ⟨5, ⟨rfl, by decide⟩, ?_⟩
          repeat ((conv => whnf); first | apply qza | apply qzb | apply qzc | apply qzd | apply qze | intro (_ : Nat) | intro (_ : Option Addr) (_ : Nat))
          conv => whnf
          refine fun fr u hu => ⟨6, rfl, by decide, by decide, hu.fit (by have hst := partC_step l (i := i) (k := 5) (by decide); rw [hcell] at hst; show fitL _ [.blk 1 q4 ty_a6_uint64 ((partC l (6 * i + 5 + 1)).cs.map SV.v), .blk 0 q2 ty_a6_uint64 (c60.cs.map SV.v)]; rw [hst]; simp [fitL, Res.eqv, concL, conc, C6.set, C6.get])⟩
      · have hk6 : k = 6 := by have := of_decide_eq_false y2; omega
        subst hk6
        repeat ((conv => whnf); first | apply qza | apply qzb | apply qzc | apply qzd | apply qze | intro (_ : Nat) | intro (_ : Option Addr) (_ : Nat))
        conv => whnf
        refine fun fr u hu => ⟨i + 1, congrArg (fun z => [Value.int .i64 z]) (show ((i + 1 : Nat) : Int) = IntKind.i64.wrap ((i : Int) + 1) by rw [wr (x := (i : Int) + 1) (by unfold InR; unfold maxLen at a2; omega)]; omega), hlt, by show l.length - (i + 1) < l.length - i; omega, hu.fit (by simp [fitL, Res.eqv, concL, conc, Nat.mul_succ])⟩
    have hil : i = l.length := by have := of_decide_eq_false y1; omega
    subst hil
    repeat ((conv => whnf); first | apply qza | apply qzb | apply qzc | apply qzd | apply qze | intro (_ : Nat) | intro (_ : Option Addr) (_ : Nat))
    conv => whnf
    intro g2 hg
    rfl)
end Go.Proofs.Ytkkhdnddplkobaa


/- The law StatsAlone. -/
namespace Go.Proofs.Ytkkhdnddplkobaa
open Go.Proofs.Ytkkhdnddplkobaa.Sx Go.RowKit
structure SaSt where
  n : Nat
  g : GW
  o1 : Option Addr
  t1 : Nat
  o2 : Option Addr
  t2 : Nat
  o3 : Option Addr
  t3 : Nat
def mT (t : Int) : Mach := { mP 0 0 with thread := t, op := { op0 with kind := 6 } }
theorem rMach_T (g : GW) {t : Int} (h : InR t) : rMach g ((mT t).cs (.slice none 0 0) (.slice none 0 0) (.slice none 0 0)) (mT t) :=
  ⟨_, _, _, rfl, ⟨h, z0, z0, z0, z0, z0, z0, z0, z0, zu, z0, z0, z0, z0, ans0_ok, c60_ok⟩, ⟨(by decide : InR 6), z0, z0, z0⟩, rConfig_nil g⟩
abbrev SaSt.ms (x : SaSt) (w : Wd) (t : Int) : List Value := (mA w.counts (mT t) x.n).cs (.slice x.o1 (mA w.counts (mT t) x.n).op.config.listens.length x.t1) (.slice x.o2 (mA w.counts (mT t) x.n).op.config.routes.length x.t2) (.slice x.o3 (mA w.counts (mT t) x.n).op.config.clusters.length x.t3)
set_option maxHeartbeats 8000000 in
set_option maxRecDepth 100000 in
theorem ok_StatsAlone (g : GW) {cs : List Value} {w : Wd} {t : Int} (hw : rWo g cs w) (ht : InR t) : OkV Try.prog n_hydrantlaw25_StatsAlone [.agg ⟨cs⟩, .int .i64 t] g (.bool true) := by
  obtain ⟨oa, ca, ob, cb, oc, cc, od, cd, oe, ce, rfl⟩ := rWo_open hw
  exact Ok.of_fn hm noT 0 t_hydrantlaw25_StatsAlone (args := [.v (.agg ⟨[.int .i64 w.epoch, .int .i64 w.current, .int .i64 w.lock, .slice oa w.pins.length ca, .slice ob w.versions.length cb, .slice oc w.listens.length cc, .slice od w.counts.length cd, .slice oe w.limbo.length ce]⟩), .v (.int .i64 t)]) (by
    repeat ((conv => whnf); first | apply qza | apply qzb | apply qzc | apply qzd | apply qze | intro (_ : Nat) | intro (_ : Option Addr) (_ : Nat))
    rename_i q0 q1
    refine .inr ((ok_rBigW _ hw).mono fun v g1 hg1 hB => ?_)
    obtain ⟨b, rfl, hB⟩ := hB
    repeat ((conv => whnf); first | apply qza | apply qzb | apply qzc | apply qzd | apply qze | intro (_ : Nat) | intro (_ : Option Addr) (_ : Nat))
    conv => whnf
    refine ⟨fun z1 => ?_, fun z1 => ?_⟩
    · repeat ((conv => whnf); first | apply qza | apply qzb | apply qzc | apply qzd | apply qze | intro (_ : Nat) | intro (_ : Option Addr) (_ : Nat))
      conv => whnf
      refine .inl ⟨_, ok_read _, ?_⟩
      repeat ((conv => whnf); first | apply qza | apply qzb | apply qzc | apply qzd | apply qze | intro (_ : Nat) | intro (_ : Option Addr) (_ : Nat))
      conv => whnf
      intro g2 hg
      rfl
    obtain ⟨hb, hsn⟩ := hB z1
    have hb' := BgW.up (K' := 1000000) hb (by decide)
    have hw1 := rWo_mono _ _ _ _ hg1 hw
    have hM1 := rMach_T g1 ht
    repeat ((conv => whnf); first | apply qza | apply qzb | apply qzc | apply qzd | apply qze | intro (_ : Nat) | intro (_ : Option Addr) (_ : Nat))
    conv => whnf
    refine .inl ⟨_, ok_Suits _ hw1 hM1 hsn hb', ?_⟩
    repeat ((conv => whnf); first | apply qza | apply qzb | apply qzc | apply qzd | apply qze | intro (_ : Nat) | intro (_ : Option Addr) (_ : Nat))
    conv => whnf
    refine ⟨fun z2 => ?_, fun z2 => ?_⟩
    · repeat ((conv => whnf); first | apply qza | apply qzb | apply qzc | apply qzd | apply qze | intro (_ : Nat) | intro (_ : Option Addr) (_ : Nat))
      conv => whnf
      refine .inl ⟨_, ok_read _, ?_⟩
      repeat ((conv => whnf); first | apply qza | apply qzb | apply qzc | apply qzd | apply qze | intro (_ : Nat) | intro (_ : Option Addr) (_ : Nat))
      conv => whnf
      intro g2 hg
      rfl
    have hs := nb0 z2
    obtain ⟨_, _, _, hS⟩ := suitB_iff.1 hs
    obtain ⟨hcp, hsh, hc1, hc8⟩ := ground_counts hS.right
    have hA0 : mA w.counts (mT t) 0 = mT t := by rw [mA_in (by omega)]; rfl
    have hms : (⟨0, g1, none, 0, none, 0, none, 0⟩ : SaSt).ms w t = (mT t).cs (.slice none 0 0) (.slice none 0 0) (.slice none 0 0) := by
      show (mA w.counts (mT t) 0).cs (.slice none (mA w.counts (mT t) 0).op.config.listens.length 0) (.slice none (mA w.counts (mT t) 0).op.config.routes.length 0) (.slice none (mA w.counts (mT t) 0).op.config.clusters.length 0) = _
      rw [hA0]; rfl
    repeat ((conv => whnf); first | apply qza | apply qzb | apply qzc | apply qzd | apply qze | intro (_ : Nat) | intro (_ : Option Addr) (_ : Nat))
    conv => whnf
    refine ⟨SaSt, fun x => [.v (.int .i64 x.n)], fun x => ⟨x.g, [.blk 1 q1 ty_api_Machine ((x.ms w t).map SV.v), .blk 0 q0 ty_api_World ([.int .i64 w.epoch, .int .i64 w.current, .int .i64 w.lock, .slice oa w.pins.length ca, .slice ob w.versions.length cb, .slice oc w.listens.length cc, .slice od w.counts.length cd, .slice oe w.limbo.length ce].map SV.v)], 40, _⟩, fun x => x.n ≤ 6 * w.counts.length ∧ g1 ≤ x.g ∧ rMach x.g (x.ms w t) (mA w.counts (mT t) x.n), fun x => 6 * w.counts.length - x.n, fun fr u hu => ⟨(⟨0, g1, none, 0, none, 0, none, 0⟩ : SaSt), rfl, ⟨Nat.zero_le _, GW.refl _, by show rMach g1 (Mach.cs _ _ _ (mA w.counts (mT t) 0)) (mA w.counts (mT t) 0); rw [hA0]; exact hM1⟩, hu.fit (by rw [hms]; simp [fitL, Res.eqv, concL, conc, mT, mP, op0, ans0, c60])⟩, ?_⟩
    intro x hx
    obtain ⟨n, gx, o1, t1, o2, t2, o3, t3⟩ := x
    obtain ⟨hn, hxg, hxM⟩ := hx
    replace hn : n ≤ 6 * w.counts.length := hn
    repeat ((conv => whnf); first | apply qza | apply qzb | apply qzc | apply qzd | apply qze | intro (_ : Nat) | intro (_ : Option Addr) (_ : Nat))
    conv => whnf
    refine ⟨fun _ => ?_, fun hx => absurd (((decide_eq_true (show (n : Int) < 100 by omega))).symm.trans hx) (by decide)⟩
    repeat ((conv => whnf); first | apply qza | apply qzb | apply qzc | apply qzd | apply qze | intro (_ : Nat) | intro (_ : Option Addr) (_ : Nat))
    conv => whnf
    refine ⟨fun y1 => ?_, fun y1 => ?_⟩
    · have hlt : n < 6 * w.counts.length := by
        rcases Nat.lt_or_ge n (6 * w.counts.length) with h | h
        · exact h
        · obtain rfl : n = 6 * w.counts.length := by omega
          rw [mA_end] at y1; cases y1
      repeat ((conv => whnf); first | apply qza | apply qzb | apply qzc | apply qzd | apply qze | intro (_ : Nat) | intro (_ : Option Addr) (_ : Nat))
      refine .inr ((ok_sStep _ (rWo_mono _ _ _ _ hxg hw1) hxM hsn hb').mono fun v gc hgc hO => ?_)
      obtain ⟨cs, ms, rfl, hwc, hMc⟩ := hO
      rw [mA_next hs rfl hlt] at hMc
      obtain ⟨_, _, _, _, _, _, _, _, _, _, rfl⟩ := rWo_open hwc
      obtain ⟨v1, w1, v2, w2, v3, w3, rfl⟩ := rMach_open hMc
      repeat ((conv => whnf); first | apply qza | apply qzb | apply qzc | apply qzd | apply qze | intro (_ : Nat) | intro (_ : Option Addr) (_ : Nat))
      conv => whnf
      refine .inl ⟨_, ok_sameW _ hwc (rWo_mono _ _ _ _ (GW.trans hxg hgc) hw1), ?_⟩
      repeat ((conv => whnf); first | apply qza | apply qzb | apply qzc | apply qzd | apply qze | intro (_ : Nat) | intro (_ : Option Addr) (_ : Nat))
      conv => whnf
      refine ⟨fun h => (nomatch h), fun _ => ?_⟩
      repeat ((conv => whnf); first | apply qza | apply qzb | apply qzc | apply qzd | apply qze | intro (_ : Nat) | intro (_ : Option Addr) (_ : Nat))
      conv => whnf
      refine fun fr u hu => ⟨⟨n + 1, gc, v1, w1, v2, w2, v3, w3⟩, congrArg (fun z => [Value.int .i64 z]) (show ((n + 1 : Nat) : Int) = IntKind.i64.wrap ((n : Int) + 1) by rw [wr (x := (n : Int) + 1) (by unfold InR; omega)]; omega), ⟨hlt, GW.trans hxg hgc, hMc⟩, by show 6 * w.counts.length - (n + 1) < 6 * w.counts.length - n; omega, hu.fit (by simp [fitL, Res.eqv, concL, conc])⟩
    have hend : n = 6 * w.counts.length := by
      rcases Nat.lt_or_ge n (6 * w.counts.length) with h | h
      · have hd := mA_done (w := w) (m0 := mT t) rfl h
        rw [show (mA w.counts (mT t) n).done = false from hd] at y1; cases y1
      · omega
    subst hend
    obtain ⟨_, _, _, _, _, he, _, _, _, _, hC, _⟩ := rWo_mono _ _ _ _ hxg hw1
    simp only [List.cons.injEq, and_true] at he
    obtain ⟨_, _, _, _, _, _, rfl, _⟩ := he
    repeat ((conv => whnf); first | apply qza | apply qzb | apply qzc | apply qzd | apply qze | intro (_ : Nat) | intro (_ : Option Addr) (_ : Nat))
    conv => whnf
    refine .inl ⟨_, ok_Sum _ hC hsh, ?_⟩
    repeat ((conv => whnf); first | apply qza | apply qzb | apply qzc | apply qzd | apply qze | intro (_ : Nat) | intro (_ : Option Addr) (_ : Nat))
    conv => whnf
    refine .inl ⟨_, ok_read _, ?_⟩
    repeat ((conv => whnf); first | apply qza | apply qzb | apply qzc | apply qzd | apply qze | intro (_ : Nat) | intro (_ : Option Addr) (_ : Nat))
    conv => whnf
    refine ⟨fun _ => ?_, fun h => nomatch h⟩
    repeat ((conv => whnf); first | apply qza | apply qzb | apply qzc | apply qzd | apply qze | intro (_ : Nat) | intro (_ : Option Addr) (_ : Nat))
    conv => whnf
    refine ⟨fun _ => ?_, fun hx => absurd hx (by decide)⟩
    repeat ((conv => whnf); first | apply qza | apply qzb | apply qzc | apply qzd | apply qze | intro (_ : Nat) | intro (_ : Option Addr) (_ : Nat))
    conv => whnf
    refine ⟨fun _ => ?_, fun hx => absurd hx (by rw [wr (by unfold InR; omega), ← hcp]; simp)⟩
    repeat ((conv => whnf); first | apply qza | apply qzb | apply qzc | apply qzd | apply qze | intro (_ : Nat) | intro (_ : Option Addr) (_ : Nat))
    conv => whnf
    intro g2 hg
    dsimp only
    rw [mA_end]
    simp [statA])
end Go.Proofs.Ytkkhdnddplkobaa


/- What came in of this seat's types is plain data. -/
namespace Go.Proofs.Ytkkhdnddplkobaa
open Go.Proofs.Ytkkhdnddplkobaa.Sx
section
variable {H : Type} {enc : TypeId × Value → H} {W : World}
theorem op_api_Rule : Rds enc Try.prog W ty_api_Rule rRule := rd_rule (tS := ty_string) (tI := ty_int) (by kernel_rfl) (by kernel_rfl) (by kernel_rfl) (by kernel_rfl)
theorem op_api_Cluster : Rds enc Try.prog W ty_api_Cluster rCluster := rd_cluster (tS := ty_string) (tI := ty_int) (tL := ty_sl_bool) (tB := ty_bool) (by kernel_rfl) (by kernel_rfl) (by kernel_rfl) (by kernel_rfl) (by kernel_rfl) (by kernel_rfl) (by kernel_rfl)
end
end Go.Proofs.Ytkkhdnddplkobaa


/- What came in of a snapshot is plain data. -/
namespace Go.Proofs.Ytkkhdnddplkobaa
open Go.Proofs.Ytkkhdnddplkobaa.Sx
section
variable {H : Type} {enc : TypeId × Value → H} {W : World}
theorem op_api_Snap : Rds enc Try.prog W ty_api_Snap rSnap := by
  intro fuel cs x h
  obtain ⟨a, b, d, rfl, ⟨l0, h0⟩, ⟨l1, h1⟩, l2, h2⟩ := rd_three (t0 := ty_sl_string) (t1 := ty_sl_api_Rule) (t2 := ty_sl_api_Cluster) (e0 := ty_string) (e1 := ty_api_Rule) (e2 := ty_api_Cluster) (z0 := 1) (z1 := 4) (z2 := 4)
    (by kernel_rfl) (by kernel_rfl) (by kernel_rfl) (by kernel_rfl) (by kernel_rfl) (by kernel_rfl) (by kernel_rfl) (by kernel_rfl) (by omega) (by omega) (by omega) (rd_str (by kernel_rfl)) op_api_Rule op_api_Cluster h
  exact ⟨⟨l0, l1, l2⟩, a, b, d, rfl, h0, h1, h2⟩
end
end Go.Proofs.Ytkkhdnddplkobaa


/- What came in of worlds and machines is plain data. -/
namespace Go.Proofs.Ytkkhdnddplkobaa
open Go.Proofs.Ytkkhdnddplkobaa.Sx
section
variable {H : Type} {enc : TypeId × Value → H} {W : World}
theorem op_api_Listen : Rds enc Try.prog W ty_api_Listen rListen := by
  intro fuel cs x h
  obtain ⟨hl, hg⟩ := fld_at (l := [(0, 1, ty_string), (1, 1, ty_bool), (2, 1, ty_int), (3, 1, ty_bool)]) (by kernel_rfl) h
  rw [show Try.prog.cellsOf ty_api_Listen = 4 by kernel_rfl] at hl
  match cs, hl with
  | [a, b, c, d], _ =>
    obtain ⟨s0, e0⟩ := (rd_str (by kernel_rfl)).fld (hg 0 _ _ _ rfl)
    obtain ⟨s1, e1⟩ := (rd_bool (by kernel_rfl)).fld (hg 1 _ _ _ rfl)
    obtain ⟨s2, e2, w2⟩ := (rd_int (by kernel_rfl)).fld (hg 2 _ _ _ rfl)
    obtain ⟨s3, e3⟩ := (rd_bool (by kernel_rfl)).fld (hg 3 _ _ _ rfl)
    cases e0; cases e1; cases e2; cases e3
    exact ⟨⟨s0, s1, s2, s3⟩, rfl, w2⟩
theorem op_api_Retired : Rds enc Try.prog W ty_api_Retired rRetired := by
  intro fuel cs x h
  obtain ⟨hl, hg⟩ := fld_at (l := [(0, 1, ty_int), (1, 1, ty_int), (2, 1, ty_bool)]) (by kernel_rfl) h
  rw [show Try.prog.cellsOf ty_api_Retired = 3 by kernel_rfl] at hl
  match cs, hl with
  | [a, b, c], _ =>
    obtain ⟨s0, e0, w0⟩ := (rd_int (by kernel_rfl)).fld (hg 0 _ _ _ rfl)
    obtain ⟨s1, e1, w1⟩ := (rd_int (by kernel_rfl)).fld (hg 1 _ _ _ rfl)
    obtain ⟨s2, e2⟩ := (rd_bool (by kernel_rfl)).fld (hg 2 _ _ _ rfl)
    cases e0; cases e1; cases e2
    exact ⟨⟨s0, s1, s2⟩, rfl, w0, w1⟩
theorem op_api_End : RdsW enc Try.prog W ty_api_End rEn := by
  intro fuel cs x h hs
  obtain ⟨hl, hg⟩ := fldW_at (l := [(0, 1, ty_uint64), (1, 1, ty_sl_int), (2, 1, ty_int)]) (by kernel_rfl) h hs
  rw [show Try.prog.cellsOf ty_api_End = 3 by kernel_rfl] at hl
  match cs, hl with
  | [a, b, c], _ =>
    obtain ⟨s0, e0, w0⟩ := (rd_u64 (by kernel_rfl)).fld (tr1 (hg 0 _ _ _ rfl))
    obtain ⟨s1, v, e1, h1, hb⟩ := (rw_slice (t := ty_sl_int) (e := ty_int) (sz := 1) (by kernel_rfl) (by kernel_rfl) (rd_int (by kernel_rfl)).w).fld (hg 1 _ _ _ rfl)
    obtain ⟨s2, e2, w2⟩ := (rd_int (by kernel_rfl)).fld (tr1 (hg 2 _ _ _ rfl))
    cases e0; cases e1; cases e2
    refine ⟨⟨s0, s1, s2⟩, ⟨_, rfl, w0, w2, h1⟩, ?_⟩
    rw [show Try.prog.bytesOf ty_int = 8 by kernel_rfl] at hb
    unfold reachBytes at hb
    show s1.length ≤ 17592186044416
    omega
theorem op_api_Group : RdsW enc Try.prog W ty_api_Group rGr := by
  intro fuel cs x h hs
  obtain ⟨hl, hg⟩ := fldW_at (l := [(0, 1, ty_uint64), (1, 1, ty_sl_api_End)]) (by kernel_rfl) h hs
  rw [show Try.prog.cellsOf ty_api_Group = 2 by kernel_rfl] at hl
  match cs, hl with
  | [a, b], _ =>
    obtain ⟨s0, e0, w0⟩ := (rd_u64 (by kernel_rfl)).fld (tr1 (hg 0 _ _ _ rfl))
    obtain ⟨s1, v, e1, h1⟩ := (rw_sl (t := ty_sl_api_End) (e := ty_api_End) (sz := 3) (by kernel_rfl) (by kernel_rfl) op_api_End).fld (hg 1 _ _ _ rfl)
    cases e0; cases e1
    exact ⟨⟨s0, s1⟩, _, rfl, w0, h1⟩
theorem op_api_Version : RdsW enc Try.prog W ty_api_Version rVe := by
  intro fuel cs x h hs
  obtain ⟨hl, hg⟩ := fldW_at (l := [(0, 3, ty_api_Snap), (3, 1, ty_sl_api_Group), (4, 1, ty_bool)]) (by kernel_rfl) h hs
  rw [show Try.prog.cellsOf ty_api_Version = 5 by kernel_rfl] at hl
  match cs, hl with
  | [a, b, c, d, e], _ =>
    obtain ⟨s0, e0⟩ := (op_api_Snap (enc := enc)).fld (tr1 (hg 0 _ _ _ rfl))
    obtain ⟨s1, v, e1, h1⟩ := (rw_sl (t := ty_sl_api_Group) (e := ty_api_Group) (sz := 2) (by kernel_rfl) (by kernel_rfl) op_api_Group).fld (hg 1 _ _ _ rfl)
    obtain ⟨s2, e2⟩ := (rd_bool (by kernel_rfl)).fld (tr1 (hg 2 _ _ _ rfl))
    cases e1; cases e2
    exact ⟨⟨s0, s1, s2⟩, _, _, _, _, rfl, e0, h1⟩
theorem op_row : Rds enc Try.prog W ty_sl_uint64 rRow := by
  intro fuel cs x h
  obtain ⟨l, v, rfl, h1⟩ := (rd_slice (t := ty_sl_uint64) (e := ty_uint64) (sz := 1) (by kernel_rfl) (by kernel_rfl) (by omega) (rd_u64 (by kernel_rfl))) fuel cs x h
  exact ⟨l, _, rfl, h1⟩
theorem op_api_World : RdsW enc Try.prog W ty_api_World rWo := by
  intro fuel cs x h hs
  obtain ⟨hl, hg⟩ := fldW_at (l := [(0, 1, ty_int), (1, 1, ty_int), (2, 1, ty_int), (3, 1, ty_sl_int), (4, 1, ty_sl_api_Version), (5, 1, ty_sl_api_Listen), (6, 1, ty_slsl_uint64), (7, 1, ty_sl_api_Retired)]) (by kernel_rfl) h hs
  rw [show Try.prog.cellsOf ty_api_World = 8 by kernel_rfl] at hl
  match cs, hl with
  | [c0, c1, c2, c3, c4, c5, c6, c7], _ =>
    obtain ⟨s0, e0, w0⟩ := (rd_int (by kernel_rfl)).fld (tr1 (hg 0 _ _ _ rfl))
    obtain ⟨s1, e1, w1⟩ := (rd_int (by kernel_rfl)).fld (tr1 (hg 1 _ _ _ rfl))
    obtain ⟨s2, e2, w2⟩ := (rd_int (by kernel_rfl)).fld (tr1 (hg 2 _ _ _ rfl))
    obtain ⟨s3, v3, e3, h3⟩ := (rd_slice (t := ty_sl_int) (e := ty_int) (sz := 1) (by kernel_rfl) (by kernel_rfl) (by omega) (rd_int (by kernel_rfl))).fld (tr1 (hg 3 _ _ _ rfl))
    obtain ⟨s4, v4, e4, h4⟩ := (rw_sl (t := ty_sl_api_Version) (e := ty_api_Version) (sz := 5) (by kernel_rfl) (by kernel_rfl) op_api_Version).fld (hg 4 _ _ _ rfl)
    obtain ⟨s5, v5, e5, h5⟩ := (rd_slice (t := ty_sl_api_Listen) (e := ty_api_Listen) (sz := 4) (by kernel_rfl) (by kernel_rfl) (by omega) op_api_Listen).fld (tr1 (hg 5 _ _ _ rfl))
    obtain ⟨s6, v6, e6, h6⟩ := (rd_slice (t := ty_slsl_uint64) (e := ty_sl_uint64) (sz := 1) (by kernel_rfl) (by kernel_rfl) (by omega) op_row).fld (tr1 (hg 6 _ _ _ rfl))
    obtain ⟨s7, v7, e7, h7⟩ := (rd_slice (t := ty_sl_api_Retired) (e := ty_api_Retired) (sz := 3) (by kernel_rfl) (by kernel_rfl) (by omega) op_api_Retired).fld (tr1 (hg 7 _ _ _ rfl))
    cases e0; cases e1; cases e2; cases e3; cases e4; cases e5; cases e6; cases e7
    exact ⟨⟨s0, s1, s2, s3, s4, s5, s6, s7⟩, _, _, _, _, _, rfl, ⟨w0, w1, w2⟩, h3, h4, h5, h6, h7⟩
end
end Go.Proofs.Ytkkhdnddplkobaa

