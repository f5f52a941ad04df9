/- Worlds: what is too much to be looked at. -/
import Derived.Test.YtkkhdnddplkobaaGreatLW9n
import Derived.Test.YtkkhdnddplkobaaGreatPl
import Derived.Test.YtkkhdnddplkobaaGreatLW9w2
import Derived.Test.YtkkhdnddplkobaaGreatLS7b
import Derived.Test.YtkkhdnddplkobaaGreatF
namespace Go.Proofs.YtkkhdnddplkobaaGreat
open Go.Proofs.YtkkhdnddplkobaaGreat.Sx Go.RowKit
theorem bigR_of {l : List Rule} (hb : bigR l = false) : l.length ≤ 50 ∧ ∀ r ∈ l, r.host.size ≤ 100 ∧ r.path.size ≤ 100 := by
  simp only [bigR, Bool.or_eq_false_iff, decide_eq_false_iff_not] at hb
  refine ⟨by omega, fun r hr => ?_⟩
  have := List.any_eq_false.1 hb.2 r hr
  simp only [longR, Bool.or_eq_true, decide_eq_true_eq] at this
  omega
theorem ok_rBigS (g : GW) {cs : List Value} {s : Snap} (hs : rSnap g cs s) : Ok Tryz.prog n_hydrantref18_BigSnap [.agg ⟨cs⟩] g fun v _ => ∃ b, v = .bool b ∧ (b = false → SnS s) := by
  obtain ⟨a, b, d, rfl, hl, hr, hk⟩ := hs
  obtain ⟨oa, ca, rfl, a1, a2, a0, hl1⟩ := id hl
  obtain ⟨ob, cb, rfl, b1, b2, b0, hr1⟩ := id hr
  obtain ⟨od, cd, rfl, d1, d2, d0, hk1⟩ := id hk
  exact Ok.of_fn hm noT 0 t_hydrantref18_BigSnap (args := [.v (.agg ⟨[.slice oa s.listens.length ca, .slice ob s.rules.length cb, .slice od s.clusters.length cd]⟩)]) (by
    repeat ((conv => whnf); first | apply qza | apply qzb | apply qzc | apply qzd | apply qze | intro (_ : Nat) | intro (_ : Option Addr) (_ : Nat))
    conv => whnf
    refine ⟨fun z1 => ?_, fun z1 => ?_⟩
    · repeat ((conv => whnf); first | apply qza | apply qzb | apply qzc | apply qzd | apply qze | intro (_ : Nat) | intro (_ : Option Addr) (_ : Nat))
      conv => whnf
      intro g2 hg
      exact ⟨_, rfl, fun h => by cases h⟩
    repeat ((conv => whnf); first | apply qza | apply qzb | apply qzc | apply qzd | apply qze | intro (_ : Nat) | intro (_ : Option Addr) (_ : Nat))
    conv => whnf
    refine ⟨fun z2 => ?_, fun z2 => ?_⟩
    · repeat ((conv => whnf); first | apply qza | apply qzb | apply qzc | apply qzd | apply qze | intro (_ : Nat) | intro (_ : Option Addr) (_ : Nat))
      conv => whnf
      intro g2 hg
      exact ⟨_, rfl, fun h => by cases h⟩
    repeat ((conv => whnf); first | apply qza | apply qzb | apply qzc | apply qzd | apply qze | intro (_ : Nat) | intro (_ : Option Addr) (_ : Nat))
    conv => whnf
    refine .inl ⟨_, ok_rBig _ hr, ?_⟩
    repeat ((conv => whnf); first | apply qza | apply qzb | apply qzc | apply qzd | apply qze | intro (_ : Nat) | intro (_ : Option Addr) (_ : Nat))
    conv => whnf
    refine ⟨fun z3 => ?_, fun z3 => ?_⟩
    · repeat ((conv => whnf); first | apply qza | apply qzb | apply qzc | apply qzd | apply qze | intro (_ : Nat) | intro (_ : Option Addr) (_ : Nat))
      conv => whnf
      intro g2 hg
      exact ⟨_, rfl, fun h => by cases h⟩
    have hS : SnS s := by
      obtain ⟨k1, k2⟩ := bigR_of z3
      exact ⟨by omega, k2⟩
    repeat ((conv => whnf); first | apply qza | apply qzb | apply qzc | apply qzd | apply qze | intro (_ : Nat) | intro (_ : Option Addr) (_ : Nat))
    conv => whnf
    refine ⟨Nat, fun k => [.v (.int .i64 k)], fun _ => ⟨g, _, _, _⟩, fun k => k ≤ s.clusters.length, fun k => s.clusters.length - k, loop_here 0 rfl (Nat.zero_le _) rfl, ?_⟩
    intro k hk
    repeat ((conv => whnf); first | apply qza | apply qzb | apply qzc | apply qzd | apply qze | intro (_ : Nat) | intro (_ : Option Addr) (_ : Nat))
    conv => whnf
    refine ⟨fun hlt => ?_, fun hlt => ?_⟩
    · have h' : k < s.clusters.length := by have := of_decide_eq_true hlt; omega
      obtain ⟨x, hx⟩ := getL_of h'
      obtain ⟨a, rfl, ec, hec, ⟨hv, rfl, _, _, ⟨oh, ch, rfl, _⟩⟩, hc⟩ := hk1 k x hx
      repeat ((conv => whnf); first | apply qza | apply qzb | apply qzc | apply qzd | apply qze | intro (_ : Nat) | intro (_ : Option Addr) (_ : Nat))
      conv => whnf
      refine ⟨a, rfl, ⟨by omega, by omega⟩, ?_⟩
      conv => whnf
      refine ⟨_, hc 3 _ rfl, ?_⟩
      repeat ((conv => whnf); first | apply qza | apply qzb | apply qzc | apply qzd | apply qze | intro (_ : Nat) | intro (_ : Option Addr) (_ : Nat))
      conv => whnf
      refine ⟨fun y1 => ?_, fun y1 => ?_⟩
      · repeat ((conv => whnf); first | apply qza | apply qzb | apply qzc | apply qzd | apply qze | intro (_ : Nat) | intro (_ : Option Addr) (_ : Nat))
        conv => whnf
        intro g2 hg
        exact ⟨_, rfl, fun h => by cases h⟩
      repeat ((conv => whnf); first | apply qza | apply qzb | apply qzc | apply qzd | apply qze | intro (_ : Nat) | intro (_ : Option Addr) (_ : Nat))
      conv => whnf
      refine ⟨a, rfl, ⟨by omega, by omega⟩, ?_⟩
      conv => whnf
      refine ⟨_, hc 0 _ rfl, ?_⟩
      repeat ((conv => whnf); first | apply qza | apply qzb | apply qzc | apply qzd | apply qze | intro (_ : Nat) | intro (_ : Option Addr) (_ : Nat))
      conv => whnf
      refine ⟨fun y2 => ?_, fun y2 => ?_⟩
      · repeat ((conv => whnf); first | apply qza | apply qzb | apply qzc | apply qzd | apply qze | intro (_ : Nat) | intro (_ : Option Addr) (_ : Nat))
        conv => whnf
        intro g2 hg
        exact ⟨_, rfl, fun h => by cases h⟩
      repeat ((conv => whnf); first | apply qza | apply qzb | apply qzc | apply qzd | apply qze | intro (_ : Nat) | intro (_ : Option Addr) (_ : Nat))
      conv => whnf
      refine fun fr w hw => ⟨k + 1, congrArg (fun z => [Value.int .i64 z]) (wr1 h' d1 d2).symm, h', dec h', ?_⟩
      exact hw.fit (by simp [fitL, Res.eqv, concL, conc])
    · repeat ((conv => whnf); first | apply qza | apply qzb | apply qzc | apply qzd | apply qze | intro (_ : Nat) | intro (_ : Option Addr) (_ : Nat))
      conv => whnf
      intro g2 hg
      exact ⟨_, rfl, fun _ => hS⟩)
end Go.Proofs.YtkkhdnddplkobaaGreat


/- The law WorldNew. -/
namespace Go.Proofs.YtkkhdnddplkobaaGreat
open Go.Proofs.YtkkhdnddplkobaaGreat.Sx Go.RowKit
set_option maxHeartbeats 8000000 in
set_option maxRecDepth 100000 in
theorem ok_WorldNew (g : GW) {cs : List Value} {s : Snap} {v : Value} {l : List BA} {t : Int} (hs : rSnap g cs s) (hl : rSl 1 rStr g v l) (_ : InR t) : OkV Tryz.prog n_hydrantlaw18_WorldNew [.agg ⟨cs⟩, v, .int .i64 t] g (.bool true) := by
  obtain ⟨oa, ca, ob, cb, oc, cc, rfl⟩ := rSnap_open hs
  obtain ⟨ol, cl, rfl, l1, l2, l0, hlr⟩ := id hl
  exact Ok.of_fn hm noT 0 t_hydrantlaw18_WorldNew (args := [.v (.agg ⟨[.slice oa s.listens.length ca, .slice ob s.rules.length cb, .slice oc s.clusters.length cc]⟩), .v (.slice ol l.length cl), .v (.int .i64 t)]) (by
    repeat ((conv => whnf); first | apply qza | apply qzb | apply qzc | apply qzd | apply qze | intro (_ : Nat) | intro (_ : Option Addr) (_ : Nat))
    refine .inr ((ok_rBigS _ hs).mono fun v g1 hg1 hB => ?_)
    obtain ⟨b, rfl, hB⟩ := hB
    repeat ((conv => whnf); first | apply qza | apply qzb | apply qzc | apply qzd | apply qze | intro (_ : Nat) | intro (_ : Option Addr) (_ : Nat))
    conv => whnf
    refine ⟨fun z1 => ?_, fun z1 => ?_⟩
    · repeat ((conv => whnf); first | apply qza | apply qzb | apply qzc | apply qzd | apply qze | intro (_ : Nat) | intro (_ : Option Addr) (_ : Nat))
      conv => whnf
      intro g2 hg
      rfl
    have hsn := hB z1
    have hs1 := rSnap_mono _ _ _ _ hg1 hs
    have hl1 := hl.mono rStr_mono hg1
    repeat ((conv => whnf); first | apply qza | apply qzb | apply qzc | apply qzd | apply qze | intro (_ : Nat) | intro (_ : Option Addr) (_ : Nat))
    conv => whnf
    refine ⟨fun z2 => ?_, fun z2 => ?_⟩
    · repeat ((conv => whnf); first | apply qza | apply qzb | apply qzc | apply qzd | apply qze | intro (_ : Nat) | intro (_ : Option Addr) (_ : Nat))
      conv => whnf
      intro g2 hg
      rfl
    have hl100 := of_decide_eq_false z2
    have hlen : l.length ≤ 100 := by omega
    repeat ((conv => whnf); first | apply qza | apply qzb | apply qzc | apply qzd | apply qze | intro (_ : Nat) | intro (_ : Option Addr) (_ : Nat))
    refine .inr ((ok_New _ hs1 hl1 hsn.1 (by omega)).mono fun v g2 hg2 hN => ?_)
    by_cases hck : checkE (confS s) = none
    · by_cases hk : NewOk s l t
      · obtain ⟨cs, rfl, hwa⟩ := new_ok hN hk
        obtain ⟨_, _, _, _, _, _, _, _, _, _, rfl⟩ := rWo_open hwa
        repeat ((conv => whnf); first | apply qza | apply qzb | apply qzc | apply qzd | apply qze | intro (_ : Nat) | intro (_ : Option Addr) (_ : Nat))
        refine .inr ((ok_rNew _ (rSnap_mono _ _ _ _ hg2 hs1) (hl1.mono rStr_mono hg2) hsn (by omega)).mono fun v g3 hg3 hN => ?_)
        obtain ⟨cs, rfl, hwb⟩ := new_ok hN hk
        obtain ⟨_, _, _, _, _, _, _, _, _, _, rfl⟩ := rWo_open hwb
        repeat ((conv => whnf); first | apply qza | apply qzb | apply qzc | apply qzd | apply qze | intro (_ : Nat) | intro (_ : Option Addr) (_ : Nat))
        refine .inr ((ok_Cells _ (rSnap_mono _ _ _ _ (GW.trans hg2 hg3) hs1) hsn.1).mono fun v g4 hg4 hC => ?_)
        rcases hC with ⟨_, ka, kb, kd, oV, nV, cV, rfl, hV⟩ | ⟨hz, _⟩
        rotate_left
        · exact absurd hck hz
        have hVo := hV
        obtain ⟨_, _, _, _, he, hsV, _⟩ := hVo
        simp only [List.cons.injEq, and_true] at he
        obtain ⟨rfl, rfl, rfl, _⟩ := he
        obtain ⟨_, _, _, _, _, _, he2⟩ := rSnap_open hsV
        cases he2
        repeat ((conv => whnf); first | apply qza | apply qzb | apply qzc | apply qzd | apply qze | intro (_ : Nat) | intro (_ : Option Addr) (_ : Nat))
        refine .inr ((ok_rCells _ (rSnap_mono _ _ _ _ (GW.trans hg2 (GW.trans hg3 hg4)) hs1) hsn).mono fun v g5 hg5 hC => ?_)
        rcases hC with ⟨_, ka, kb, kd, oU, nU, cU, rfl, hU⟩ | ⟨hz, _⟩
        rotate_left
        · exact absurd hck hz
        have hUo := hU
        obtain ⟨_, _, _, _, he, hsU, _⟩ := hUo
        simp only [List.cons.injEq, and_true] at he
        obtain ⟨rfl, rfl, rfl, _⟩ := he
        obtain ⟨_, _, _, _, _, _, he2⟩ := rSnap_open hsU
        cases he2
        repeat ((conv => whnf); first | apply qza | apply qzb | apply qzc | apply qzd | apply qze | intro (_ : Nat) | intro (_ : Option Addr) (_ : Nat))
        conv => whnf
        refine .inl ⟨_, ok_made _, ?_⟩
        repeat ((conv => whnf); first | apply qza | apply qzb | apply qzc | apply qzd | apply qze | intro (_ : Nat) | intro (_ : Option Addr) (_ : Nat))
        conv => whnf
        refine ⟨fun _ => ?_, fun h => nomatch h⟩
        repeat ((conv => whnf); first | apply qza | apply qzb | apply qzc | apply qzd | apply qze | intro (_ : Nat) | intro (_ : Option Addr) (_ : Nat))
        conv => whnf
        refine .inl ⟨_, ok_sameW _ (rWo_mono _ _ _ _ (GW.trans hg3 (GW.trans hg4 hg5)) hwa) (rWo_mono _ _ _ _ (GW.trans hg4 hg5) hwb), ?_⟩
        repeat ((conv => whnf); first | apply qza | apply qzb | apply qzc | apply qzd | apply qze | intro (_ : Nat) | intro (_ : Option Addr) (_ : Nat))
        conv => whnf
        refine ⟨fun _ => ?_, fun h => nomatch h⟩
        repeat ((conv => whnf); first | apply qza | apply qzb | apply qzc | apply qzd | apply qze | intro (_ : Nat) | intro (_ : Option Addr) (_ : Nat))
        conv => whnf
        refine ⟨fun _ => ?_, fun hx => absurd hx (by decide)⟩
        repeat ((conv => whnf); first | apply qza | apply qzb | apply qzc | apply qzd | apply qze | intro (_ : Nat) | intro (_ : Option Addr) (_ : Nat))
        conv => whnf
        refine .inl ⟨_, ok_sameVersion _ (rVe_mono _ _ _ _ hg5 hV) hU, ?_⟩
        repeat ((conv => whnf); first | apply qza | apply qzb | apply qzc | apply qzd | apply qze | intro (_ : Nat) | intro (_ : Option Addr) (_ : Nat))
        conv => whnf
        refine ⟨fun _ => ?_, fun h => nomatch h⟩
        repeat ((conv => whnf); first | apply qza | apply qzb | apply qzc | apply qzd | apply qze | intro (_ : Nat) | intro (_ : Option Addr) (_ : Nat))
        conv => whnf
        refine ⟨fun _ => ?_, fun hx => absurd hx (by decide)⟩
        repeat ((conv => whnf); first | apply qza | apply qzb | apply qzc | apply qzd | apply qze | intro (_ : Nat) | intro (_ : Option Addr) (_ : Nat))
        conv => whnf
        refine ⟨fun hx => absurd hx (by decide), fun _ => ?_⟩
        repeat ((conv => whnf); first | apply qza | apply qzb | apply qzc | apply qzd | apply qze | intro (_ : Nat) | intro (_ : Option Addr) (_ : Nat))
        have hwa5 := rWo_mono _ _ _ _ (GW.trans hg3 (GW.trans hg4 hg5)) hwa
        have hsW : SnW (newW s l t.toNat) := fun v hv => by
          have : v = cellsV s := by simpa [newW] using hv
          subst this; exact hsn
        have ht8 := hk.2.1
        conv => whnf
        refine .inl ⟨_, (ok_wIs _ hwa5 hsW).to (congrArg Value.bool (newW_right hk)), ?_⟩
        repeat ((conv => whnf); first | apply qza | apply qzb | apply qzc | apply qzd | apply qze | intro (_ : Nat) | intro (_ : Option Addr) (_ : Nat))
        conv => whnf
        refine ⟨fun _ => ?_, fun h => nomatch h⟩
        repeat ((conv => whnf); first | apply qza | apply qzb | apply qzc | apply qzd | apply qze | intro (_ : Nat) | intro (_ : Option Addr) (_ : Nat))
        refine .inr ((ok_Held _ hwa5 (newW_bg hck (by omega) hlen)).mono fun u g6 hg6 hh => ?_)
        rw [newW_held hck] at hh
        subst hh
        repeat ((conv => whnf); first | apply qza | apply qzb | apply qzc | apply qzd | apply qze | intro (_ : Nat) | intro (_ : Option Addr) (_ : Nat))
        conv => whnf
        refine ⟨fun _ => ?_, fun hx => absurd hx (by decide)⟩
        repeat ((conv => whnf); first | apply qza | apply qzb | apply qzc | apply qzd | apply qze | intro (_ : Nat) | intro (_ : Option Addr) (_ : Nat))
        conv => whnf
        refine .inl ⟨_, (ok_sIs _ (rSnap_mono _ _ _ _ (GW.trans hg2 (GW.trans hg3 (GW.trans hg4 (GW.trans hg5 hg6)))) hs1) hsn.1).to (congrArg Value.bool (eqB_t hck)), ?_⟩
        repeat ((conv => whnf); first | apply qza | apply qzb | apply qzc | apply qzd | apply qze | intro (_ : Nat) | intro (_ : Option Addr) (_ : Nat))
        conv => whnf
        intro g2 hg
        rfl
      · obtain rfl := new_bad hN hk
        repeat ((conv => whnf); first | apply qza | apply qzb | apply qzc | apply qzd | apply qze | intro (_ : Nat) | intro (_ : Option Addr) (_ : Nat))
        refine .inr ((ok_rNew _ (rSnap_mono _ _ _ _ hg2 hs1) (hl1.mono rStr_mono hg2) hsn (by omega)).mono fun v g3 hg3 hN => ?_)
        obtain rfl := new_bad hN hk
        repeat ((conv => whnf); first | apply qza | apply qzb | apply qzc | apply qzd | apply qze | intro (_ : Nat) | intro (_ : Option Addr) (_ : Nat))
        refine .inr ((ok_Cells _ (rSnap_mono _ _ _ _ (GW.trans hg2 hg3) hs1) hsn.1).mono fun v g4 hg4 hC => ?_)
        rcases hC with ⟨_, ka, kb, kd, oV, nV, cV, rfl, hV⟩ | ⟨hz, _⟩
        rotate_left
        · exact absurd hck hz
        have hVo := hV
        obtain ⟨_, _, _, _, he, hsV, _⟩ := hVo
        simp only [List.cons.injEq, and_true] at he
        obtain ⟨rfl, rfl, rfl, _⟩ := he
        obtain ⟨_, _, _, _, _, _, he2⟩ := rSnap_open hsV
        cases he2
        repeat ((conv => whnf); first | apply qza | apply qzb | apply qzc | apply qzd | apply qze | intro (_ : Nat) | intro (_ : Option Addr) (_ : Nat))
        refine .inr ((ok_rCells _ (rSnap_mono _ _ _ _ (GW.trans hg2 (GW.trans hg3 hg4)) hs1) hsn).mono fun v g5 hg5 hC => ?_)
        rcases hC with ⟨_, ka, kb, kd, oU, nU, cU, rfl, hU⟩ | ⟨hz, _⟩
        rotate_left
        · exact absurd hck hz
        have hUo := hU
        obtain ⟨_, _, _, _, he, hsU, _⟩ := hUo
        simp only [List.cons.injEq, and_true] at he
        obtain ⟨rfl, rfl, rfl, _⟩ := he
        obtain ⟨_, _, _, _, _, _, he2⟩ := rSnap_open hsU
        cases he2
        repeat ((conv => whnf); first | apply qza | apply qzb | apply qzc | apply qzd | apply qze | intro (_ : Nat) | intro (_ : Option Addr) (_ : Nat))
        conv => whnf
        refine .inl ⟨_, ok_made _, ?_⟩
        repeat ((conv => whnf); first | apply qza | apply qzb | apply qzc | apply qzd | apply qze | intro (_ : Nat) | intro (_ : Option Addr) (_ : Nat))
        conv => whnf
        refine ⟨fun _ => ?_, fun h => nomatch h⟩
        repeat ((conv => whnf); first | apply qza | apply qzb | apply qzc | apply qzd | apply qze | intro (_ : Nat) | intro (_ : Option Addr) (_ : Nat))
        conv => whnf
        refine .inl ⟨_, ok_sameW _ (rWo_Z _) (rWo_Z _), ?_⟩
        repeat ((conv => whnf); first | apply qza | apply qzb | apply qzc | apply qzd | apply qze | intro (_ : Nat) | intro (_ : Option Addr) (_ : Nat))
        conv => whnf
        refine ⟨fun _ => ?_, fun h => nomatch h⟩
        repeat ((conv => whnf); first | apply qza | apply qzb | apply qzc | apply qzd | apply qze | intro (_ : Nat) | intro (_ : Option Addr) (_ : Nat))
        conv => whnf
        refine ⟨fun _ => ?_, fun hx => absurd hx (by decide)⟩
        repeat ((conv => whnf); first | apply qza | apply qzb | apply qzc | apply qzd | apply qze | intro (_ : Nat) | intro (_ : Option Addr) (_ : Nat))
        conv => whnf
        refine .inl ⟨_, ok_sameVersion _ (rVe_mono _ _ _ _ hg5 hV) hU, ?_⟩
        repeat ((conv => whnf); first | apply qza | apply qzb | apply qzc | apply qzd | apply qze | intro (_ : Nat) | intro (_ : Option Addr) (_ : Nat))
        conv => whnf
        refine ⟨fun _ => ?_, fun h => nomatch h⟩
        repeat ((conv => whnf); first | apply qza | apply qzb | apply qzc | apply qzd | apply qze | intro (_ : Nat) | intro (_ : Option Addr) (_ : Nat))
        conv => whnf
        refine ⟨fun _ => ?_, fun hx => absurd hx (by decide)⟩
        repeat ((conv => whnf); first | apply qza | apply qzb | apply qzc | apply qzd | apply qze | intro (_ : Nat) | intro (_ : Option Addr) (_ : Nat))
        conv => whnf
        refine ⟨fun _ => ?_, fun hx => absurd hx (by decide)⟩
        repeat ((conv => whnf); first | apply qza | apply qzb | apply qzc | apply qzd | apply qze | intro (_ : Nat) | intro (_ : Option Addr) (_ : Nat))
        conv => whnf
        intro g2 hg
        rfl
    · have hk : ¬ NewOk s l t := fun h => hck h.1
      obtain rfl := new_bad hN hk
      repeat ((conv => whnf); first | apply qza | apply qzb | apply qzc | apply qzd | apply qze | intro (_ : Nat) | intro (_ : Option Addr) (_ : Nat))
      refine .inr ((ok_rNew _ (rSnap_mono _ _ _ _ hg2 hs1) (hl1.mono rStr_mono hg2) hsn (by omega)).mono fun v g3 hg3 hN => ?_)
      obtain rfl := new_bad hN hk
      repeat ((conv => whnf); first | apply qza | apply qzb | apply qzc | apply qzd | apply qze | intro (_ : Nat) | intro (_ : Option Addr) (_ : Nat))
      refine .inr ((ok_Cells _ (rSnap_mono _ _ _ _ (GW.trans hg2 hg3) hs1) hsn.1).mono fun v g4 hg4 hC => ?_)
      rcases hC with ⟨hz, _⟩ | ⟨_, rfl⟩
      · exact absurd hz hck
      repeat ((conv => whnf); first | apply qza | apply qzb | apply qzc | apply qzd | apply qze | intro (_ : Nat) | intro (_ : Option Addr) (_ : Nat))
      refine .inr ((ok_rCells _ (rSnap_mono _ _ _ _ (GW.trans hg2 (GW.trans hg3 hg4)) hs1) hsn).mono fun v g5 hg5 hC => ?_)
      rcases hC with ⟨hz, _⟩ | ⟨_, rfl⟩
      · exact absurd hz hck
      repeat ((conv => whnf); first | apply qza | apply qzb | apply qzc | apply qzd | apply qze | intro (_ : Nat) | intro (_ : Option Addr) (_ : Nat))
      conv => whnf
      refine .inl ⟨_, ok_made _, ?_⟩
      repeat ((conv => whnf); first | apply qza | apply qzb | apply qzc | apply qzd | apply qze | intro (_ : Nat) | intro (_ : Option Addr) (_ : Nat))
      conv => whnf
      refine ⟨fun _ => ?_, fun h => nomatch h⟩
      repeat ((conv => whnf); first | apply qza | apply qzb | apply qzc | apply qzd | apply qze | intro (_ : Nat) | intro (_ : Option Addr) (_ : Nat))
      conv => whnf
      refine .inl ⟨_, ok_sameW _ (rWo_Z _) (rWo_Z _), ?_⟩
      repeat ((conv => whnf); first | apply qza | apply qzb | apply qzc | apply qzd | apply qze | intro (_ : Nat) | intro (_ : Option Addr) (_ : Nat))
      conv => whnf
      refine ⟨fun _ => ?_, fun h => nomatch h⟩
      repeat ((conv => whnf); first | apply qza | apply qzb | apply qzc | apply qzd | apply qze | intro (_ : Nat) | intro (_ : Option Addr) (_ : Nat))
      conv => whnf
      refine ⟨fun _ => ?_, fun hx => absurd hx (by decide)⟩
      repeat ((conv => whnf); first | apply qza | apply qzb | apply qzc | apply qzd | apply qze | intro (_ : Nat) | intro (_ : Option Addr) (_ : Nat))
      conv => whnf
      refine .inl ⟨_, ok_sameVersion _ (rVe_Z _) (rVe_Z _), ?_⟩
      repeat ((conv => whnf); first | apply qza | apply qzb | apply qzc | apply qzd | apply qze | intro (_ : Nat) | intro (_ : Option Addr) (_ : Nat))
      conv => whnf
      refine ⟨fun _ => ?_, fun h => nomatch h⟩
      repeat ((conv => whnf); first | apply qza | apply qzb | apply qzc | apply qzd | apply qze | intro (_ : Nat) | intro (_ : Option Addr) (_ : Nat))
      conv => whnf
      refine ⟨fun _ => ?_, fun hx => absurd hx (by decide)⟩
      repeat ((conv => whnf); first | apply qza | apply qzb | apply qzc | apply qzd | apply qze | intro (_ : Nat) | intro (_ : Option Addr) (_ : Nat))
      conv => whnf
      refine ⟨fun _ => ?_, fun hx => absurd hx (by decide)⟩
      repeat ((conv => whnf); first | apply qza | apply qzb | apply qzc | apply qzd | apply qze | intro (_ : Nat) | intro (_ : Option Addr) (_ : Nat))
      conv => whnf
      intro g2 hg
      rfl)
end Go.Proofs.YtkkhdnddplkobaaGreat


/- What came in of this seat's types is plain data. -/
namespace Go.Proofs.YtkkhdnddplkobaaGreat
open Go.Proofs.YtkkhdnddplkobaaGreat.Sx
section
variable {H : Type} {enc : TypeId × Value → H} {W : World}
theorem op_api_Rule : Rds enc Tryz.prog W ty_api_Rule rRule := rd_rule (tS := ty_string) (tI := ty_int) (by kernel_rfl) (by kernel_rfl) (by kernel_rfl) (by kernel_rfl)
theorem op_api_Cluster : Rds enc Tryz.prog W ty_api_Cluster rCluster := rd_cluster (tS := ty_string) (tI := ty_int) (tL := ty_sl_bool) (tB := ty_bool) (by kernel_rfl) (by kernel_rfl) (by kernel_rfl) (by kernel_rfl) (by kernel_rfl) (by kernel_rfl) (by kernel_rfl)
end
end Go.Proofs.YtkkhdnddplkobaaGreat


/- What came in of a snapshot is plain data. -/
namespace Go.Proofs.YtkkhdnddplkobaaGreat
open Go.Proofs.YtkkhdnddplkobaaGreat.Sx
section
variable {H : Type} {enc : TypeId × Value → H} {W : World}
theorem op_api_Snap : Rds enc Tryz.prog W ty_api_Snap rSnap := by
  intro fuel cs x h
  obtain ⟨a, b, d, rfl, ⟨l0, h0⟩, ⟨l1, h1⟩, l2, h2⟩ := rd_three (t0 := ty_sl_string) (t1 := ty_sl_api_Rule) (t2 := ty_sl_api_Cluster) (e0 := ty_string) (e1 := ty_api_Rule) (e2 := ty_api_Cluster) (z0 := 1) (z1 := 4) (z2 := 4)
    (by kernel_rfl) (by kernel_rfl) (by kernel_rfl) (by kernel_rfl) (by kernel_rfl) (by kernel_rfl) (by kernel_rfl) (by kernel_rfl) (by omega) (by omega) (by omega) (rd_str (by kernel_rfl)) op_api_Rule op_api_Cluster h
  exact ⟨⟨l0, l1, l2⟩, a, b, d, rfl, h0, h1, h2⟩
end
end Go.Proofs.YtkkhdnddplkobaaGreat


/- What came in of worlds and machines is plain data. -/
namespace Go.Proofs.YtkkhdnddplkobaaGreat
open Go.Proofs.YtkkhdnddplkobaaGreat.Sx
section
variable {H : Type} {enc : TypeId × Value → H} {W : World}
end
end Go.Proofs.YtkkhdnddplkobaaGreat


/- What came in of names is plain data. -/
namespace Go.Proofs.YtkkhdnddplkobaaGreat
open Go.Proofs.YtkkhdnddplkobaaGreat.Sx
section
variable {H : Type} {enc : TypeId × Value → H} {W : World}
theorem op___string : Rds enc Tryz.prog W ty_sl_string (rSlc 1 rStr) := rd_slice (e := ty_string) (by kernel_rfl) (by kernel_rfl) (by omega) (rd_str (by kernel_rfl))
end
end Go.Proofs.YtkkhdnddplkobaaGreat

