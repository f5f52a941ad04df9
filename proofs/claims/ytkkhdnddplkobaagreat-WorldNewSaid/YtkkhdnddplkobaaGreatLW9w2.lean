/- Law 18's example. -/
import Derived.Test.YtkkhdnddplkobaaGreatLW9w
import Derived.Test.YtkkhdnddplkobaaGreatLW9n
import Derived.Test.YtkkhdnddplkobaaGreatPl
import Derived.Test.YtkkhdnddplkobaaGreatLW9h
import Derived.Test.YtkkhdnddplkobaaGreatLS7b
namespace Go.Proofs.YtkkhdnddplkobaaGreat
open Go.Proofs.YtkkhdnddplkobaaGreat.Sx Go.RowKit
theorem sn3 {w : Wd} (h : ∀ v ∈ w.versions, v.snap = snapP 2 [true, false]) : SnW w := by
  intro v hv
  rw [h v hv]
  refine ⟨by decide, fun r hr => ?_⟩
  have : r = ⟨0, ⟨#[42]⟩, ⟨#[47]⟩, 0⟩ := by simpa [snapP] using hr
  subst this
  decide
theorem sn_w3 : SnW w3 := sn3 fun v hv => by
  have : v = v3 := by simpa [w3, newW, v3] using hv
  subst this; rfl
theorem sn_wX : SnW wX := sn3 fun v hv => by
  have : v = { v3 with groups := v3.groups.set 0 { gr3 with ends := gr3.ends.set 1 { freshE 2 with head := 0 } } } := by simpa [wX, w3, newW] using hv
  subst this; rfl
theorem ok_plain18 (g : GW) : Ok Tryz.prog n_hydrantlaw18_plain [] g fun v g' => ∃ cs, v = .agg ⟨cs⟩ ∧ rSnap g' cs (snapP 2 [true, false]) :=
  Ok.of_fn hm noT 0 t_hydrantlaw18_plain (args := []) (by
    repeat ((conv => whnf); first | apply qza | apply qzb | apply qzc | apply qzd | apply qze | intro (_ : Nat) | intro (_ : Option Addr) (_ : Nat))
    conv => whnf
    refine ⟨1, rfl, by unfold maxLen; omega, fun g1 hg1 hn1 hp1 => ?_⟩
    repeat ((conv => whnf); first | apply qza | apply qzb | apply qzc | apply qzd | apply qze | intro (_ : Nat) | intro (_ : Option Addr) (_ : Nat))
    conv => whnf
    refine ⟨4, rfl, by unfold maxLen; omega, fun g2 hg2 hn2 hp2 => ?_⟩
    repeat ((conv => whnf); first | apply qza | apply qzb | apply qzc | apply qzd | apply qze | intro (_ : Nat) | intro (_ : Option Addr) (_ : Nat))
    conv => whnf
    refine ⟨1, rfl, by unfold maxLen; omega, fun g3 hg3 hn3 hp3 => ?_⟩
    repeat ((conv => whnf); first | apply qza | apply qzb | apply qzc | apply qzd | apply qze | intro (_ : Nat) | intro (_ : Option Addr) (_ : Nat))
    conv => whnf
    refine ⟨4, rfl, by unfold maxLen; omega, fun g4 hg4 hn4 hp4 => ?_⟩
    repeat ((conv => whnf); first | apply qza | apply qzb | apply qzc | apply qzd | apply qze | intro (_ : Nat) | intro (_ : Option Addr) (_ : Nat))
    conv => whnf
    intro g2 hg
    have hs := snapP_rd (n := 2) (h := [true, false]) (hp1.mono (GW.trans hg2 (GW.trans hg3 hg4))) (hp2.mono (GW.trans hg3 hg4)) hp4 (hp3.mono hg4) (by decide)
    exact ⟨_, rfl, rSnap_mono _ _ _ _ hg hs⟩)
theorem rSnap_open {g : GW} {cs : List Value} {s : Snap} (h : rSnap g cs s) : ∃ oa ca ob cb oc cc, cs = [.slice oa s.listens.length ca, .slice ob s.rules.length cb, .slice oc s.clusters.length cc] := by
  obtain ⟨a, b, d, rfl, ⟨oa, ca, rfl, _⟩, ⟨ob, cb, rfl, _⟩, ⟨od, cd, rfl, _⟩⟩ := h
  exact ⟨_, _, _, _, _, _, rfl⟩
theorem rStr_nil (g : GW) : rSl 1 rStr g (.slice none 0 0) ([] : List BA) := ⟨none, 0, rfl, Nat.le_refl _, Nat.zero_le _, fun _ => ⟨rfl, rfl⟩, fun i x hx => by simp at hx⟩
theorem new_ok {s : Snap} {l : List BA} {t : Int} {v : Value} {g : GW} (h : NewP s l t v g) (k : NewOk s l t) : ∃ cs, v = .tuple #[.agg ⟨cs⟩, .int .i64 0] ∧ rWo g cs (newW s l t.toNat) := by
  rcases h with ⟨_, h⟩ | ⟨h, _⟩
  · exact h
  · exact absurd k h
theorem new_bad {s : Snap} {l : List BA} {t : Int} {v : Value} {g : GW} (h : NewP s l t v g) (k : ¬ NewOk s l t) : v = .tuple #[.agg ⟨zWs⟩, .int .i64 1] := by
  rcases h with ⟨h, _⟩ | ⟨_, h⟩
  · exact absurd h k
  · exact h
theorem BgW_up {w : Wd} (h : BgW 1000 w) : BgW 1000000 w := by
  obtain ⟨⟨h1, h2, h3, h4, h5⟩, h6, h7⟩ := h
  refine ⟨⟨by omega, by omega, by omega, by omega, by omega⟩, fun r hr => by have := h6 r hr; omega, fun v hv => ?_⟩
  obtain ⟨a, b⟩ := h7 v hv
  exact ⟨by omega, fun y hy => by have := b y hy; unfold BgG at this ⊢; omega⟩
set_option maxHeartbeats 16000000 in
set_option maxRecDepth 100000 in
theorem ok_made (g : GW) : OkV Tryz.prog n_hydrantlaw18_made [] g (.bool true) :=
  Ok.of_fn hm noT 0 t_hydrantlaw18_made (args := []) (by
    repeat ((conv => whnf); first | apply qza | apply qzb | apply qzc | apply qzd | apply qze | intro (_ : Nat) | intro (_ : Option Addr) (_ : Nat))
    refine .inr ((ok_plain18 _).mono fun v g1 hg1 hO => ?_)
    obtain ⟨cs, rfl, hs1⟩ := hO
    obtain ⟨_, _, _, _, _, _, rfl⟩ := rSnap_open hs1
    repeat ((conv => whnf); first | apply qza | apply qzb | apply qzc | apply qzd | apply qze | intro (_ : Nat) | intro (_ : Option Addr) (_ : Nat))
    conv => whnf
    refine ⟨1, rfl, by unfold maxLen; omega, fun g2 hg2 hn2 hp2 => ?_⟩
    conv => whnf
    refine .inr ((ok_New _ (rSnap_mono _ _ _ _ hg2 hs1) (rSl_of1 (R := rStr) hp2.rd [sInW, sWebW] .string rfl fun _ _ => rfl) (t := 3) (by decide) (by decide)).mono fun v g3 hg3 hN => ?_)
    obtain ⟨cs, rfl, hw3⟩ := new_ok hN w3_ok
    replace hw3 : rWo g3 cs w3 := hw3
    obtain ⟨oa, ca, ob, cb, oc, cc, od, cd, oe, ce, rfl⟩ := rWo_open hw3
    repeat ((conv => whnf); first | apply qza | apply qzb | apply qzc | apply qzd | apply qze | intro (_ : Nat) | intro (_ : Option Addr) (_ : Nat))
    refine .inr ((ok_plain18 _).mono fun v g4 hg4 hO => ?_)
    obtain ⟨cs, rfl, hs4⟩ := hO
    obtain ⟨_, _, _, _, _, _, rfl⟩ := rSnap_open hs4
    repeat ((conv => whnf); first | apply qza | apply qzb | apply qzc | apply qzd | apply qze | intro (_ : Nat) | intro (_ : Option Addr) (_ : Nat))
    conv => whnf
    refine ⟨1, rfl, by unfold maxLen; omega, fun g5 hg5 hn5 hp5 => ?_⟩
    conv => whnf
    refine .inr ((ok_New _ (rSnap_mono _ _ _ _ hg5 hs4) (rSl_of1 (R := rStr) hp5.rd [sInW, sInW] .string rfl fun _ _ => rfl) (t := 3) (by decide) (by decide)).mono fun v g6 hg6 hN => ?_)
    obtain rfl := new_bad hN bad_names
    repeat ((conv => whnf); first | apply qza | apply qzb | apply qzc | apply qzd | apply qze | intro (_ : Nat) | intro (_ : Option Addr) (_ : Nat))
    refine .inr ((ok_plain18 _).mono fun v g7 hg7 hO => ?_)
    obtain ⟨cs, rfl, hs7⟩ := hO
    obtain ⟨_, _, _, _, _, _, rfl⟩ := rSnap_open hs7
    repeat ((conv => whnf); first | apply qza | apply qzb | apply qzc | apply qzd | apply qze | intro (_ : Nat) | intro (_ : Option Addr) (_ : Nat))
    refine .inr ((ok_New _ hs7 (rStr_nil _) (t := 9) (by decide) (by decide)).mono fun v g8 hg8 hN => ?_)
    obtain rfl := new_bad hN bad_threads
    repeat ((conv => whnf); first | apply qza | apply qzb | apply qzc | apply qzd | apply qze | intro (_ : Nat) | intro (_ : Option Addr) (_ : Nat))
    refine .inr ((ok_New _ (s := ⟨[], [], []⟩) ⟨_, _, _, rfl, rStr_nil _, ⟨none, 0, rfl, Nat.le_refl _, Nat.zero_le _, fun _ => ⟨rfl, rfl⟩, fun i x hx => by simp at hx⟩, ⟨none, 0, rfl, Nat.le_refl _, Nat.zero_le _, fun _ => ⟨rfl, rfl⟩, fun i x hx => by simp at hx⟩⟩ (rStr_nil _) (t := 1) (by decide) (by decide)).mono fun v g9 hg9 hN => ?_)
    obtain rfl := new_bad hN bad_snap
    repeat ((conv => whnf); first | apply qza | apply qzb | apply qzc | apply qzd | apply qze | intro (_ : Nat) | intro (_ : Option Addr) (_ : Nat))
    refine .inr ((ok_plain18 _).mono fun v g10 hg10 hO => ?_)
    obtain ⟨cs, rfl, hs10⟩ := hO
    obtain ⟨_, _, _, _, _, _, rfl⟩ := rSnap_open hs10
    repeat ((conv => whnf); first | apply qza | apply qzb | apply qzc | apply qzd | apply qze | intro (_ : Nat) | intro (_ : Option Addr) (_ : Nat))
    refine .inr ((ok_Cells _ hs10 (by decide)).mono fun v g11 hg11 hC => ?_)
    rcases hC with ⟨hz, ka, kb, kd, oV, nV, cV, rfl, hV⟩ | ⟨hz, rfl⟩
    rotate_left
    · exact absurd w3_ok.1 hz
    have hVo := hV
    obtain ⟨_, _, _, _, he, hsV, _⟩ := hVo
    simp only [List.cons.injEq, and_true] at he
    obtain ⟨rfl, rfl, rfl, _⟩ := he
    obtain ⟨_, _, _, _, _, _, he2⟩ := rSnap_open hsV
    cases he2
    repeat ((conv => whnf); first | apply qza | apply qzb | apply qzc | apply qzd | apply qze | intro (_ : Nat) | intro (_ : Option Addr) (_ : Nat))
    have l311 : g3 ≤ g11 := GW.trans hg4 (GW.trans hg5 (GW.trans hg6 (GW.trans hg7 (GW.trans hg8 (GW.trans hg9 (GW.trans hg10 hg11))))))
    have hw11 := rWo_mono _ _ _ _ l311 hw3
    obtain ⟨_, _, _, _, _, hq, _, _, hVs, _, _, _⟩ := id hw11
    simp only [List.cons.injEq, and_true] at hq
    obtain ⟨_, _, _, _, rfl, _⟩ := hq
    obtain ⟨_, _, hq, kv1, kv2, kv0, hVr⟩ := hVs
    cases hq
    obtain ⟨aV, rfl, ecV, hecV, ⟨xa, xb, xd, xn, rfl, hsn3, hG⟩, hcV⟩ := hVr 0 v3 rfl
    obtain ⟨og, cg, rfl, q1, q2, q0, hGr⟩ := id hG
    obtain ⟨aG, rfl, ecG, hecG, ⟨yn, rfl, _, hE⟩, hcG⟩ := hGr 0 gr3 rfl
    obtain ⟨oE, cE, rfl, r1, r2, r0, hEr⟩ := id hE
    obtain ⟨aE, rfl, ecE, hecE, ⟨⟨zn, rfl, _⟩, _⟩, hcE⟩ := hEr 1 (freshE 2) rfl
    conv => whnf
    refine ⟨fun hx => absurd hx (by decide), fun _ => ?_⟩
    repeat ((conv => whnf); first | apply qza | apply qzb | apply qzc | apply qzd | apply qze | intro (_ : Nat) | intro (_ : Option Addr) (_ : Nat))
    conv => whnf
    refine ⟨_, rfl, ⟨by decide, by decide⟩, ?_⟩
    repeat ((conv => whnf); first | apply qza | apply qzb | apply qzc | apply qzd | apply qze | intro (_ : Nat) | intro (_ : Option Addr) (_ : Nat))
    conv => whnf
    refine ⟨_, hcV 3 _ rfl, ?_⟩
    repeat ((conv => whnf); first | apply qza | apply qzb | apply qzc | apply qzd | apply qze | intro (_ : Nat) | intro (_ : Option Addr) (_ : Nat))
    conv => whnf
    refine ⟨fun hx => absurd hx (by decide), fun _ => ?_⟩
    repeat ((conv => whnf); first | apply qza | apply qzb | apply qzc | apply qzd | apply qze | intro (_ : Nat) | intro (_ : Option Addr) (_ : Nat))
    conv => whnf
    refine ⟨_, rfl, ⟨by decide, by decide⟩, ?_⟩
    repeat ((conv => whnf); first | apply qza | apply qzb | apply qzc | apply qzd | apply qze | intro (_ : Nat) | intro (_ : Option Addr) (_ : Nat))
    conv => whnf
    refine ⟨_, hcV 3 _ rfl, ?_⟩
    repeat ((conv => whnf); first | apply qza | apply qzb | apply qzc | apply qzd | apply qze | intro (_ : Nat) | intro (_ : Option Addr) (_ : Nat))
    conv => whnf
    refine ⟨_, rfl, ⟨by decide, by decide⟩, ?_⟩
    repeat ((conv => whnf); first | apply qza | apply qzb | apply qzc | apply qzd | apply qze | intro (_ : Nat) | intro (_ : Option Addr) (_ : Nat))
    conv => whnf
    refine ⟨_, hcG 1 _ rfl, ?_⟩
    repeat ((conv => whnf); first | apply qza | apply qzb | apply qzc | apply qzd | apply qze | intro (_ : Nat) | intro (_ : Option Addr) (_ : Nat))
    conv => whnf
    refine ⟨fun hx => absurd hx (by decide), fun _ => ?_⟩
    repeat ((conv => whnf); first | apply qza | apply qzb | apply qzc | apply qzd | apply qze | intro (_ : Nat) | intro (_ : Option Addr) (_ : Nat))
    conv => whnf
    refine ⟨fun hx => absurd hx (by decide), fun _ => ?_⟩
    repeat ((conv => whnf); first | apply qza | apply qzb | apply qzc | apply qzd | apply qze | intro (_ : Nat) | intro (_ : Option Addr) (_ : Nat))
    refine .inr ((ok_Clone _ hw11 (BgW_up w3_bg)).mono fun v g12 hg12 hO => ?_)
    obtain ⟨cs, TT, rfl, hT⟩ := hO
    have hF := oWo_rd hT
    obtain ⟨pa, na, pb, nb, pc, nc, pd, nd, pe, ne, rfl⟩ := rWo_open hF
    obtain ⟨b1, c1, b2, c2, b3, c3, ua, ub, ud, hv1, rc1, rc2, b4, j4, bc4, ty4, ⟨hA, n1, n2, n3, n4⟩, _, hk4⟩ := oWo_head hT (i := 0) (j := 0) (k := 1) (v := v3) (x := gr3) (en := freshE 2) rfl rfl rfl (h' := 0) (by decide)
    cases hv1
    repeat ((conv => whnf); first | apply qza | apply qzb | apply qzc | apply qzd | apply qze | intro (_ : Nat) | intro (_ : Option Addr) (_ : Nat))
    conv => whnf
    refine ⟨fun hx => absurd hx (by decide), fun _ => ?_⟩
    repeat ((conv => whnf); first | apply qza | apply qzb | apply qzc | apply qzd | apply qze | intro (_ : Nat) | intro (_ : Option Addr) (_ : Nat))
    conv => whnf
    refine ⟨_, rfl, ⟨by decide, by decide⟩, ?_⟩
    repeat ((conv => whnf); first | apply qza | apply qzb | apply qzc | apply qzd | apply qze | intro (_ : Nat) | intro (_ : Option Addr) (_ : Nat))
    conv => whnf
    refine ⟨_, rc1 3 _ rfl, ?_⟩
    repeat ((conv => whnf); first | apply qza | apply qzb | apply qzc | apply qzd | apply qze | intro (_ : Nat) | intro (_ : Option Addr) (_ : Nat))
    conv => whnf
    refine ⟨fun hx => absurd hx (by decide), fun _ => ?_⟩
    repeat ((conv => whnf); first | apply qza | apply qzb | apply qzc | apply qzd | apply qze | intro (_ : Nat) | intro (_ : Option Addr) (_ : Nat))
    conv => whnf
    refine ⟨_, rfl, ⟨by decide, by decide⟩, ?_⟩
    repeat ((conv => whnf); first | apply qza | apply qzb | apply qzc | apply qzd | apply qze | intro (_ : Nat) | intro (_ : Option Addr) (_ : Nat))
    conv => whnf
    refine ⟨_, rc1 3 _ rfl, ?_⟩
    repeat ((conv => whnf); first | apply qza | apply qzb | apply qzc | apply qzd | apply qze | intro (_ : Nat) | intro (_ : Option Addr) (_ : Nat))
    conv => whnf
    refine ⟨_, rfl, ⟨by decide, by decide⟩, ?_⟩
    repeat ((conv => whnf); first | apply qza | apply qzb | apply qzc | apply qzd | apply qze | intro (_ : Nat) | intro (_ : Option Addr) (_ : Nat))
    conv => whnf
    refine ⟨_, rc2 1 _ rfl, ?_⟩
    repeat ((conv => whnf); first | apply qza | apply qzb | apply qzc | apply qzd | apply qze | intro (_ : Nat) | intro (_ : Option Addr) (_ : Nat))
    conv => whnf
    refine ⟨fun hx => absurd hx (by decide), fun _ => ?_⟩
    repeat ((conv => whnf); first | apply qza | apply qzb | apply qzc | apply qzd | apply qze | intro (_ : Nat) | intro (_ : Option Addr) (_ : Nat))
    conv => whnf
    refine ⟨_, rfl, ⟨by decide, by decide⟩, ?_⟩
    repeat ((conv => whnf); first | apply qza | apply qzb | apply qzc | apply qzd | apply qze | intro (_ : Nat) | intro (_ : Option Addr) (_ : Nat))
    conv => whnf
    refine ⟨_, rc1 3 _ rfl, ?_⟩
    repeat ((conv => whnf); first | apply qza | apply qzb | apply qzc | apply qzd | apply qze | intro (_ : Nat) | intro (_ : Option Addr) (_ : Nat))
    conv => whnf
    refine ⟨_, rfl, ⟨by decide, by decide⟩, ?_⟩
    repeat ((conv => whnf); first | apply qza | apply qzb | apply qzc | apply qzd | apply qze | intro (_ : Nat) | intro (_ : Option Addr) (_ : Nat))
    conv => whnf
    refine ⟨_, rc2 1 _ rfl, ?_⟩
    repeat ((conv => whnf); first | apply qza | apply qzb | apply qzc | apply qzd | apply qze | intro (_ : Nat) | intro (_ : Option Addr) (_ : Nat))
    conv => whnf
    refine ⟨_, rfl, ⟨by decide, by decide⟩, ?_⟩
    repeat ((conv => whnf); first | apply qza | apply qzb | apply qzc | apply qzd | apply qze | intro (_ : Nat) | intro (_ : Option Addr) (_ : Nat))
    conv => whnf
    refine ⟨b4, j4, bc4, ty4, ⟨by rw [← hA]; rfl, Nat.le_trans (GW.trans hg1 (GW.trans hg2 (GW.trans hg3 l311))).1 n1, n2, n3, n4⟩, ?_⟩
    repeat ((conv => whnf); first | apply qza | apply qzb | apply qzc | apply qzd | apply qze | intro (_ : Nat) | intro (_ : Option Addr) (_ : Nat))
    conv => whnf
    refine fun g13 u13 => ?_
    have hX : rWo g13 _ wX := oWo_rd (hk4 g13 u13)
    have hle : g11 ≤ g13 := u13.le hg12 (fun h => by have := g11.wf _ h; omega)
    repeat ((conv => whnf); first | apply qza | apply qzb | apply qzc | apply qzd | apply qze | intro (_ : Nat) | intro (_ : Option Addr) (_ : Nat))
    refine .inr ((ok_Held _ hX wX_bg).mono fun v g14 hg14 hh => ?_)
    rw [wX_held] at hh
    subst hh
    have l1114 := GW.trans hle hg14
    repeat ((conv => whnf); first | apply qza | apply qzb | apply qzc | apply qzd | apply qze | intro (_ : Nat) | intro (_ : Option Addr) (_ : Nat))
    conv => whnf
    refine ⟨fun _ => ?_, fun hx => absurd hx (by decide)⟩
    repeat ((conv => whnf); first | apply qza | apply qzb | apply qzc | apply qzd | apply qze | intro (_ : Nat) | intro (_ : Option Addr) (_ : Nat))
    conv => whnf
    refine ⟨fun _ => ?_, fun hx => absurd hx (by decide)⟩
    repeat ((conv => whnf); first | apply qza | apply qzb | apply qzc | apply qzd | apply qze | intro (_ : Nat) | intro (_ : Option Addr) (_ : Nat))
    conv => whnf
    refine ⟨fun _ => ?_, fun hx => absurd hx (by decide)⟩
    repeat ((conv => whnf); first | apply qza | apply qzb | apply qzc | apply qzd | apply qze | intro (_ : Nat) | intro (_ : Option Addr) (_ : Nat))
    conv => whnf
    refine ⟨fun _ => ?_, fun hx => absurd hx (by decide)⟩
    repeat ((conv => whnf); first | apply qza | apply qzb | apply qzc | apply qzd | apply qze | intro (_ : Nat) | intro (_ : Option Addr) (_ : Nat))
    conv => whnf
    refine ⟨fun _ => ?_, fun hx => absurd hx (by decide)⟩
    repeat ((conv => whnf); first | apply qza | apply qzb | apply qzc | apply qzd | apply qze | intro (_ : Nat) | intro (_ : Option Addr) (_ : Nat))
    conv => whnf
    refine ⟨_, rfl, ⟨by decide, by decide⟩, ?_⟩
    repeat ((conv => whnf); first | apply qza | apply qzb | apply qzc | apply qzd | apply qze | intro (_ : Nat) | intro (_ : Option Addr) (_ : Nat))
    conv => whnf
    refine ⟨_, ⟨rfl, hcV.mono l1114⟩, ?_⟩
    repeat ((conv => whnf); first | apply qza | apply qzb | apply qzc | apply qzd | apply qze | intro (_ : Nat) | intro (_ : Option Addr) (_ : Nat))
    conv => whnf
    refine .inl ⟨_, ok_sameVersion _ (rVe_mono _ _ _ _ l1114 hV) (rVe_mono _ _ _ _ l1114 ⟨_, _, _, _, rfl, hsn3, hG⟩), ?_⟩
    repeat ((conv => whnf); first | apply qza | apply qzb | apply qzc | apply qzd | apply qze | intro (_ : Nat) | intro (_ : Option Addr) (_ : Nat))
    conv => whnf
    refine ⟨fun _ => ?_, fun h => nomatch h⟩
    repeat ((conv => whnf); first | apply qza | apply qzb | apply qzc | apply qzd | apply qze | intro (_ : Nat) | intro (_ : Option Addr) (_ : Nat))
    conv => whnf
    refine ⟨fun _ => ?_, fun hx => absurd hx (by decide)⟩
    repeat ((conv => whnf); first | apply qza | apply qzb | apply qzc | apply qzd | apply qze | intro (_ : Nat) | intro (_ : Option Addr) (_ : Nat))
    conv => whnf
    refine ⟨fun _ => ?_, fun hx => absurd hx (by decide)⟩
    repeat ((conv => whnf); first | apply qza | apply qzb | apply qzc | apply qzd | apply qze | intro (_ : Nat) | intro (_ : Option Addr) (_ : Nat))
    conv => whnf
    refine ⟨_, rfl, ⟨by decide, by decide⟩, ?_⟩
    repeat ((conv => whnf); first | apply qza | apply qzb | apply qzc | apply qzd | apply qze | intro (_ : Nat) | intro (_ : Option Addr) (_ : Nat))
    conv => whnf
    refine ⟨_, (hcV 3 _ rfl).mono l1114, ?_⟩
    repeat ((conv => whnf); first | apply qza | apply qzb | apply qzc | apply qzd | apply qze | intro (_ : Nat) | intro (_ : Option Addr) (_ : Nat))
    conv => whnf
    refine ⟨_, rfl, ⟨by decide, by decide⟩, ?_⟩
    repeat ((conv => whnf); first | apply qza | apply qzb | apply qzc | apply qzd | apply qze | intro (_ : Nat) | intro (_ : Option Addr) (_ : Nat))
    conv => whnf
    refine ⟨_, (hcG 1 _ rfl).mono l1114, ?_⟩
    repeat ((conv => whnf); first | apply qza | apply qzb | apply qzc | apply qzd | apply qze | intro (_ : Nat) | intro (_ : Option Addr) (_ : Nat))
    conv => whnf
    refine ⟨_, rfl, ⟨by decide, by decide⟩, ?_⟩
    repeat ((conv => whnf); first | apply qza | apply qzb | apply qzc | apply qzd | apply qze | intro (_ : Nat) | intro (_ : Option Addr) (_ : Nat))
    conv => whnf
    refine ⟨_, (hcE 0 _ rfl).mono l1114, ?_⟩
    repeat ((conv => whnf); first | apply qza | apply qzb | apply qzc | apply qzd | apply qze | intro (_ : Nat) | intro (_ : Option Addr) (_ : Nat))
    conv => whnf
    refine ⟨fun _ => ?_, fun hx => absurd hx (by decide)⟩
    repeat ((conv => whnf); first | apply qza | apply qzb | apply qzc | apply qzd | apply qze | intro (_ : Nat) | intro (_ : Option Addr) (_ : Nat))
    conv => whnf
    refine ⟨fun _ => ?_, fun hx => absurd hx (by decide)⟩
    repeat ((conv => whnf); first | apply qza | apply qzb | apply qzc | apply qzd | apply qze | intro (_ : Nat) | intro (_ : Option Addr) (_ : Nat))
    refine .inr ((ok_Held _ (rWo_mono _ _ _ _ l1114 hw11) w3_bg).mono fun v g15 hg15 hh => ?_)
    rw [w3_held] at hh
    subst hh
    repeat ((conv => whnf); first | apply qza | apply qzb | apply qzc | apply qzd | apply qze | intro (_ : Nat) | intro (_ : Option Addr) (_ : Nat))
    conv => whnf
    refine ⟨fun _ => ?_, fun hx => absurd hx (by decide)⟩
    repeat ((conv => whnf); first | apply qza | apply qzb | apply qzc | apply qzd | apply qze | intro (_ : Nat) | intro (_ : Option Addr) (_ : Nat))
    conv => whnf
    refine .inl ⟨_, (ok_wIs _ (rWo_mono _ _ _ _ (GW.trans l1114 hg15) hw11) sn_w3).to (congrArg Value.bool w3_right), ?_⟩
    repeat ((conv => whnf); first | apply qza | apply qzb | apply qzc | apply qzd | apply qze | intro (_ : Nat) | intro (_ : Option Addr) (_ : Nat))
    conv => whnf
    refine ⟨fun _ => ?_, fun h => nomatch h⟩
    repeat ((conv => whnf); first | apply qza | apply qzb | apply qzc | apply qzd | apply qze | intro (_ : Nat) | intro (_ : Option Addr) (_ : Nat))
    conv => whnf
    refine .inl ⟨_, (ok_wIs _ (rWo_lock (rWo_mono _ _ _ _ (GW.trans hg14 hg15) hX) (x := 2) (by decide)) (show SnW { wX with lock := 2 } from sn_wX)).to (congrArg Value.bool wX_bad), ?_⟩
    repeat ((conv => whnf); first | apply qza | apply qzb | apply qzc | apply qzd | apply qze | intro (_ : Nat) | intro (_ : Option Addr) (_ : Nat))
    conv => whnf
    intro g2 hg
    rfl)
end Go.Proofs.YtkkhdnddplkobaaGreat


/- Slots and counts: the document's new ones. -/
namespace Go.Proofs.YtkkhdnddplkobaaGreat
open Go.Proofs.YtkkhdnddplkobaaGreat.Sx Go.RowKit
theorem ok_rFresh (g : GW) {n : Int} : Ok Tryz.prog n_hydrantref14_Fresh [.int .i64 n] g (FreshP n) :=
  Ok.of_fn hm noT 0 t_hydrantref14_Fresh (args := [.v (.int .i64 n)]) (by
    repeat ((conv => whnf); first | apply qza | apply qzb | apply qzc | apply qzd | apply qze | intro (_ : Nat) | intro (_ : Option Addr) (_ : Nat))
    rename_i q0
    conv => whnf
    refine ⟨fun z1 => ?_, fun z1 => ?_⟩
    · repeat ((conv => whnf); first | apply qza | apply qzb | apply qzc | apply qzd | apply qze | intro (_ : Nat) | intro (_ : Option Addr) (_ : Nat))
      conv => whnf
      intro g2 hg
      exact .inr ⟨by have := of_decide_eq_true z1; omega, rfl⟩
    repeat ((conv => whnf); first | apply qza | apply qzb | apply qzc | apply qzd | apply qze | intro (_ : Nat) | intro (_ : Option Addr) (_ : Nat))
    conv => whnf
    refine ⟨fun z2 => ?_, fun z2 => ?_⟩
    · repeat ((conv => whnf); first | apply qza | apply qzb | apply qzc | apply qzd | apply qze | intro (_ : Nat) | intro (_ : Option Addr) (_ : Nat))
      conv => whnf
      intro g2 hg
      exact .inr ⟨by have := of_decide_eq_true z2; omega, rfl⟩
    have k1 := of_decide_eq_false z1
    have k2 := of_decide_eq_false z2
    obtain ⟨N, rfl⟩ := Int.eq_ofNat_of_zero_le (show 0 ≤ n by omega)
    repeat ((conv => whnf); first | apply qza | apply qzb | apply qzc | apply qzd | apply qze | intro (_ : Nat) | intro (_ : Option Addr) (_ : Nat))
    rename_i q1
    conv => whnf
    refine ⟨Nat × Option Addr × Nat, fun (k, _, _) => [.v (.int .i64 ((k : Int) + 1))], fun (k, oX, cX) => ⟨g, [.row 10 oX k cX ty_int 1 (upE k).flatten, .blk 1 q1 ty_api_End [.v (.int .u64 1), .row 10 oX k cX, .v (.int .i64 0)], .blk 0 q0 ty_api_End [.v (.int .u64 0), .v (.slice none 0 0), .v (.int .i64 0)]], 20, g.w.heap.size⟩, fun (k, _, _) => k + 1 ≤ N, fun (k, _, _) => N - (k + 1), fun fr w hw => ⟨(0, none, 0), rfl, by show 0 + 1 ≤ N; omega, (hw.nil_row (nx' := 20) 10 ty_int 1).fit (by simp [fitL, Res.eqv, concL, conc, upE])⟩, ?_⟩
    rintro ⟨k, oX, cX⟩ hk
    replace hk : k + 1 ≤ N := hk
    repeat ((conv => whnf); first | apply qza | apply qzb | apply qzc | apply qzd | apply qze | intro (_ : Nat) | intro (_ : Option Addr) (_ : Nat))
    conv => whnf
    refine ⟨fun hlt => ?_, fun hlt => ?_⟩
    · have h' : k + 1 < N := by have h9 : (k : Int) + 1 < N := of_decide_eq_true hlt; omega
      repeat ((conv => whnf); first | apply qza | apply qzb | apply qzc | apply qzd | apply qze | intro (_ : Nat) | intro (_ : Option Addr) (_ : Nat))
      conv => whnf
      refine ⟨⟨by unfold maxLen; omega, by omega⟩, fun oa2 cap2 => ?_⟩
      repeat ((conv => whnf); first | apply qza | apply qzb | apply qzc | apply qzd | apply qze | intro (_ : Nat) | intro (_ : Option Addr) (_ : Nat))
      conv => whnf
      refine fun fr w hw => ⟨(k + 1, oa2, cap2), congrArg (fun z => [Value.int .i64 z]) (show ((k + 1 : Nat) : Int) + 1 = IntKind.i64.wrap ((k : Int) + 1 + 1) by rw [wr (x := (k : Int) + 1 + 1) (by unfold InR; omega)]; omega), (show k + 1 + 1 ≤ N by omega), (by show N - (k + 1 + 1) < N - (k + 1); omega), hw.fit (by rw [upE_succ]; simp [fitL, Res.eqv, concL, conc])⟩
    have hkN : k + 1 = N := by have h9 : ¬ (k : Int) + 1 < N := of_decide_eq_false hlt; omega
    subst hkN
    repeat ((conv => whnf); first | apply qza | apply qzb | apply qzc | apply qzd | apply qze | intro (_ : Nat) | intro (_ : Option Addr) (_ : Nat))
    conv => whnf
    refine ⟨⟨by unfold maxLen; omega, by omega⟩, fun oa3 cap3 => ?_⟩
    repeat ((conv => whnf); first | apply qza | apply qzb | apply qzc | apply qzd | apply qze | intro (_ : Nat) | intro (_ : Option Addr) (_ : Nat))
    conv => whnf
    refine fun g1 hg1 hn1 hp1 => ?_
    repeat ((conv => whnf); first | apply qza | apply qzb | apply qzc | apply qzd | apply qze | intro (_ : Nat) | intro (_ : Option Addr) (_ : Nat))
    conv => whnf
    intro g2 hg
    refine .inl ⟨⟨by omega, by omega⟩, _, _, rfl, ?_⟩
    have hN : k = 0 ∨ k = 1 ∨ k = 2 ∨ k = 3 := by omega
    rcases hN with rfl | rfl | rfl | rfl
    all_goals exact (rSl_of1 hp1.rd (freshE _).next (fun x => .int .i64 x) rfl fun x hx => ⟨rfl, by simp [freshE, List.range, List.range.loop] at hx; unfold InR; omega⟩).mono rInt_mono hg)
end Go.Proofs.YtkkhdnddplkobaaGreat


/- Counts: the document's new ones. -/
namespace Go.Proofs.YtkkhdnddplkobaaGreat
open Go.Proofs.YtkkhdnddplkobaaGreat.Sx Go.RowKit
theorem ok_rShardNew (g : GW) {n : Int} : Ok Tryz.prog n_hydrantref11_New [.int .i64 n] g (ShardP n) :=
  Ok.of_fn hm noT 0 t_hydrantref11_New (args := [.v (.int .i64 n)]) (by
    repeat ((conv => whnf); first | apply qza | apply qzb | apply qzc | apply qzd | apply qze | intro (_ : Nat) | intro (_ : Option Addr) (_ : Nat))
    conv => whnf
    refine ⟨fun z1 => ?_, fun z1 => ?_⟩
    · repeat ((conv => whnf); first | apply qza | apply qzb | apply qzc | apply qzd | apply qze | intro (_ : Nat) | intro (_ : Option Addr) (_ : Nat))
      conv => whnf
      intro g2 hg
      exact .inr ⟨by have := of_decide_eq_true z1; omega, rfl⟩
    repeat ((conv => whnf); first | apply qza | apply qzb | apply qzc | apply qzd | apply qze | intro (_ : Nat) | intro (_ : Option Addr) (_ : Nat))
    conv => whnf
    refine ⟨fun z2 => ?_, fun z2 => ?_⟩
    · repeat ((conv => whnf); first | apply qza | apply qzb | apply qzc | apply qzd | apply qze | intro (_ : Nat) | intro (_ : Option Addr) (_ : Nat))
      conv => whnf
      intro g2 hg
      exact .inr ⟨by have := of_decide_eq_true z2; omega, rfl⟩
    have k1 := of_decide_eq_false z1
    have k2 := of_decide_eq_false z2
    obtain ⟨N, rfl⟩ := Int.eq_ofNat_of_zero_le (show 0 ≤ n by omega)
    repeat ((conv => whnf); first | apply qza | apply qzb | apply qzc | apply qzd | apply qze | intro (_ : Nat) | intro (_ : Option Addr) (_ : Nat))
    rename_i q0
    conv => whnf
    refine ⟨Nat × List (List Value) × Option Addr × Nat × GW, fun (k, _, oX, cX, _) => [.row 10 oX k cX, .v (.int .i64 k)], fun (k, ecs, oX, cX, g') => ⟨g', [.row 10 oX k cX ty_sl_uint64 1 ecs.flatten], 20, g.w.heap.size⟩, fun (k, ecs, _, _, g') => k ≤ N ∧ g ≤ g' ∧ rEls 1 rRow g' ecs (zCounts k), fun (k, _, _, _, _) => N - k, fun fr w hw => ⟨(0, [], some ⟨q0, 0, none⟩, 0, g), rfl, ⟨Nat.zero_le _, GW.refl _, rEls_nil _⟩, (HSim.blk_row (id' := 10) (nx' := 20) hw 0 1 rfl (Nat.zero_le _)).fit (by simp [fitL, Res.eqv, concL, conc])⟩, ?_⟩
    rintro ⟨k, ecs, oX, cX, g'⟩ ⟨hk, hgg, hE⟩
    repeat ((conv => whnf); first | apply qza | apply qzb | apply qzc | apply qzd | apply qze | intro (_ : Nat) | intro (_ : Option Addr) (_ : Nat))
    conv => whnf
    refine ⟨fun hlt => ?_, fun hlt => ?_⟩
    · have h' : k < N := by have h9 : (k : Int) < N := of_decide_eq_true hlt; omega
      repeat ((conv => whnf); first | apply qza | apply qzb | apply qzc | apply qzd | apply qze | intro (_ : Nat) | intro (_ : Option Addr) (_ : Nat))
      rename_i q2 q3
      conv => whnf
      refine ⟨1, rfl, by unfold maxLen; omega, fun g2 hg2 hn2 hp2 => ?_⟩
      have hrow : rSl 1 rU64 g2 (.slice (some ⟨q2, 0, none⟩) 6 6) [0, 0, 0, 0, 0, 0] := rSl_of1 hp2.rd [0, 0, 0, 0, 0, 0] (fun x => .int .u64 x) rfl fun x hx => ⟨rfl, by simp at hx; subst hx; decide⟩
      have hT : zCounts (k + 1) = zCounts k ++ [[0, 0, 0, 0, 0, 0]] := by simp [zCounts, List.range_succ]
      repeat ((conv => whnf); first | apply qza | apply qzb | apply qzc | apply qzd | apply qze | intro (_ : Nat) | intro (_ : Option Addr) (_ : Nat))
      conv => whnf
      refine ⟨⟨by unfold maxLen; omega, by omega⟩, fun oa2 cap2 => ?_⟩
      repeat ((conv => whnf); first | apply qza | apply qzb | apply qzc | apply qzd | apply qze | intro (_ : Nat) | intro (_ : Option Addr) (_ : Nat))
      conv => whnf
      refine fun fr w hw => ⟨(k + 1, ecs ++ [[.slice (some ⟨q2, 0, none⟩) 6 6]], oa2, cap2, g2), congrArg (fun z => [Value.slice oa2 (k + 1) cap2, Value.int .i64 z]) (show ((k + 1 : Nat) : Int) = IntKind.i64.wrap ((k : Int) + 1) by rw [wr (x := (k : Int) + 1) (by unfold InR; omega)]; omega), ⟨h', GW.trans hgg hg2, by rw [hT]; exact rEls_snoc (rEls_up rRow_mono hg2 hE) rfl ⟨_, rfl, hrow⟩⟩, (by show N - (k + 1) < N - k; omega), hw.fit (by simp [fitL, Res.eqv, concL, conc])⟩
    have hkN : k = N := by have h9 : ¬ (k : Int) < N := of_decide_eq_false hlt; omega
    subst hkN
    repeat ((conv => whnf); first | apply qza | apply qzb | apply qzc | apply qzd | apply qze | intro (_ : Nat) | intro (_ : Option Addr) (_ : Nat))
    conv => whnf
    refine fun g2 hg2 hn2 hp2 => ?_
    have hSl := rEls_sl (rEls_up rRow_mono hg2 hE) hp2 (by simp [zCounts])
    repeat ((conv => whnf); first | apply qza | apply qzb | apply qzc | apply qzd | apply qze | intro (_ : Nat) | intro (_ : Option Addr) (_ : Nat))
    conv => whnf
    intro g2 hg
    exact .inl ⟨⟨by omega, by omega⟩, _, _, rfl, hSl.mono rRow_mono hg⟩)
end Go.Proofs.YtkkhdnddplkobaaGreat


/- Worlds: the document's cells of a snapshot. -/
namespace Go.Proofs.YtkkhdnddplkobaaGreat
open Go.Proofs.YtkkhdnddplkobaaGreat.Sx Go.RowKit
theorem ok_rCells (g : GW) {cs : List Value} {s : Snap} (hs : rSnap g cs s) (hsz : SnS s) : Ok Tryz.prog n_hydrantref18_Cells [.agg ⟨cs⟩] g (CellsP s) := by
  have hs0 := hs
  obtain ⟨a, b, d, rfl, hl, hr, hk⟩ := hs
  obtain ⟨oa, ca, rfl, a1, a2, a0, hl1⟩ := id hl
  obtain ⟨ob, cb, rfl, b1, b2, b0, hr1⟩ := id hr
  obtain ⟨od, cd, rfl, d1, d2, d0, hk1⟩ := id hk
  exact Ok.of_fn hm noT 0 t_hydrantref18_Cells (args := [.v (.agg ⟨[.slice oa s.listens.length ca, .slice ob s.rules.length cb, .slice od s.clusters.length cd]⟩)]) (by
    repeat ((conv => whnf); first | apply qza | apply qzb | apply qzc | apply qzd | apply qze | intro (_ : Nat) | intro (_ : Option Addr) (_ : Nat))
    conv => whnf
    refine .inl ⟨_, ok_rsIs _ hs0 hsz, ?_⟩
    repeat ((conv => whnf); first | apply qza | apply qzb | apply qzc | apply qzd | apply qze | intro (_ : Nat) | intro (_ : Option Addr) (_ : Nat))
    conv => whnf
    refine ⟨fun z1 => ?_, fun z1 => ?_⟩
    · repeat ((conv => whnf); first | apply qza | apply qzb | apply qzc | apply qzd | apply qze | intro (_ : Nat) | intro (_ : Option Addr) (_ : Nat))
      conv => whnf
      intro g2 hg
      refine .inr ⟨fun h => ?_, rfl⟩
      rw [eqB_t h] at z1; cases z1
    have hz := eqB_iff.1 (nb0 z1)
    have G := good_iff.1 hz
    have hclL : s.clusters.length ≤ 4 := G.size.2.2.2
    have hcl : ∀ x ∈ s.clusters, (1 ≤ x.slots ∧ x.slots ≤ 4) ∧ (1 ≤ x.health.length ∧ x.health.length ≤ 4) := fun x hx => (G.cl x hx).2.2
    repeat ((conv => whnf); first | apply qza | apply qzb | apply qzc | apply qzd | apply qze | intro (_ : Nat) | intro (_ : Option Addr) (_ : Nat))
    rename_i q0 q1 q2
    conv => whnf
    refine ⟨Nat × List (List Value) × Option Addr × Nat × GW, fun (k, _, _, _, _) => [.v (.int .i64 k)], fun (k, ecs, oX, cX, g') => ⟨g', [.row 10 oX k cX ty_api_Group 2 ecs.flatten, .blk 2 q2 ty_api_Version [.v (.slice oa s.listens.length ca), .v (.slice ob s.rules.length cb), .v (.slice od s.clusters.length cd), .row 10 oX k cX, .v (.bool false)], .blk 1 q1 ty_api_Version [.v (.slice none 0 0), .v (.slice none 0 0), .v (.slice none 0 0), .v (.slice none 0 0), .v (.bool false)], .blk 0 q0 ty_api_Snap [.v (.slice oa s.listens.length ca), .v (.slice ob s.rules.length cb), .v (.slice od s.clusters.length cd)]], 20, g.w.heap.size⟩, fun (k, ecs, _, _, g') => k ≤ s.clusters.length ∧ g ≤ g' ∧ rEls 2 rGr g' ecs ((s.clusters.take k).map fun c => (⟨0, c.health.map fun _ => freshE c.slots.toNat⟩ : Group)), fun (k, _, _, _, _) => s.clusters.length - k, fun fr w hw => ⟨(0, [], none, 0, g), rfl, ⟨Nat.zero_le _, GW.refl _, rEls_nil _⟩, (hw.nil_row (nx' := 20) 10 ty_api_Group 2).fit (by simp [fitL, Res.eqv, concL, conc])⟩, ?_⟩
    rintro ⟨k, ecs, oX, cX, g'⟩ ⟨hkk, hgg, hE⟩
    repeat ((conv => whnf); first | apply qza | apply qzb | apply qzc | apply qzd | apply qze | intro (_ : Nat) | intro (_ : Option Addr) (_ : Nat))
    conv => whnf
    refine ⟨fun hlt => ?_, fun hlt => ?_⟩
    · have h' : k < s.clusters.length := by have := of_decide_eq_true hlt; omega
      obtain ⟨x, hx⟩ := getL_of h'
      obtain ⟨x1, x2⟩ := List.getElem?_eq_some_iff.1 hx
      have hxc := hcl x (List.mem_of_getElem? hx)
      obtain ⟨a, rfl, ec, hec, ⟨hv, rfl, _, _, ⟨oh, ch, rfl, t1, t2, _⟩⟩, hc⟩ := hk1 k x hx
      repeat ((conv => whnf); first | apply qza | apply qzb | apply qzc | apply qzd | apply qze | intro (_ : Nat) | intro (_ : Option Addr) (_ : Nat))
      rename_i qg
      conv => whnf
      refine ⟨Nat × List (List Value) × Option Addr × Nat × GW, fun (n, _, _, _, _) => [.v (.int .i64 n)], fun (n, ecs2, oE, cE, g2) => ⟨g2, [.row 30 oE n cE ty_api_End 3 ecs2.flatten, .blk 20 qg ty_api_Group [.v (.int .u64 0), .row 30 oE n cE], .row 10 oX k cX ty_api_Group 2 ecs.flatten, .blk 2 q2 ty_api_Version [.v (.slice oa s.listens.length ca), .v (.slice ob s.rules.length cb), .v (.slice (some a) s.clusters.length cd), .row 10 oX k cX, .v (.bool false)], .blk 1 q1 ty_api_Version [.v (.slice none 0 0), .v (.slice none 0 0), .v (.slice none 0 0), .v (.slice none 0 0), .v (.bool false)], .blk 0 q0 ty_api_Snap [.v (.slice oa s.listens.length ca), .v (.slice ob s.rules.length cb), .v (.slice (some a) s.clusters.length cd)]], 40, g.w.heap.size⟩, fun (n, ecs2, _, _, g2) => n ≤ x.health.length ∧ g' ≤ g2 ∧ rEls 3 rEn g2 ecs2 ((x.health.take n).map fun _ => freshE x.slots.toNat), fun (n, _, _, _, _) => x.health.length - n, fun fr w hw => ⟨(0, [], none, 0, g'), rfl, ⟨Nat.zero_le _, GW.refl _, rEls_nil _⟩, (hw.nil_row (nx' := 40) 30 ty_api_End 3).fit (by simp [fitL, Res.eqv, concL, conc])⟩, ?_⟩
      rintro ⟨n, ecs2, oE, cE, g2⟩ ⟨hn, hg2, hE2⟩
      have hcm := hc.mono (GW.trans hgg hg2)
      repeat ((conv => whnf); first | apply qza | apply qzb | apply qzc | apply qzd | apply qze | intro (_ : Nat) | intro (_ : Option Addr) (_ : Nat))
      conv => whnf
      refine ⟨_, rfl, ⟨by omega, by omega⟩, ?_⟩
      repeat ((conv => whnf); first | apply qza | apply qzb | apply qzc | apply qzd | apply qze | intro (_ : Nat) | intro (_ : Option Addr) (_ : Nat))
      conv => whnf
      refine ⟨_, hcm 3 _ rfl, ?_⟩
      repeat ((conv => whnf); first | apply qza | apply qzb | apply qzc | apply qzd | apply qze | intro (_ : Nat) | intro (_ : Option Addr) (_ : Nat))
      conv => whnf
      refine ⟨fun hln => ?_, fun hln => ?_⟩
      · have h2 : n < x.health.length := by have := of_decide_eq_true hln; omega
        repeat ((conv => whnf); first | apply qza | apply qzb | apply qzc | apply qzd | apply qze | intro (_ : Nat) | intro (_ : Option Addr) (_ : Nat))
        conv => whnf
        refine ⟨_, rfl, ⟨by omega, by omega⟩, ?_⟩
        repeat ((conv => whnf); first | apply qza | apply qzb | apply qzc | apply qzd | apply qze | intro (_ : Nat) | intro (_ : Option Addr) (_ : Nat))
        conv => whnf
        refine ⟨_, hcm 2 _ rfl, ?_⟩
        repeat ((conv => whnf); first | apply qza | apply qzb | apply qzc | apply qzd | apply qze | intro (_ : Nat) | intro (_ : Option Addr) (_ : Nat))
        refine .inr ((ok_rFresh _).mono fun v g3 hg3 hF => ?_)
        rcases hF with ⟨_, oF, cF, rfl, hF⟩ | ⟨hF, _⟩
        rotate_left
        · exact absurd hxc.1 hF
        have hEn := fresh_en hxc.1 hF
        have hT : ((x.health.take (n + 1)).map fun _ => freshE x.slots.toNat) = ((x.health.take n).map fun _ => freshE x.slots.toNat) ++ [freshE x.slots.toNat] := by
          rw [List.take_succ_eq_append_getElem h2, List.map_append]; rfl
        repeat ((conv => whnf); first | apply qza | apply qzb | apply qzc | apply qzd | apply qze | intro (_ : Nat) | intro (_ : Option Addr) (_ : Nat))
        conv => whnf
        refine ⟨⟨by unfold maxLen; omega, by omega⟩, fun oa2 cap2 => ?_⟩
        repeat ((conv => whnf); first | apply qza | apply qzb | apply qzc | apply qzd | apply qze | intro (_ : Nat) | intro (_ : Option Addr) (_ : Nat))
        conv => whnf
        refine fun fr w hw => ⟨(n + 1, ecs2 ++ [[.int .u64 1, .slice oF x.slots.toNat cF, .int .i64 0]], oa2, cap2, g3), congrArg (fun z => [Value.int .i64 z]) (wr1 h2 t1 t2).symm, ⟨h2, GW.trans hg2 hg3, by rw [hT]; exact rEls_snoc (rEls_up rEn_mono hg3 hE2) rfl hEn⟩, dec h2, hw.fit (by simp [fitL, Res.eqv, concL, conc])⟩
      have hnL : n = x.health.length := by have := of_decide_eq_false hln; omega
      subst hnL
      rw [List.take_length] at hE2
      have hT : ((s.clusters.take (k + 1)).map fun c => (⟨0, c.health.map fun _ => freshE c.slots.toNat⟩ : Group)) = ((s.clusters.take k).map fun c => (⟨0, c.health.map fun _ => freshE c.slots.toNat⟩ : Group)) ++ [⟨0, x.health.map fun _ => freshE x.slots.toNat⟩] := by
        rw [List.take_succ_eq_append_getElem x1, List.map_append, x2]; rfl
      repeat ((conv => whnf); first | apply qza | apply qzb | apply qzc | apply qzd | apply qze | intro (_ : Nat) | intro (_ : Option Addr) (_ : Nat))
      conv => whnf
      refine fun g3 hg3 hn3 hp3 => ?_
      have hSl := rEls_sl (rEls_up rEn_mono hg3 hE2) hp3 (by simp)
      repeat ((conv => whnf); first | apply qza | apply qzb | apply qzc | apply qzd | apply qze | intro (_ : Nat) | intro (_ : Option Addr) (_ : Nat))
      conv => whnf
      refine ⟨⟨by unfold maxLen; omega, by omega⟩, fun oa2 cap2 => ?_⟩
      repeat ((conv => whnf); first | apply qza | apply qzb | apply qzc | apply qzd | apply qze | intro (_ : Nat) | intro (_ : Option Addr) (_ : Nat))
      conv => whnf
      refine fun fr w hw => ⟨(k + 1, ecs ++ [[.int .u64 0, .slice oE x.health.length cE]], oa2, cap2, g3), congrArg (fun z => [Value.int .i64 z]) (wr1 h' d1 d2).symm, ⟨h', GW.trans hgg (GW.trans hg2 hg3), by rw [hT]; exact rEls_snoc (rEls_up rGr_mono (GW.trans hg2 hg3) hE) rfl ⟨_, rfl, show InU 0 by decide, hSl⟩⟩, dec h', hw.fit (by simp [fitL, Res.eqv, concL, conc])⟩
    have hkL : k = s.clusters.length := by have := of_decide_eq_false hlt; omega
    subst hkL
    rw [List.take_length] at hE
    repeat ((conv => whnf); first | apply qza | apply qzb | apply qzc | apply qzd | apply qze | intro (_ : Nat) | intro (_ : Option Addr) (_ : Nat))
    conv => whnf
    refine fun g3 hg3 hn3 hp3 => ?_
    have hSl := rEls_sl (rEls_up rGr_mono hg3 hE) hp3 (by simp)
    repeat ((conv => whnf); first | apply qza | apply qzb | apply qzc | apply qzd | apply qze | intro (_ : Nat) | intro (_ : Option Addr) (_ : Nat))
    conv => whnf
    intro g2 hg
    exact .inl ⟨hz, _, _, _, _, _, _, rfl, ⟨_, _, _, _, rfl, rSnap_mono _ _ _ _ (GW.trans hgg (GW.trans hg3 hg)) hs0, hSl.mono rGr_mono hg⟩⟩)
end Go.Proofs.YtkkhdnddplkobaaGreat


/- Worlds: the document's new one. -/
namespace Go.Proofs.YtkkhdnddplkobaaGreat
open Go.Proofs.YtkkhdnddplkobaaGreat.Sx Go.RowKit
set_option maxHeartbeats 4000000 in
theorem ok_rNew (g : GW) {cs : List Value} {s : Snap} {v : Value} {l : List BA} {t : Int} (hs : rSnap g cs s) (hl : rSl 1 rStr g v l) (hsz : SnS s) (hll : l.length ≤ 1000000) : Ok Tryz.prog n_hydrantref18_New [.agg ⟨cs⟩, v, .int .i64 t] g (NewP s l t) := by
  have hs0 := hs
  obtain ⟨a, b, d, rfl, ⟨oa, ca, rfl, _⟩, ⟨ob, cb, rfl, _⟩, ⟨od, cd, rfl, _⟩⟩ := hs
  obtain ⟨ol, cl, rfl, l1, l2, l0, hl1⟩ := id hl
  exact Ok.of_fn hm noT 0 t_hydrantref18_New (args := [.v (.agg ⟨[.slice oa s.listens.length ca, .slice ob s.rules.length cb, .slice od s.clusters.length cd]⟩), .v (.slice ol l.length cl), .v (.int .i64 t)]) (by
    repeat ((conv => whnf); first | apply qza | apply qzb | apply qzc | apply qzd | apply qze | intro (_ : Nat) | intro (_ : Option Addr) (_ : Nat))
    rename_i q0 q1
    refine .inr ((ok_rCells _ hs0 hsz).mono fun v g1 hg1 hC => ?_)
    rcases hC with ⟨hz, ka, kb, kd, oV, nV, cV, rfl, hV⟩ | ⟨hz, rfl⟩
    rotate_left
    · repeat ((conv => whnf); first | apply qza | apply qzb | apply qzc | apply qzd | apply qze | intro (_ : Nat) | intro (_ : Option Addr) (_ : Nat))
      conv => whnf
      refine ⟨fun _ => ?_, fun hx => absurd hx (by decide)⟩
      repeat ((conv => whnf); first | apply qza | apply qzb | apply qzc | apply qzd | apply qze | intro (_ : Nat) | intro (_ : Option Addr) (_ : Nat))
      conv => whnf
      intro g2 hg
      exact .inr ⟨fun h => hz h.1, rfl⟩
    have hV0 := hV
    obtain ⟨_, _, _, _, he, ⟨_, _, _, he2, ⟨sa, ta, rfl, _⟩, ⟨sb, tb, rfl, _⟩, ⟨sd, td, rfl, _⟩⟩, hG⟩ := hV
    simp only [List.cons.injEq, and_true] at he
    obtain ⟨rfl, rfl, rfl, rfl, _⟩ := he
    cases he2
    repeat ((conv => whnf); first | apply qza | apply qzb | apply qzc | apply qzd | apply qze | intro (_ : Nat) | intro (_ : Option Addr) (_ : Nat))
    rename_i q2
    conv => whnf
    refine ⟨fun hx => absurd hx (by decide), fun _ => ?_⟩
    repeat ((conv => whnf); first | apply qza | apply qzb | apply qzc | apply qzd | apply qze | intro (_ : Nat) | intro (_ : Option Addr) (_ : Nat))
    conv => whnf
    refine ⟨fun x1 => ?_, fun x1 => ?_⟩
    · repeat ((conv => whnf); first | apply qza | apply qzb | apply qzc | apply qzd | apply qze | intro (_ : Nat) | intro (_ : Option Addr) (_ : Nat))
      conv => whnf
      intro g2 hg
      exact .inr ⟨fun h => by have := h.2.1; have := of_decide_eq_true x1; omega, rfl⟩
    have t1 := of_decide_eq_false x1
    repeat ((conv => whnf); first | apply qza | apply qzb | apply qzc | apply qzd | apply qze | intro (_ : Nat) | intro (_ : Option Addr) (_ : Nat))
    conv => whnf
    refine ⟨fun x2 => ?_, fun x2 => ?_⟩
    · repeat ((conv => whnf); first | apply qza | apply qzb | apply qzc | apply qzd | apply qze | intro (_ : Nat) | intro (_ : Option Addr) (_ : Nat))
      conv => whnf
      intro g2 hg
      exact .inr ⟨fun h => by have := h.2.1; have := of_decide_eq_true x2; omega, rfl⟩
    have t2 := of_decide_eq_false x2
    obtain ⟨N, rfl⟩ := Int.eq_ofNat_of_zero_le (show 0 ≤ t by omega)
    repeat ((conv => whnf); first | apply qza | apply qzb | apply qzc | apply qzd | apply qze | intro (_ : Nat) | intro (_ : Option Addr) (_ : Nat))
    rename_i qV qw
    conv => whnf
    refine ⟨Nat × Option Addr × Nat × Nat × GW, fun (k, _, _, _, _) => [.v (.int .i64 k)], fun (k, oX, nX, cX, g') => ⟨g', [.blk 4 qw ty_api_World [.v (.int .i64 0), .v (.int .i64 0), .v (.int .i64 0), .v (.slice none 0 0), .sl 3 qV 0 1 1, .v (.slice oX nX cX), .v (.slice none 0 0), .v (.slice none 0 0)], .blk 3 qV ty_api_Version [.v (.slice sa (cellsV s).snap.listens.length ta), .v (.slice sb (cellsV s).snap.rules.length tb), .v (.slice sd (cellsV s).snap.clusters.length td), .v (.slice oV nV cV), .v (.bool false)], .blk 2 q2 ty_api_Version [.v (.slice sa (cellsV s).snap.listens.length ta), .v (.slice sb (cellsV s).snap.rules.length tb), .v (.slice sd (cellsV s).snap.clusters.length td), .v (.slice oV nV cV), .v (.bool false)], .blk 1 q1 ty_api_World [.v (.int .i64 0), .v (.int .i64 0), .v (.int .i64 0), .v (.slice none 0 0), .v (.slice none 0 0), .v (.slice none 0 0), .v (.slice none 0 0), .v (.slice none 0 0)], .blk 0 q0 ty_api_Snap [.v (.slice oa s.listens.length ca), .v (.slice ob s.rules.length cb), .v (.slice od s.clusters.length cd)]], 20, g.w.heap.size⟩, fun (k, oX, nX, cX, g') => k ≤ l.length ∧ g1 ≤ g' ∧ nX = k ∧ PbSl g' g.w.heap.size ty_api_Listen 4 (.slice oX nX cX) nX ((lisL (l.take k)).map cLi).flatten ∧ (∀ a, oX = some a → ¬ g1.g a.block) ∧ AllK (namF l) l k, fun (k, _, _, _, _) => l.length - k, fun fr w hw => ⟨(0, none, 0, 0, g1), rfl, ⟨Nat.zero_le _, GW.refl _, rfl, ⟨rfl, .inl ⟨rfl, rfl⟩, fun u hu => by cases hu⟩, (fun a h => by cases h), AllK.zero _ _⟩, hw.fit (by simp [fitL, Res.eqv, concL, conc])⟩, ?_⟩
    rintro ⟨k, oX, nX, cX, g'⟩ ⟨hk, hgg, hn, hpb, hnb, hAK⟩
    have hll2 : (lisL (l.take k)).length = k := by simp [lisL]; omega
    have hlis : rSl 4 rListen g' (.slice oX nX cX) (lisL (l.take k)) := rSl_ofE hpb.rd (lisL (l.take k)) cLi rfl (by omega) (fun _ _ => rfl) fun x hx => by
      obtain ⟨y, _, rfl⟩ := List.mem_map.1 hx
      exact ⟨rfl, show InR 0 by decide⟩
    repeat ((conv => whnf); first | apply qza | apply qzb | apply qzc | apply qzd | apply qze | intro (_ : Nat) | intro (_ : Option Addr) (_ : Nat))
    conv => whnf
    refine ⟨fun hlt => ?_, fun hlt => ?_⟩
    · have h' : k < l.length := by have := of_decide_eq_true hlt; omega
      obtain ⟨x, hx⟩ := getL_of h'
      obtain ⟨a, rfl, ec, hec, rfl, hc⟩ := hl1 k x hx
      have hcm := (hc.mono (GW.trans hg1 hgg)) 0 _ rfl
      have hbad : namF l k x = false → ¬ NewOk s l N := fun hf h => by have h3 := h.2.2; rw [allI_false hx hf] at h3; cases h3
      repeat ((conv => whnf); first | apply qza | apply qzb | apply qzc | apply qzd | apply qze | intro (_ : Nat) | intro (_ : Option Addr) (_ : Nat))
      conv => whnf
      refine ⟨a, rfl, ⟨by omega, by omega⟩, ?_⟩
      repeat ((conv => whnf); first | apply qza | apply qzb | apply qzc | apply qzd | apply qze | intro (_ : Nat) | intro (_ : Option Addr) (_ : Nat))
      conv => whnf
      refine ⟨_, hcm, ?_⟩
      repeat ((conv => whnf); first | apply qza | apply qzb | apply qzc | apply qzd | apply qze | intro (_ : Nat) | intro (_ : Option Addr) (_ : Nat))
      conv => whnf
      refine .inl ⟨_, ok_rName _ _, ?_⟩
      repeat ((conv => whnf); first | apply qza | apply qzb | apply qzc | apply qzd | apply qze | intro (_ : Nat) | intro (_ : Option Addr) (_ : Nat))
      conv => whnf
      refine ⟨fun y1 => ?_, fun y1 => ?_⟩
      · repeat ((conv => whnf); first | apply qza | apply qzb | apply qzc | apply qzd | apply qze | intro (_ : Nat) | intro (_ : Option Addr) (_ : Nat))
        conv => whnf
        intro g2 hg
        exact .inr ⟨hbad (by unfold namF; rw [nb1 y1]; rfl), rfl⟩
      repeat ((conv => whnf); first | apply qza | apply qzb | apply qzc | apply qzd | apply qze | intro (_ : Nat) | intro (_ : Option Addr) (_ : Nat))
      conv => whnf
      refine ⟨a, rfl, ⟨by omega, by omega⟩, ?_⟩
      repeat ((conv => whnf); first | apply qza | apply qzb | apply qzc | apply qzd | apply qze | intro (_ : Nat) | intro (_ : Option Addr) (_ : Nat))
      conv => whnf
      refine ⟨_, hcm, ?_⟩
      repeat ((conv => whnf); first | apply qza | apply qzb | apply qzc | apply qzd | apply qze | intro (_ : Nat) | intro (_ : Option Addr) (_ : Nat))
      conv => whnf
      refine .inl ⟨_, ok_rPlace _ hlis _, ?_⟩
      repeat ((conv => whnf); first | apply qza | apply qzb | apply qzc | apply qzd | apply qze | intro (_ : Nat) | intro (_ : Option Addr) (_ : Nat))
      conv => whnf
      refine ⟨fun y2 => ?_, fun y2 => ?_⟩
      · repeat ((conv => whnf); first | apply qza | apply qzb | apply qzc | apply qzd | apply qze | intro (_ : Nat) | intro (_ : Option Addr) (_ : Nat))
        conv => whnf
        intro g2 hg
        exact .inr ⟨hbad (by unfold namF; rw [decide_eq_false (by have := of_decide_eq_true y2; omega)]; simp), rfl⟩
      have hnF : namF l k x = true := by unfold namF; rw [nb0 y1, decide_eq_true (by have := of_decide_eq_false y2; omega)]; rfl
      have hT := lisL_take hx
      repeat ((conv => whnf); first | apply qza | apply qzb | apply qzc | apply qzd | apply qze | intro (_ : Nat) | intro (_ : Option Addr) (_ : Nat))
      conv => whnf
      refine ⟨a, rfl, ⟨by omega, by omega⟩, ?_⟩
      repeat ((conv => whnf); first | apply qza | apply qzb | apply qzc | apply qzd | apply qze | intro (_ : Nat) | intro (_ : Option Addr) (_ : Nat))
      conv => whnf
      refine ⟨_, hcm, ?_⟩
      repeat ((conv => whnf); first | apply qza | apply qzb | apply qzc | apply qzd | apply qze | intro (_ : Nat) | intro (_ : Option Addr) (_ : Nat))
      rcases hpb.2.1 with ⟨he, hn0⟩ | ⟨bk, cap', rest, he, hb1, hb2, hb3, hb4, hb5⟩
      · cases he
        have hk0 : k = 0 := by omega
        subst hk0
        repeat ((conv => whnf); first | apply qza | apply qzb | apply qzc | apply qzd | apply qze | intro (_ : Nat) | intro (_ : Option Addr) (_ : Nat))
        conv => whnf
        refine ⟨⟨by unfold maxLen; omega, by omega⟩, fun oa3 cap3 => ?_⟩
        repeat ((conv => whnf); first | apply qza | apply qzb | apply qzc | apply qzd | apply qze | intro (_ : Nat) | intro (_ : Option Addr) (_ : Nat))
        conv => whnf
        refine fun fr w hw => by
          have hw1 : HSim fr ⟨g', .row 70 oa3 (1) cap3 ty_api_Listen 4 (cLi ⟨x, false, 0, false⟩) :: [.blk 4 qw ty_api_World [.v (.int .i64 0), .v (.int .i64 0), .v (.int .i64 0), .v (.slice none 0 0), .sl 3 qV 0 1 1, .v (.slice oa3 (1) cap3), .v (.slice none 0 0), .v (.slice none 0 0)], .blk 3 qV ty_api_Version [.v (.slice sa (cellsV s).snap.listens.length ta), .v (.slice sb (cellsV s).snap.rules.length tb), .v (.slice sd (cellsV s).snap.clusters.length td), .v (.slice oV nV cV), .v (.bool false)], .blk 2 q2 ty_api_Version [.v (.slice sa (cellsV s).snap.listens.length ta), .v (.slice sb (cellsV s).snap.rules.length tb), .v (.slice sd (cellsV s).snap.clusters.length td), .v (.slice oV nV cV), .v (.bool false)], .blk 1 q1 ty_api_World [.v (.int .i64 0), .v (.int .i64 0), .v (.int .i64 0), .v (.slice none 0 0), .v (.slice none 0 0), .v (.slice none 0 0), .v (.slice none 0 0), .v (.slice none 0 0)], .blk 0 q0 ty_api_Snap [.v (.slice oa s.listens.length ca), .v (.slice ob s.rules.length cb), .v (.slice od s.clusters.length cd)]], 80, g.w.heap.size⟩ w := hw.fit (by simp [fitL, Res.eqv, concL, conc])
          obtain ⟨g4, k1', k2, k3, k4⟩ := hw1.row_pub
          refine ⟨(0 + 1, oa3, 1, cap3, g4), congrArg (fun z => [Value.int .i64 z]) (wr1 h' l1 l2).symm, ⟨h', GW.trans hgg k1', rfl, ?_, fun a ha q => k2 a ha (hgg.2 _ q).1, hAK.succ hx hnF⟩, dec h', k4.fit (by simp [fitL, Res.eqv, concL, conc])⟩
          rw [hT]; exact k3
      · cases he
        have hbk : ¬ g1.g bk := hnb _ rfl
        repeat ((conv => whnf); first | apply qza | apply qzb | apply qzc | apply qzd | apply qze | intro (_ : Nat) | intro (_ : Option Addr) (_ : Nat))
        conv => whnf
        refine .inr ⟨bk, _, rest, ⟨rfl, hb1.1, hb1.2, hb2, hpb.1, hpb.2.2, hb3, hb4, hb5, by unfold maxLen; omega, by omega⟩, fun gL hless oa3 cap3 => ?_⟩
        repeat ((conv => whnf); first | apply qza | apply qzb | apply qzc | apply qzd | apply qze | intro (_ : Nat) | intro (_ : Option Addr) (_ : Nat))
        conv => whnf
        refine fun fr w hw => by
          have hw1 : HSim fr ⟨gL, .row 70 oa3 (nX + 1) cap3 ty_api_Listen 4 (((lisL (l.take k)).map cLi).flatten ++ cLi ⟨x, false, 0, false⟩) :: [.blk 4 qw ty_api_World [.v (.int .i64 0), .v (.int .i64 0), .v (.int .i64 0), .v (.slice none 0 0), .sl 3 qV 0 1 1, .v (.slice oa3 (nX + 1) cap3), .v (.slice none 0 0), .v (.slice none 0 0)], .blk 3 qV ty_api_Version [.v (.slice sa (cellsV s).snap.listens.length ta), .v (.slice sb (cellsV s).snap.rules.length tb), .v (.slice sd (cellsV s).snap.clusters.length td), .v (.slice oV nV cV), .v (.bool false)], .blk 2 q2 ty_api_Version [.v (.slice sa (cellsV s).snap.listens.length ta), .v (.slice sb (cellsV s).snap.rules.length tb), .v (.slice sd (cellsV s).snap.clusters.length td), .v (.slice oV nV cV), .v (.bool false)], .blk 1 q1 ty_api_World [.v (.int .i64 0), .v (.int .i64 0), .v (.int .i64 0), .v (.slice none 0 0), .v (.slice none 0 0), .v (.slice none 0 0), .v (.slice none 0 0), .v (.slice none 0 0)], .blk 0 q0 ty_api_Snap [.v (.slice oa s.listens.length ca), .v (.slice ob s.rules.length cb), .v (.slice od s.clusters.length cd)]], 80, g.w.heap.size⟩ w := hw.fit (by simp [fitL, Res.eqv, concL, conc])
          obtain ⟨g4, k1', k2, k3, k4⟩ := hw1.row_pub
          have hgL := hless.le hgg hbk
          refine ⟨(k + 1, oa3, nX + 1, cap3, g4), congrArg (fun z => [Value.int .i64 z]) (wr1 h' l1 l2).symm, ⟨h', GW.trans hgL k1', by omega, ?_, fun a ha q => k2 a ha (hgL.2 _ q).1, hAK.succ hx hnF⟩, dec h', k4.fit (by simp [fitL, Res.eqv, concL, conc])⟩
          rw [hT]; simpa using k3
    have hkL : k = l.length := by have := of_decide_eq_false hlt; omega
    subst hkL
    have hok : NewOk s l N := ⟨hz, ⟨by omega, by omega⟩, hAK.done (Nat.le_refl _)⟩
    rw [List.take_length] at hlis
    repeat ((conv => whnf); first | apply qza | apply qzb | apply qzc | apply qzd | apply qze | intro (_ : Nat) | intro (_ : Option Addr) (_ : Nat))
    conv => whnf
    refine ⟨Nat × Option Addr × Nat, fun (k, _, _) => [.v (.int .i64 k)], fun (k, oP, cP) => ⟨g', [.row 10 oP k cP ty_int 1 (List.replicate k (Value.int .i64 0)), .blk 4 qw ty_api_World [.v (.int .i64 0), .v (.int .i64 0), .v (.int .i64 0), .row 10 oP k cP, .sl 3 qV 0 1 1, .v (.slice oX nX cX), .v (.slice none 0 0), .v (.slice none 0 0)], .blk 3 qV ty_api_Version [.v (.slice sa (cellsV s).snap.listens.length ta), .v (.slice sb (cellsV s).snap.rules.length tb), .v (.slice sd (cellsV s).snap.clusters.length td), .v (.slice oV nV cV), .v (.bool false)], .blk 2 q2 ty_api_Version [.v (.slice sa (cellsV s).snap.listens.length ta), .v (.slice sb (cellsV s).snap.rules.length tb), .v (.slice sd (cellsV s).snap.clusters.length td), .v (.slice oV nV cV), .v (.bool false)], .blk 1 q1 ty_api_World [.v (.int .i64 0), .v (.int .i64 0), .v (.int .i64 0), .v (.slice none 0 0), .v (.slice none 0 0), .v (.slice none 0 0), .v (.slice none 0 0), .v (.slice none 0 0)], .blk 0 q0 ty_api_Snap [.v (.slice oa s.listens.length ca), .v (.slice ob s.rules.length cb), .v (.slice od s.clusters.length cd)]], 30, g.w.heap.size⟩, fun (k, _, _) => k ≤ N, fun (k, _, _) => N - k, fun fr w hw => ⟨(0, none, 0), rfl, Nat.zero_le _, (hw.nil_row (nx' := 30) 10 ty_int 1).fit (by simp [fitL, Res.eqv, concL, conc])⟩, ?_⟩
    rintro ⟨k, oP, cP⟩ hk
    replace hk : k ≤ N := hk
    repeat ((conv => whnf); first | apply qza | apply qzb | apply qzc | apply qzd | apply qze | intro (_ : Nat) | intro (_ : Option Addr) (_ : Nat))
    conv => whnf
    refine ⟨fun hp => ?_, fun hp => ?_⟩
    · have h' : k < N := by have h9 : (k : Int) < N := of_decide_eq_true hp; omega
      repeat ((conv => whnf); first | apply qza | apply qzb | apply qzc | apply qzd | apply qze | intro (_ : Nat) | intro (_ : Option Addr) (_ : Nat))
      conv => whnf
      refine ⟨⟨by unfold maxLen; omega, by omega⟩, fun oa2 cap2 => ?_⟩
      repeat ((conv => whnf); first | apply qza | apply qzb | apply qzc | apply qzd | apply qze | intro (_ : Nat) | intro (_ : Option Addr) (_ : Nat))
      conv => whnf
      refine fun fr u hu => ⟨(k + 1, oa2, cap2), congrArg (fun z => [Value.int .i64 z]) (show ((k + 1 : Nat) : Int) = IntKind.i64.wrap ((k : Int) + 1) by rw [wr (x := (k : Int) + 1) (by unfold InR; omega)]; omega), h', (by show N - (k + 1) < N - k; omega), hu.fit (by simp [fitL, Res.eqv, concL, conc, List.replicate_succ'])⟩
    have hkN : k = N := by have h9 : ¬ (k : Int) < N := of_decide_eq_false hp; omega
    subst hkN
    repeat ((conv => whnf); first | apply qza | apply qzb | apply qzc | apply qzd | apply qze | intro (_ : Nat) | intro (_ : Option Addr) (_ : Nat))
    refine .inr ((ok_rShardNew _).mono fun v gS hgS hS => ?_)
    rcases hS with ⟨ht, oS, cS, rfl, hSh⟩ | ⟨ht, rfl⟩
    rotate_left
    · exact absurd hok.2.1 ht
    repeat ((conv => whnf); first | apply qza | apply qzb | apply qzc | apply qzd | apply qze | intro (_ : Nat) | intro (_ : Option Addr) (_ : Nat))
    conv => whnf
    refine fun gA kA nA pA => ?_
    repeat ((conv => whnf); first | apply qza | apply qzb | apply qzc | apply qzd | apply qze | intro (_ : Nat) | intro (_ : Option Addr) (_ : Nat))
    conv => whnf
    refine ⟨5, rfl, by unfold maxLen; omega, fun gB kB nB pB => ?_⟩
    repeat ((conv => whnf); first | apply qza | apply qzb | apply qzc | apply qzd | apply qze | intro (_ : Nat) | intro (_ : Option Addr) (_ : Nat))
    conv => whnf
    intro g2 hg
    have mA := GW.trans kA (GW.trans kB hg)
    refine .inl ⟨hok, _, rfl, _, _, _, _, _, rfl, ⟨show InR 0 by decide, show InR 0 by decide, show InR 0 by decide⟩, ?_, ?_, hlis.mono rListen_mono (GW.trans hgS mA), hSh.mono rRow_mono mA, ⟨none, 0, rfl, Nat.le_refl _, Nat.zero_le _, fun _ => ⟨rfl, rfl⟩, fun i x hx => by simp [newW] at hx⟩⟩
    · exact (rSl_of1 pA.rd (List.replicate k 0) (fun x => .int .i64 x) (by simp) fun x hx => ⟨rfl, by rw [List.eq_of_mem_replicate hx]; decide⟩).mono rInt_mono (GW.trans kB hg)
    · refine rSl_of (pB.rd.mono hg) [cellsV s] [[.slice sa (cellsV s).snap.listens.length ta, .slice sb (cellsV s).snap.rules.length tb, .slice sd (cellsV s).snap.clusters.length td, .slice oV nV cV, .bool false]] rfl (fun e he => ?_) rfl rfl fun i x ec hx hec => ?_
      · simp at he; subst he; rfl
      · cases i with
        | zero =>
          simp at hx hec
          subst hx; subst hec
          exact rVe_mono _ _ _ _ (GW.trans hgg (GW.trans hgS mA)) hV0
        | succ i => simp at hx)
end Go.Proofs.YtkkhdnddplkobaaGreat

