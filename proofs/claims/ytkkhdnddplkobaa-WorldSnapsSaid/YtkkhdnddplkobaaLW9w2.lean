/- Law 18's example. -/
import Derived.Test.YtkkhdnddplkobaaLW9v
import Derived.Test.YtkkhdnddplkobaaLW9j
import Derived.Test.YtkkhdnddplkobaaLW9h
import Derived.Test.YtkkhdnddplkobaaPl
import Derived.Test.YtkkhdnddplkobaaLS7
import Derived.Test.YtkkhdnddplkobaaF
namespace Go.Proofs.Ytkkhdnddplkobaa
open Go.Proofs.Ytkkhdnddplkobaa.Sx Go.RowKit
theorem sn3 {w : Wd} (h : ∀ v ∈ w.versions, v.snap = snapP 2 [true, false]) : SnW w := by
  intro v hv
  rw [h v hv]
  refine ⟨by decide, fun r hr => ?_⟩
  have : r = ⟨0, ⟨#[42]⟩, ⟨#[47]⟩, 0⟩ := by simpa [snapP] using hr
  subst this
  decide
theorem sn_w3 : SnW w3 := sn3 fun v hv => by
  have : v = v3 := by simpa [w3, newW, v3] using hv
  subst this; rfl
theorem sn_wX : SnW wX := sn3 fun v hv => by
  have : v = { v3 with groups := v3.groups.set 0 { gr3 with ends := gr3.ends.set 1 { freshE 2 with head := 0 } } } := by simpa [wX, w3, newW] using hv
  subst this; rfl
theorem ok_plain18 (g : GW) : Ok Try.prog n_hydrantlaw18_plain [] g fun v g' => ∃ cs, v = .agg ⟨cs⟩ ∧ rSnap g' cs (snapP 2 [true, false]) :=
  Ok.of_fn hm noT 0 t_hydrantlaw18_plain (args := []) (by
    repeat ((conv => whnf); first | apply qza | apply qzb | apply qzc | apply qzd | apply qze | intro (_ : Nat) | intro (_ : Option Addr) (_ : Nat))
    conv => whnf
    refine ⟨1, rfl, by unfold maxLen; omega, fun g1 hg1 hn1 hp1 => ?_⟩
    repeat ((conv => whnf); first | apply qza | apply qzb | apply qzc | apply qzd | apply qze | intro (_ : Nat) | intro (_ : Option Addr) (_ : Nat))
    conv => whnf
    refine ⟨4, rfl, by unfold maxLen; omega, fun g2 hg2 hn2 hp2 => ?_⟩
    repeat ((conv => whnf); first | apply qza | apply qzb | apply qzc | apply qzd | apply qze | intro (_ : Nat) | intro (_ : Option Addr) (_ : Nat))
    conv => whnf
    refine ⟨1, rfl, by unfold maxLen; omega, fun g3 hg3 hn3 hp3 => ?_⟩
    repeat ((conv => whnf); first | apply qza | apply qzb | apply qzc | apply qzd | apply qze | intro (_ : Nat) | intro (_ : Option Addr) (_ : Nat))
    conv => whnf
    refine ⟨4, rfl, by unfold maxLen; omega, fun g4 hg4 hn4 hp4 => ?_⟩
    repeat ((conv => whnf); first | apply qza | apply qzb | apply qzc | apply qzd | apply qze | intro (_ : Nat) | intro (_ : Option Addr) (_ : Nat))
    conv => whnf
    intro g2 hg
    have hs := snapP_rd (n := 2) (h := [true, false]) (hp1.mono (GW.trans hg2 (GW.trans hg3 hg4))) (hp2.mono (GW.trans hg3 hg4)) hp4 (hp3.mono hg4) (by decide)
    exact ⟨_, rfl, rSnap_mono _ _ _ _ hg hs⟩)
theorem rSnap_open {g : GW} {cs : List Value} {s : Snap} (h : rSnap g cs s) : ∃ oa ca ob cb oc cc, cs = [.slice oa s.listens.length ca, .slice ob s.rules.length cb, .slice oc s.clusters.length cc] := by
  obtain ⟨a, b, d, rfl, ⟨oa, ca, rfl, _⟩, ⟨ob, cb, rfl, _⟩, ⟨od, cd, rfl, _⟩⟩ := h
  exact ⟨_, _, _, _, _, _, rfl⟩
theorem rStr_nil (g : GW) : rSl 1 rStr g (.slice none 0 0) ([] : List BA) := ⟨none, 0, rfl, Nat.le_refl _, Nat.zero_le _, fun _ => ⟨rfl, rfl⟩, fun i x hx => by simp at hx⟩
theorem new_ok {s : Snap} {l : List BA} {t : Int} {v : Value} {g : GW} (h : NewP s l t v g) (k : NewOk s l t) : ∃ cs, v = .tuple #[.agg ⟨cs⟩, .int .i64 0] ∧ rWo g cs (newW s l t.toNat) := by
  rcases h with ⟨_, h⟩ | ⟨h, _⟩
  · exact h
  · exact absurd k h
theorem new_bad {s : Snap} {l : List BA} {t : Int} {v : Value} {g : GW} (h : NewP s l t v g) (k : ¬ NewOk s l t) : v = .tuple #[.agg ⟨zWs⟩, .int .i64 1] := by
  rcases h with ⟨h, _⟩ | ⟨_, h⟩
  · exact absurd h k
  · exact h
theorem BgW_up {w : Wd} (h : BgW 1000 w) : BgW 1000000 w := by
  obtain ⟨⟨h1, h2, h3, h4, h5⟩, h6, h7⟩ := h
  refine ⟨⟨by omega, by omega, by omega, by omega, by omega⟩, fun r hr => by have := h6 r hr; omega, fun v hv => ?_⟩
  obtain ⟨a, b⟩ := h7 v hv
  exact ⟨by omega, fun y hy => by have := b y hy; unfold BgG at this ⊢; omega⟩
set_option maxHeartbeats 16000000 in
set_option maxRecDepth 100000 in
theorem ok_made (g : GW) : OkV Try.prog n_hydrantlaw18_made [] g (.bool true) :=
  Ok.of_fn hm noT 0 t_hydrantlaw18_made (args := []) (by
    repeat ((conv => whnf); first | apply qza | apply qzb | apply qzc | apply qzd | apply qze | intro (_ : Nat) | intro (_ : Option Addr) (_ : Nat))
    refine .inr ((ok_plain18 _).mono fun v g1 hg1 hO => ?_)
    obtain ⟨cs, rfl, hs1⟩ := hO
    obtain ⟨_, _, _, _, _, _, rfl⟩ := rSnap_open hs1
    repeat ((conv => whnf); first | apply qza | apply qzb | apply qzc | apply qzd | apply qze | intro (_ : Nat) | intro (_ : Option Addr) (_ : Nat))
    conv => whnf
    refine ⟨1, rfl, by unfold maxLen; omega, fun g2 hg2 hn2 hp2 => ?_⟩
    conv => whnf
    refine .inr ((ok_New _ (rSnap_mono _ _ _ _ hg2 hs1) (rSl_of1 (R := rStr) hp2.rd [sInW, sWebW] .string rfl fun _ _ => rfl) (t := 3) (by decide) (by decide)).mono fun v g3 hg3 hN => ?_)
    obtain ⟨cs, rfl, hw3⟩ := new_ok hN w3_ok
    replace hw3 : rWo g3 cs w3 := hw3
    obtain ⟨oa, ca, ob, cb, oc, cc, od, cd, oe, ce, rfl⟩ := rWo_open hw3
    repeat ((conv => whnf); first | apply qza | apply qzb | apply qzc | apply qzd | apply qze | intro (_ : Nat) | intro (_ : Option Addr) (_ : Nat))
    refine .inr ((ok_plain18 _).mono fun v g4 hg4 hO => ?_)
    obtain ⟨cs, rfl, hs4⟩ := hO
    obtain ⟨_, _, _, _, _, _, rfl⟩ := rSnap_open hs4
    repeat ((conv => whnf); first | apply qza | apply qzb | apply qzc | apply qzd | apply qze | intro (_ : Nat) | intro (_ : Option Addr) (_ : Nat))
    conv => whnf
    refine ⟨1, rfl, by unfold maxLen; omega, fun g5 hg5 hn5 hp5 => ?_⟩
    conv => whnf
    refine .inr ((ok_New _ (rSnap_mono _ _ _ _ hg5 hs4) (rSl_of1 (R := rStr) hp5.rd [sInW, sInW] .string rfl fun _ _ => rfl) (t := 3) (by decide) (by decide)).mono fun v g6 hg6 hN => ?_)
    obtain rfl := new_bad hN bad_names
    repeat ((conv => whnf); first | apply qza | apply qzb | apply qzc | apply qzd | apply qze | intro (_ : Nat) | intro (_ : Option Addr) (_ : Nat))
    refine .inr ((ok_plain18 _).mono fun v g7 hg7 hO => ?_)
    obtain ⟨cs, rfl, hs7⟩ := hO
    obtain ⟨_, _, _, _, _, _, rfl⟩ := rSnap_open hs7
    repeat ((conv => whnf); first | apply qza | apply qzb | apply qzc | apply qzd | apply qze | intro (_ : Nat) | intro (_ : Option Addr) (_ : Nat))
    refine .inr ((ok_New _ hs7 (rStr_nil _) (t := 9) (by decide) (by decide)).mono fun v g8 hg8 hN => ?_)
    obtain rfl := new_bad hN bad_threads
    repeat ((conv => whnf); first | apply qza | apply qzb | apply qzc | apply qzd | apply qze | intro (_ : Nat) | intro (_ : Option Addr) (_ : Nat))
    refine .inr ((ok_New _ (s := ⟨[], [], []⟩) ⟨_, _, _, rfl, rStr_nil _, ⟨none, 0, rfl, Nat.le_refl _, Nat.zero_le _, fun _ => ⟨rfl, rfl⟩, fun i x hx => by simp at hx⟩, ⟨none, 0, rfl, Nat.le_refl _, Nat.zero_le _, fun _ => ⟨rfl, rfl⟩, fun i x hx => by simp at hx⟩⟩ (rStr_nil _) (t := 1) (by decide) (by decide)).mono fun v g9 hg9 hN => ?_)
    obtain rfl := new_bad hN bad_snap
    repeat ((conv => whnf); first | apply qza | apply qzb | apply qzc | apply qzd | apply qze | intro (_ : Nat) | intro (_ : Option Addr) (_ : Nat))
    refine .inr ((ok_plain18 _).mono fun v g10 hg10 hO => ?_)
    obtain ⟨cs, rfl, hs10⟩ := hO
    obtain ⟨_, _, _, _, _, _, rfl⟩ := rSnap_open hs10
    repeat ((conv => whnf); first | apply qza | apply qzb | apply qzc | apply qzd | apply qze | intro (_ : Nat) | intro (_ : Option Addr) (_ : Nat))
    refine .inr ((ok_Cells _ hs10 (by decide)).mono fun v g11 hg11 hC => ?_)
    rcases hC with ⟨hz, ka, kb, kd, oV, nV, cV, rfl, hV⟩ | ⟨hz, rfl⟩
    rotate_left
    · exact absurd w3_ok.1 hz
    have hVo := hV
    obtain ⟨_, _, _, _, he, hsV, _⟩ := hVo
    simp only [List.cons.injEq, and_true] at he
    obtain ⟨rfl, rfl, rfl, _⟩ := he
    obtain ⟨_, _, _, _, _, _, he2⟩ := rSnap_open hsV
    cases he2
    repeat ((conv => whnf); first | apply qza | apply qzb | apply qzc | apply qzd | apply qze | intro (_ : Nat) | intro (_ : Option Addr) (_ : Nat))
    have l311 : g3 ≤ g11 := GW.trans hg4 (GW.trans hg5 (GW.trans hg6 (GW.trans hg7 (GW.trans hg8 (GW.trans hg9 (GW.trans hg10 hg11))))))
    have hw11 := rWo_mono _ _ _ _ l311 hw3
    obtain ⟨_, _, _, _, _, hq, _, _, hVs, _, _, _⟩ := id hw11
    simp only [List.cons.injEq, and_true] at hq
    obtain ⟨_, _, _, _, rfl, _⟩ := hq
    obtain ⟨_, _, hq, kv1, kv2, kv0, hVr⟩ := hVs
    cases hq
    obtain ⟨aV, rfl, ecV, hecV, ⟨xa, xb, xd, xn, rfl, hsn3, hG⟩, hcV⟩ := hVr 0 v3 rfl
    obtain ⟨og, cg, rfl, q1, q2, q0, hGr⟩ := id hG
    obtain ⟨aG, rfl, ecG, hecG, ⟨yn, rfl, _, hE⟩, hcG⟩ := hGr 0 gr3 rfl
    obtain ⟨oE, cE, rfl, r1, r2, r0, hEr⟩ := id hE
    obtain ⟨aE, rfl, ecE, hecE, ⟨⟨zn, rfl, _⟩, _⟩, hcE⟩ := hEr 1 (freshE 2) rfl
    conv => whnf
    refine ⟨fun hx => absurd hx (by decide), fun _ => ?_⟩
    repeat ((conv => whnf); first | apply qza | apply qzb | apply qzc | apply qzd | apply qze | intro (_ : Nat) | intro (_ : Option Addr) (_ : Nat))
    conv => whnf
    refine ⟨_, rfl, ⟨by decide, by decide⟩, ?_⟩
    repeat ((conv => whnf); first | apply qza | apply qzb | apply qzc | apply qzd | apply qze | intro (_ : Nat) | intro (_ : Option Addr) (_ : Nat))
    conv => whnf
    refine ⟨_, hcV 3 _ rfl, ?_⟩
    repeat ((conv => whnf); first | apply qza | apply qzb | apply qzc | apply qzd | apply qze | intro (_ : Nat) | intro (_ : Option Addr) (_ : Nat))
    conv => whnf
    refine ⟨fun hx => absurd hx (by decide), fun _ => ?_⟩
    repeat ((conv => whnf); first | apply qza | apply qzb | apply qzc | apply qzd | apply qze | intro (_ : Nat) | intro (_ : Option Addr) (_ : Nat))
    conv => whnf
    refine ⟨_, rfl, ⟨by decide, by decide⟩, ?_⟩
    repeat ((conv => whnf); first | apply qza | apply qzb | apply qzc | apply qzd | apply qze | intro (_ : Nat) | intro (_ : Option Addr) (_ : Nat))
    conv => whnf
    refine ⟨_, hcV 3 _ rfl, ?_⟩
    repeat ((conv => whnf); first | apply qza | apply qzb | apply qzc | apply qzd | apply qze | intro (_ : Nat) | intro (_ : Option Addr) (_ : Nat))
    conv => whnf
    refine ⟨_, rfl, ⟨by decide, by decide⟩, ?_⟩
    repeat ((conv => whnf); first | apply qza | apply qzb | apply qzc | apply qzd | apply qze | intro (_ : Nat) | intro (_ : Option Addr) (_ : Nat))
    conv => whnf
    refine ⟨_, hcG 1 _ rfl, ?_⟩
    repeat ((conv => whnf); first | apply qza | apply qzb | apply qzc | apply qzd | apply qze | intro (_ : Nat) | intro (_ : Option Addr) (_ : Nat))
    conv => whnf
    refine ⟨fun hx => absurd hx (by decide), fun _ => ?_⟩
    repeat ((conv => whnf); first | apply qza | apply qzb | apply qzc | apply qzd | apply qze | intro (_ : Nat) | intro (_ : Option Addr) (_ : Nat))
    conv => whnf
    refine ⟨fun hx => absurd hx (by decide), fun _ => ?_⟩
    repeat ((conv => whnf); first | apply qza | apply qzb | apply qzc | apply qzd | apply qze | intro (_ : Nat) | intro (_ : Option Addr) (_ : Nat))
    refine .inr ((ok_Clone _ hw11 (BgW_up w3_bg)).mono fun v g12 hg12 hO => ?_)
    obtain ⟨cs, TT, rfl, hT⟩ := hO
    have hF := oWo_rd hT
    obtain ⟨pa, na, pb, nb, pc, nc, pd, nd, pe, ne, rfl⟩ := rWo_open hF
    obtain ⟨b1, c1, b2, c2, b3, c3, ua, ub, ud, hv1, rc1, rc2, b4, j4, bc4, ty4, ⟨hA, n1, n2, n3, n4⟩, _, hk4⟩ := oWo_head hT (i := 0) (j := 0) (k := 1) (v := v3) (x := gr3) (en := freshE 2) rfl rfl rfl (h' := 0) (by decide)
    cases hv1
    repeat ((conv => whnf); first | apply qza | apply qzb | apply qzc | apply qzd | apply qze | intro (_ : Nat) | intro (_ : Option Addr) (_ : Nat))
    conv => whnf
    refine ⟨fun hx => absurd hx (by decide), fun _ => ?_⟩
    repeat ((conv => whnf); first | apply qza | apply qzb | apply qzc | apply qzd | apply qze | intro (_ : Nat) | intro (_ : Option Addr) (_ : Nat))
    conv => whnf
    refine ⟨_, rfl, ⟨by decide, by decide⟩, ?_⟩
    repeat ((conv => whnf); first | apply qza | apply qzb | apply qzc | apply qzd | apply qze | intro (_ : Nat) | intro (_ : Option Addr) (_ : Nat))
    conv => whnf
    refine ⟨_, rc1 3 _ rfl, ?_⟩
    repeat ((conv => whnf); first | apply qza | apply qzb | apply qzc | apply qzd | apply qze | intro (_ : Nat) | intro (_ : Option Addr) (_ : Nat))
    conv => whnf
    refine ⟨fun hx => absurd hx (by decide), fun _ => ?_⟩
    repeat ((conv => whnf); first | apply qza | apply qzb | apply qzc | apply qzd | apply qze | intro (_ : Nat) | intro (_ : Option Addr) (_ : Nat))
    conv => whnf
    refine ⟨_, rfl, ⟨by decide, by decide⟩, ?_⟩
    repeat ((conv => whnf); first | apply qza | apply qzb | apply qzc | apply qzd | apply qze | intro (_ : Nat) | intro (_ : Option Addr) (_ : Nat))
    conv => whnf
    refine ⟨_, rc1 3 _ rfl, ?_⟩
    repeat ((conv => whnf); first | apply qza | apply qzb | apply qzc | apply qzd | apply qze | intro (_ : Nat) | intro (_ : Option Addr) (_ : Nat))
    conv => whnf
    refine ⟨_, rfl, ⟨by decide, by decide⟩, ?_⟩
    repeat ((conv => whnf); first | apply qza | apply qzb | apply qzc | apply qzd | apply qze | intro (_ : Nat) | intro (_ : Option Addr) (_ : Nat))
    conv => whnf
    refine ⟨_, rc2 1 _ rfl, ?_⟩
    repeat ((conv => whnf); first | apply qza | apply qzb | apply qzc | apply qzd | apply qze | intro (_ : Nat) | intro (_ : Option Addr) (_ : Nat))
    conv => whnf
    refine ⟨fun hx => absurd hx (by decide), fun _ => ?_⟩
    repeat ((conv => whnf); first | apply qza | apply qzb | apply qzc | apply qzd | apply qze | intro (_ : Nat) | intro (_ : Option Addr) (_ : Nat))
    conv => whnf
    refine ⟨_, rfl, ⟨by decide, by decide⟩, ?_⟩
    repeat ((conv => whnf); first | apply qza | apply qzb | apply qzc | apply qzd | apply qze | intro (_ : Nat) | intro (_ : Option Addr) (_ : Nat))
    conv => whnf
    refine ⟨_, rc1 3 _ rfl, ?_⟩
    repeat ((conv => whnf); first | apply qza | apply qzb | apply qzc | apply qzd | apply qze | intro (_ : Nat) | intro (_ : Option Addr) (_ : Nat))
    conv => whnf
    refine ⟨_, rfl, ⟨by decide, by decide⟩, ?_⟩
    repeat ((conv => whnf); first | apply qza | apply qzb | apply qzc | apply qzd | apply qze | intro (_ : Nat) | intro (_ : Option Addr) (_ : Nat))
    conv => whnf
    refine ⟨_, rc2 1 _ rfl, ?_⟩
    repeat ((conv => whnf); first | apply qza | apply qzb | apply qzc | apply qzd | apply qze | intro (_ : Nat) | intro (_ : Option Addr) (_ : Nat))
    conv => whnf
    refine ⟨_, rfl, ⟨by decide, by decide⟩, ?_⟩
    repeat ((conv => whnf); first | apply qza | apply qzb | apply qzc | apply qzd | apply qze | intro (_ : Nat) | intro (_ : Option Addr) (_ : Nat))
    conv => whnf
    refine ⟨b4, j4, bc4, ty4, ⟨by rw [← hA]; rfl, Nat.le_trans (GW.trans hg1 (GW.trans hg2 (GW.trans hg3 l311))).1 n1, n2, n3, n4⟩, ?_⟩
    repeat ((conv => whnf); first | apply qza | apply qzb | apply qzc | apply qzd | apply qze | intro (_ : Nat) | intro (_ : Option Addr) (_ : Nat))
    conv => whnf
    refine fun g13 u13 => ?_
    have hX : rWo g13 _ wX := oWo_rd (hk4 g13 u13)
    have hle : g11 ≤ g13 := u13.le hg12 (fun h => by have := g11.wf _ h; omega)
    repeat ((conv => whnf); first | apply qza | apply qzb | apply qzc | apply qzd | apply qze | intro (_ : Nat) | intro (_ : Option Addr) (_ : Nat))
    refine .inr ((ok_Held _ hX wX_bg).mono fun v g14 hg14 hh => ?_)
    rw [wX_held] at hh
    subst hh
    have l1114 := GW.trans hle hg14
    repeat ((conv => whnf); first | apply qza | apply qzb | apply qzc | apply qzd | apply qze | intro (_ : Nat) | intro (_ : Option Addr) (_ : Nat))
    conv => whnf
    refine ⟨fun _ => ?_, fun hx => absurd hx (by decide)⟩
    repeat ((conv => whnf); first | apply qza | apply qzb | apply qzc | apply qzd | apply qze | intro (_ : Nat) | intro (_ : Option Addr) (_ : Nat))
    conv => whnf
    refine ⟨fun _ => ?_, fun hx => absurd hx (by decide)⟩
    repeat ((conv => whnf); first | apply qza | apply qzb | apply qzc | apply qzd | apply qze | intro (_ : Nat) | intro (_ : Option Addr) (_ : Nat))
    conv => whnf
    refine ⟨fun _ => ?_, fun hx => absurd hx (by decide)⟩
    repeat ((conv => whnf); first | apply qza | apply qzb | apply qzc | apply qzd | apply qze | intro (_ : Nat) | intro (_ : Option Addr) (_ : Nat))
    conv => whnf
    refine ⟨fun _ => ?_, fun hx => absurd hx (by decide)⟩
    repeat ((conv => whnf); first | apply qza | apply qzb | apply qzc | apply qzd | apply qze | intro (_ : Nat) | intro (_ : Option Addr) (_ : Nat))
    conv => whnf
    refine ⟨fun _ => ?_, fun hx => absurd hx (by decide)⟩
    repeat ((conv => whnf); first | apply qza | apply qzb | apply qzc | apply qzd | apply qze | intro (_ : Nat) | intro (_ : Option Addr) (_ : Nat))
    conv => whnf
    refine ⟨_, rfl, ⟨by decide, by decide⟩, ?_⟩
    repeat ((conv => whnf); first | apply qza | apply qzb | apply qzc | apply qzd | apply qze | intro (_ : Nat) | intro (_ : Option Addr) (_ : Nat))
    conv => whnf
    refine ⟨_, ⟨rfl, hcV.mono l1114⟩, ?_⟩
    repeat ((conv => whnf); first | apply qza | apply qzb | apply qzc | apply qzd | apply qze | intro (_ : Nat) | intro (_ : Option Addr) (_ : Nat))
    conv => whnf
    refine .inl ⟨_, ok_sameVersion _ (rVe_mono _ _ _ _ l1114 hV) (rVe_mono _ _ _ _ l1114 ⟨_, _, _, _, rfl, hsn3, hG⟩), ?_⟩
    repeat ((conv => whnf); first | apply qza | apply qzb | apply qzc | apply qzd | apply qze | intro (_ : Nat) | intro (_ : Option Addr) (_ : Nat))
    conv => whnf
    refine ⟨fun _ => ?_, fun h => nomatch h⟩
    repeat ((conv => whnf); first | apply qza | apply qzb | apply qzc | apply qzd | apply qze | intro (_ : Nat) | intro (_ : Option Addr) (_ : Nat))
    conv => whnf
    refine ⟨fun _ => ?_, fun hx => absurd hx (by decide)⟩
    repeat ((conv => whnf); first | apply qza | apply qzb | apply qzc | apply qzd | apply qze | intro (_ : Nat) | intro (_ : Option Addr) (_ : Nat))
    conv => whnf
    refine ⟨fun _ => ?_, fun hx => absurd hx (by decide)⟩
    repeat ((conv => whnf); first | apply qza | apply qzb | apply qzc | apply qzd | apply qze | intro (_ : Nat) | intro (_ : Option Addr) (_ : Nat))
    conv => whnf
    refine ⟨_, rfl, ⟨by decide, by decide⟩, ?_⟩
    repeat ((conv => whnf); first | apply qza | apply qzb | apply qzc | apply qzd | apply qze | intro (_ : Nat) | intro (_ : Option Addr) (_ : Nat))
    conv => whnf
    refine ⟨_, (hcV 3 _ rfl).mono l1114, ?_⟩
    repeat ((conv => whnf); first | apply qza | apply qzb | apply qzc | apply qzd | apply qze | intro (_ : Nat) | intro (_ : Option Addr) (_ : Nat))
    conv => whnf
    refine ⟨_, rfl, ⟨by decide, by decide⟩, ?_⟩
    repeat ((conv => whnf); first | apply qza | apply qzb | apply qzc | apply qzd | apply qze | intro (_ : Nat) | intro (_ : Option Addr) (_ : Nat))
    conv => whnf
    refine ⟨_, (hcG 1 _ rfl).mono l1114, ?_⟩
    repeat ((conv => whnf); first | apply qza | apply qzb | apply qzc | apply qzd | apply qze | intro (_ : Nat) | intro (_ : Option Addr) (_ : Nat))
    conv => whnf
    refine ⟨_, rfl, ⟨by decide, by decide⟩, ?_⟩
    repeat ((conv => whnf); first | apply qza | apply qzb | apply qzc | apply qzd | apply qze | intro (_ : Nat) | intro (_ : Option Addr) (_ : Nat))
    conv => whnf
    refine ⟨_, (hcE 0 _ rfl).mono l1114, ?_⟩
    repeat ((conv => whnf); first | apply qza | apply qzb | apply qzc | apply qzd | apply qze | intro (_ : Nat) | intro (_ : Option Addr) (_ : Nat))
    conv => whnf
    refine ⟨fun _ => ?_, fun hx => absurd hx (by decide)⟩
    repeat ((conv => whnf); first | apply qza | apply qzb | apply qzc | apply qzd | apply qze | intro (_ : Nat) | intro (_ : Option Addr) (_ : Nat))
    conv => whnf
    refine ⟨fun _ => ?_, fun hx => absurd hx (by decide)⟩
    repeat ((conv => whnf); first | apply qza | apply qzb | apply qzc | apply qzd | apply qze | intro (_ : Nat) | intro (_ : Option Addr) (_ : Nat))
    refine .inr ((ok_Held _ (rWo_mono _ _ _ _ l1114 hw11) w3_bg).mono fun v g15 hg15 hh => ?_)
    rw [w3_held] at hh
    subst hh
    repeat ((conv => whnf); first | apply qza | apply qzb | apply qzc | apply qzd | apply qze | intro (_ : Nat) | intro (_ : Option Addr) (_ : Nat))
    conv => whnf
    refine ⟨fun _ => ?_, fun hx => absurd hx (by decide)⟩
    repeat ((conv => whnf); first | apply qza | apply qzb | apply qzc | apply qzd | apply qze | intro (_ : Nat) | intro (_ : Option Addr) (_ : Nat))
    conv => whnf
    refine .inl ⟨_, (ok_wIs _ (rWo_mono _ _ _ _ (GW.trans l1114 hg15) hw11) sn_w3).to (congrArg Value.bool w3_right), ?_⟩
    repeat ((conv => whnf); first | apply qza | apply qzb | apply qzc | apply qzd | apply qze | intro (_ : Nat) | intro (_ : Option Addr) (_ : Nat))
    conv => whnf
    refine ⟨fun _ => ?_, fun h => nomatch h⟩
    repeat ((conv => whnf); first | apply qza | apply qzb | apply qzc | apply qzd | apply qze | intro (_ : Nat) | intro (_ : Option Addr) (_ : Nat))
    conv => whnf
    refine .inl ⟨_, (ok_wIs _ (rWo_lock (rWo_mono _ _ _ _ (GW.trans hg14 hg15) hX) (x := 2) (by decide)) (show SnW { wX with lock := 2 } from sn_wX)).to (congrArg Value.bool wX_bad), ?_⟩
    repeat ((conv => whnf); first | apply qza | apply qzb | apply qzc | apply qzd | apply qze | intro (_ : Nat) | intro (_ : Option Addr) (_ : Nat))
    conv => whnf
    intro g2 hg
    rfl)
end Go.Proofs.Ytkkhdnddplkobaa


/- The law WorldSnaps. -/
namespace Go.Proofs.Ytkkhdnddplkobaa
open Go.Proofs.Ytkkhdnddplkobaa.Sx Go.RowKit
theorem Rcs_pre {g : GW} {a : Addr} {xs ys : List Value} (h : Rcs g a (xs ++ ys)) : Rcs g (a.add 0) xs := fun i u hu => by
  rw [show a.add 0 = a from by cases a; rfl]
  refine h i u ?_
  rw [List.getElem?_append_left (List.getElem?_eq_some_iff.1 hu).1]; exact hu
theorem right_ver {w : Wd} (h : wdB w = true) {i : Nat} {v : Version} (hv : w.versions[i]? = some v) : checkE (confS v.snap) = none ∧ v.groups.length = v.snap.clusters.length := by
  have h6 := (wdB_iff.1 h).2.2.2.2.1
  have := allI_iff.1 h6 i v hv
  unfold verB versionB at this
  simp only [Bool.and_eq_true, decide_eq_true_eq] at this
  exact ⟨eqB_iff.1 this.1.1.1, this.1.1.2⟩
set_option maxHeartbeats 8000000 in
set_option maxRecDepth 100000 in
theorem ok_WorldSnaps (g : GW) {cs : List Value} {w : Wd} (hw : rWo g cs w) : OkV Try.prog n_hydrantlaw18_WorldSnaps [.agg ⟨cs⟩] g (.bool true) := by
  obtain ⟨oa, ca, ob, cb, oc, cc, od, cd, oe, ce, rfl⟩ := rWo_open hw
  exact Ok.of_fn hm noT 0 t_hydrantlaw18_WorldSnaps (args := [.v (.agg ⟨[.int .i64 w.epoch, .int .i64 w.current, .int .i64 w.lock, .slice oa w.pins.length ca, .slice ob w.versions.length cb, .slice oc w.listens.length cc, .slice od w.counts.length cd, .slice oe w.limbo.length ce]⟩)]) (by
    repeat ((conv => whnf); first | apply qza | apply qzb | apply qzc | apply qzd | apply qze | intro (_ : Nat) | intro (_ : Option Addr) (_ : Nat))
    refine .inr ((ok_rBigW _ hw).mono fun v g1 hg1 hB => ?_)
    obtain ⟨b, rfl, hB⟩ := hB
    repeat ((conv => whnf); first | apply qza | apply qzb | apply qzc | apply qzd | apply qze | intro (_ : Nat) | intro (_ : Option Addr) (_ : Nat))
    conv => whnf
    refine ⟨fun z1 => ?_, fun z1 => ?_⟩
    · repeat ((conv => whnf); first | apply qza | apply qzb | apply qzc | apply qzd | apply qze | intro (_ : Nat) | intro (_ : Option Addr) (_ : Nat))
      conv => whnf
      refine .inl ⟨_, ok_made _, ?_⟩
      repeat ((conv => whnf); first | apply qza | apply qzb | apply qzc | apply qzd | apply qze | intro (_ : Nat) | intro (_ : Option Addr) (_ : Nat))
      conv => whnf
      intro g2 hg
      rfl
    obtain ⟨hb, hsn⟩ := hB z1
    have hb' := BgW.up (K' := 1000) hb (by decide)
    have hw1 := rWo_mono _ _ _ _ hg1 hw
    repeat ((conv => whnf); first | apply qza | apply qzb | apply qzc | apply qzd | apply qze | intro (_ : Nat) | intro (_ : Option Addr) (_ : Nat))
    conv => whnf
    refine .inl ⟨_, ok_wIs _ hw1 hsn, ?_⟩
    repeat ((conv => whnf); first | apply qza | apply qzb | apply qzc | apply qzd | apply qze | intro (_ : Nat) | intro (_ : Option Addr) (_ : Nat))
    conv => whnf
    refine ⟨fun z2 => ?_, fun z2 => ?_⟩
    · repeat ((conv => whnf); first | apply qza | apply qzb | apply qzc | apply qzd | apply qze | intro (_ : Nat) | intro (_ : Option Addr) (_ : Nat))
      conv => whnf
      refine .inl ⟨_, ok_made _, ?_⟩
      repeat ((conv => whnf); first | apply qza | apply qzb | apply qzc | apply qzd | apply qze | intro (_ : Nat) | intro (_ : Option Addr) (_ : Nat))
      conv => whnf
      intro g2 hg
      rfl
    have hr := nb0 z2
    obtain ⟨_, _, _, _, _, hq, _, _, hVs, _, _, _⟩ := id hw1
    simp only [List.cons.injEq, and_true] at hq
    obtain ⟨_, _, _, _, rfl, _⟩ := hq
    obtain ⟨_, _, hq, kv1, kv2, kv0, hVr⟩ := hVs
    cases hq
    repeat ((conv => whnf); first | apply qza | apply qzb | apply qzc | apply qzd | apply qze | intro (_ : Nat) | intro (_ : Option Addr) (_ : Nat))
    conv => whnf
    refine ⟨Nat × GW, fun (i, _) => [.v (.int .i64 i)], fun (_, g') => ⟨g', _, _, _⟩, fun (i, g') => i ≤ w.versions.length ∧ g1 ≤ g', fun (i, _) => w.versions.length - i, loop_here (0, g1) rfl ⟨Nat.zero_le _, GW.refl _⟩ rfl, ?_⟩
    rintro ⟨i, g2⟩ ⟨hi, hg2⟩
    repeat ((conv => whnf); first | apply qza | apply qzb | apply qzc | apply qzd | apply qze | intro (_ : Nat) | intro (_ : Option Addr) (_ : Nat))
    conv => whnf
    refine ⟨fun y1 => ?_, fun y1 => ?_⟩
    · have h' : i < w.versions.length := by have h9 : (i : Int) < w.versions.length := of_decide_eq_true y1; omega
      obtain ⟨v, hv⟩ := getL_of h'
      obtain ⟨hck, hgl⟩ := right_ver hr hv
      have hG := good_iff.1 hck
      have hsz : v.snap.rules.length ≤ 1000000 := (hsn v (List.mem_of_getElem? hv)).1
      obtain ⟨ad, rfl, ec, hec, ⟨va, vb, vd, vn, rfl, hS, hGr⟩, hc⟩ := hVr i v hv
      obtain ⟨og, cg, rfl, p1, p2, p0, hG1⟩ := id hGr
      obtain ⟨_, _, _, he2, ⟨sa, ta, rfl, hsa⟩, ⟨sb, tb, rfl, hsb⟩, ⟨sd, td, rfl, hsd⟩⟩ := id hS
      cases he2
      have hS2 := rSnap_mono _ _ _ _ hg2 hS
      repeat ((conv => whnf); first | apply qza | apply qzb | apply qzc | apply qzd | apply qze | intro (_ : Nat) | intro (_ : Option Addr) (_ : Nat))
      conv => whnf
      refine ⟨_, rfl, ⟨by show (0 : Int) ≤ i; omega, by show (i : Int) < w.versions.length; omega⟩, ?_⟩
      repeat ((conv => whnf); first | apply qza | apply qzb | apply qzc | apply qzd | apply qze | intro (_ : Nat) | intro (_ : Option Addr) (_ : Nat))
      conv => whnf
      refine ⟨[.slice sa v.snap.listens.length ta, .slice sb v.snap.rules.length tb, .slice sd v.snap.clusters.length td], ⟨rfl, Rcs_pre (ys := [.slice og v.groups.length cg, .bool v.freed]) (hc.mono hg2)⟩, ?_⟩
      repeat ((conv => whnf); first | apply qza | apply qzb | apply qzc | apply qzd | apply qze | intro (_ : Nat) | intro (_ : Option Addr) (_ : Nat))
      refine .inr ((ok_Cells _ hS2 hsz).mono fun u g3 hg3 hC => ?_)
      rcases hC with ⟨_, ka, kb, kd, oV, nV, cV, rfl, hV⟩ | ⟨hz, rfl⟩
      rotate_left
      · exact absurd hck hz
      have hVo := hV
      obtain ⟨_, _, _, _, he, hsV, ⟨oz, cz, hz, _⟩⟩ := hVo
      simp only [List.cons.injEq, and_true] at he
      obtain ⟨rfl, rfl, rfl, rfl, _⟩ := he
      obtain ⟨_, _, _, _, _, _, he2⟩ := rSnap_open hsV
      cases he2
      cases hz
      have hS3 := rSnap_mono _ _ _ _ hg3 hS2
      repeat ((conv => whnf); first | apply qza | apply qzb | apply qzc | apply qzd | apply qze | intro (_ : Nat) | intro (_ : Option Addr) (_ : Nat))
      refine .inr ((ok_Config _ hS3 hsz).mono fun u g4 hg4 hC => ?_)
      obtain ⟨oR, nR, cR, rfl, hR⟩ := hC
      have hS4 := rSnap_mono _ _ _ _ hg4 hS3
      have hcf : rConfig g4 [.slice sa v.snap.listens.length ta, .slice oR nR cR, .slice sd v.snap.clusters.length td] (confS v.snap) := by
        obtain ⟨_, _, _, he3, x1, _, x3⟩ := hS4
        simp only [List.cons.injEq, and_true] at he3
        obtain ⟨rfl, rfl, rfl⟩ := he3
        exact ⟨_, _, _, rfl, x1, hR, x3⟩
      repeat ((conv => whnf); first | apply qza | apply qzb | apply qzc | apply qzd | apply qze | intro (_ : Nat) | intro (_ : Option Addr) (_ : Nat))
      refine .inr ((ok_Build _ hcf).mono fun u g5 hg5 hC => ?_)
      rcases hC with ⟨_, oB, nB, cB, rfl, hRl, _⟩ | ⟨e1, e2, hz, _⟩
      rotate_left
      · rw [hck] at hz; cases hz
      rw [built_conf hG] at hRl
      have hS5 := rSnap_mono _ _ _ _ hg5 hS4
      have hbS : rSnap g5 [.slice sa v.snap.listens.length ta, .slice oB nB cB, .slice sd v.snap.clusters.length td] v.snap := by
        obtain ⟨_, _, _, he3, x1, _, x3⟩ := id hS5
        simp only [List.cons.injEq, and_true] at he3
        obtain ⟨rfl, rfl, rfl⟩ := he3
        exact ⟨_, _, _, rfl, x1, hRl, x3⟩
      repeat ((conv => whnf); first | apply qza | apply qzb | apply qzc | apply qzd | apply qze | intro (_ : Nat) | intro (_ : Option Addr) (_ : Nat))
      conv => whnf
      refine ⟨fun hx => absurd hx (by decide), fun _ => ?_⟩
      repeat ((conv => whnf); first | apply qza | apply qzb | apply qzc | apply qzd | apply qze | intro (_ : Nat) | intro (_ : Option Addr) (_ : Nat))
      conv => whnf
      refine ⟨fun hx => absurd hx (by decide), fun _ => ?_⟩
      repeat ((conv => whnf); first | apply qza | apply qzb | apply qzc | apply qzd | apply qze | intro (_ : Nat) | intro (_ : Option Addr) (_ : Nat))
      conv => whnf
      refine .inl ⟨_, (ok_Same _ hbS hS5).to (congrArg Value.bool (eqB_t rfl)), ?_⟩
      repeat ((conv => whnf); first | apply qza | apply qzb | apply qzc | apply qzd | apply qze | intro (_ : Nat) | intro (_ : Option Addr) (_ : Nat))
      conv => whnf
      refine ⟨fun h => (nomatch h), fun _ => ?_⟩
      repeat ((conv => whnf); first | apply qza | apply qzb | apply qzc | apply qzd | apply qze | intro (_ : Nat) | intro (_ : Option Addr) (_ : Nat))
      conv => whnf
      refine ⟨_, rfl, ⟨by show (0 : Int) ≤ i; omega, by show (i : Int) < w.versions.length; omega⟩, ?_⟩
      repeat ((conv => whnf); first | apply qza | apply qzb | apply qzc | apply qzd | apply qze | intro (_ : Nat) | intro (_ : Option Addr) (_ : Nat))
      conv => whnf
      refine ⟨_, (hc 3 _ rfl).mono (GW.trans hg2 (GW.trans hg3 (GW.trans hg4 hg5))), ?_⟩
      repeat ((conv => whnf); first | apply qza | apply qzb | apply qzc | apply qzd | apply qze | intro (_ : Nat) | intro (_ : Option Addr) (_ : Nat))
      conv => whnf
      refine ⟨fun hx => absurd hx (by rw [hgl]; simp [cellsV]), fun _ => ?_⟩
      repeat ((conv => whnf); first | apply qza | apply qzb | apply qzc | apply qzd | apply qze | intro (_ : Nat) | intro (_ : Option Addr) (_ : Nat))
      conv => whnf
      refine fun fr u hu => ⟨(i + 1, g5), congrArg (fun z => [Value.int .i64 z]) (show ((i + 1 : Nat) : Int) = IntKind.i64.wrap ((i : Int) + 1) by rw [wr (x := (i : Int) + 1) (by unfold InR; unfold maxLen at kv2; omega)]; omega), ⟨h', GW.trans hg2 (GW.trans hg3 (GW.trans hg4 hg5))⟩, by show w.versions.length - (i + 1) < w.versions.length - i; omega, hu.fit (by simp [fitL, Res.eqv, concL, conc])⟩
    · repeat ((conv => whnf); first | apply qza | apply qzb | apply qzc | apply qzd | apply qze | intro (_ : Nat) | intro (_ : Option Addr) (_ : Nat))
      conv => whnf
      refine .inl ⟨_, ok_made _, ?_⟩
      repeat ((conv => whnf); first | apply qza | apply qzb | apply qzc | apply qzd | apply qze | intro (_ : Nat) | intro (_ : Option Addr) (_ : Nat))
      conv => whnf
      refine ⟨fun _ => ?_, fun h => nomatch h⟩
      repeat ((conv => whnf); first | apply qza | apply qzb | apply qzc | apply qzd | apply qze | intro (_ : Nat) | intro (_ : Option Addr) (_ : Nat))
      refine .inr ((ok_Held _ (rWo_mono _ _ _ _ hg2 hw1) hb').mono fun v g3 hg3 hh => ?_)
      subst hh
      repeat ((conv => whnf); first | apply qza | apply qzb | apply qzc | apply qzd | apply qze | intro (_ : Nat) | intro (_ : Option Addr) (_ : Nat))
      conv => whnf
      intro g2 hg
      have := (heldN_bd hb').1
      simp [this])
end Go.Proofs.Ytkkhdnddplkobaa


/- What came in of this seat's types is plain data. -/
namespace Go.Proofs.Ytkkhdnddplkobaa
open Go.Proofs.Ytkkhdnddplkobaa.Sx
section
variable {H : Type} {enc : TypeId × Value → H} {W : World}
theorem op_api_Rule : Rds enc Try.prog W ty_api_Rule rRule := rd_rule (tS := ty_string) (tI := ty_int) (by kernel_rfl) (by kernel_rfl) (by kernel_rfl) (by kernel_rfl)
theorem op_api_Cluster : Rds enc Try.prog W ty_api_Cluster rCluster := rd_cluster (tS := ty_string) (tI := ty_int) (tL := ty_sl_bool) (tB := ty_bool) (by kernel_rfl) (by kernel_rfl) (by kernel_rfl) (by kernel_rfl) (by kernel_rfl) (by kernel_rfl) (by kernel_rfl)
end
end Go.Proofs.Ytkkhdnddplkobaa


/- What came in of a snapshot is plain data. -/
namespace Go.Proofs.Ytkkhdnddplkobaa
open Go.Proofs.Ytkkhdnddplkobaa.Sx
section
variable {H : Type} {enc : TypeId × Value → H} {W : World}
theorem op_api_Snap : Rds enc Try.prog W ty_api_Snap rSnap := by
  intro fuel cs x h
  obtain ⟨a, b, d, rfl, ⟨l0, h0⟩, ⟨l1, h1⟩, l2, h2⟩ := rd_three (t0 := ty_sl_string) (t1 := ty_sl_api_Rule) (t2 := ty_sl_api_Cluster) (e0 := ty_string) (e1 := ty_api_Rule) (e2 := ty_api_Cluster) (z0 := 1) (z1 := 4) (z2 := 4)
    (by kernel_rfl) (by kernel_rfl) (by kernel_rfl) (by kernel_rfl) (by kernel_rfl) (by kernel_rfl) (by kernel_rfl) (by kernel_rfl) (by omega) (by omega) (by omega) (rd_str (by kernel_rfl)) op_api_Rule op_api_Cluster h
  exact ⟨⟨l0, l1, l2⟩, a, b, d, rfl, h0, h1, h2⟩
end
end Go.Proofs.Ytkkhdnddplkobaa


/- What came in of worlds and machines is plain data. -/
namespace Go.Proofs.Ytkkhdnddplkobaa
open Go.Proofs.Ytkkhdnddplkobaa.Sx
section
variable {H : Type} {enc : TypeId × Value → H} {W : World}
theorem op_api_Listen : Rds enc Try.prog W ty_api_Listen rListen := by
  intro fuel cs x h
  obtain ⟨hl, hg⟩ := fld_at (l := [(0, 1, ty_string), (1, 1, ty_bool), (2, 1, ty_int), (3, 1, ty_bool)]) (by kernel_rfl) h
  rw [show Try.prog.cellsOf ty_api_Listen = 4 by kernel_rfl] at hl
  match cs, hl with
  | [a, b, c, d], _ =>
    obtain ⟨s0, e0⟩ := (rd_str (by kernel_rfl)).fld (hg 0 _ _ _ rfl)
    obtain ⟨s1, e1⟩ := (rd_bool (by kernel_rfl)).fld (hg 1 _ _ _ rfl)
    obtain ⟨s2, e2, w2⟩ := (rd_int (by kernel_rfl)).fld (hg 2 _ _ _ rfl)
    obtain ⟨s3, e3⟩ := (rd_bool (by kernel_rfl)).fld (hg 3 _ _ _ rfl)
    cases e0; cases e1; cases e2; cases e3
    exact ⟨⟨s0, s1, s2, s3⟩, rfl, w2⟩
theorem op_api_Retired : Rds enc Try.prog W ty_api_Retired rRetired := by
  intro fuel cs x h
  obtain ⟨hl, hg⟩ := fld_at (l := [(0, 1, ty_int), (1, 1, ty_int), (2, 1, ty_bool)]) (by kernel_rfl) h
  rw [show Try.prog.cellsOf ty_api_Retired = 3 by kernel_rfl] at hl
  match cs, hl with
  | [a, b, c], _ =>
    obtain ⟨s0, e0, w0⟩ := (rd_int (by kernel_rfl)).fld (hg 0 _ _ _ rfl)
    obtain ⟨s1, e1, w1⟩ := (rd_int (by kernel_rfl)).fld (hg 1 _ _ _ rfl)
    obtain ⟨s2, e2⟩ := (rd_bool (by kernel_rfl)).fld (hg 2 _ _ _ rfl)
    cases e0; cases e1; cases e2
    exact ⟨⟨s0, s1, s2⟩, rfl, w0, w1⟩
theorem op_api_End : RdsW enc Try.prog W ty_api_End rEn := by
  intro fuel cs x h hs
  obtain ⟨hl, hg⟩ := fldW_at (l := [(0, 1, ty_uint64), (1, 1, ty_sl_int), (2, 1, ty_int)]) (by kernel_rfl) h hs
  rw [show Try.prog.cellsOf ty_api_End = 3 by kernel_rfl] at hl
  match cs, hl with
  | [a, b, c], _ =>
    obtain ⟨s0, e0, w0⟩ := (rd_u64 (by kernel_rfl)).fld (tr1 (hg 0 _ _ _ rfl))
    obtain ⟨s1, v, e1, h1, hb⟩ := (rw_slice (t := ty_sl_int) (e := ty_int) (sz := 1) (by kernel_rfl) (by kernel_rfl) (rd_int (by kernel_rfl)).w).fld (hg 1 _ _ _ rfl)
    obtain ⟨s2, e2, w2⟩ := (rd_int (by kernel_rfl)).fld (tr1 (hg 2 _ _ _ rfl))
    cases e0; cases e1; cases e2
    refine ⟨⟨s0, s1, s2⟩, ⟨_, rfl, w0, w2, h1⟩, ?_⟩
    rw [show Try.prog.bytesOf ty_int = 8 by kernel_rfl] at hb
    unfold reachBytes at hb
    show s1.length ≤ 17592186044416
    omega
theorem op_api_Group : RdsW enc Try.prog W ty_api_Group rGr := by
  intro fuel cs x h hs
  obtain ⟨hl, hg⟩ := fldW_at (l := [(0, 1, ty_uint64), (1, 1, ty_sl_api_End)]) (by kernel_rfl) h hs
  rw [show Try.prog.cellsOf ty_api_Group = 2 by kernel_rfl] at hl
  match cs, hl with
  | [a, b], _ =>
    obtain ⟨s0, e0, w0⟩ := (rd_u64 (by kernel_rfl)).fld (tr1 (hg 0 _ _ _ rfl))
    obtain ⟨s1, v, e1, h1⟩ := (rw_sl (t := ty_sl_api_End) (e := ty_api_End) (sz := 3) (by kernel_rfl) (by kernel_rfl) op_api_End).fld (hg 1 _ _ _ rfl)
    cases e0; cases e1
    exact ⟨⟨s0, s1⟩, _, rfl, w0, h1⟩
theorem op_api_Version : RdsW enc Try.prog W ty_api_Version rVe := by
  intro fuel cs x h hs
  obtain ⟨hl, hg⟩ := fldW_at (l := [(0, 3, ty_api_Snap), (3, 1, ty_sl_api_Group), (4, 1, ty_bool)]) (by kernel_rfl) h hs
  rw [show Try.prog.cellsOf ty_api_Version = 5 by kernel_rfl] at hl
  match cs, hl with
  | [a, b, c, d, e], _ =>
    obtain ⟨s0, e0⟩ := (op_api_Snap (enc := enc)).fld (tr1 (hg 0 _ _ _ rfl))
    obtain ⟨s1, v, e1, h1⟩ := (rw_sl (t := ty_sl_api_Group) (e := ty_api_Group) (sz := 2) (by kernel_rfl) (by kernel_rfl) op_api_Group).fld (hg 1 _ _ _ rfl)
    obtain ⟨s2, e2⟩ := (rd_bool (by kernel_rfl)).fld (tr1 (hg 2 _ _ _ rfl))
    cases e1; cases e2
    exact ⟨⟨s0, s1, s2⟩, _, _, _, _, rfl, e0, h1⟩
theorem op_row : Rds enc Try.prog W ty_sl_uint64 rRow := by
  intro fuel cs x h
  obtain ⟨l, v, rfl, h1⟩ := (rd_slice (t := ty_sl_uint64) (e := ty_uint64) (sz := 1) (by kernel_rfl) (by kernel_rfl) (by omega) (rd_u64 (by kernel_rfl))) fuel cs x h
  exact ⟨l, _, rfl, h1⟩
theorem op_api_World : RdsW enc Try.prog W ty_api_World rWo := by
  intro fuel cs x h hs
  obtain ⟨hl, hg⟩ := fldW_at (l := [(0, 1, ty_int), (1, 1, ty_int), (2, 1, ty_int), (3, 1, ty_sl_int), (4, 1, ty_sl_api_Version), (5, 1, ty_sl_api_Listen), (6, 1, ty_slsl_uint64), (7, 1, ty_sl_api_Retired)]) (by kernel_rfl) h hs
  rw [show Try.prog.cellsOf ty_api_World = 8 by kernel_rfl] at hl
  match cs, hl with
  | [c0, c1, c2, c3, c4, c5, c6, c7], _ =>
    obtain ⟨s0, e0, w0⟩ := (rd_int (by kernel_rfl)).fld (tr1 (hg 0 _ _ _ rfl))
    obtain ⟨s1, e1, w1⟩ := (rd_int (by kernel_rfl)).fld (tr1 (hg 1 _ _ _ rfl))
    obtain ⟨s2, e2, w2⟩ := (rd_int (by kernel_rfl)).fld (tr1 (hg 2 _ _ _ rfl))
    obtain ⟨s3, v3, e3, h3⟩ := (rd_slice (t := ty_sl_int) (e := ty_int) (sz := 1) (by kernel_rfl) (by kernel_rfl) (by omega) (rd_int (by kernel_rfl))).fld (tr1 (hg 3 _ _ _ rfl))
    obtain ⟨s4, v4, e4, h4⟩ := (rw_sl (t := ty_sl_api_Version) (e := ty_api_Version) (sz := 5) (by kernel_rfl) (by kernel_rfl) op_api_Version).fld (hg 4 _ _ _ rfl)
    obtain ⟨s5, v5, e5, h5⟩ := (rd_slice (t := ty_sl_api_Listen) (e := ty_api_Listen) (sz := 4) (by kernel_rfl) (by kernel_rfl) (by omega) op_api_Listen).fld (tr1 (hg 5 _ _ _ rfl))
    obtain ⟨s6, v6, e6, h6⟩ := (rd_slice (t := ty_slsl_uint64) (e := ty_sl_uint64) (sz := 1) (by kernel_rfl) (by kernel_rfl) (by omega) op_row).fld (tr1 (hg 6 _ _ _ rfl))
    obtain ⟨s7, v7, e7, h7⟩ := (rd_slice (t := ty_sl_api_Retired) (e := ty_api_Retired) (sz := 3) (by kernel_rfl) (by kernel_rfl) (by omega) op_api_Retired).fld (tr1 (hg 7 _ _ _ rfl))
    cases e0; cases e1; cases e2; cases e3; cases e4; cases e5; cases e6; cases e7
    exact ⟨⟨s0, s1, s2, s3, s4, s5, s6, s7⟩, _, _, _, _, _, rfl, ⟨w0, w1, w2⟩, h3, h4, h5, h6, h7⟩
end
end Go.Proofs.Ytkkhdnddplkobaa

