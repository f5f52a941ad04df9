/- Law 18's example. -/
import Derived.Test.YtkkhdnddplkobaaLW9w
import Derived.Test.YtkkhdnddplkobaaLW9k
import Derived.Test.YtkkhdnddplkobaaLW9n
import Derived.Test.YtkkhdnddplkobaaPl
import Derived.Test.YtkkhdnddplkobaaLS7b
import Derived.Test.YtkkhdnddplkobaaF
namespace Go.Proofs.Ytkkhdnddplkobaa
open Go.Proofs.Ytkkhdnddplkobaa.Sx Go.RowKit
theorem sn3 {w : Wd} (h : ∀ v ∈ w.versions, v.snap = snapP 2 [true, false]) : SnW w := by
  intro v hv
  rw [h v hv]
  refine ⟨by decide, fun r hr => ?_⟩
  have : r = ⟨0, ⟨#[42]⟩, ⟨#[47]⟩, 0⟩ := by simpa [snapP] using hr
  subst this
  decide
theorem sn_w3 : SnW w3 := sn3 fun v hv => by
  have : v = v3 := by simpa [w3, newW, v3] using hv
  subst this; rfl
theorem sn_wX : SnW wX := sn3 fun v hv => by
  have : v = { v3 with groups := v3.groups.set 0 { gr3 with ends := gr3.ends.set 1 { freshE 2 with head := 0 } } } := by simpa [wX, w3, newW] using hv
  subst this; rfl
theorem ok_plain18 (g : GW) : Ok Try.prog n_hydrantlaw18_plain [] g fun v g' => ∃ cs, v = .agg ⟨cs⟩ ∧ rSnap g' cs (snapP 2 [true, false]) :=
  Ok.of_fn hm noT 0 t_hydrantlaw18_plain (args := []) (by
    repeat ((conv => whnf); first | apply qza | apply qzb | apply qzc | apply qzd | apply qze | intro (_ : Nat) | intro (_ : Option Addr) (_ : Nat))
    conv => whnf
    refine ⟨1, rfl, by unfold maxLen; omega, fun g1 hg1 hn1 hp1 => ?_⟩
    repeat ((conv => whnf); first | apply qza | apply qzb | apply qzc | apply qzd | apply qze | intro (_ : Nat) | intro (_ : Option Addr) (_ : Nat))
    conv => whnf
    refine ⟨4, rfl, by unfold maxLen; omega, fun g2 hg2 hn2 hp2 => ?_⟩
    repeat ((conv => whnf); first | apply qza | apply qzb | apply qzc | apply qzd | apply qze | intro (_ : Nat) | intro (_ : Option Addr) (_ : Nat))
    conv => whnf
    refine ⟨1, rfl, by unfold maxLen; omega, fun g3 hg3 hn3 hp3 => ?_⟩
    repeat ((conv => whnf); first | apply qza | apply qzb | apply qzc | apply qzd | apply qze | intro (_ : Nat) | intro (_ : Option Addr) (_ : Nat))
    conv => whnf
    refine ⟨4, rfl, by unfold maxLen; omega, fun g4 hg4 hn4 hp4 => ?_⟩
    repeat ((conv => whnf); first | apply qza | apply qzb | apply qzc | apply qzd | apply qze | intro (_ : Nat) | intro (_ : Option Addr) (_ : Nat))
    conv => whnf
    intro g2 hg
    have hs := snapP_rd (n := 2) (h := [true, false]) (hp1.mono (GW.trans hg2 (GW.trans hg3 hg4))) (hp2.mono (GW.trans hg3 hg4)) hp4 (hp3.mono hg4) (by decide)
    exact ⟨_, rfl, rSnap_mono _ _ _ _ hg hs⟩)
theorem rSnap_open {g : GW} {cs : List Value} {s : Snap} (h : rSnap g cs s) : ∃ oa ca ob cb oc cc, cs = [.slice oa s.listens.length ca, .slice ob s.rules.length cb, .slice oc s.clusters.length cc] := by
  obtain ⟨a, b, d, rfl, ⟨oa, ca, rfl, _⟩, ⟨ob, cb, rfl, _⟩, ⟨od, cd, rfl, _⟩⟩ := h
  exact ⟨_, _, _, _, _, _, rfl⟩
theorem rStr_nil (g : GW) : rSl 1 rStr g (.slice none 0 0) ([] : List BA) := ⟨none, 0, rfl, Nat.le_refl _, Nat.zero_le _, fun _ => ⟨rfl, rfl⟩, fun i x hx => by simp at hx⟩
theorem new_ok {s : Snap} {l : List BA} {t : Int} {v : Value} {g : GW} (h : NewP s l t v g) (k : NewOk s l t) : ∃ cs, v = .tuple #[.agg ⟨cs⟩, .int .i64 0] ∧ rWo g cs (newW s l t.toNat) := by
  rcases h with ⟨_, h⟩ | ⟨h, _⟩
  · exact h
  · exact absurd k h
theorem new_bad {s : Snap} {l : List BA} {t : Int} {v : Value} {g : GW} (h : NewP s l t v g) (k : ¬ NewOk s l t) : v = .tuple #[.agg ⟨zWs⟩, .int .i64 1] := by
  rcases h with ⟨h, _⟩ | ⟨_, h⟩
  · exact absurd h k
  · exact h
theorem BgW_up {w : Wd} (h : BgW 1000 w) : BgW 1000000 w := by
  obtain ⟨⟨h1, h2, h3, h4, h5⟩, h6, h7⟩ := h
  refine ⟨⟨by omega, by omega, by omega, by omega, by omega⟩, fun r hr => by have := h6 r hr; omega, fun v hv => ?_⟩
  obtain ⟨a, b⟩ := h7 v hv
  exact ⟨by omega, fun y hy => by have := b y hy; unfold BgG at this ⊢; omega⟩
set_option maxHeartbeats 16000000 in
set_option maxRecDepth 100000 in
theorem ok_made (g : GW) : OkV Try.prog n_hydrantlaw18_made [] g (.bool true) :=
  Ok.of_fn hm noT 0 t_hydrantlaw18_made (args := []) (by
    repeat ((conv => whnf); first | apply qza | apply qzb | apply qzc | apply qzd | apply qze | intro (_ : Nat) | intro (_ : Option Addr) (_ : Nat))
    refine .inr ((ok_plain18 _).mono fun v g1 hg1 hO => ?_)
    obtain ⟨cs, rfl, hs1⟩ := hO
    obtain ⟨_, _, _, _, _, _, rfl⟩ := rSnap_open hs1
    repeat ((conv => whnf); first | apply qza | apply qzb | apply qzc | apply qzd | apply qze | intro (_ : Nat) | intro (_ : Option Addr) (_ : Nat))
    conv => whnf
    refine ⟨1, rfl, by unfold maxLen; omega, fun g2 hg2 hn2 hp2 => ?_⟩
    conv => whnf
    refine .inr ((ok_New _ (rSnap_mono _ _ _ _ hg2 hs1) (rSl_of1 (R := rStr) hp2.rd [sInW, sWebW] .string rfl fun _ _ => rfl) (t := 3) (by decide) (by decide)).mono fun v g3 hg3 hN => ?_)
    obtain ⟨cs, rfl, hw3⟩ := new_ok hN w3_ok
    replace hw3 : rWo g3 cs w3 := hw3
    obtain ⟨oa, ca, ob, cb, oc, cc, od, cd, oe, ce, rfl⟩ := rWo_open hw3
    repeat ((conv => whnf); first | apply qza | apply qzb | apply qzc | apply qzd | apply qze | intro (_ : Nat) | intro (_ : Option Addr) (_ : Nat))
    refine .inr ((ok_plain18 _).mono fun v g4 hg4 hO => ?_)
    obtain ⟨cs, rfl, hs4⟩ := hO
    obtain ⟨_, _, _, _, _, _, rfl⟩ := rSnap_open hs4
    repeat ((conv => whnf); first | apply qza | apply qzb | apply qzc | apply qzd | apply qze | intro (_ : Nat) | intro (_ : Option Addr) (_ : Nat))
    conv => whnf
    refine ⟨1, rfl, by unfold maxLen; omega, fun g5 hg5 hn5 hp5 => ?_⟩
    conv => whnf
    refine .inr ((ok_New _ (rSnap_mono _ _ _ _ hg5 hs4) (rSl_of1 (R := rStr) hp5.rd [sInW, sInW] .string rfl fun _ _ => rfl) (t := 3) (by decide) (by decide)).mono fun v g6 hg6 hN => ?_)
    obtain rfl := new_bad hN bad_names
    repeat ((conv => whnf); first | apply qza | apply qzb | apply qzc | apply qzd | apply qze | intro (_ : Nat) | intro (_ : Option Addr) (_ : Nat))
    refine .inr ((ok_plain18 _).mono fun v g7 hg7 hO => ?_)
    obtain ⟨cs, rfl, hs7⟩ := hO
    obtain ⟨_, _, _, _, _, _, rfl⟩ := rSnap_open hs7
    repeat ((conv => whnf); first | apply qza | apply qzb | apply qzc | apply qzd | apply qze | intro (_ : Nat) | intro (_ : Option Addr) (_ : Nat))
    refine .inr ((ok_New _ hs7 (rStr_nil _) (t := 9) (by decide) (by decide)).mono fun v g8 hg8 hN => ?_)
    obtain rfl := new_bad hN bad_threads
    repeat ((conv => whnf); first | apply qza | apply qzb | apply qzc | apply qzd | apply qze | intro (_ : Nat) | intro (_ : Option Addr) (_ : Nat))
    refine .inr ((ok_New _ (s := ⟨[], [], []⟩) ⟨_, _, _, rfl, rStr_nil _, ⟨none, 0, rfl, Nat.le_refl _, Nat.zero_le _, fun _ => ⟨rfl, rfl⟩, fun i x hx => by simp at hx⟩, ⟨none, 0, rfl, Nat.le_refl _, Nat.zero_le _, fun _ => ⟨rfl, rfl⟩, fun i x hx => by simp at hx⟩⟩ (rStr_nil _) (t := 1) (by decide) (by decide)).mono fun v g9 hg9 hN => ?_)
    obtain rfl := new_bad hN bad_snap
    repeat ((conv => whnf); first | apply qza | apply qzb | apply qzc | apply qzd | apply qze | intro (_ : Nat) | intro (_ : Option Addr) (_ : Nat))
    refine .inr ((ok_plain18 _).mono fun v g10 hg10 hO => ?_)
    obtain ⟨cs, rfl, hs10⟩ := hO
    obtain ⟨_, _, _, _, _, _, rfl⟩ := rSnap_open hs10
    repeat ((conv => whnf); first | apply qza | apply qzb | apply qzc | apply qzd | apply qze | intro (_ : Nat) | intro (_ : Option Addr) (_ : Nat))
    refine .inr ((ok_Cells _ hs10 (by decide)).mono fun v g11 hg11 hC => ?_)
    rcases hC with ⟨hz, ka, kb, kd, oV, nV, cV, rfl, hV⟩ | ⟨hz, rfl⟩
    rotate_left
    · exact absurd w3_ok.1 hz
    have hVo := hV
    obtain ⟨_, _, _, _, he, hsV, _⟩ := hVo
    simp only [List.cons.injEq, and_true] at he
    obtain ⟨rfl, rfl, rfl, _⟩ := he
    obtain ⟨_, _, _, _, _, _, he2⟩ := rSnap_open hsV
    cases he2
    repeat ((conv => whnf); first | apply qza | apply qzb | apply qzc | apply qzd | apply qze | intro (_ : Nat) | intro (_ : Option Addr) (_ : Nat))
    have l311 : g3 ≤ g11 := GW.trans hg4 (GW.trans hg5 (GW.trans hg6 (GW.trans hg7 (GW.trans hg8 (GW.trans hg9 (GW.trans hg10 hg11))))))
    have hw11 := rWo_mono _ _ _ _ l311 hw3
    obtain ⟨_, _, _, _, _, hq, _, _, hVs, _, _, _⟩ := id hw11
    simp only [List.cons.injEq, and_true] at hq
    obtain ⟨_, _, _, _, rfl, _⟩ := hq
    obtain ⟨_, _, hq, kv1, kv2, kv0, hVr⟩ := hVs
    cases hq
    obtain ⟨aV, rfl, ecV, hecV, ⟨xa, xb, xd, xn, rfl, hsn3, hG⟩, hcV⟩ := hVr 0 v3 rfl
    obtain ⟨og, cg, rfl, q1, q2, q0, hGr⟩ := id hG
    obtain ⟨aG, rfl, ecG, hecG, ⟨yn, rfl, _, hE⟩, hcG⟩ := hGr 0 gr3 rfl
    obtain ⟨oE, cE, rfl, r1, r2, r0, hEr⟩ := id hE
    obtain ⟨aE, rfl, ecE, hecE, ⟨⟨zn, rfl, _⟩, _⟩, hcE⟩ := hEr 1 (freshE 2) rfl
    conv => whnf
    refine ⟨fun hx => absurd hx (by decide), fun _ => ?_⟩
    repeat ((conv => whnf); first | apply qza | apply qzb | apply qzc | apply qzd | apply qze | intro (_ : Nat) | intro (_ : Option Addr) (_ : Nat))
    conv => whnf
    refine ⟨_, rfl, ⟨by decide, by decide⟩, ?_⟩
    repeat ((conv => whnf); first | apply qza | apply qzb | apply qzc | apply qzd | apply qze | intro (_ : Nat) | intro (_ : Option Addr) (_ : Nat))
    conv => whnf
    refine ⟨_, hcV 3 _ rfl, ?_⟩
    repeat ((conv => whnf); first | apply qza | apply qzb | apply qzc | apply qzd | apply qze | intro (_ : Nat) | intro (_ : Option Addr) (_ : Nat))
    conv => whnf
    refine ⟨fun hx => absurd hx (by decide), fun _ => ?_⟩
    repeat ((conv => whnf); first | apply qza | apply qzb | apply qzc | apply qzd | apply qze | intro (_ : Nat) | intro (_ : Option Addr) (_ : Nat))
    conv => whnf
    refine ⟨_, rfl, ⟨by decide, by decide⟩, ?_⟩
    repeat ((conv => whnf); first | apply qza | apply qzb | apply qzc | apply qzd | apply qze | intro (_ : Nat) | intro (_ : Option Addr) (_ : Nat))
    conv => whnf
    refine ⟨_, hcV 3 _ rfl, ?_⟩
    repeat ((conv => whnf); first | apply qza | apply qzb | apply qzc | apply qzd | apply qze | intro (_ : Nat) | intro (_ : Option Addr) (_ : Nat))
    conv => whnf
    refine ⟨_, rfl, ⟨by decide, by decide⟩, ?_⟩
    repeat ((conv => whnf); first | apply qza | apply qzb | apply qzc | apply qzd | apply qze | intro (_ : Nat) | intro (_ : Option Addr) (_ : Nat))
    conv => whnf
    refine ⟨_, hcG 1 _ rfl, ?_⟩
    repeat ((conv => whnf); first | apply qza | apply qzb | apply qzc | apply qzd | apply qze | intro (_ : Nat) | intro (_ : Option Addr) (_ : Nat))
    conv => whnf
    refine ⟨fun hx => absurd hx (by decide), fun _ => ?_⟩
    repeat ((conv => whnf); first | apply qza | apply qzb | apply qzc | apply qzd | apply qze | intro (_ : Nat) | intro (_ : Option Addr) (_ : Nat))
    conv => whnf
    refine ⟨fun hx => absurd hx (by decide), fun _ => ?_⟩
    repeat ((conv => whnf); first | apply qza | apply qzb | apply qzc | apply qzd | apply qze | intro (_ : Nat) | intro (_ : Option Addr) (_ : Nat))
    refine .inr ((ok_Clone _ hw11 (BgW_up w3_bg)).mono fun v g12 hg12 hO => ?_)
    obtain ⟨cs, TT, rfl, hT⟩ := hO
    have hF := oWo_rd hT
    obtain ⟨pa, na, pb, nb, pc, nc, pd, nd, pe, ne, rfl⟩ := rWo_open hF
    obtain ⟨b1, c1, b2, c2, b3, c3, ua, ub, ud, hv1, rc1, rc2, b4, j4, bc4, ty4, ⟨hA, n1, n2, n3, n4⟩, _, hk4⟩ := oWo_head hT (i := 0) (j := 0) (k := 1) (v := v3) (x := gr3) (en := freshE 2) rfl rfl rfl (h' := 0) (by decide)
    cases hv1
    repeat ((conv => whnf); first | apply qza | apply qzb | apply qzc | apply qzd | apply qze | intro (_ : Nat) | intro (_ : Option Addr) (_ : Nat))
    conv => whnf
    refine ⟨fun hx => absurd hx (by decide), fun _ => ?_⟩
    repeat ((conv => whnf); first | apply qza | apply qzb | apply qzc | apply qzd | apply qze | intro (_ : Nat) | intro (_ : Option Addr) (_ : Nat))
    conv => whnf
    refine ⟨_, rfl, ⟨by decide, by decide⟩, ?_⟩
    repeat ((conv => whnf); first | apply qza | apply qzb | apply qzc | apply qzd | apply qze | intro (_ : Nat) | intro (_ : Option Addr) (_ : Nat))
    conv => whnf
    refine ⟨_, rc1 3 _ rfl, ?_⟩
    repeat ((conv => whnf); first | apply qza | apply qzb | apply qzc | apply qzd | apply qze | intro (_ : Nat) | intro (_ : Option Addr) (_ : Nat))
    conv => whnf
    refine ⟨fun hx => absurd hx (by decide), fun _ => ?_⟩
    repeat ((conv => whnf); first | apply qza | apply qzb | apply qzc | apply qzd | apply qze | intro (_ : Nat) | intro (_ : Option Addr) (_ : Nat))
    conv => whnf
    refine ⟨_, rfl, ⟨by decide, by decide⟩, ?_⟩
    repeat ((conv => whnf); first | apply qza | apply qzb | apply qzc | apply qzd | apply qze | intro (_ : Nat) | intro (_ : Option Addr) (_ : Nat))
    conv => whnf
    refine ⟨_, rc1 3 _ rfl, ?_⟩
    repeat ((conv => whnf); first | apply qza | apply qzb | apply qzc | apply qzd | apply qze | intro (_ : Nat) | intro (_ : Option Addr) (_ : Nat))
    conv => whnf
    refine ⟨_, rfl, ⟨by decide, by decide⟩, ?_⟩
    repeat ((conv => whnf); first | apply qza | apply qzb | apply qzc | apply qzd | apply qze | intro (_ : Nat) | intro (_ : Option Addr) (_ : Nat))
    conv => whnf
    refine ⟨_, rc2 1 _ rfl, ?_⟩
    repeat ((conv => whnf); first | apply qza | apply qzb | apply qzc | apply qzd | apply qze | intro (_ : Nat) | intro (_ : Option Addr) (_ : Nat))
    conv => whnf
    refine ⟨fun hx => absurd hx (by decide), fun _ => ?_⟩
    repeat ((conv => whnf); first | apply qza | apply qzb | apply qzc | apply qzd | apply qze | intro (_ : Nat) | intro (_ : Option Addr) (_ : Nat))
    conv => whnf
    refine ⟨_, rfl, ⟨by decide, by decide⟩, ?_⟩
    repeat ((conv => whnf); first | apply qza | apply qzb | apply qzc | apply qzd | apply qze | intro (_ : Nat) | intro (_ : Option Addr) (_ : Nat))
    conv => whnf
    refine ⟨_, rc1 3 _ rfl, ?_⟩
    repeat ((conv => whnf); first | apply qza | apply qzb | apply qzc | apply qzd | apply qze | intro (_ : Nat) | intro (_ : Option Addr) (_ : Nat))
    conv => whnf
    refine ⟨_, rfl, ⟨by decide, by decide⟩, ?_⟩
    repeat ((conv => whnf); first | apply qza | apply qzb | apply qzc | apply qzd | apply qze | intro (_ : Nat) | intro (_ : Option Addr) (_ : Nat))
    conv => whnf
    refine ⟨_, rc2 1 _ rfl, ?_⟩
    repeat ((conv => whnf); first | apply qza | apply qzb | apply qzc | apply qzd | apply qze | intro (_ : Nat) | intro (_ : Option Addr) (_ : Nat))
    conv => whnf
    refine ⟨_, rfl, ⟨by decide, by decide⟩, ?_⟩
    repeat ((conv => whnf); first | apply qza | apply qzb | apply qzc | apply qzd | apply qze | intro (_ : Nat) | intro (_ : Option Addr) (_ : Nat))
    conv => whnf
    refine ⟨b4, j4, bc4, ty4, ⟨by rw [← hA]; rfl, Nat.le_trans (GW.trans hg1 (GW.trans hg2 (GW.trans hg3 l311))).1 n1, n2, n3, n4⟩, ?_⟩
    repeat ((conv => whnf); first | apply qza | apply qzb | apply qzc | apply qzd | apply qze | intro (_ : Nat) | intro (_ : Option Addr) (_ : Nat))
    conv => whnf
    refine fun g13 u13 => ?_
    have hX : rWo g13 _ wX := oWo_rd (hk4 g13 u13)
    have hle : g11 ≤ g13 := u13.le hg12 (fun h => by have := g11.wf _ h; omega)
    repeat ((conv => whnf); first | apply qza | apply qzb | apply qzc | apply qzd | apply qze | intro (_ : Nat) | intro (_ : Option Addr) (_ : Nat))
    refine .inr ((ok_Held _ hX wX_bg).mono fun v g14 hg14 hh => ?_)
    rw [wX_held] at hh
    subst hh
    have l1114 := GW.trans hle hg14
    repeat ((conv => whnf); first | apply qza | apply qzb | apply qzc | apply qzd | apply qze | intro (_ : Nat) | intro (_ : Option Addr) (_ : Nat))
    conv => whnf
    refine ⟨fun _ => ?_, fun hx => absurd hx (by decide)⟩
    repeat ((conv => whnf); first | apply qza | apply qzb | apply qzc | apply qzd | apply qze | intro (_ : Nat) | intro (_ : Option Addr) (_ : Nat))
    conv => whnf
    refine ⟨fun _ => ?_, fun hx => absurd hx (by decide)⟩
    repeat ((conv => whnf); first | apply qza | apply qzb | apply qzc | apply qzd | apply qze | intro (_ : Nat) | intro (_ : Option Addr) (_ : Nat))
    conv => whnf
    refine ⟨fun _ => ?_, fun hx => absurd hx (by decide)⟩
    repeat ((conv => whnf); first | apply qza | apply qzb | apply qzc | apply qzd | apply qze | intro (_ : Nat) | intro (_ : Option Addr) (_ : Nat))
    conv => whnf
    refine ⟨fun _ => ?_, fun hx => absurd hx (by decide)⟩
    repeat ((conv => whnf); first | apply qza | apply qzb | apply qzc | apply qzd | apply qze | intro (_ : Nat) | intro (_ : Option Addr) (_ : Nat))
    conv => whnf
    refine ⟨fun _ => ?_, fun hx => absurd hx (by decide)⟩
    repeat ((conv => whnf); first | apply qza | apply qzb | apply qzc | apply qzd | apply qze | intro (_ : Nat) | intro (_ : Option Addr) (_ : Nat))
    conv => whnf
    refine ⟨_, rfl, ⟨by decide, by decide⟩, ?_⟩
    repeat ((conv => whnf); first | apply qza | apply qzb | apply qzc | apply qzd | apply qze | intro (_ : Nat) | intro (_ : Option Addr) (_ : Nat))
    conv => whnf
    refine ⟨_, ⟨rfl, hcV.mono l1114⟩, ?_⟩
    repeat ((conv => whnf); first | apply qza | apply qzb | apply qzc | apply qzd | apply qze | intro (_ : Nat) | intro (_ : Option Addr) (_ : Nat))
    conv => whnf
    refine .inl ⟨_, ok_sameVersion _ (rVe_mono _ _ _ _ l1114 hV) (rVe_mono _ _ _ _ l1114 ⟨_, _, _, _, rfl, hsn3, hG⟩), ?_⟩
    repeat ((conv => whnf); first | apply qza | apply qzb | apply qzc | apply qzd | apply qze | intro (_ : Nat) | intro (_ : Option Addr) (_ : Nat))
    conv => whnf
    refine ⟨fun _ => ?_, fun h => nomatch h⟩
    repeat ((conv => whnf); first | apply qza | apply qzb | apply qzc | apply qzd | apply qze | intro (_ : Nat) | intro (_ : Option Addr) (_ : Nat))
    conv => whnf
    refine ⟨fun _ => ?_, fun hx => absurd hx (by decide)⟩
    repeat ((conv => whnf); first | apply qza | apply qzb | apply qzc | apply qzd | apply qze | intro (_ : Nat) | intro (_ : Option Addr) (_ : Nat))
    conv => whnf
    refine ⟨fun _ => ?_, fun hx => absurd hx (by decide)⟩
    repeat ((conv => whnf); first | apply qza | apply qzb | apply qzc | apply qzd | apply qze | intro (_ : Nat) | intro (_ : Option Addr) (_ : Nat))
    conv => whnf
    refine ⟨_, rfl, ⟨by decide, by decide⟩, ?_⟩
    repeat ((conv => whnf); first | apply qza | apply qzb | apply qzc | apply qzd | apply qze | intro (_ : Nat) | intro (_ : Option Addr) (_ : Nat))
    conv => whnf
    refine ⟨_, (hcV 3 _ rfl).mono l1114, ?_⟩
    repeat ((conv => whnf); first | apply qza | apply qzb | apply qzc | apply qzd | apply qze | intro (_ : Nat) | intro (_ : Option Addr) (_ : Nat))
    conv => whnf
    refine ⟨_, rfl, ⟨by decide, by decide⟩, ?_⟩
    repeat ((conv => whnf); first | apply qza | apply qzb | apply qzc | apply qzd | apply qze | intro (_ : Nat) | intro (_ : Option Addr) (_ : Nat))
    conv => whnf
    refine ⟨_, (hcG 1 _ rfl).mono l1114, ?_⟩
    repeat ((conv => whnf); first | apply qza | apply qzb | apply qzc | apply qzd | apply qze | intro (_ : Nat) | intro (_ : Option Addr) (_ : Nat))
    conv => whnf
    refine ⟨_, rfl, ⟨by decide, by decide⟩, ?_⟩
    repeat ((conv => whnf); first | apply qza | apply qzb | apply qzc | apply qzd | apply qze | intro (_ : Nat) | intro (_ : Option Addr) (_ : Nat))
    conv => whnf
    refine ⟨_, (hcE 0 _ rfl).mono l1114, ?_⟩
    repeat ((conv => whnf); first | apply qza | apply qzb | apply qzc | apply qzd | apply qze | intro (_ : Nat) | intro (_ : Option Addr) (_ : Nat))
    conv => whnf
    refine ⟨fun _ => ?_, fun hx => absurd hx (by decide)⟩
    repeat ((conv => whnf); first | apply qza | apply qzb | apply qzc | apply qzd | apply qze | intro (_ : Nat) | intro (_ : Option Addr) (_ : Nat))
    conv => whnf
    refine ⟨fun _ => ?_, fun hx => absurd hx (by decide)⟩
    repeat ((conv => whnf); first | apply qza | apply qzb | apply qzc | apply qzd | apply qze | intro (_ : Nat) | intro (_ : Option Addr) (_ : Nat))
    refine .inr ((ok_Held _ (rWo_mono _ _ _ _ l1114 hw11) w3_bg).mono fun v g15 hg15 hh => ?_)
    rw [w3_held] at hh
    subst hh
    repeat ((conv => whnf); first | apply qza | apply qzb | apply qzc | apply qzd | apply qze | intro (_ : Nat) | intro (_ : Option Addr) (_ : Nat))
    conv => whnf
    refine ⟨fun _ => ?_, fun hx => absurd hx (by decide)⟩
    repeat ((conv => whnf); first | apply qza | apply qzb | apply qzc | apply qzd | apply qze | intro (_ : Nat) | intro (_ : Option Addr) (_ : Nat))
    conv => whnf
    refine .inl ⟨_, (ok_wIs _ (rWo_mono _ _ _ _ (GW.trans l1114 hg15) hw11) sn_w3).to (congrArg Value.bool w3_right), ?_⟩
    repeat ((conv => whnf); first | apply qza | apply qzb | apply qzc | apply qzd | apply qze | intro (_ : Nat) | intro (_ : Option Addr) (_ : Nat))
    conv => whnf
    refine ⟨fun _ => ?_, fun h => nomatch h⟩
    repeat ((conv => whnf); first | apply qza | apply qzb | apply qzc | apply qzd | apply qze | intro (_ : Nat) | intro (_ : Option Addr) (_ : Nat))
    conv => whnf
    refine .inl ⟨_, (ok_wIs _ (rWo_lock (rWo_mono _ _ _ _ (GW.trans hg14 hg15) hX) (x := 2) (by decide)) (show SnW { wX with lock := 2 } from sn_wX)).to (congrArg Value.bool wX_bad), ?_⟩
    repeat ((conv => whnf); first | apply qza | apply qzb | apply qzc | apply qzd | apply qze | intro (_ : Nat) | intro (_ : Option Addr) (_ : Nat))
    conv => whnf
    intro g2 hg
    rfl)
end Go.Proofs.Ytkkhdnddplkobaa


/- Slots: the first one is taken. -/
namespace Go.Proofs.Ytkkhdnddplkobaa
open Go.Proofs.Ytkkhdnddplkobaa.Sx Go.RowKit
theorem ok_tTag (g : GW) {w : Int} (hw : InU w) : OkV Try.prog n_tag_Tag [.int .u64 w] g (.int .u32 (tagT w)) :=
  Ok.of_fn hm noT 0 t_tag_Tag (args := [.v (.int .u64 w)]) (by
    repeat ((conv => whnf); first | apply qza | apply qzb | apply qzc | apply qzd | apply qze | intro (_ : Nat) | intro (_ : Option Addr) (_ : Nat))
    conv => whnf
    refine ⟨by decide, ?_⟩
    repeat ((conv => whnf); first | apply qza | apply qzb | apply qzc | apply qzd | apply qze | intro (_ : Nat) | intro (_ : Option Addr) (_ : Nat))
    conv => whnf
    intro g2 hg
    have h1 : 0 ≤ tagT w ∧ tagT w < 4294967296 := by
      unfold tagT
      obtain ⟨a, b⟩ := hw
      constructor <;> omega
    have e2 : w.fdiv (2 ^ min (Int.toNat 32) IntKind.u64.bits) = tagT w := by
      rw [show (2 : Int) ^ min (Int.toNat 32) IntKind.u64.bits = 4294967296 by decide, Int.fdiv_eq_ediv_of_nonneg _ (by decide)]; rfl
    rw [e2, IntKind.wrap_u32, Int.emod_eq_of_lt h1.1 h1.2])
theorem ok_tNext (g : GW) {w i : Int} (hw : InU w) (hi : -1 ≤ i ∧ i ≤ 2147483646) : OkV Try.prog n_tag_Next [.int .u64 w, .int .i64 i] g (.tuple #[.int .u64 (nextT w i), .int .i64 0]) :=
  Ok.of_fn hm noT 0 t_tag_Next (args := [.v (.int .u64 w), .v (.int .i64 i)]) (by
    have h1 := Int.emod_nonneg (tagT w + 1) (show (4294967296 : Int) ≠ 0 by decide)
    have h2 := Int.emod_lt_of_pos (tagT w + 1) (show (0 : Int) < 4294967296 by decide)
    have hp : placeB i = true := by unfold placeB; simp; omega
    repeat ((conv => whnf); first | apply qza | apply qzb | apply qzc | apply qzd | apply qze | intro (_ : Nat) | intro (_ : Option Addr) (_ : Nat))
    conv => whnf
    refine .inl ⟨_, ok_tTag _ hw, ?_⟩
    repeat ((conv => whnf); first | apply qza | apply qzb | apply qzc | apply qzd | apply qze | intro (_ : Nat) | intro (_ : Option Addr) (_ : Nat))
    conv => whnf
    refine .inl ⟨_, (ok_tMake _ (t := IntKind.u32.wrap (tagT w + 1)) (i := i) (by rw [IntKind.wrap_u32]; exact ⟨h1, h2⟩) (by unfold InR; omega)), ?_⟩
    repeat ((conv => whnf); first | apply qza | apply qzb | apply qzc | apply qzd | apply qze | intro (_ : Nat) | intro (_ : Option Addr) (_ : Nat))
    conv => whnf
    intro g2 hg
    rw [hp, IntKind.wrap_u32]; rfl)
def PopP (e : EndC) (oN : Option Addr) (cN : Nat) (v : Value) : Prop := match freeL e with
  | some (x :: _) => v = .tuple #[.agg ⟨[.int .u64 (popE e).head, .slice oN e.next.length cN, .int .i64 e.active]⟩, .int .i64 x, .int .i64 0]
  | _ => v = .tuple #[.agg ⟨[.int .u64 0, .slice none 0 0, .int .i64 0]⟩, .int .i64 0, .int .i64 5]
theorem ok_Pop (g : GW) {oN : Option Addr} {cN : Nat} {e : EndC} (he : rEn g [.int .u64 e.head, .slice oN e.next.length cN, .int .i64 e.active] e) (hb : endB e = true) : Ok Try.prog n_slots_Pop [.agg ⟨[.int .u64 e.head, .slice oN e.next.length cN, .int .i64 e.active]⟩] g fun v _ => PopP e oN cN v :=
  Ok.of_fn hm noT 0 t_slots_Pop (args := [.v (.agg ⟨[.int .u64 e.head, .slice oN e.next.length cN, .int .i64 e.active]⟩)]) (by
    obtain ⟨⟨_, hq, hH, hA, hN⟩, hsz⟩ := id he
    simp only [List.cons.injEq, and_true, true_and] at hq
    subst hq
    obtain ⟨_, _, hq, n1, n2, n0, hNr⟩ := hN
    cases hq
    repeat ((conv => whnf); first | apply qza | apply qzb | apply qzc | apply qzd | apply qze | intro (_ : Nat) | intro (_ : Option Addr) (_ : Nat))
    conv => whnf
    refine .inl ⟨_, (ok_sIsE _ he).to (congrArg Value.bool hb), ?_⟩
    repeat ((conv => whnf); first | apply qza | apply qzb | apply qzc | apply qzd | apply qze | intro (_ : Nat) | intro (_ : Option Addr) (_ : Nat))
    conv => whnf
    refine ⟨fun h => (nomatch h), fun _ => ?_⟩
    repeat ((conv => whnf); first | apply qza | apply qzb | apply qzc | apply qzd | apply qze | intro (_ : Nat) | intro (_ : Option Addr) (_ : Nat))
    conv => whnf
    refine .inl ⟨_, ok_tIdx _ hH, ?_⟩
    repeat ((conv => whnf); first | apply qza | apply qzb | apply qzc | apply qzd | apply qze | intro (_ : Nat) | intro (_ : Option Addr) (_ : Nat))
    have hfs : ∃ l, freeL e = some l := by
      unfold endB at hb
      simp only [Bool.and_eq_true] at hb
      exact Option.isSome_iff_exists.1 hb.1.1.1
    obtain ⟨l, hf⟩ := hfs
    conv => whnf
    refine ⟨fun y1 => ?_, fun y1 => ?_⟩
    · have hneg := of_decide_eq_true y1
      have hl : l = [] := by
        rcases free_head hf with ⟨h, _⟩ | ⟨x, r, _, hx, hr, _⟩
        · exact h
        · omega
      subst hl
      repeat ((conv => whnf); first | apply qza | apply qzb | apply qzc | apply qzd | apply qze | intro (_ : Nat) | intro (_ : Option Addr) (_ : Nat))
      conv => whnf
      intro g2 hg
      unfold PopP
      rw [hf]
    have hnn := of_decide_eq_false y1
    rcases free_head hf with ⟨_, h⟩ | ⟨x, r, rfl, hx0, _⟩
    · omega
    obtain ⟨hpb, hph, hx, hrg, hn, hu⟩ := pop_ok hb hf
    have hxn : e.next[x.toNat]? = some (nxtL e.next x) := by
      obtain ⟨y, hy⟩ := getL_of (l := e.next) (i := x.toNat) (by omega)
      unfold nxtL
      rw [hy]; rfl
    obtain ⟨an, rfl, ec, hec, ⟨rfl, _⟩, hcn⟩ := hNr x.toNat _ hxn
    have hxt : (idxT e.head).toNat = x.toNat := by rw [hx]
    have hcn' := hcn 0 _ rfl
    rw [← hxt] at hcn'
    repeat ((conv => whnf); first | apply qza | apply qzb | apply qzc | apply qzd | apply qze | intro (_ : Nat) | intro (_ : Option Addr) (_ : Nat))
    conv => whnf
    refine ⟨_, rfl, ⟨by omega, by omega⟩, ?_⟩
    repeat ((conv => whnf); first | apply qza | apply qzb | apply qzc | apply qzd | apply qze | intro (_ : Nat) | intro (_ : Option Addr) (_ : Nat))
    conv => whnf
    refine ⟨_, hcn', ?_⟩
    repeat ((conv => whnf); first | apply qza | apply qzb | apply qzc | apply qzd | apply qze | intro (_ : Nat) | intro (_ : Option Addr) (_ : Nat))
    conv => whnf
    refine .inl ⟨_, ok_tNext _ hH hn, ?_⟩
    repeat ((conv => whnf); first | apply qza | apply qzb | apply qzc | apply qzd | apply qze | intro (_ : Nat) | intro (_ : Option Addr) (_ : Nat))
    conv => whnf
    refine ⟨fun hx => absurd hx (by decide), fun _ => ?_⟩
    repeat ((conv => whnf); first | apply qza | apply qzb | apply qzc | apply qzd | apply qze | intro (_ : Nat) | intro (_ : Option Addr) (_ : Nat))
    conv => whnf
    intro g2 hg
    unfold PopP
    rw [hf]
    show Value.tuple #[.agg ⟨[.int .u64 (nextT e.head (nxtL e.next x)), .slice (some an) e.next.length cN, .int .i64 e.active]⟩, .int .i64 (idxT e.head), .int .i64 0] = _
    unfold popE
    rw [hx])
end Go.Proofs.Ytkkhdnddplkobaa


/- The law WorldPops. -/
namespace Go.Proofs.Ytkkhdnddplkobaa
open Go.Proofs.Ytkkhdnddplkobaa.Sx Go.RowKit
theorem right_end {w : Wd} (h : wdB w = true) {i j k : Nat} {v : Version} {x : Group} {en : EndC} (hv : w.versions[i]? = some v) (hx : v.groups[j]? = some x) (he : x.ends[k]? = some en) : endB en = true := by
  have h6 := (wdB_iff.1 h).2.2.2.2.1
  have := allI_iff.1 h6 i v hv
  unfold verB versionB at this
  simp only [Bool.and_eq_true, decide_eq_true_eq] at this
  have hg := allI_iff.1 this.1.2 j x hx
  unfold groupB at hg
  split at hg
  · simp only [Bool.and_eq_true, List.all_eq_true] at hg
    have := hg.2 en (List.mem_of_getElem? he)
    unfold endOkB at this
    simp only [Bool.and_eq_true] at this
    exact this.1
  · cases hg
theorem BgW_end {K : Nat} {w : Wd} (h : BgW K w) {i j k : Nat} {v : Version} {x : Group} (hv : w.versions[i]? = some v) (hx : v.groups[j]? = some x) (en' : EndC) : BgW K { w with versions := w.versions.set i { v with groups := v.groups.set j { x with ends := x.ends.set k en' } } } := by
  obtain ⟨⟨h1, h2, h3, h4, h5⟩, h6, h7⟩ := h
  refine ⟨⟨h1, by rw [List.length_set]; exact h2, h3, h4, h5⟩, h6, fun y hy => ?_⟩
  rcases List.mem_or_eq_of_mem_set hy with hy | rfl
  · exact h7 y hy
  · obtain ⟨a, b⟩ := h7 v (List.mem_of_getElem? hv)
    refine ⟨by show (v.groups.set j _).length ≤ K; rw [List.length_set]; exact a, fun z hz => ?_⟩
    rcases List.mem_or_eq_of_mem_set hz with hz | rfl
    · exact b z hz
    · have := b x (List.mem_of_getElem? hx)
      unfold BgG at this ⊢
      show (x.ends.set k en').length ≤ K
      rw [List.length_set]; exact this
theorem SnW_end {w : Wd} (h : SnW w) {i : Nat} {v v' : Version} (hv : w.versions[i]? = some v) (hs : v'.snap = v.snap) : SnW { w with versions := w.versions.set i v' } := by
  intro y hy
  rcases List.mem_or_eq_of_mem_set hy with hy | rfl
  · exact h y hy
  · rw [hs]; exact h v (List.mem_of_getElem? hv)
set_option maxHeartbeats 16000000 in
set_option maxRecDepth 100000 in
theorem ok_WorldPops (g : GW) {cs : List Value} {w : Wd} {vi gi ni : Int} (hw : rWo g cs w) (_ : InR vi) (_ : InR gi) (_ : InR ni) : OkV Try.prog n_hydrantlaw18_WorldPops [.agg ⟨cs⟩, .int .i64 vi, .int .i64 gi, .int .i64 ni] g (.bool true) := by
  obtain ⟨oa, ca, ob, cb, oc, cc, od, cd, oe, ce, rfl⟩ := rWo_open hw
  exact Ok.of_fn hm noT 0 t_hydrantlaw18_WorldPops (args := [.v (.agg ⟨[.int .i64 w.epoch, .int .i64 w.current, .int .i64 w.lock, .slice oa w.pins.length ca, .slice ob w.versions.length cb, .slice oc w.listens.length cc, .slice od w.counts.length cd, .slice oe w.limbo.length ce]⟩), .v (.int .i64 vi), .v (.int .i64 gi), .v (.int .i64 ni)]) (by
    repeat ((conv => whnf); first | apply qza | apply qzb | apply qzc | apply qzd | apply qze | intro (_ : Nat) | intro (_ : Option Addr) (_ : Nat))
    refine .inr ((ok_rBigW _ hw).mono fun v g1 hg1 hB => ?_)
    obtain ⟨b, rfl, hB⟩ := hB
    repeat ((conv => whnf); first | apply qza | apply qzb | apply qzc | apply qzd | apply qze | intro (_ : Nat) | intro (_ : Option Addr) (_ : Nat))
    conv => whnf
    refine ⟨fun z1 => ?_, fun z1 => ?_⟩
    · repeat ((conv => whnf); first | apply qza | apply qzb | apply qzc | apply qzd | apply qze | intro (_ : Nat) | intro (_ : Option Addr) (_ : Nat))
      conv => whnf
      refine .inl ⟨_, ok_made _, ?_⟩
      repeat ((conv => whnf); first | apply qza | apply qzb | apply qzc | apply qzd | apply qze | intro (_ : Nat) | intro (_ : Option Addr) (_ : Nat))
      conv => whnf
      intro g2 hg
      rfl
    obtain ⟨hb, hsn⟩ := hB z1
    have hb' := BgW.up (K' := 1000) hb (by decide)
    have hb6 := BgW.up (K' := 1000000) hb (by decide)
    have hw1 := rWo_mono _ _ _ _ hg1 hw
    repeat ((conv => whnf); first | apply qza | apply qzb | apply qzc | apply qzd | apply qze | intro (_ : Nat) | intro (_ : Option Addr) (_ : Nat))
    conv => whnf
    refine .inl ⟨_, ok_wIs _ hw1 hsn, ?_⟩
    repeat ((conv => whnf); first | apply qza | apply qzb | apply qzc | apply qzd | apply qze | intro (_ : Nat) | intro (_ : Option Addr) (_ : Nat))
    conv => whnf
    refine ⟨fun z2 => ?_, fun z2 => ?_⟩
    · repeat ((conv => whnf); first | apply qza | apply qzb | apply qzc | apply qzd | apply qze | intro (_ : Nat) | intro (_ : Option Addr) (_ : Nat))
      conv => whnf
      refine .inl ⟨_, ok_made _, ?_⟩
      repeat ((conv => whnf); first | apply qza | apply qzb | apply qzc | apply qzd | apply qze | intro (_ : Nat) | intro (_ : Option Addr) (_ : Nat))
      conv => whnf
      intro g2 hg
      rfl
    have hr := nb0 z2
    obtain ⟨_, _, _, _, _, hq, _, _, hVs, _, _, _⟩ := id hw1
    simp only [List.cons.injEq, and_true] at hq
    obtain ⟨_, _, _, _, rfl, _⟩ := hq
    obtain ⟨_, _, hq, kv1, kv2, kv0, hVr⟩ := hVs
    cases hq
    repeat ((conv => whnf); first | apply qza | apply qzb | apply qzc | apply qzd | apply qze | intro (_ : Nat) | intro (_ : Option Addr) (_ : Nat))
    conv => whnf
    refine ⟨fun y1 => ?_, fun y1 => ?_⟩
    · repeat ((conv => whnf); first | apply qza | apply qzb | apply qzc | apply qzd | apply qze | intro (_ : Nat) | intro (_ : Option Addr) (_ : Nat))
      conv => whnf
      refine .inl ⟨_, ok_made _, ?_⟩
      repeat ((conv => whnf); first | apply qza | apply qzb | apply qzc | apply qzd | apply qze | intro (_ : Nat) | intro (_ : Option Addr) (_ : Nat))
      conv => whnf
      intro g2 hg
      rfl
    have i0 := of_decide_eq_false y1
    repeat ((conv => whnf); first | apply qza | apply qzb | apply qzc | apply qzd | apply qze | intro (_ : Nat) | intro (_ : Option Addr) (_ : Nat))
    conv => whnf
    refine ⟨fun y2 => ?_, fun y2 => ?_⟩
    · repeat ((conv => whnf); first | apply qza | apply qzb | apply qzc | apply qzd | apply qze | intro (_ : Nat) | intro (_ : Option Addr) (_ : Nat))
      conv => whnf
      refine .inl ⟨_, ok_made _, ?_⟩
      repeat ((conv => whnf); first | apply qza | apply qzb | apply qzc | apply qzd | apply qze | intro (_ : Nat) | intro (_ : Option Addr) (_ : Nat))
      conv => whnf
      intro g2 hg
      rfl
    have i1 := of_decide_eq_false y2
    obtain ⟨v, hv⟩ := getL_of (l := w.versions) (i := vi.toNat) (by omega)
    obtain ⟨ad, rfl, ec, hec, ⟨va, vb, vd, vn, rfl, hS, hGr⟩, hcV⟩ := hVr _ v hv
    obtain ⟨og, cg, rfl, p1, p2, p0, hG1⟩ := id hGr
    repeat ((conv => whnf); first | apply qza | apply qzb | apply qzc | apply qzd | apply qze | intro (_ : Nat) | intro (_ : Option Addr) (_ : Nat))
    conv => whnf
    refine ⟨fun y3 => ?_, fun y3 => ?_⟩
    · repeat ((conv => whnf); first | apply qza | apply qzb | apply qzc | apply qzd | apply qze | intro (_ : Nat) | intro (_ : Option Addr) (_ : Nat))
      conv => whnf
      refine .inl ⟨_, ok_made _, ?_⟩
      repeat ((conv => whnf); first | apply qza | apply qzb | apply qzc | apply qzd | apply qze | intro (_ : Nat) | intro (_ : Option Addr) (_ : Nat))
      conv => whnf
      intro g2 hg
      rfl
    have j0 := of_decide_eq_false y3
    repeat ((conv => whnf); first | apply qza | apply qzb | apply qzc | apply qzd | apply qze | intro (_ : Nat) | intro (_ : Option Addr) (_ : Nat))
    conv => whnf
    refine ⟨_, rfl, ⟨by omega, by omega⟩, ?_⟩
    repeat ((conv => whnf); first | apply qza | apply qzb | apply qzc | apply qzd | apply qze | intro (_ : Nat) | intro (_ : Option Addr) (_ : Nat))
    conv => whnf
    refine ⟨_, hcV 3 _ rfl, ?_⟩
    repeat ((conv => whnf); first | apply qza | apply qzb | apply qzc | apply qzd | apply qze | intro (_ : Nat) | intro (_ : Option Addr) (_ : Nat))
    conv => whnf
    refine ⟨fun y4 => ?_, fun y4 => ?_⟩
    · repeat ((conv => whnf); first | apply qza | apply qzb | apply qzc | apply qzd | apply qze | intro (_ : Nat) | intro (_ : Option Addr) (_ : Nat))
      conv => whnf
      refine .inl ⟨_, ok_made _, ?_⟩
      repeat ((conv => whnf); first | apply qza | apply qzb | apply qzc | apply qzd | apply qze | intro (_ : Nat) | intro (_ : Option Addr) (_ : Nat))
      conv => whnf
      intro g2 hg
      rfl
    have j1 := of_decide_eq_false y4
    obtain ⟨x, hx⟩ := getL_of (l := v.groups) (i := gi.toNat) (by omega)
    obtain ⟨ag, rfl, ecg, hecg, ⟨xn, rfl, hti, hE⟩, hcG⟩ := hG1 _ x hx
    obtain ⟨on, cn, rfl, r1, r2, r0, hE1⟩ := id hE
    repeat ((conv => whnf); first | apply qza | apply qzb | apply qzc | apply qzd | apply qze | intro (_ : Nat) | intro (_ : Option Addr) (_ : Nat))
    conv => whnf
    refine ⟨fun y5 => ?_, fun y5 => ?_⟩
    · repeat ((conv => whnf); first | apply qza | apply qzb | apply qzc | apply qzd | apply qze | intro (_ : Nat) | intro (_ : Option Addr) (_ : Nat))
      conv => whnf
      refine .inl ⟨_, ok_made _, ?_⟩
      repeat ((conv => whnf); first | apply qza | apply qzb | apply qzc | apply qzd | apply qze | intro (_ : Nat) | intro (_ : Option Addr) (_ : Nat))
      conv => whnf
      intro g2 hg
      rfl
    have k0 := of_decide_eq_false y5
    repeat ((conv => whnf); first | apply qza | apply qzb | apply qzc | apply qzd | apply qze | intro (_ : Nat) | intro (_ : Option Addr) (_ : Nat))
    conv => whnf
    refine ⟨_, rfl, ⟨by omega, by omega⟩, ?_⟩
    repeat ((conv => whnf); first | apply qza | apply qzb | apply qzc | apply qzd | apply qze | intro (_ : Nat) | intro (_ : Option Addr) (_ : Nat))
    conv => whnf
    refine ⟨_, hcV 3 _ rfl, ?_⟩
    repeat ((conv => whnf); first | apply qza | apply qzb | apply qzc | apply qzd | apply qze | intro (_ : Nat) | intro (_ : Option Addr) (_ : Nat))
    conv => whnf
    refine ⟨_, rfl, ⟨by omega, by omega⟩, ?_⟩
    repeat ((conv => whnf); first | apply qza | apply qzb | apply qzc | apply qzd | apply qze | intro (_ : Nat) | intro (_ : Option Addr) (_ : Nat))
    conv => whnf
    refine ⟨_, hcG 1 _ rfl, ?_⟩
    repeat ((conv => whnf); first | apply qza | apply qzb | apply qzc | apply qzd | apply qze | intro (_ : Nat) | intro (_ : Option Addr) (_ : Nat))
    conv => whnf
    refine ⟨fun y6 => ?_, fun y6 => ?_⟩
    · repeat ((conv => whnf); first | apply qza | apply qzb | apply qzc | apply qzd | apply qze | intro (_ : Nat) | intro (_ : Option Addr) (_ : Nat))
      conv => whnf
      refine .inl ⟨_, ok_made _, ?_⟩
      repeat ((conv => whnf); first | apply qza | apply qzb | apply qzc | apply qzd | apply qze | intro (_ : Nat) | intro (_ : Option Addr) (_ : Nat))
      conv => whnf
      intro g2 hg
      rfl
    have k1 := of_decide_eq_false y6
    obtain ⟨en, hen⟩ := getL_of (l := x.ends) (i := ni.toNat) (by omega)
    obtain ⟨ae, rfl, ece, hece, hEn, hcE⟩ := hE1 _ en hen
    have hEn0 := hEn
    obtain ⟨⟨n, rfl, hH, hA, hN⟩, hsz⟩ := hEn0
    obtain ⟨oN, cN, rfl, s1, s2, s0, hN1⟩ := id hN
    have heb := right_end hr hv hx hen
    repeat ((conv => whnf); first | apply qza | apply qzb | apply qzc | apply qzd | apply qze | intro (_ : Nat) | intro (_ : Option Addr) (_ : Nat))
    conv => whnf
    refine ⟨_, rfl, ⟨by omega, by omega⟩, ?_⟩
    repeat ((conv => whnf); first | apply qza | apply qzb | apply qzc | apply qzd | apply qze | intro (_ : Nat) | intro (_ : Option Addr) (_ : Nat))
    conv => whnf
    refine ⟨_, hcV 3 _ rfl, ?_⟩
    repeat ((conv => whnf); first | apply qza | apply qzb | apply qzc | apply qzd | apply qze | intro (_ : Nat) | intro (_ : Option Addr) (_ : Nat))
    conv => whnf
    refine ⟨_, rfl, ⟨by omega, by omega⟩, ?_⟩
    repeat ((conv => whnf); first | apply qza | apply qzb | apply qzc | apply qzd | apply qze | intro (_ : Nat) | intro (_ : Option Addr) (_ : Nat))
    conv => whnf
    refine ⟨_, hcG 1 _ rfl, ?_⟩
    repeat ((conv => whnf); first | apply qza | apply qzb | apply qzc | apply qzd | apply qze | intro (_ : Nat) | intro (_ : Option Addr) (_ : Nat))
    conv => whnf
    refine ⟨_, rfl, ⟨by omega, by omega⟩, ?_⟩
    repeat ((conv => whnf); first | apply qza | apply qzb | apply qzc | apply qzd | apply qze | intro (_ : Nat) | intro (_ : Option Addr) (_ : Nat))
    conv => whnf
    refine ⟨_, ⟨rfl, hcE⟩, ?_⟩
    repeat ((conv => whnf); first | apply qza | apply qzb | apply qzc | apply qzd | apply qze | intro (_ : Nat) | intro (_ : Option Addr) (_ : Nat))
    refine .inr ((ok_Pop _ hEn heb).mono fun u g2 hg2 hP => ?_)
    have hw2 := rWo_mono _ _ _ _ hg2 hw1
    unfold PopP at hP
    rcases hf : freeL en with _ | l
    · unfold endB at heb
      rw [hf] at heb
      cases heb
    rw [hf] at hP
    rcases l with _ | ⟨y, r⟩
    · subst hP
      repeat ((conv => whnf); first | apply qza | apply qzb | apply qzc | apply qzd | apply qze | intro (_ : Nat) | intro (_ : Option Addr) (_ : Nat))
      refine .inr ((ok_Clone _ hw2 hb6).mono fun u g3 hg3 hO => ?_)
      obtain ⟨cs, TT, rfl, hT⟩ := hO
      have hF := oWo_rd hT
      obtain ⟨pa, na, pb, nb, pc, nc, pd, nd, pe, ne, rfl⟩ := rWo_open hF
      obtain ⟨_, _, _, _, _, hq, _, _, hXs, _, _, _⟩ := id hF
      simp only [List.cons.injEq, and_true] at hq
      obtain ⟨_, _, _, _, rfl, _⟩ := hq
      obtain ⟨_, _, hq, _, _, _, hXr⟩ := hXs
      cases hq
      obtain ⟨ax, rfl, _, _, ⟨_, _, _, _, rfl, _, hXG⟩, hxV⟩ := hXr _ v hv
      obtain ⟨_, _, rfl, _, _, _, hXG1⟩ := id hXG
      obtain ⟨axg, rfl, _, _, ⟨_, rfl, _, hXE⟩, hxG⟩ := hXG1 _ x hx
      obtain ⟨_, _, rfl, _⟩ := id hXE
      have l13 := GW.trans hg2 hg3
      repeat ((conv => whnf); first | apply qza | apply qzb | apply qzc | apply qzd | apply qze | intro (_ : Nat) | intro (_ : Option Addr) (_ : Nat))
      conv => whnf
      refine ⟨fun hx => absurd hx (by simp), fun _ => ?_⟩
      repeat ((conv => whnf); first | apply qza | apply qzb | apply qzc | apply qzd | apply qze | intro (_ : Nat) | intro (_ : Option Addr) (_ : Nat))
      conv => whnf
      refine ⟨_, rfl, ⟨by omega, by omega⟩, ?_⟩
      repeat ((conv => whnf); first | apply qza | apply qzb | apply qzc | apply qzd | apply qze | intro (_ : Nat) | intro (_ : Option Addr) (_ : Nat))
      conv => whnf
      refine ⟨_, hxV 3 _ rfl, ?_⟩
      repeat ((conv => whnf); first | apply qza | apply qzb | apply qzc | apply qzd | apply qze | intro (_ : Nat) | intro (_ : Option Addr) (_ : Nat))
      conv => whnf
      refine ⟨_, rfl, ⟨by omega, by omega⟩, ?_⟩
      repeat ((conv => whnf); first | apply qza | apply qzb | apply qzc | apply qzd | apply qze | intro (_ : Nat) | intro (_ : Option Addr) (_ : Nat))
      conv => whnf
      refine ⟨_, (hcV 3 _ rfl).mono l13, ?_⟩
      repeat ((conv => whnf); first | apply qza | apply qzb | apply qzc | apply qzd | apply qze | intro (_ : Nat) | intro (_ : Option Addr) (_ : Nat))
      conv => whnf
      refine ⟨fun hx => absurd hx (by simp), fun _ => ?_⟩
      repeat ((conv => whnf); first | apply qza | apply qzb | apply qzc | apply qzd | apply qze | intro (_ : Nat) | intro (_ : Option Addr) (_ : Nat))
      conv => whnf
      refine ⟨_, rfl, ⟨by omega, by omega⟩, ?_⟩
      repeat ((conv => whnf); first | apply qza | apply qzb | apply qzc | apply qzd | apply qze | intro (_ : Nat) | intro (_ : Option Addr) (_ : Nat))
      conv => whnf
      refine ⟨_, hxV 3 _ rfl, ?_⟩
      repeat ((conv => whnf); first | apply qza | apply qzb | apply qzc | apply qzd | apply qze | intro (_ : Nat) | intro (_ : Option Addr) (_ : Nat))
      conv => whnf
      refine ⟨_, rfl, ⟨by omega, by omega⟩, ?_⟩
      repeat ((conv => whnf); first | apply qza | apply qzb | apply qzc | apply qzd | apply qze | intro (_ : Nat) | intro (_ : Option Addr) (_ : Nat))
      conv => whnf
      refine ⟨_, hxG 1 _ rfl, ?_⟩
      repeat ((conv => whnf); first | apply qza | apply qzb | apply qzc | apply qzd | apply qze | intro (_ : Nat) | intro (_ : Option Addr) (_ : Nat))
      conv => whnf
      refine ⟨_, rfl, ⟨by omega, by omega⟩, ?_⟩
      repeat ((conv => whnf); first | apply qza | apply qzb | apply qzc | apply qzd | apply qze | intro (_ : Nat) | intro (_ : Option Addr) (_ : Nat))
      conv => whnf
      refine ⟨_, (hcV 3 _ rfl).mono l13, ?_⟩
      repeat ((conv => whnf); first | apply qza | apply qzb | apply qzc | apply qzd | apply qze | intro (_ : Nat) | intro (_ : Option Addr) (_ : Nat))
      conv => whnf
      refine ⟨_, rfl, ⟨by omega, by omega⟩, ?_⟩
      repeat ((conv => whnf); first | apply qza | apply qzb | apply qzc | apply qzd | apply qze | intro (_ : Nat) | intro (_ : Option Addr) (_ : Nat))
      conv => whnf
      refine ⟨_, (hcG 1 _ rfl).mono l13, ?_⟩
      repeat ((conv => whnf); first | apply qza | apply qzb | apply qzc | apply qzd | apply qze | intro (_ : Nat) | intro (_ : Option Addr) (_ : Nat))
      conv => whnf
      refine ⟨fun hx => absurd hx (by simp), fun _ => ?_⟩
      repeat ((conv => whnf); first | apply qza | apply qzb | apply qzc | apply qzd | apply qze | intro (_ : Nat) | intro (_ : Option Addr) (_ : Nat))
      conv => whnf
      refine ⟨fun _ => ?_, fun hx => absurd hx (by decide)⟩
      repeat ((conv => whnf); first | apply qza | apply qzb | apply qzc | apply qzd | apply qze | intro (_ : Nat) | intro (_ : Option Addr) (_ : Nat))
      conv => whnf
      refine .inl ⟨_, ok_made _, ?_⟩
      repeat ((conv => whnf); first | apply qza | apply qzb | apply qzc | apply qzd | apply qze | intro (_ : Nat) | intro (_ : Option Addr) (_ : Nat))
      conv => whnf
      refine ⟨fun _ => ?_, fun h => nomatch h⟩
      repeat ((conv => whnf); first | apply qza | apply qzb | apply qzc | apply qzd | apply qze | intro (_ : Nat) | intro (_ : Option Addr) (_ : Nat))
      conv => whnf
      intro g2 hg
      rfl
    · subst hP
      obtain ⟨hpb, hph, _, _, hn2, hu⟩ := pop_ok heb hf
      repeat ((conv => whnf); first | apply qza | apply qzb | apply qzc | apply qzd | apply qze | intro (_ : Nat) | intro (_ : Option Addr) (_ : Nat))
      refine .inr ((ok_Clone _ hw2 hb6).mono fun u g3 hg3 hO => ?_)
      obtain ⟨cs, TT, rfl, hT⟩ := hO
      obtain ⟨pa, na, pb, nb, pc, nc, pd, nd, pe, ne, rfl⟩ := rWo_open (oWo_rd hT)
      have l13 := GW.trans hg2 hg3
      obtain ⟨b1, c1, b2, c2, b3, c3, ua, ub, ud, hv1, rc1, rc2, b4, j4, bc4, ty4, ⟨hA4, n1, n2, n3, n4⟩, _, hk4⟩ := oWo_end (g0 := g1) (oWo_ff hT) hv hx hen (en' := popE en) (oN := oN) (nN := en.next.length) (cN := cN) ⟨hu, hA, hsz⟩ hN l13 hg2.1
      cases hv1
      repeat ((conv => whnf); first | apply qza | apply qzb | apply qzc | apply qzd | apply qze | intro (_ : Nat) | intro (_ : Option Addr) (_ : Nat))
      conv => whnf
      refine ⟨fun hx => absurd hx (by simp), fun _ => ?_⟩
      repeat ((conv => whnf); first | apply qza | apply qzb | apply qzc | apply qzd | apply qze | intro (_ : Nat) | intro (_ : Option Addr) (_ : Nat))
      conv => whnf
      refine ⟨_, rfl, ⟨by omega, by omega⟩, ?_⟩
      repeat ((conv => whnf); first | apply qza | apply qzb | apply qzc | apply qzd | apply qze | intro (_ : Nat) | intro (_ : Option Addr) (_ : Nat))
      conv => whnf
      refine ⟨_, rc1 3 _ rfl, ?_⟩
      repeat ((conv => whnf); first | apply qza | apply qzb | apply qzc | apply qzd | apply qze | intro (_ : Nat) | intro (_ : Option Addr) (_ : Nat))
      conv => whnf
      refine ⟨_, rfl, ⟨by omega, by omega⟩, ?_⟩
      repeat ((conv => whnf); first | apply qza | apply qzb | apply qzc | apply qzd | apply qze | intro (_ : Nat) | intro (_ : Option Addr) (_ : Nat))
      conv => whnf
      refine ⟨_, (hcV 3 _ rfl).mono l13, ?_⟩
      repeat ((conv => whnf); first | apply qza | apply qzb | apply qzc | apply qzd | apply qze | intro (_ : Nat) | intro (_ : Option Addr) (_ : Nat))
      conv => whnf
      refine ⟨fun hx => absurd hx (by simp), fun _ => ?_⟩
      repeat ((conv => whnf); first | apply qza | apply qzb | apply qzc | apply qzd | apply qze | intro (_ : Nat) | intro (_ : Option Addr) (_ : Nat))
      conv => whnf
      refine ⟨_, rfl, ⟨by omega, by omega⟩, ?_⟩
      repeat ((conv => whnf); first | apply qza | apply qzb | apply qzc | apply qzd | apply qze | intro (_ : Nat) | intro (_ : Option Addr) (_ : Nat))
      conv => whnf
      refine ⟨_, rc1 3 _ rfl, ?_⟩
      repeat ((conv => whnf); first | apply qza | apply qzb | apply qzc | apply qzd | apply qze | intro (_ : Nat) | intro (_ : Option Addr) (_ : Nat))
      conv => whnf
      refine ⟨_, rfl, ⟨by omega, by omega⟩, ?_⟩
      repeat ((conv => whnf); first | apply qza | apply qzb | apply qzc | apply qzd | apply qze | intro (_ : Nat) | intro (_ : Option Addr) (_ : Nat))
      conv => whnf
      refine ⟨_, rc2 1 _ rfl, ?_⟩
      repeat ((conv => whnf); first | apply qza | apply qzb | apply qzc | apply qzd | apply qze | intro (_ : Nat) | intro (_ : Option Addr) (_ : Nat))
      conv => whnf
      refine ⟨_, rfl, ⟨by omega, by omega⟩, ?_⟩
      repeat ((conv => whnf); first | apply qza | apply qzb | apply qzc | apply qzd | apply qze | intro (_ : Nat) | intro (_ : Option Addr) (_ : Nat))
      conv => whnf
      refine ⟨_, (hcV 3 _ rfl).mono l13, ?_⟩
      repeat ((conv => whnf); first | apply qza | apply qzb | apply qzc | apply qzd | apply qze | intro (_ : Nat) | intro (_ : Option Addr) (_ : Nat))
      conv => whnf
      refine ⟨_, rfl, ⟨by omega, by omega⟩, ?_⟩
      repeat ((conv => whnf); first | apply qza | apply qzb | apply qzc | apply qzd | apply qze | intro (_ : Nat) | intro (_ : Option Addr) (_ : Nat))
      conv => whnf
      refine ⟨_, (hcG 1 _ rfl).mono l13, ?_⟩
      repeat ((conv => whnf); first | apply qza | apply qzb | apply qzc | apply qzd | apply qze | intro (_ : Nat) | intro (_ : Option Addr) (_ : Nat))
      conv => whnf
      refine ⟨fun hx => absurd hx (by simp), fun _ => ?_⟩
      repeat ((conv => whnf); first | apply qza | apply qzb | apply qzc | apply qzd | apply qze | intro (_ : Nat) | intro (_ : Option Addr) (_ : Nat))
      conv => whnf
      refine ⟨fun hx => absurd hx (by decide), fun _ => ?_⟩
      repeat ((conv => whnf); first | apply qza | apply qzb | apply qzc | apply qzd | apply qze | intro (_ : Nat) | intro (_ : Option Addr) (_ : Nat))
      conv => whnf
      refine ⟨_, rfl, ⟨by omega, by omega⟩, ?_⟩
      repeat ((conv => whnf); first | apply qza | apply qzb | apply qzc | apply qzd | apply qze | intro (_ : Nat) | intro (_ : Option Addr) (_ : Nat))
      conv => whnf
      refine ⟨_, rc1 3 _ rfl, ?_⟩
      repeat ((conv => whnf); first | apply qza | apply qzb | apply qzc | apply qzd | apply qze | intro (_ : Nat) | intro (_ : Option Addr) (_ : Nat))
      conv => whnf
      refine ⟨_, rfl, ⟨by omega, by omega⟩, ?_⟩
      repeat ((conv => whnf); first | apply qza | apply qzb | apply qzc | apply qzd | apply qze | intro (_ : Nat) | intro (_ : Option Addr) (_ : Nat))
      conv => whnf
      refine ⟨_, rc2 1 _ rfl, ?_⟩
      repeat ((conv => whnf); first | apply qza | apply qzb | apply qzc | apply qzd | apply qze | intro (_ : Nat) | intro (_ : Option Addr) (_ : Nat))
      conv => whnf
      refine ⟨_, rfl, ⟨by omega, by omega⟩, ?_⟩
      repeat ((conv => whnf); first | apply qza | apply qzb | apply qzc | apply qzd | apply qze | intro (_ : Nat) | intro (_ : Option Addr) (_ : Nat))
      conv => whnf
      refine ⟨b4, j4, bc4, ty4, ⟨by rw [← hA4], Nat.le_trans (GW.trans hg1 hg2).1 n1, n2, n3, n4⟩, ?_⟩
      repeat ((conv => whnf); first | apply qza | apply qzb | apply qzc | apply qzd | apply qze | intro (_ : Nat) | intro (_ : Option Addr) (_ : Nat))
      conv => whnf
      refine fun g4 u4 => ?_
      have hX := hk4 g4 u4
      have hle : g2 ≤ g4 := u4.le hg3 (fun h => by have := g2.wf _ h; omega)
      have hbX := BgW_end (k := ni.toNat) hb' hv hx (popE en)
      repeat ((conv => whnf); first | apply qza | apply qzb | apply qzc | apply qzd | apply qze | intro (_ : Nat) | intro (_ : Option Addr) (_ : Nat))
      conv => whnf
      refine .inl ⟨_, ok_made _, ?_⟩
      repeat ((conv => whnf); first | apply qza | apply qzb | apply qzc | apply qzd | apply qze | intro (_ : Nat) | intro (_ : Option Addr) (_ : Nat))
      conv => whnf
      refine ⟨fun _ => ?_, fun h => nomatch h⟩
      repeat ((conv => whnf); first | apply qza | apply qzb | apply qzc | apply qzd | apply qze | intro (_ : Nat) | intro (_ : Option Addr) (_ : Nat))
      refine .inr ((ok_Held _ hX hbX).mono fun u g5 hg5 hh => ?_)
      rw [held_end hv hx hen, hph, show heldN w - heldE en + (heldE en + 1) = heldN w + 1 by omega] at hh
      subst hh
      repeat ((conv => whnf); first | apply qza | apply qzb | apply qzc | apply qzd | apply qze | intro (_ : Nat) | intro (_ : Option Addr) (_ : Nat))
      refine .inr ((ok_Held _ (rWo_mono _ _ _ _ (GW.trans hle hg5) hw2) hb').mono fun u g6 hg6 hh => ?_)
      subst hh
      repeat ((conv => whnf); first | apply qza | apply qzb | apply qzc | apply qzd | apply qze | intro (_ : Nat) | intro (_ : Option Addr) (_ : Nat))
      have hbd := heldN_bd hb'
      conv => whnf
      refine ⟨fun _ => ?_, fun hx => absurd hx (by rw [wr (x := heldN w + 1) (by unfold InR; omega)]; simp)⟩
      repeat ((conv => whnf); first | apply qza | apply qzb | apply qzc | apply qzd | apply qze | intro (_ : Nat) | intro (_ : Option Addr) (_ : Nat))
      conv => whnf
      refine .inl ⟨_, (ok_wIs _ (rWo_mono _ _ _ _ (GW.trans hg5 hg6) hX) (SnW_end hsn hv rfl)).to (congrArg Value.bool (wdB_end hr hv hx hen hpb rfl)), ?_⟩
      repeat ((conv => whnf); first | apply qza | apply qzb | apply qzc | apply qzd | apply qze | intro (_ : Nat) | intro (_ : Option Addr) (_ : Nat))
      conv => whnf
      intro g2 hg
      rfl)
end Go.Proofs.Ytkkhdnddplkobaa


/- What came in of this seat's types is plain data. -/
namespace Go.Proofs.Ytkkhdnddplkobaa
open Go.Proofs.Ytkkhdnddplkobaa.Sx
section
variable {H : Type} {enc : TypeId × Value → H} {W : World}
theorem op_api_Rule : Rds enc Try.prog W ty_api_Rule rRule := rd_rule (tS := ty_string) (tI := ty_int) (by kernel_rfl) (by kernel_rfl) (by kernel_rfl) (by kernel_rfl)
theorem op_api_Cluster : Rds enc Try.prog W ty_api_Cluster rCluster := rd_cluster (tS := ty_string) (tI := ty_int) (tL := ty_sl_bool) (tB := ty_bool) (by kernel_rfl) (by kernel_rfl) (by kernel_rfl) (by kernel_rfl) (by kernel_rfl) (by kernel_rfl) (by kernel_rfl)
end
end Go.Proofs.Ytkkhdnddplkobaa


/- What came in of a snapshot is plain data. -/
namespace Go.Proofs.Ytkkhdnddplkobaa
open Go.Proofs.Ytkkhdnddplkobaa.Sx
section
variable {H : Type} {enc : TypeId × Value → H} {W : World}
theorem op_api_Snap : Rds enc Try.prog W ty_api_Snap rSnap := by
  intro fuel cs x h
  obtain ⟨a, b, d, rfl, ⟨l0, h0⟩, ⟨l1, h1⟩, l2, h2⟩ := rd_three (t0 := ty_sl_string) (t1 := ty_sl_api_Rule) (t2 := ty_sl_api_Cluster) (e0 := ty_string) (e1 := ty_api_Rule) (e2 := ty_api_Cluster) (z0 := 1) (z1 := 4) (z2 := 4)
    (by kernel_rfl) (by kernel_rfl) (by kernel_rfl) (by kernel_rfl) (by kernel_rfl) (by kernel_rfl) (by kernel_rfl) (by kernel_rfl) (by omega) (by omega) (by omega) (rd_str (by kernel_rfl)) op_api_Rule op_api_Cluster h
  exact ⟨⟨l0, l1, l2⟩, a, b, d, rfl, h0, h1, h2⟩
end
end Go.Proofs.Ytkkhdnddplkobaa

