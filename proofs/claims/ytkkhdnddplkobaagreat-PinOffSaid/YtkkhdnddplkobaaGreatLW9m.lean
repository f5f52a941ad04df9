/- Worlds: clones, the document's answer. -/
import Derived.Test.YtkkhdnddplkobaaGreatLW9k
import Derived.Test.YtkkhdnddplkobaaGreatLW9p
namespace Go.Proofs.YtkkhdnddplkobaaGreat
open Go.Proofs.YtkkhdnddplkobaaGreat.Sx Go.RowKit
def chG (a b c d e f h i : GW) : Nat → GW
  | 0 => a
  | 1 => b
  | 2 => c
  | 3 => d
  | 4 => e
  | 5 => f
  | 6 => h
  | _ => i
def labR : Nat → Nat
  | 0 => 1
  | 1 => 3
  | 2 => 0
  | 3 => 1
  | 4 => 2
  | 5 => 3
  | _ => 4
theorem chG_le {a b c d e f h i : GW} (k1 : a ≤ b) (k2 : b ≤ c) (k3 : c ≤ d) (k4 : d ≤ e) (k5 : e ≤ f) (k6 : f ≤ h) (k7 : h ≤ i) : ∀ n, n < 7 → chG a b c d e f h i n ≤ chG a b c d e f h i (n + 1)
  | 0, _ => k1
  | 1, _ => k2
  | 2, _ => k3
  | 3, _ => k4
  | 4, _ => k5
  | 5, _ => k6
  | 6, _ => k7
  | n + 7, h => absurd h (by omega)
theorem ok_rClone (g : GW) {cs : List Value} {w : Wd} (hw : rWo g cs w) (hb : BgW 1000000 w) : Ok Tryz.prog n_hydrantref18_Clone [.agg ⟨cs⟩] g (CloneP g w) := by
  obtain ⟨a, b, c, d, e, rfl, ⟨i1, i2, i3⟩, hP, hV, hL, hC, hR⟩ := hw
  obtain ⟨⟨z1, z2, z3, z4, z5⟩, z6, z7⟩ := hb
  obtain ⟨oa, ca, rfl, a1, a2, a0, hP1⟩ := id hP
  obtain ⟨ob, cb, rfl, b1, b2, b0, hV1⟩ := id hV
  obtain ⟨oc, cc, rfl, c1, c2, c0, hL1⟩ := id hL
  obtain ⟨od, cd, rfl, d1, d2, d0, hC1⟩ := id hC
  obtain ⟨oe, ce, rfl, e1, e2, e0, hR1⟩ := id hR
  have rdP := rSl_rd hP cI1 fun _ _ h => h.1
  have rdL := rSl_rd hL cLi fun _ _ h => h.1
  have rdR := rSl_rd hR cRe fun _ _ h => h.1
  exact Ok.of_fn hm noT 0 t_hydrantref18_Clone (args := [.v (.agg ⟨[.int .i64 w.epoch, .int .i64 w.current, .int .i64 w.lock, .slice oa w.pins.length ca, .slice ob w.versions.length cb, .slice oc w.listens.length cc, .slice od w.counts.length cd, .slice oe w.limbo.length ce]⟩)]) (by
    repeat ((conv => whnf); first | refine qza ?_ | refine qzb ?_ | refine qzc ?_ | refine qzd ?_ | refine qze ?_ | refine fun (_ : Nat) => ?_ | refine fun (_ : Option Addr) (_ : Nat) => ?_)
    conv => whnf
    refine ⟨⟨rfl, rfl, rfl, rfl, Nat.zero_le _⟩, ?_⟩
    conv => whnf
    refine ⟨_, ⟨rdP, oneF' fun _ _ => rfl⟩, ?_⟩
    repeat ((conv => whnf); first | refine qza ?_ | refine qzb ?_ | refine qzc ?_ | refine qzd ?_ | refine qze ?_ | refine fun (_ : Nat) => ?_ | refine fun (_ : Option Addr) (_ : Nat) => ?_)
    conv => whnf
    refine ⟨⟨by unfold maxLen; omega, by omega⟩, fun oP cP => ?_⟩
    repeat ((conv => whnf); first | refine qza ?_ | refine qzb ?_ | refine qzc ?_ | refine qzd ?_ | refine qze ?_ | refine fun (_ : Nat) => ?_ | refine fun (_ : Option Addr) (_ : Nat) => ?_)
    rename_i q0 q1 q2 qP qV
    conv => whnf
    refine ⟨Nat × List (List Value) × Option Addr × Nat × GW, fun (k, _, _, _, _) => [.v (.int .i64 k)], fun (k, ecs, oX, cX, g') => ⟨g', [.row 10 oX k cX ty_api_Version 5 ecs.flatten, .row 4 oP w.pins.length cP ty_int 1 (w.pins.map cI1).flatten, .blk 2 q2 ty_api_World [.v (.int .i64 w.epoch), .v (.int .i64 w.current), .v (.int .i64 w.lock), .row 4 oP w.pins.length cP, .row 10 oX k cX, .v (.slice oc w.listens.length cc), .v (.slice od w.counts.length cd), .v (.slice oe w.limbo.length ce)], .blk 1 q1 ty_api_World [.v (.int .i64 0), .v (.int .i64 0), .v (.int .i64 0), .v (.slice none 0 0), .v (.slice none 0 0), .v (.slice none 0 0), .v (.slice none 0 0), .v (.slice none 0 0)], .blk 0 q0 ty_api_World [.v (.int .i64 w.epoch), .v (.int .i64 w.current), .v (.int .i64 w.lock), .v (.slice oa w.pins.length ca), .v (.slice ob w.versions.length cb), .v (.slice oc w.listens.length cc), .v (.slice od w.counts.length cd), .v (.slice oe w.limbo.length ce)]], 20, g.w.heap.size⟩, fun (k, ecs, _, _, g') => k ≤ w.versions.length ∧ g ≤ g' ∧ oEls 5 (oVe wT true) g g' g.w.heap.size ecs (w.versions.take k), fun (k, _, _, _, _) => w.versions.length - k, fun fr w' hw => ⟨(0, [], some ⟨qV, 0, none⟩, 0, g), rfl, ⟨Nat.zero_le _, GW.refl _, oEls_nil _ _ _⟩, (hw.blk_row (nx' := 20) (id' := 10) 0 5 rfl (Nat.zero_le _)).fit (by simp [fitL, Res.eqv, concL, conc])⟩, ?_⟩
    rintro ⟨k, ecs, oX, cX, g'⟩ ⟨hk, hgg, hE⟩
    repeat ((conv => whnf); first | refine qza ?_ | refine qzb ?_ | refine qzc ?_ | refine qzd ?_ | refine qze ?_ | refine fun (_ : Nat) => ?_ | refine fun (_ : Option Addr) (_ : Nat) => ?_)
    conv => whnf
    refine ⟨fun hlt => ?_, fun hlt => ?_⟩
    · have h' : k < w.versions.length := by have := of_decide_eq_true hlt; omega
      obtain ⟨x, hx⟩ := getL_of h'
      obtain ⟨x1, x2⟩ := List.getElem?_eq_some_iff.1 hx
      obtain ⟨a, rfl, ec, hec, ⟨va, vb, vd, nx, rfl, hS, hG⟩, hc⟩ := hV1 k x hx
      have hS0 := hS
      obtain ⟨_, _, _, hee, ⟨sa, ta, rfl, _⟩, ⟨sb, tb, rfl, _⟩, ⟨sd, td, rfl, _⟩⟩ := hS
      cases hee
      obtain ⟨og, cg, rfl, f1, f2, f0, hG1⟩ := id hG
      have hbV := z7 x (List.mem_of_getElem? hx)
      have hbV1 := hbV.1
      repeat ((conv => whnf); first | refine qza ?_ | refine qzb ?_ | refine qzc ?_ | refine qzd ?_ | refine qze ?_ | refine fun (_ : Nat) => ?_ | refine fun (_ : Option Addr) (_ : Nat) => ?_)
      conv => whnf
      refine ⟨a, rfl, ⟨by omega, by omega⟩, ?_⟩
      conv => whnf
      refine ⟨_, ⟨rfl, hc.mono hgg⟩, ?_⟩
      repeat ((conv => whnf); first | refine qza ?_ | refine qzb ?_ | refine qzc ?_ | refine qzd ?_ | refine qze ?_ | refine fun (_ : Nat) => ?_ | refine fun (_ : Option Addr) (_ : Nat) => ?_)
      rename_i qv qg
      conv => whnf
      refine ⟨Nat × List (List Value) × Option Addr × Nat × GW, fun (j, _, _, _, _) => [.v (.int .i64 j)], fun (j, ecs2, oG, cG, g2) => ⟨g2, [.row 30 oG j cG ty_api_Group 2 ecs2.flatten, .blk 20 qv ty_api_Version [.v (.slice sa x.snap.listens.length ta), .v (.slice sb x.snap.rules.length tb), .v (.slice sd x.snap.clusters.length td), .row 30 oG j cG, .v (.bool x.freed)], .row 10 oX k cX ty_api_Version 5 ecs.flatten, .row 4 oP w.pins.length cP ty_int 1 (w.pins.map cI1).flatten, .blk 2 q2 ty_api_World [.v (.int .i64 w.epoch), .v (.int .i64 w.current), .v (.int .i64 w.lock), .row 4 oP w.pins.length cP, .row 10 oX k cX, .v (.slice oc w.listens.length cc), .v (.slice od w.counts.length cd), .v (.slice oe w.limbo.length ce)], .blk 1 q1 ty_api_World [.v (.int .i64 0), .v (.int .i64 0), .v (.int .i64 0), .v (.slice none 0 0), .v (.slice none 0 0), .v (.slice none 0 0), .v (.slice none 0 0), .v (.slice none 0 0)], .blk 0 q0 ty_api_World [.v (.int .i64 w.epoch), .v (.int .i64 w.current), .v (.int .i64 w.lock), .v (.slice oa w.pins.length ca), .v (.slice (some a) w.versions.length cb), .v (.slice oc w.listens.length cc), .v (.slice od w.counts.length cd), .v (.slice oe w.limbo.length ce)]], 40, g.w.heap.size⟩, fun (j, ecs2, _, _, g2) => j ≤ x.groups.length ∧ g' ≤ g2 ∧ oEls 2 (oGr wT true) g' g2 g.w.heap.size ecs2 (x.groups.take j), fun (j, _, _, _, _) => x.groups.length - j, fun fr w' hw => ⟨(0, [], some ⟨qg, 0, none⟩, 0, g'), rfl, ⟨Nat.zero_le _, GW.refl _, oEls_nil _ _ _⟩, (hw.blk_row (nx' := 40) (id' := 30) 0 2 rfl (Nat.zero_le _)).fit (by simp [fitL, Res.eqv, concL, conc])⟩, ?_⟩
      rintro ⟨j, ecs2, oG, cG, g2⟩ ⟨hj, hg2, hE2⟩
      have hgg2 := GW.trans hgg hg2
      repeat ((conv => whnf); first | refine qza ?_ | refine qzb ?_ | refine qzc ?_ | refine qzd ?_ | refine qze ?_ | refine fun (_ : Nat) => ?_ | refine fun (_ : Option Addr) (_ : Nat) => ?_)
      conv => whnf
      refine ⟨a, rfl, ⟨by omega, by omega⟩, ?_⟩
      conv => whnf
      refine ⟨_, hc.mono hgg2 3 _ rfl, ?_⟩
      repeat ((conv => whnf); first | refine qza ?_ | refine qzb ?_ | refine qzc ?_ | refine qzd ?_ | refine qze ?_ | refine fun (_ : Nat) => ?_ | refine fun (_ : Option Addr) (_ : Nat) => ?_)
      conv => whnf
      refine ⟨fun hlt2 => ?_, fun hlt2 => ?_⟩
      · have h2 : j < x.groups.length := by have := of_decide_eq_true hlt2; omega
        obtain ⟨y, hy⟩ := getL_of h2
        obtain ⟨y1, y2⟩ := List.getElem?_eq_some_iff.1 hy
        obtain ⟨aG, rfl, ecG, hecG, ⟨nE, rfl, ht, hEn⟩, hcG⟩ := hG1 j y hy
        obtain ⟨oe2, ce2, rfl, p1, p2, p0, hEn1⟩ := id hEn
        have hbG : y.ends.length ≤ 1000000 := hbV.2 y (List.mem_of_getElem? hy)
        repeat ((conv => whnf); first | refine qza ?_ | refine qzb ?_ | refine qzc ?_ | refine qzd ?_ | refine qze ?_ | refine fun (_ : Nat) => ?_ | refine fun (_ : Option Addr) (_ : Nat) => ?_)
        conv => whnf
        refine ⟨a, rfl, ⟨by omega, by omega⟩, ?_⟩
        conv => whnf
        refine ⟨_, hc.mono hgg2 3 _ rfl, ?_⟩
        repeat ((conv => whnf); first | refine qza ?_ | refine qzb ?_ | refine qzc ?_ | refine qzd ?_ | refine qze ?_ | refine fun (_ : Nat) => ?_ | refine fun (_ : Option Addr) (_ : Nat) => ?_)
        conv => whnf
        refine ⟨aG, rfl, ⟨by omega, by omega⟩, ?_⟩
        conv => whnf
        refine ⟨_, ⟨rfl, hcG.mono hgg2⟩, ?_⟩
        repeat ((conv => whnf); first | refine qza ?_ | refine qzb ?_ | refine qzc ?_ | refine qzd ?_ | refine qze ?_ | refine fun (_ : Nat) => ?_ | refine fun (_ : Option Addr) (_ : Nat) => ?_)
        rename_i qgr qe
        conv => whnf
        refine ⟨Nat × List (List Value) × Option Addr × Nat × GW, fun (n, _, _, _, _) => [.v (.int .i64 n)], fun (n, ecs3, oE, cE, g3) => ⟨g3, [.row 50 oE n cE ty_api_End 3 ecs3.flatten, .blk 40 qgr ty_api_Group [.v (.int .u64 y.ticket), .row 50 oE n cE], .row 30 oG j cG ty_api_Group 2 ecs2.flatten, .blk 20 qv ty_api_Version [.v (.slice sa x.snap.listens.length ta), .v (.slice sb x.snap.rules.length tb), .v (.slice sd x.snap.clusters.length td), .row 30 oG j cG, .v (.bool x.freed)], .row 10 oX k cX ty_api_Version 5 ecs.flatten, .row 4 oP w.pins.length cP ty_int 1 (w.pins.map cI1).flatten, .blk 2 q2 ty_api_World [.v (.int .i64 w.epoch), .v (.int .i64 w.current), .v (.int .i64 w.lock), .row 4 oP w.pins.length cP, .row 10 oX k cX, .v (.slice oc w.listens.length cc), .v (.slice od w.counts.length cd), .v (.slice oe w.limbo.length ce)], .blk 1 q1 ty_api_World [.v (.int .i64 0), .v (.int .i64 0), .v (.int .i64 0), .v (.slice none 0 0), .v (.slice none 0 0), .v (.slice none 0 0), .v (.slice none 0 0), .v (.slice none 0 0)], .blk 0 q0 ty_api_World [.v (.int .i64 w.epoch), .v (.int .i64 w.current), .v (.int .i64 w.lock), .v (.slice oa w.pins.length ca), .v (.slice (some a) w.versions.length cb), .v (.slice oc w.listens.length cc), .v (.slice od w.counts.length cd), .v (.slice oe w.limbo.length ce)]], 60, g.w.heap.size⟩, fun (n, ecs3, _, _, g3) => n ≤ y.ends.length ∧ g2 ≤ g3 ∧ oEls 3 (oEn wT true) g2 g3 g.w.heap.size ecs3 (y.ends.take n), fun (n, _, _, _, _) => y.ends.length - n, fun fr w' hw => ⟨(0, [], some ⟨qe, 0, none⟩, 0, g2), rfl, ⟨Nat.zero_le _, GW.refl _, oEls_nil _ _ _⟩, (hw.blk_row (nx' := 60) (id' := 50) 0 3 rfl (Nat.zero_le _)).fit (by simp [fitL, Res.eqv, concL, conc])⟩, ?_⟩
        rintro ⟨n, ecs3, oE, cE, g3⟩ ⟨hn, hg3, hE3⟩
        have hgg3 := GW.trans hgg2 hg3
        repeat ((conv => whnf); first | refine qza ?_ | refine qzb ?_ | refine qzc ?_ | refine qzd ?_ | refine qze ?_ | refine fun (_ : Nat) => ?_ | refine fun (_ : Option Addr) (_ : Nat) => ?_)
        conv => whnf
        refine ⟨a, rfl, ⟨by omega, by omega⟩, ?_⟩
        conv => whnf
        refine ⟨_, hc.mono hgg3 3 _ rfl, ?_⟩
        repeat ((conv => whnf); first | refine qza ?_ | refine qzb ?_ | refine qzc ?_ | refine qzd ?_ | refine qze ?_ | refine fun (_ : Nat) => ?_ | refine fun (_ : Option Addr) (_ : Nat) => ?_)
        conv => whnf
        refine ⟨aG, rfl, ⟨by omega, by omega⟩, ?_⟩
        conv => whnf
        refine ⟨_, hcG.mono hgg3 1 _ rfl, ?_⟩
        repeat ((conv => whnf); first | refine qza ?_ | refine qzb ?_ | refine qzc ?_ | refine qzd ?_ | refine qze ?_ | refine fun (_ : Nat) => ?_ | refine fun (_ : Option Addr) (_ : Nat) => ?_)
        conv => whnf
        refine ⟨fun hlt3 => ?_, fun hlt3 => ?_⟩
        · have h3 : n < y.ends.length := by have := of_decide_eq_true hlt3; omega
          obtain ⟨e, he⟩ := getL_of h3
          obtain ⟨w1, w2⟩ := List.getElem?_eq_some_iff.1 he
          obtain ⟨aE, rfl, ecE, hecE, ⟨⟨nN, rfl, u1, u2, hN⟩, u3⟩, hcE⟩ := hEn1 n e he
          obtain ⟨oN, cN, rfl, n1, n2, n0, hN1⟩ := id hN
          have rdN := (rSl_rd hN cI1 fun _ _ h => h.1).mono hgg3
          repeat ((conv => whnf); first | refine qza ?_ | refine qzb ?_ | refine qzc ?_ | refine qzd ?_ | refine qze ?_ | refine fun (_ : Nat) => ?_ | refine fun (_ : Option Addr) (_ : Nat) => ?_)
          conv => whnf
          refine ⟨a, rfl, ⟨by omega, by omega⟩, ?_⟩
          conv => whnf
          refine ⟨_, hc.mono hgg3 3 _ rfl, ?_⟩
          repeat ((conv => whnf); first | refine qza ?_ | refine qzb ?_ | refine qzc ?_ | refine qzd ?_ | refine qze ?_ | refine fun (_ : Nat) => ?_ | refine fun (_ : Option Addr) (_ : Nat) => ?_)
          conv => whnf
          refine ⟨aG, rfl, ⟨by omega, by omega⟩, ?_⟩
          conv => whnf
          refine ⟨_, hcG.mono hgg3 1 _ rfl, ?_⟩
          repeat ((conv => whnf); first | refine qza ?_ | refine qzb ?_ | refine qzc ?_ | refine qzd ?_ | refine qze ?_ | refine fun (_ : Nat) => ?_ | refine fun (_ : Option Addr) (_ : Nat) => ?_)
          conv => whnf
          refine ⟨aE, rfl, ⟨by omega, by omega⟩, ?_⟩
          conv => whnf
          refine ⟨_, ⟨rfl, hcE.mono hgg3⟩, ?_⟩
          repeat ((conv => whnf); first | refine qza ?_ | refine qzb ?_ | refine qzc ?_ | refine qzd ?_ | refine qze ?_ | refine fun (_ : Nat) => ?_ | refine fun (_ : Option Addr) (_ : Nat) => ?_)
          conv => whnf
          refine ⟨⟨rfl, rfl, rfl, rfl, Nat.zero_le _⟩, ?_⟩
          conv => whnf
          refine ⟨_, ⟨rdN, oneF' fun _ _ => rfl⟩, ?_⟩
          repeat ((conv => whnf); first | refine qza ?_ | refine qzb ?_ | refine qzc ?_ | refine qzd ?_ | refine qze ?_ | refine fun (_ : Nat) => ?_ | refine fun (_ : Option Addr) (_ : Nat) => ?_)
          conv => whnf
          refine ⟨⟨by unfold maxLen; omega, by omega⟩, fun oM cM => ?_⟩
          repeat ((conv => whnf); first | refine qza ?_ | refine qzb ?_ | refine qzc ?_ | refine qzd ?_ | refine qze ?_ | refine fun (_ : Nat) => ?_ | refine fun (_ : Option Addr) (_ : Nat) => ?_)
          conv => whnf
          refine fun g4 hg4 hn4 hp4 => ?_
          simp only [Nat.zero_add, List.nil_append] at hp4
          have hInt : ∀ z ∈ e.next, (cI1 z).length = 1 ∧ rInt g3 (cI1 z) z := fun z hz => by
            obtain ⟨m, hm'⟩ := List.getElem?_of_mem hz
            obtain ⟨_, _, _, _, ⟨_, hh⟩, _⟩ := hN1 m z hm'
            exact ⟨rfl, rfl, hh⟩
          have hO4 := oEls_sl (oLf_fr rInt_any) (oEls_leaf (sz := 1) (r := rInt) g3 g3 g.w.heap.size cI1 e.next hInt) (GW.refl _) hg4 hp4 rfl hn4
          have hT3 : y.ends.take (n + 1) = y.ends.take n ++ [e] := by rw [List.take_succ_eq_append_getElem w1, w2]
          have hE4 := oEls_snoc oEn_fr hg3 hg4 hE3 (ec := [.int .u64 e.head, .slice oM e.next.length cM, .int .i64 e.active]) (x := e) rfl ⟨_, rfl, ⟨u1, u2, u3⟩, .inl hO4⟩
          repeat ((conv => whnf); first | refine qza ?_ | refine qzb ?_ | refine qzc ?_ | refine qzd ?_ | refine qze ?_ | refine fun (_ : Nat) => ?_ | refine fun (_ : Option Addr) (_ : Nat) => ?_)
          conv => whnf
          refine ⟨⟨by unfold maxLen; omega, by omega⟩, fun oa2 cap2 => ?_⟩
          repeat ((conv => whnf); first | refine qza ?_ | refine qzb ?_ | refine qzc ?_ | refine qzd ?_ | refine qze ?_ | refine fun (_ : Nat) => ?_ | refine fun (_ : Option Addr) (_ : Nat) => ?_)
          conv => whnf
          refine fun fr w' hw => ⟨(n + 1, ecs3 ++ [[.int .u64 e.head, .slice oM e.next.length cM, .int .i64 e.active]], oa2, cap2, g4), congrArg (fun z => [Value.int .i64 z]) (wr1 h3 p1 p2).symm, ⟨h3, GW.trans hg3 hg4, by rw [hT3]; exact hE4⟩, dec h3, hw.fit (by simp [fitL, Res.eqv, concL, conc])⟩
        have hnL : n = y.ends.length := by have := of_decide_eq_false hlt3; omega
        subst hnL
        rw [List.take_length] at hE3
        repeat ((conv => whnf); first | refine qza ?_ | refine qzb ?_ | refine qzc ?_ | refine qzd ?_ | refine qze ?_ | refine fun (_ : Nat) => ?_ | refine fun (_ : Option Addr) (_ : Nat) => ?_)
        conv => whnf
        refine fun g4 hg4 hn4 hp4 => ?_
        have hO4 := oEls_sl oEn_fr hE3 hg3 hg4 hp4 rfl hn4
        have hT2 : x.groups.take (j + 1) = x.groups.take j ++ [y] := by rw [List.take_succ_eq_append_getElem y1, y2]
        have hE4 := oEls_snoc oGr_fr hg2 (GW.trans hg3 hg4) hE2 (ec := [.int .u64 y.ticket, .slice oE y.ends.length cE]) (x := y) rfl ⟨_, rfl, ht, hO4⟩
        repeat ((conv => whnf); first | refine qza ?_ | refine qzb ?_ | refine qzc ?_ | refine qzd ?_ | refine qze ?_ | refine fun (_ : Nat) => ?_ | refine fun (_ : Option Addr) (_ : Nat) => ?_)
        conv => whnf
        refine ⟨⟨by unfold maxLen; omega, by omega⟩, fun oa2 cap2 => ?_⟩
        repeat ((conv => whnf); first | refine qza ?_ | refine qzb ?_ | refine qzc ?_ | refine qzd ?_ | refine qze ?_ | refine fun (_ : Nat) => ?_ | refine fun (_ : Option Addr) (_ : Nat) => ?_)
        conv => whnf
        refine fun fr w' hw => ⟨(j + 1, ecs2 ++ [[.int .u64 y.ticket, .slice oE y.ends.length cE]], oa2, cap2, g4), congrArg (fun z => [Value.int .i64 z]) (wr1 h2 f1 f2).symm, ⟨h2, GW.trans hg2 (GW.trans hg3 hg4), by rw [hT2]; exact hE4⟩, dec h2, hw.fit (by simp [fitL, Res.eqv, concL, conc])⟩
      have hjL : j = x.groups.length := by have := of_decide_eq_false hlt2; omega
      subst hjL
      rw [List.take_length] at hE2
      repeat ((conv => whnf); first | refine qza ?_ | refine qzb ?_ | refine qzc ?_ | refine qzd ?_ | refine qze ?_ | refine fun (_ : Nat) => ?_ | refine fun (_ : Option Addr) (_ : Nat) => ?_)
      conv => whnf
      refine fun g4 hg4 hn4 hp4 => ?_
      have hO4 := oEls_sl oGr_fr hE2 hg2 hg4 hp4 rfl hn4
      have hT1 : w.versions.take (k + 1) = w.versions.take k ++ [x] := by rw [List.take_succ_eq_append_getElem x1, x2]
      have hE4 := oEls_snoc oVe_fr hgg (GW.trans hg2 hg4) hE (ec := [.slice sa x.snap.listens.length ta, .slice sb x.snap.rules.length tb, .slice sd x.snap.clusters.length td, .slice oG x.groups.length cG, .bool x.freed]) (x := x) rfl ⟨_, _, _, _, rfl, rSnap_mono _ _ _ _ (GW.le_vw (GW.trans hgg2 hg4) (Nat.le_refl _)) hS0, hO4⟩
      repeat ((conv => whnf); first | refine qza ?_ | refine qzb ?_ | refine qzc ?_ | refine qzd ?_ | refine qze ?_ | refine fun (_ : Nat) => ?_ | refine fun (_ : Option Addr) (_ : Nat) => ?_)
      conv => whnf
      refine ⟨⟨by unfold maxLen; omega, by omega⟩, fun oa2 cap2 => ?_⟩
      repeat ((conv => whnf); first | refine qza ?_ | refine qzb ?_ | refine qzc ?_ | refine qzd ?_ | refine qze ?_ | refine fun (_ : Nat) => ?_ | refine fun (_ : Option Addr) (_ : Nat) => ?_)
      conv => whnf
      refine fun fr w' hw => ⟨(k + 1, ecs ++ [[.slice sa x.snap.listens.length ta, .slice sb x.snap.rules.length tb, .slice sd x.snap.clusters.length td, .slice oG x.groups.length cG, .bool x.freed]], oa2, cap2, g4), congrArg (fun z => [Value.int .i64 z]) (wr1 h' b1 b2).symm, ⟨h', GW.trans hgg (GW.trans hg2 hg4), by rw [hT1]; exact hE4⟩, dec h', hw.fit (by simp [fitL, Res.eqv, concL, conc])⟩
    have hkL : k = w.versions.length := by have := of_decide_eq_false hlt; omega
    subst hkL
    rw [List.take_length] at hE
    clear hlt hk
    repeat ((conv => whnf); first | refine qza ?_ | refine qzb ?_ | refine qzc ?_ | refine qzd ?_ | refine qze ?_ | refine fun (_ : Nat) => ?_ | refine fun (_ : Option Addr) (_ : Nat) => ?_)
    conv => whnf
    refine ⟨⟨rfl, rfl, rfl, rfl, Nat.zero_le _⟩, ?_⟩
    conv => whnf
    refine ⟨_, ⟨rdL.mono hgg, oneF' fun _ _ => rfl⟩, ?_⟩
    repeat ((conv => whnf); first | refine qza ?_ | refine qzb ?_ | refine qzc ?_ | refine qzd ?_ | refine qze ?_ | refine fun (_ : Nat) => ?_ | refine fun (_ : Option Addr) (_ : Nat) => ?_)
    conv => whnf
    refine ⟨⟨by unfold maxLen; omega, by omega⟩, fun oL cL => ?_⟩
    repeat ((conv => whnf); first | refine qza ?_ | refine qzb ?_ | refine qzc ?_ | refine qzd ?_ | refine qze ?_ | refine fun (_ : Nat) => ?_ | refine fun (_ : Option Addr) (_ : Nat) => ?_)
    rename_i qL qC
    conv => whnf
    refine ⟨Nat × List (List Value) × Option Addr × Nat × GW, fun (k, _, _, _, _) => [.v (.int .i64 k)], fun (k, ecs4, oC, cC, g5) => ⟨g5, [.row 70 oC k cC ty_sl_uint64 1 ecs4.flatten, .row 21 oL w.listens.length cL ty_api_Listen 4 (w.listens.map cLi).flatten, .row 10 oX w.versions.length cX ty_api_Version 5 ecs.flatten, .row 4 oP w.pins.length cP ty_int 1 (w.pins.map cI1).flatten, .blk 2 q2 ty_api_World [.v (.int .i64 w.epoch), .v (.int .i64 w.current), .v (.int .i64 w.lock), .row 4 oP w.pins.length cP, .row 10 oX w.versions.length cX, .row 21 oL w.listens.length cL, .row 70 oC k cC, .v (.slice oe w.limbo.length ce)], .blk 1 q1 ty_api_World [.v (.int .i64 0), .v (.int .i64 0), .v (.int .i64 0), .v (.slice none 0 0), .v (.slice none 0 0), .v (.slice none 0 0), .v (.slice none 0 0), .v (.slice none 0 0)], .blk 0 q0 ty_api_World [.v (.int .i64 w.epoch), .v (.int .i64 w.current), .v (.int .i64 w.lock), .v (.slice oa w.pins.length ca), .v (.slice ob w.versions.length cb), .v (.slice oc w.listens.length cc), .v (.slice od w.counts.length cd), .v (.slice oe w.limbo.length ce)]], 80, g.w.heap.size⟩, fun (k, ecs4, _, _, g5) => k ≤ w.counts.length ∧ g' ≤ g5 ∧ oEls 1 (oRo wT) g' g5 g.w.heap.size ecs4 (w.counts.take k), fun (k, _, _, _, _) => w.counts.length - k, fun fr w' hw => ⟨(0, [], some ⟨qC, 0, none⟩, 0, g'), rfl, ⟨Nat.zero_le _, GW.refl _, oEls_nil _ _ _⟩, (hw.blk_row (nx' := 80) (id' := 70) 0 1 rfl (Nat.zero_le _)).fit (by simp [fitL, Res.eqv, concL, conc])⟩, ?_⟩
    rintro ⟨k, ecs4, oC, cC, g5⟩ ⟨hk, hg5, hE5⟩
    have hgg5 := GW.trans hgg hg5
    repeat ((conv => whnf); first | refine qza ?_ | refine qzb ?_ | refine qzc ?_ | refine qzd ?_ | refine qze ?_ | refine fun (_ : Nat) => ?_ | refine fun (_ : Option Addr) (_ : Nat) => ?_)
    conv => whnf
    refine ⟨fun hlt => ?_, fun hlt => ?_⟩
    · have h' : k < w.counts.length := by have := of_decide_eq_true hlt; omega
      obtain ⟨x, hx⟩ := getL_of h'
      obtain ⟨x1, x2⟩ := List.getElem?_eq_some_iff.1 hx
      obtain ⟨a, rfl, ec, hec, ⟨nx, rfl, hN⟩, hc⟩ := hC1 k x hx
      obtain ⟨oN, cN, rfl, n1, n2, n0, hN1⟩ := id hN
      have hbx := z6 x (List.mem_of_getElem? hx)
      have rdN := (rSl_rd hN cU1 fun _ _ h => h.1).mono hgg5
      repeat ((conv => whnf); first | refine qza ?_ | refine qzb ?_ | refine qzc ?_ | refine qzd ?_ | refine qze ?_ | refine fun (_ : Nat) => ?_ | refine fun (_ : Option Addr) (_ : Nat) => ?_)
      conv => whnf
      refine ⟨a, rfl, ⟨by omega, by omega⟩, ?_⟩
      conv => whnf
      refine ⟨_, hc.mono hgg5 0 _ rfl, ?_⟩
      repeat ((conv => whnf); first | refine qza ?_ | refine qzb ?_ | refine qzc ?_ | refine qzd ?_ | refine qze ?_ | refine fun (_ : Nat) => ?_ | refine fun (_ : Option Addr) (_ : Nat) => ?_)
      conv => whnf
      refine ⟨⟨rfl, rfl, rfl, rfl, Nat.zero_le _⟩, ?_⟩
      conv => whnf
      refine ⟨_, ⟨rdN, oneF' fun _ _ => rfl⟩, ?_⟩
      repeat ((conv => whnf); first | refine qza ?_ | refine qzb ?_ | refine qzc ?_ | refine qzd ?_ | refine qze ?_ | refine fun (_ : Nat) => ?_ | refine fun (_ : Option Addr) (_ : Nat) => ?_)
      conv => whnf
      refine ⟨⟨by unfold maxLen; omega, by omega⟩, fun oM cM => ?_⟩
      repeat ((conv => whnf); first | refine qza ?_ | refine qzb ?_ | refine qzc ?_ | refine qzd ?_ | refine qze ?_ | refine fun (_ : Nat) => ?_ | refine fun (_ : Option Addr) (_ : Nat) => ?_)
      conv => whnf
      refine fun g6 hg6 hn6 hp6 => ?_
      simp only [Nat.zero_add, List.nil_append] at hp6
      have hInt : ∀ z ∈ x, (cU1 z).length = 1 ∧ rU64 g5 (cU1 z) z := fun z hz => by
        obtain ⟨m, hm'⟩ := List.getElem?_of_mem hz
        obtain ⟨_, _, _, _, ⟨_, hh⟩, _⟩ := hN1 m z hm'
        exact ⟨rfl, rfl, hh⟩
      have hO6 := oEls_sl (oLf_fr rU64_any) (oEls_leaf (sz := 1) (r := rU64) g5 g5 g.w.heap.size cU1 x hInt) (GW.refl _) hg6 hp6 rfl hn6
      have hT1 : w.counts.take (k + 1) = w.counts.take k ++ [x] := by rw [List.take_succ_eq_append_getElem x1, x2]
      have hE6 := oEls_snoc oRo_fr hg5 hg6 hE5 (ec := [.slice oM x.length cM]) (x := x) rfl ⟨_, rfl, hO6⟩
      repeat ((conv => whnf); first | refine qza ?_ | refine qzb ?_ | refine qzc ?_ | refine qzd ?_ | refine qze ?_ | refine fun (_ : Nat) => ?_ | refine fun (_ : Option Addr) (_ : Nat) => ?_)
      conv => whnf
      refine ⟨⟨by unfold maxLen; omega, by omega⟩, fun oa2 cap2 => ?_⟩
      repeat ((conv => whnf); first | refine qza ?_ | refine qzb ?_ | refine qzc ?_ | refine qzd ?_ | refine qze ?_ | refine fun (_ : Nat) => ?_ | refine fun (_ : Option Addr) (_ : Nat) => ?_)
      conv => whnf
      refine fun fr w' hw => ⟨(k + 1, ecs4 ++ [[.slice oM x.length cM]], oa2, cap2, g6), congrArg (fun z => [Value.int .i64 z]) (wr1 h' d1 d2).symm, ⟨h', GW.trans hg5 hg6, by rw [hT1]; exact hE6⟩, dec h', hw.fit (by simp [fitL, Res.eqv, concL, conc])⟩
    have hkL : k = w.counts.length := by have := of_decide_eq_false hlt; omega
    subst hkL
    rw [List.take_length] at hE5
    clear hlt hk
    repeat ((conv => whnf); first | refine qza ?_ | refine qzb ?_ | refine qzc ?_ | refine qzd ?_ | refine qze ?_ | refine fun (_ : Nat) => ?_ | refine fun (_ : Option Addr) (_ : Nat) => ?_)
    conv => whnf
    refine ⟨⟨rfl, rfl, rfl, rfl, Nat.zero_le _⟩, ?_⟩
    conv => whnf
    refine ⟨_, ⟨rdR.mono hgg5, oneF' fun _ _ => rfl⟩, ?_⟩
    repeat ((conv => whnf); first | refine qza ?_ | refine qzb ?_ | refine qzc ?_ | refine qzd ?_ | refine qze ?_ | refine fun (_ : Nat) => ?_ | refine fun (_ : Option Addr) (_ : Nat) => ?_)
    conv => whnf
    refine ⟨⟨by unfold maxLen; omega, by omega⟩, fun oR cR => ?_⟩
    repeat ((conv => whnf); first | refine qza ?_ | refine qzb ?_ | refine qzc ?_ | refine qzd ?_ | refine qze ?_ | refine fun (_ : Nat) => ?_ | refine fun (_ : Option Addr) (_ : Nat) => ?_)
    conv => whnf
    refine fun gA kA nA pA => ?_
    repeat ((conv => whnf); first | refine qza ?_ | refine qzb ?_ | refine qzc ?_ | refine qzd ?_ | refine qze ?_ | refine fun (_ : Nat) => ?_ | refine fun (_ : Option Addr) (_ : Nat) => ?_)
    conv => whnf
    refine fun gB kB nB pB => ?_
    repeat ((conv => whnf); first | refine qza ?_ | refine qzb ?_ | refine qzc ?_ | refine qzd ?_ | refine qze ?_ | refine fun (_ : Nat) => ?_ | refine fun (_ : Option Addr) (_ : Nat) => ?_)
    conv => whnf
    refine fun gC kC nC pC => ?_
    repeat ((conv => whnf); first | refine qza ?_ | refine qzb ?_ | refine qzc ?_ | refine qzd ?_ | refine qze ?_ | refine fun (_ : Nat) => ?_ | refine fun (_ : Option Addr) (_ : Nat) => ?_)
    conv => whnf
    refine fun gD kD nD pD => ?_
    repeat ((conv => whnf); first | refine qza ?_ | refine qzb ?_ | refine qzc ?_ | refine qzd ?_ | refine qze ?_ | refine fun (_ : Nat) => ?_ | refine fun (_ : Option Addr) (_ : Nat) => ?_)
    conv => whnf
    refine fun gE kE nE pE => ?_
    conv => whnf
    intro g2 hg
    have k5 := hg
    have mA := GW.trans hg5 kA
    have mB := GW.trans mA kB
    have mC := GW.trans kB kC
    have uA := GW.trans kB (GW.trans kC (GW.trans kD (GW.trans kE hg)))
    have uB := GW.trans kC (GW.trans kD (GW.trans kE hg))
    have uC := GW.trans kD (GW.trans kE hg)
    have uD := GW.trans kE hg
    have up : ∀ {a b : GW} {n : Nat}, a ≤ b → ¬ b.g n → ¬ a.g n := fun h k q => k (h.2 _ q).1
    have lP : ∀ z ∈ w.pins, (cI1 z).length = 1 ∧ rInt g5 (cI1 z) z := fun z hz => by
      obtain ⟨m, hm'⟩ := List.getElem?_of_mem hz
      obtain ⟨_, _, _, _, ⟨_, hh⟩, _⟩ := hP1 m z hm'
      exact ⟨rfl, rfl, hh⟩
    have lL : ∀ z ∈ w.listens, (cLi z).length = 4 ∧ rListen gB (cLi z) z := fun z hz => by
      obtain ⟨m, hm'⟩ := List.getElem?_of_mem hz
      obtain ⟨_, _, _, _, ⟨_, hh⟩, _⟩ := hL1 m z hm'
      exact ⟨rfl, rfl, hh⟩
    have lR : ∀ z ∈ w.limbo, (cRe z).length = 3 ∧ rRetired gD (cRe z) z := fun z hz => by
      obtain ⟨m, hm'⟩ := List.getElem?_of_mem hz
      obtain ⟨_, _, _, _, ⟨_, hh⟩, _⟩ := hR1 m z hm'
      exact ⟨rfl, rfl, hh⟩
    rw [Nat.zero_add] at pE ⊢
    rw [List.nil_append] at pE
    exact ⟨_, Ch (chG g g' g5 gA gB gC gD gE) labR 7, rfl, _, _, _, _, _, rfl, ⟨i1, i2, i3⟩, Ch_disj (chG_le hgg hg5 kA kB kC kD kE),
      oSl_fr (oLf_fr rInt_any) (GW.vw_up uA _ _) (oEls_slS (oLf_fr rInt_any) (oEls_leaf (sz := 1) (r := rInt) g5 g5 g.w.heap.size cI1 w.pins lP) kA pA rfl nA (fun n q => (q.2 q.1).elim) fun a ha => ⟨2, by decide, rfl, pA.new nA a ha⟩),
      oSl_fr oVe_fr (GW.vw_up uB _ _) (oEls_slS oVe_fr hE mB pB rfl (fun a ha => up mA (nB a ha)) (fun n q => ⟨0, by decide, rfl, q⟩) fun a ha => ⟨3, by decide, rfl, pB.new nB a ha⟩),
      oSl_fr (oLf_fr rListen_any) (GW.vw_up uC _ _) (oEls_slS (oLf_fr rListen_any) (oEls_leaf (sz := 4) (r := rListen) gB gB g.w.heap.size cLi w.listens lL) kC pC rfl nC (fun n q => (q.2 q.1).elim) fun a ha => ⟨4, by decide, rfl, pC.new nC a ha⟩),
      oSl_fr oRo_fr (GW.vw_up uD _ _) (oEls_slS oRo_fr hE5 (GW.trans kA (GW.trans mC kD)) pD rfl (fun a ha => up (GW.trans kA mC) (nD a ha)) (fun n q => ⟨1, by decide, rfl, q⟩) fun a ha => ⟨5, by decide, rfl, pD.new nD a ha⟩),
      oSl_fr (oLf_fr rRetired_any) (GW.vw_up hg _ _) (oEls_slS (oLf_fr rRetired_any) (oEls_leaf (sz := 3) (r := rRetired) gD gD g.w.heap.size cRe w.limbo lR) kE pE rfl nE (fun n q => (q.2 q.1).elim) fun a ha => ⟨6, by decide, rfl, pE.new nE a ha⟩)⟩)
end Go.Proofs.YtkkhdnddplkobaaGreat


/- Pins: a thread is pinned no more. -/
namespace Go.Proofs.YtkkhdnddplkobaaGreat
open Go.Proofs.YtkkhdnddplkobaaGreat.Sx Go.RowKit
def OffP (w : Wd) (m : Mach) (v : Value) (g' : GW) : Prop := ∃ cs, v = .tuple #[.agg ⟨cs⟩, .agg ⟨(offE w m).cs⟩] ∧ rWo g' cs (offW w m)
set_option maxHeartbeats 2000000 in
theorem ok_Off (g : GW) {cs ms : List Value} {w : Wd} {m : Mach} (hw : rWo g cs w) (hM : rMach g ms m) (hsn : SnW w) (hb : BgW 1000000 w) : Ok Tryz.prog n_pin_Off [.agg ⟨cs⟩, .agg ⟨ms⟩] g (OffP w m) := by
  have hw0 := hw
  have hM0 := hM
  obtain ⟨a, b, c, d, e, rfl, ⟨i1, i2, i3⟩, hP, hV, hL, hC, hR⟩ := hw
  obtain ⟨oa, ca, rfl, a1, a2, a0, hP1⟩ := id hP
  obtain ⟨ob, cb, rfl, b1, b2, b0, hV1⟩ := id hV
  obtain ⟨oc, cc, rfl, c1, c2, c0, hL1⟩ := id hL
  obtain ⟨od, cd, rfl, d1, d2, d0, hC1⟩ := id hC
  obtain ⟨oe, ce, rfl, e1, e2, e0, hR1⟩ := id hR
  obtain ⟨ma, mb, md, rfl, hok, _, ⟨_, _, _, he, ⟨o1, t1, rfl, _⟩, ⟨o2, t2, rfl, _⟩, ⟨o3, t3, rfl, _⟩⟩⟩ := hM
  cases he
  exact Ok.of_fn hm noT 0 t_pin_Off (args := [.v (.agg ⟨[.int .i64 w.epoch, .int .i64 w.current, .int .i64 w.lock, .slice oa w.pins.length ca, .slice ob w.versions.length cb, .slice oc w.listens.length cc, .slice od w.counts.length cd, .slice oe w.limbo.length ce]⟩), .v (.agg ⟨m.cs (.slice o1 m.op.config.listens.length t1) (.slice o2 m.op.config.routes.length t2) (.slice o3 m.op.config.clusters.length t3)⟩)]) (by
    repeat ((conv => whnf); first | refine qza ?_ | refine qzb ?_ | refine qzc ?_ | refine qzd ?_ | refine qze ?_ | refine fun (_ : Nat) => ?_ | refine fun (_ : Option Addr) (_ : Nat) => ?_)
    conv => whnf
    refine .inl ⟨_, ok_Suits _ hw0 hM0 hsn hb, ?_⟩
    repeat ((conv => whnf); first | refine qza ?_ | refine qzb ?_ | refine qzc ?_ | refine qzd ?_ | refine qze ?_ | refine fun (_ : Nat) => ?_ | refine fun (_ : Option Addr) (_ : Nat) => ?_)
    conv => whnf
    refine ⟨fun z1 => ?_, fun z1 => ?_⟩
    · repeat ((conv => whnf); first | refine qza ?_ | refine qzb ?_ | refine qzc ?_ | refine qzd ?_ | refine qze ?_ | refine fun (_ : Nat) => ?_ | refine fun (_ : Option Addr) (_ : Nat) => ?_)
      conv => whnf
      intro g2 hg
      have hf := nb1 z1
      refine ⟨[.int .i64 w.epoch, .int .i64 w.current, .int .i64 w.lock, .slice oa w.pins.length ca, .slice ob w.versions.length cb, .slice oc w.listens.length cc, .slice od w.counts.length cd, .slice oe w.limbo.length ce], ?_, ?_⟩
      · rw [offE, hf, if_neg (by simp)]; rfl
      · rw [offW, hf, if_neg (by simp)]; exact rWo_mono _ _ _ _ hg hw0
    have hs := nb0 z1
    obtain ⟨v0, gr0, en0, hS⟩ := suitB_iff.1 hs
    have hth := hS.thread
    obtain ⟨x, hx⟩ := getL_of (l := w.pins) (i := m.thread.toNat) (by omega)
    repeat ((conv => whnf); first | refine qza ?_ | refine qzb ?_ | refine qzc ?_ | refine qzd ?_ | refine qze ?_ | refine fun (_ : Nat) => ?_ | refine fun (_ : Option Addr) (_ : Nat) => ?_)
    refine .inr ((ok_Clone _ hw0 hb).mono fun v g1 hg1 hO => ?_)
    obtain ⟨cs, T, rfl, hT⟩ := hO
    have hT0 := hT
    obtain ⟨p, q, r, s, t, rfl, _, _, h0, h1, h2, h3, h4⟩ := hT0
    obtain ⟨oa', ca', rfl⟩ := oSl_val h0
    obtain ⟨ob', cb', rfl⟩ := oSl_val h1
    obtain ⟨oc', cc', rfl⟩ := oSl_val h2
    obtain ⟨od', cd', rfl⟩ := oSl_val h3
    obtain ⟨oe', ce', rfl⟩ := oSl_val h4
    obtain ⟨bk, cap, hv, b5, j5, bc, ty5, ⟨hA, p1, p2, p3, p4⟩, _, hk5⟩ := oWo_pin hT hx (x' := 0) (by decide)
    cases hv
    cases hA
    repeat ((conv => whnf); first | refine qza ?_ | refine qzb ?_ | refine qzc ?_ | refine qzd ?_ | refine qze ?_ | refine fun (_ : Nat) => ?_ | refine fun (_ : Option Addr) (_ : Nat) => ?_)
    conv => whnf
    refine ⟨_, rfl, ⟨by omega, by omega⟩, ?_⟩
    repeat ((conv => whnf); first | refine qza ?_ | refine qzb ?_ | refine qzc ?_ | refine qzd ?_ | refine qze ?_ | refine fun (_ : Nat) => ?_ | refine fun (_ : Option Addr) (_ : Nat) => ?_)
    conv => whnf
    refine ⟨bk, m.thread.toNat, bc, ty5, ⟨by simp [addr_add], p1, p2, p3, p4⟩, ?_⟩
    repeat ((conv => whnf); first | refine qza ?_ | refine qzb ?_ | refine qzc ?_ | refine qzd ?_ | refine qze ?_ | refine fun (_ : Nat) => ?_ | refine fun (_ : Option Addr) (_ : Nat) => ?_)
    conv => whnf
    refine fun g6 u6 => ?_
    have hF := oWo_rd (hk5 g6 u6)
    repeat ((conv => whnf); first | refine qza ?_ | refine qzb ?_ | refine qzc ?_ | refine qzd ?_ | refine qze ?_ | refine fun (_ : Nat) => ?_ | refine fun (_ : Option Addr) (_ : Nat) => ?_)
    conv => whnf
    intro g2 hg
    refine ⟨[.int .i64 w.epoch, .int .i64 w.current, .int .i64 w.lock, .slice (some ⟨bk, 0, none⟩) w.pins.length ca', .slice ob' w.versions.length cb', .slice oc' w.listens.length cc', .slice od' w.counts.length cd', .slice oe' w.limbo.length ce'], ?_, ?_⟩
    · rw [offE, hs, if_pos rfl]; rfl
    · rw [offW, hs, if_pos rfl]; exact rWo_mono _ _ _ _ hg hF)
end Go.Proofs.YtkkhdnddplkobaaGreat


/- Pins: a thread is pinned no more; the document's answer. -/
namespace Go.Proofs.YtkkhdnddplkobaaGreat
open Go.Proofs.YtkkhdnddplkobaaGreat.Sx Go.RowKit
set_option maxHeartbeats 2000000 in
theorem ok_rOff (g : GW) {cs ms : List Value} {w : Wd} {m : Mach} (hw : rWo g cs w) (hM : rMach g ms m) (hsn : SnW w) (hb : BgW 1000000 w) : Ok Tryz.prog n_hydrantref19_Off [.agg ⟨cs⟩, .agg ⟨ms⟩] g (OffP w m) := by
  have hw0 := hw
  have hM0 := hM
  obtain ⟨a, b, c, d, e, rfl, ⟨i1, i2, i3⟩, hP, hV, hL, hC, hR⟩ := hw
  obtain ⟨oa, ca, rfl, a1, a2, a0, hP1⟩ := id hP
  obtain ⟨ob, cb, rfl, b1, b2, b0, hV1⟩ := id hV
  obtain ⟨oc, cc, rfl, c1, c2, c0, hL1⟩ := id hL
  obtain ⟨od, cd, rfl, d1, d2, d0, hC1⟩ := id hC
  obtain ⟨oe, ce, rfl, e1, e2, e0, hR1⟩ := id hR
  obtain ⟨ma, mb, md, rfl, hok, _, ⟨_, _, _, he, ⟨o1, t1, rfl, _⟩, ⟨o2, t2, rfl, _⟩, ⟨o3, t3, rfl, _⟩⟩⟩ := hM
  cases he
  exact Ok.of_fn hm noT 0 t_hydrantref19_Off (args := [.v (.agg ⟨[.int .i64 w.epoch, .int .i64 w.current, .int .i64 w.lock, .slice oa w.pins.length ca, .slice ob w.versions.length cb, .slice oc w.listens.length cc, .slice od w.counts.length cd, .slice oe w.limbo.length ce]⟩), .v (.agg ⟨m.cs (.slice o1 m.op.config.listens.length t1) (.slice o2 m.op.config.routes.length t2) (.slice o3 m.op.config.clusters.length t3)⟩)]) (by
    repeat ((conv => whnf); first | refine qza ?_ | refine qzb ?_ | refine qzc ?_ | refine qzd ?_ | refine qze ?_ | refine fun (_ : Nat) => ?_ | refine fun (_ : Option Addr) (_ : Nat) => ?_)
    conv => whnf
    refine .inl ⟨_, ok_rSuits _ hw0 hM0 hsn hb, ?_⟩
    repeat ((conv => whnf); first | refine qza ?_ | refine qzb ?_ | refine qzc ?_ | refine qzd ?_ | refine qze ?_ | refine fun (_ : Nat) => ?_ | refine fun (_ : Option Addr) (_ : Nat) => ?_)
    conv => whnf
    refine ⟨fun z1 => ?_, fun z1 => ?_⟩
    · repeat ((conv => whnf); first | refine qza ?_ | refine qzb ?_ | refine qzc ?_ | refine qzd ?_ | refine qze ?_ | refine fun (_ : Nat) => ?_ | refine fun (_ : Option Addr) (_ : Nat) => ?_)
      conv => whnf
      intro g2 hg
      have hf := nb1 z1
      refine ⟨[.int .i64 w.epoch, .int .i64 w.current, .int .i64 w.lock, .slice oa w.pins.length ca, .slice ob w.versions.length cb, .slice oc w.listens.length cc, .slice od w.counts.length cd, .slice oe w.limbo.length ce], ?_, ?_⟩
      · rw [offE, hf, if_neg (by simp)]; rfl
      · rw [offW, hf, if_neg (by simp)]; exact rWo_mono _ _ _ _ hg hw0
    have hs := nb0 z1
    obtain ⟨v0, gr0, en0, hS⟩ := suitB_iff.1 hs
    have hth := hS.thread
    obtain ⟨x, hx⟩ := getL_of (l := w.pins) (i := m.thread.toNat) (by omega)
    repeat ((conv => whnf); first | refine qza ?_ | refine qzb ?_ | refine qzc ?_ | refine qzd ?_ | refine qze ?_ | refine fun (_ : Nat) => ?_ | refine fun (_ : Option Addr) (_ : Nat) => ?_)
    refine .inr ((ok_rClone _ hw0 hb).mono fun v g1 hg1 hO => ?_)
    obtain ⟨cs, T, rfl, hT⟩ := hO
    have hT0 := hT
    obtain ⟨p, q, r, s, t, rfl, _, _, h0, h1, h2, h3, h4⟩ := hT0
    obtain ⟨oa', ca', rfl⟩ := oSl_val h0
    obtain ⟨ob', cb', rfl⟩ := oSl_val h1
    obtain ⟨oc', cc', rfl⟩ := oSl_val h2
    obtain ⟨od', cd', rfl⟩ := oSl_val h3
    obtain ⟨oe', ce', rfl⟩ := oSl_val h4
    obtain ⟨bk, cap, hv, b5, j5, bc, ty5, ⟨hA, p1, p2, p3, p4⟩, _, hk5⟩ := oWo_pin hT hx (x' := 0) (by decide)
    cases hv
    cases hA
    repeat ((conv => whnf); first | refine qza ?_ | refine qzb ?_ | refine qzc ?_ | refine qzd ?_ | refine qze ?_ | refine fun (_ : Nat) => ?_ | refine fun (_ : Option Addr) (_ : Nat) => ?_)
    conv => whnf
    refine ⟨_, rfl, ⟨by omega, by omega⟩, ?_⟩
    repeat ((conv => whnf); first | refine qza ?_ | refine qzb ?_ | refine qzc ?_ | refine qzd ?_ | refine qze ?_ | refine fun (_ : Nat) => ?_ | refine fun (_ : Option Addr) (_ : Nat) => ?_)
    conv => whnf
    refine ⟨bk, m.thread.toNat, bc, ty5, ⟨by simp [addr_add], p1, p2, p3, p4⟩, ?_⟩
    repeat ((conv => whnf); first | refine qza ?_ | refine qzb ?_ | refine qzc ?_ | refine qzd ?_ | refine qze ?_ | refine fun (_ : Nat) => ?_ | refine fun (_ : Option Addr) (_ : Nat) => ?_)
    conv => whnf
    refine fun g6 u6 => ?_
    have hF := oWo_rd (hk5 g6 u6)
    repeat ((conv => whnf); first | refine qza ?_ | refine qzb ?_ | refine qzc ?_ | refine qzd ?_ | refine qze ?_ | refine fun (_ : Nat) => ?_ | refine fun (_ : Option Addr) (_ : Nat) => ?_)
    conv => whnf
    intro g2 hg
    refine ⟨[.int .i64 w.epoch, .int .i64 w.current, .int .i64 w.lock, .slice (some ⟨bk, 0, none⟩) w.pins.length ca', .slice ob' w.versions.length cb', .slice oc' w.listens.length cc', .slice od' w.counts.length cd', .slice oe' w.limbo.length ce'], ?_, ?_⟩
    · rw [offE, hs, if_pos rfl]; rfl
    · rw [offW, hs, if_pos rfl]; exact rWo_mono _ _ _ _ hg hF)
end Go.Proofs.YtkkhdnddplkobaaGreat


/- Pins: the steps' table. -/
namespace Go.Proofs.YtkkhdnddplkobaaGreat
open Go.Proofs.YtkkhdnddplkobaaGreat.Sx Go.RowKit
def StepP (w : Wd) (m : Mach) (v : Value) (g' : GW) : Prop := ∃ cs ms, v = .tuple #[.agg ⟨cs⟩, .agg ⟨ms⟩, .agg ⟨(pinE w m).cs⟩] ∧ rWo g' cs (pinW w m) ∧ rMach g' ms (pinM w m)
def tPi : List (Nat × FnI) := [(n_pin_steps, f_pin_steps), (n_pin_steps_1, f_pin_steps_1), (n_pin_steps_2, f_pin_steps_2), (n_pin_steps_3, f_pin_steps_3), (n_pin_load, f_pin_load)]
theorem tPi_ok : TblOk Tryz.prog tPi := by
  intro x hx
  simp only [tPi, List.mem_cons, List.not_mem_nil, or_false] at hx
  rcases hx with rfl | rfl | rfl | rfl | rfl
  · exact ⟨_, _, t_pin_steps⟩
  · exact ⟨_, _, t_pin_steps_1⟩
  · exact ⟨_, _, t_pin_steps_2⟩
  · exact ⟨_, _, t_pin_steps_3⟩
  · exact ⟨_, _, t_pin_load⟩
def pinEs : List (Int × Value) := [(0, .agg #[.func (.func n_pin_steps_1) #[] #[]]), (1, .agg #[.func (.func n_pin_steps_2) #[] #[]]), (2, .agg #[.func (.func n_pin_steps_3) #[] #[]])]
theorem ok_steps (g : GW) : Ok Tryz.prog n_pin_steps [] g fun v g' => ∃ r, v = .map (some r) ∧ FzM g' r .i64 pinEs :=
  Ok.of_fn hm noT 0 t_pin_steps (args := []) (by
    repeat ((conv => whnf); first | refine qza ?_ | refine qzb ?_ | refine qzc ?_ | refine qzd ?_ | refine qze ?_ | refine fun (_ : Nat) => ?_ | refine fun (_ : Option Addr) (_ : Nat) => ?_)
    conv => whnf
    refine fun g1 hg1 hf => ?_
    repeat ((conv => whnf); first | refine qza ?_ | refine qzb ?_ | refine qzc ?_ | refine qzd ?_ | refine qze ?_ | refine fun (_ : Nat) => ?_ | refine fun (_ : Option Addr) (_ : Nat) => ?_)
    conv => whnf
    intro g2 hg
    exact ⟨_, rfl, hf.mono hg⟩)
end Go.Proofs.YtkkhdnddplkobaaGreat


/- Pins: a step, another place. -/
namespace Go.Proofs.YtkkhdnddplkobaaGreat
open Go.Proofs.YtkkhdnddplkobaaGreat.Sx Go.RowKit
set_option maxHeartbeats 4000000 in
theorem ok_Stepn (g : GW) {cs ms : List Value} {w : Wd} {m : Mach} (hw : rWo g cs w) (hM : rMach g ms m) (hsn : SnW w) (hb : BgW 1000000 w) (hp : m.pc ≠ 0 ∧ m.pc ≠ 1 ∧ m.pc ≠ 2) : Ok Tryz.prog n_pin_Step [.agg ⟨cs⟩, .agg ⟨ms⟩] g (StepP w m) := by
  have hw0 := hw
  have hM0 := hM
  obtain ⟨a, b, c, d, e, rfl, ⟨i1, i2, i3⟩, hP, hV, hL, hC, hR⟩ := hw
  obtain ⟨oa, ca, rfl, a1, a2, a0, hP1⟩ := id hP
  obtain ⟨ob, cb, rfl, b1, b2, b0, hV1⟩ := id hV
  obtain ⟨oc, cc, rfl, c1, c2, c0, hL1⟩ := id hL
  obtain ⟨od, cd, rfl, d1, d2, d0, hC1⟩ := id hC
  obtain ⟨oe, ce, rfl, e1, e2, e0, hR1⟩ := id hR
  obtain ⟨ma, mb, md, rfl, hok, hop, hcf⟩ := hM
  obtain ⟨_, _, _, he, ⟨o1, t1, rfl, _⟩, ⟨o2, t2, rfl, _⟩, ⟨o3, t3, rfl, _⟩⟩ := id hcf
  cases he
  exact Ok.of_fn hm tPi_ok 3 t_pin_Step (args := [.v (.agg ⟨[.int .i64 w.epoch, .int .i64 w.current, .int .i64 w.lock, .slice oa w.pins.length ca, .slice ob w.versions.length cb, .slice oc w.listens.length cc, .slice od w.counts.length cd, .slice oe w.limbo.length ce]⟩), .v (.agg ⟨m.cs (.slice o1 m.op.config.listens.length t1) (.slice o2 m.op.config.routes.length t2) (.slice o3 m.op.config.clusters.length t3)⟩)]) (by
    repeat ((conv => whnf); first | refine qza ?_ | refine qzb ?_ | refine qzc ?_ | refine qzd ?_ | refine qze ?_ | refine fun (_ : Nat) => ?_ | refine fun (_ : Option Addr) (_ : Nat) => ?_)
    refine .inr ((ok_steps _).mono fun v g1 hg1 hF => ?_)
    obtain ⟨r, rfl, hF⟩ := hF
    repeat ((conv => whnf); first | refine qza ?_ | refine qzb ?_ | refine qzc ?_ | refine qzd ?_ | refine qze ?_ | refine fun (_ : Nat) => ?_ | refine fun (_ : Option Addr) (_ : Nat) => ?_)
    conv => whnf
    refine ⟨pinEs, ⟨rfl, hF⟩, ?_⟩
    have q0 : (m.pc == 0) = false := by simp; omega
    have q1 : (m.pc == 1) = false := by simp; omega
    have q2 : (m.pc == 2) = false := by simp; omega
    conv => whnf
    refine ⟨none, by simp only [pinEs, mGet, q0, q1, q2], ?_⟩
    repeat ((conv => whnf); first | refine qza ?_ | refine qzb ?_ | refine qzc ?_ | refine qzd ?_ | refine qze ?_ | refine fun (_ : Nat) => ?_ | refine fun (_ : Option Addr) (_ : Nat) => ?_)
    conv => whnf
    refine ⟨fun _ => ?_, fun h => nomatch h⟩
    repeat ((conv => whnf); first | refine qza ?_ | refine qzb ?_ | refine qzc ?_ | refine qzd ?_ | refine qze ?_ | refine fun (_ : Nat) => ?_ | refine fun (_ : Option Addr) (_ : Nat) => ?_)
    conv => whnf
    intro g2 hg
    have hE : pinE w m = ev0 := by unfold pinE; split; rw [if_neg (by omega), if_neg (by omega)]; rfl
    have hWd : pinW w m = w := by unfold pinW; rw [if_neg (by omega)]
    have hMm : pinM w m = m := by unfold pinM; split; rw [if_neg (by omega), if_neg (by omega), if_neg (by omega)]; rfl
    exact ⟨_, _, by rw [hE]; rfl, by rw [hWd]; exact rWo_mono _ _ _ _ (GW.trans hg1 hg) hw0, by rw [hMm]; exact rMach_mono _ _ _ _ (GW.trans hg1 hg) hM0⟩)
end Go.Proofs.YtkkhdnddplkobaaGreat


/- Pins: a step, place 0. -/
namespace Go.Proofs.YtkkhdnddplkobaaGreat
open Go.Proofs.YtkkhdnddplkobaaGreat.Sx Go.RowKit
set_option maxHeartbeats 4000000 in
theorem ok_Step0 (g : GW) {cs ms : List Value} {w : Wd} {m : Mach} (hw : rWo g cs w) (hM : rMach g ms m) (hsn : SnW w) (hb : BgW 1000000 w) (h0 : m.pc = 0) : Ok Tryz.prog n_pin_Step [.agg ⟨cs⟩, .agg ⟨ms⟩] g (StepP w m) := by
  have hw0 := hw
  have hM0 := hM
  obtain ⟨a, b, c, d, e, rfl, ⟨i1, i2, i3⟩, hP, hV, hL, hC, hR⟩ := hw
  obtain ⟨oa, ca, rfl, a1, a2, a0, hP1⟩ := id hP
  obtain ⟨ob, cb, rfl, b1, b2, b0, hV1⟩ := id hV
  obtain ⟨oc, cc, rfl, c1, c2, c0, hL1⟩ := id hL
  obtain ⟨od, cd, rfl, d1, d2, d0, hC1⟩ := id hC
  obtain ⟨oe, ce, rfl, e1, e2, e0, hR1⟩ := id hR
  obtain ⟨ma, mb, md, rfl, hok, hop, hcf⟩ := hM
  obtain ⟨_, _, _, he, ⟨o1, t1, rfl, _⟩, ⟨o2, t2, rfl, _⟩, ⟨o3, t3, rfl, _⟩⟩ := id hcf
  cases he
  exact Ok.of_fn hm tPi_ok 3 t_pin_Step (args := [.v (.agg ⟨[.int .i64 w.epoch, .int .i64 w.current, .int .i64 w.lock, .slice oa w.pins.length ca, .slice ob w.versions.length cb, .slice oc w.listens.length cc, .slice od w.counts.length cd, .slice oe w.limbo.length ce]⟩), .v (.agg ⟨m.cs (.slice o1 m.op.config.listens.length t1) (.slice o2 m.op.config.routes.length t2) (.slice o3 m.op.config.clusters.length t3)⟩)]) (by
    repeat ((conv => whnf); first | refine qza ?_ | refine qzb ?_ | refine qzc ?_ | refine qzd ?_ | refine qze ?_ | refine fun (_ : Nat) => ?_ | refine fun (_ : Option Addr) (_ : Nat) => ?_)
    refine .inr ((ok_steps _).mono fun v g1 hg1 hF => ?_)
    obtain ⟨r, rfl, hF⟩ := hF
    repeat ((conv => whnf); first | refine qza ?_ | refine qzb ?_ | refine qzc ?_ | refine qzd ?_ | refine qze ?_ | refine fun (_ : Nat) => ?_ | refine fun (_ : Option Addr) (_ : Nat) => ?_)
    conv => whnf
    refine ⟨pinEs, ⟨rfl, hF⟩, ?_⟩
    have hw1 := rWo_mono _ _ _ _ hg1 hw0
    have hM1 := rMach_mono _ _ _ _ hg1 hM0
    conv => whnf
    refine ⟨some (.agg #[.func (.func n_pin_steps_1) #[] #[]]), by rw [h0]; rfl, ?_⟩
    repeat ((conv => whnf); first | refine qza ?_ | refine qzb ?_ | refine qzc ?_ | refine qzd ?_ | refine qze ?_ | refine fun (_ : Nat) => ?_ | refine fun (_ : Option Addr) (_ : Nat) => ?_)
    conv => whnf
    refine ⟨fun h => (nomatch h), fun _ => ?_⟩
    repeat ((conv => whnf); first | refine qza ?_ | refine qzb ?_ | refine qzc ?_ | refine qzd ?_ | refine qze ?_ | refine fun (_ : Nat) => ?_ | refine fun (_ : Option Addr) (_ : Nat) => ?_)
    conv => whnf
    refine .inl ⟨_, ok_Suits _ hw1 hM1 hsn hb, ?_⟩
    repeat ((conv => whnf); first | refine qza ?_ | refine qzb ?_ | refine qzc ?_ | refine qzd ?_ | refine qze ?_ | refine fun (_ : Nat) => ?_ | refine fun (_ : Option Addr) (_ : Nat) => ?_)
    conv => whnf
    refine ⟨fun z1 => ?_, fun z1 => ?_⟩
    · repeat ((conv => whnf); first | refine qza ?_ | refine qzb ?_ | refine qzc ?_ | refine qzd ?_ | refine qze ?_ | refine fun (_ : Nat) => ?_ | refine fun (_ : Option Addr) (_ : Nat) => ?_)
      conv => whnf
      intro g2 hg
      have hf := nb1 z1
      have hE : pinE w m = ev0 := by unfold pinE; rw [if_neg (by rw [hf]; exact Bool.noConfusion)]
      have hWd : pinW w m = w := by unfold pinW; rw [if_neg (by rw [hf]; exact fun h => Bool.noConfusion h.1)]
      have hMm : pinM w m = m := by unfold pinM; rw [if_neg (by rw [hf]; exact Bool.noConfusion)]
      exact ⟨_, _, by rw [hE]; rfl, by rw [hWd]; exact rWo_mono _ _ _ _ hg hw1, by rw [hMm]; exact rMach_mono _ _ _ _ hg hM1⟩
    have hs := nb0 z1
    repeat ((conv => whnf); first | refine qza ?_ | refine qzb ?_ | refine qzc ?_ | refine qzd ?_ | refine qze ?_ | refine fun (_ : Nat) => ?_ | refine fun (_ : Option Addr) (_ : Nat) => ?_)
    refine .inr ((ok_Clone _ hw1 hb).mono fun v g3 hg3 hO => ?_)
    obtain ⟨cs, T, rfl, hT⟩ := hO
    have hT0 := hT
    obtain ⟨p, q, r', s', t', rfl, _, _, h5, h1, h2, h3, h4⟩ := hT0
    obtain ⟨oa', ca', rfl⟩ := oSl_val h5
    obtain ⟨ob', cb', rfl⟩ := oSl_val h1
    obtain ⟨oc', cc', rfl⟩ := oSl_val h2
    obtain ⟨od', cd', rfl⟩ := oSl_val h3
    obtain ⟨oe', ce', rfl⟩ := oSl_val h4
    clear hw0 hP hV hL hC hR hP1 hV1 hL1 hC1 hR1 a0 b0 c0 d0 e0 h1 h2 h3 h4 h5
    repeat ((conv => whnf); first | refine qza ?_ | refine qzb ?_ | refine qzc ?_ | refine qzd ?_ | refine qze ?_ | refine fun (_ : Nat) => ?_ | refine fun (_ : Option Addr) (_ : Nat) => ?_)
    conv => whnf
    refine ⟨k_pin_steps_1, ?_⟩
    repeat ((conv => whnf); first | refine qza ?_ | refine qzb ?_ | refine qzc ?_ | refine qzd ?_ | refine qze ?_ | refine fun (_ : Nat) => ?_ | refine fun (_ : Option Addr) (_ : Nat) => ?_)
    conv => whnf
    intro g2 hg
    have hE : pinE w m = ⟨m.thread, 0, 1, 1, -1, false, w.epoch, false, false, false, ans0⟩ := by unfold pinE; rw [if_pos hs, if_neg (by omega), if_pos (by omega)]
    have hWd : pinW w m = w := by unfold pinW; rw [if_neg (by omega)]
    have hMm : pinM w m = { m with epoch := w.epoch, pc := 1 } := by unfold pinM; rw [if_pos hs, if_pos h0]
    refine ⟨_, _, by rw [hE]; rfl, by rw [hWd]; exact rWo_mono _ _ _ _ hg (oWo_rd hT), ?_⟩
    rw [hMm]
    exact ⟨_, _, _, rfl, { hok with epoch := i1, pc := show InR (1 : Int) by decide }, hop, rConfig_mono _ _ _ _ (GW.trans (GW.trans hg1 hg3) hg) hcf⟩)
end Go.Proofs.YtkkhdnddplkobaaGreat


/- Pins: a step, place 1. -/
namespace Go.Proofs.YtkkhdnddplkobaaGreat
open Go.Proofs.YtkkhdnddplkobaaGreat.Sx Go.RowKit
set_option maxHeartbeats 4000000 in
theorem ok_Step1 (g : GW) {cs ms : List Value} {w : Wd} {m : Mach} (hw : rWo g cs w) (hM : rMach g ms m) (hsn : SnW w) (hb : BgW 1000000 w) (h0 : m.pc = 1) : Ok Tryz.prog n_pin_Step [.agg ⟨cs⟩, .agg ⟨ms⟩] g (StepP w m) := by
  have hw0 := hw
  have hM0 := hM
  obtain ⟨a, b, c, d, e, rfl, ⟨i1, i2, i3⟩, hP, hV, hL, hC, hR⟩ := hw
  obtain ⟨oa, ca, rfl, a1, a2, a0, hP1⟩ := id hP
  obtain ⟨ob, cb, rfl, b1, b2, b0, hV1⟩ := id hV
  obtain ⟨oc, cc, rfl, c1, c2, c0, hL1⟩ := id hL
  obtain ⟨od, cd, rfl, d1, d2, d0, hC1⟩ := id hC
  obtain ⟨oe, ce, rfl, e1, e2, e0, hR1⟩ := id hR
  obtain ⟨ma, mb, md, rfl, hok, hop, hcf⟩ := hM
  obtain ⟨_, _, _, he, ⟨o1, t1, rfl, _⟩, ⟨o2, t2, rfl, _⟩, ⟨o3, t3, rfl, _⟩⟩ := id hcf
  cases he
  exact Ok.of_fn hm tPi_ok 3 t_pin_Step (args := [.v (.agg ⟨[.int .i64 w.epoch, .int .i64 w.current, .int .i64 w.lock, .slice oa w.pins.length ca, .slice ob w.versions.length cb, .slice oc w.listens.length cc, .slice od w.counts.length cd, .slice oe w.limbo.length ce]⟩), .v (.agg ⟨m.cs (.slice o1 m.op.config.listens.length t1) (.slice o2 m.op.config.routes.length t2) (.slice o3 m.op.config.clusters.length t3)⟩)]) (by
    repeat ((conv => whnf); first | refine qza ?_ | refine qzb ?_ | refine qzc ?_ | refine qzd ?_ | refine qze ?_ | refine fun (_ : Nat) => ?_ | refine fun (_ : Option Addr) (_ : Nat) => ?_)
    refine .inr ((ok_steps _).mono fun v g1 hg1 hF => ?_)
    obtain ⟨r, rfl, hF⟩ := hF
    repeat ((conv => whnf); first | refine qza ?_ | refine qzb ?_ | refine qzc ?_ | refine qzd ?_ | refine qze ?_ | refine fun (_ : Nat) => ?_ | refine fun (_ : Option Addr) (_ : Nat) => ?_)
    conv => whnf
    refine ⟨pinEs, ⟨rfl, hF⟩, ?_⟩
    have hw1 := rWo_mono _ _ _ _ hg1 hw0
    have hM1 := rMach_mono _ _ _ _ hg1 hM0
    conv => whnf
    refine ⟨some (.agg #[.func (.func n_pin_steps_2) #[] #[]]), by rw [h0]; rfl, ?_⟩
    repeat ((conv => whnf); first | refine qza ?_ | refine qzb ?_ | refine qzc ?_ | refine qzd ?_ | refine qze ?_ | refine fun (_ : Nat) => ?_ | refine fun (_ : Option Addr) (_ : Nat) => ?_)
    conv => whnf
    refine ⟨fun h => (nomatch h), fun _ => ?_⟩
    repeat ((conv => whnf); first | refine qza ?_ | refine qzb ?_ | refine qzc ?_ | refine qzd ?_ | refine qze ?_ | refine fun (_ : Nat) => ?_ | refine fun (_ : Option Addr) (_ : Nat) => ?_)
    conv => whnf
    refine .inl ⟨_, ok_Suits _ hw1 hM1 hsn hb, ?_⟩
    repeat ((conv => whnf); first | refine qza ?_ | refine qzb ?_ | refine qzc ?_ | refine qzd ?_ | refine qze ?_ | refine fun (_ : Nat) => ?_ | refine fun (_ : Option Addr) (_ : Nat) => ?_)
    conv => whnf
    refine ⟨fun z1 => ?_, fun z1 => ?_⟩
    · repeat ((conv => whnf); first | refine qza ?_ | refine qzb ?_ | refine qzc ?_ | refine qzd ?_ | refine qze ?_ | refine fun (_ : Nat) => ?_ | refine fun (_ : Option Addr) (_ : Nat) => ?_)
      conv => whnf
      intro g2 hg
      have hf := nb1 z1
      have hE : pinE w m = ev0 := by unfold pinE; rw [if_neg (by rw [hf]; exact Bool.noConfusion)]
      have hWd : pinW w m = w := by unfold pinW; rw [if_neg (by rw [hf]; exact fun h => Bool.noConfusion h.1)]
      have hMm : pinM w m = m := by unfold pinM; rw [if_neg (by rw [hf]; exact Bool.noConfusion)]
      exact ⟨_, _, by rw [hE]; rfl, by rw [hWd]; exact rWo_mono _ _ _ _ hg hw1, by rw [hMm]; exact rMach_mono _ _ _ _ hg hM1⟩
    have hs := nb0 z1
    repeat ((conv => whnf); first | refine qza ?_ | refine qzb ?_ | refine qzc ?_ | refine qzd ?_ | refine qze ?_ | refine fun (_ : Nat) => ?_ | refine fun (_ : Option Addr) (_ : Nat) => ?_)
    refine .inr ((ok_Clone _ hw1 hb).mono fun v g3 hg3 hO => ?_)
    obtain ⟨cs, T, rfl, hT⟩ := hO
    have hT0 := hT
    obtain ⟨p, q, r', s', t', rfl, _, _, h5, h1, h2, h3, h4⟩ := hT0
    obtain ⟨oa', ca', rfl⟩ := oSl_val h5
    obtain ⟨ob', cb', rfl⟩ := oSl_val h1
    obtain ⟨oc', cc', rfl⟩ := oSl_val h2
    obtain ⟨od', cd', rfl⟩ := oSl_val h3
    obtain ⟨oe', ce', rfl⟩ := oSl_val h4
    have hth := (suitB_iff.1 hs).choose_spec.choose_spec.choose_spec.thread
    obtain ⟨x, hx⟩ := getL_of (l := w.pins) (i := m.thread.toNat) (by omega)
    obtain ⟨bk, cap, hv, b5, j5, bc, ty5, ⟨hA, p1, p2, p3, p4⟩, _, hk5⟩ := oWo_pin hT hx (x' := IntKind.i64.wrap (m.epoch + 1)) (wrap_in _)
    cases hv
    cases hA
    clear hw0 hP hV hL hC hR hP1 hV1 hL1 hC1 hR1 a0 b0 c0 d0 e0 h1 h2 h3 h4 h5
    repeat ((conv => whnf); first | refine qza ?_ | refine qzb ?_ | refine qzc ?_ | refine qzd ?_ | refine qze ?_ | refine fun (_ : Nat) => ?_ | refine fun (_ : Option Addr) (_ : Nat) => ?_)
    conv => whnf
    refine ⟨k_pin_steps_2, ?_⟩
    repeat ((conv => whnf); first | refine qza ?_ | refine qzb ?_ | refine qzc ?_ | refine qzd ?_ | refine qze ?_ | refine fun (_ : Nat) => ?_ | refine fun (_ : Option Addr) (_ : Nat) => ?_)
    conv => whnf
    refine ⟨_, rfl, ⟨by omega, by omega⟩, ?_⟩
    repeat ((conv => whnf); first | refine qza ?_ | refine qzb ?_ | refine qzc ?_ | refine qzd ?_ | refine qze ?_ | refine fun (_ : Nat) => ?_ | refine fun (_ : Option Addr) (_ : Nat) => ?_)
    conv => whnf
    refine ⟨bk, m.thread.toNat, bc, ty5, ⟨by simp [addr_add], Nat.le_trans hg1.1 p1, p2, p3, p4⟩, ?_⟩
    repeat ((conv => whnf); first | refine qza ?_ | refine qzb ?_ | refine qzc ?_ | refine qzd ?_ | refine qze ?_ | refine fun (_ : Nat) => ?_ | refine fun (_ : Option Addr) (_ : Nat) => ?_)
    conv => whnf
    refine fun g6 u6 => ?_
    have hF := oWo_rd (hk5 g6 u6)
    have hle6 : g1 ≤ g6 := u6.le hg3 (fun h => by have := g1.wf _ h; omega)
    repeat ((conv => whnf); first | refine qza ?_ | refine qzb ?_ | refine qzc ?_ | refine qzd ?_ | refine qze ?_ | refine fun (_ : Nat) => ?_ | refine fun (_ : Option Addr) (_ : Nat) => ?_)
    conv => whnf
    intro g2 hg
    have hE : pinE w m = ⟨m.thread, 0, 2, 2, -1, false, IntKind.i64.wrap (m.epoch + 1), false, false, false, ans0⟩ := by unfold pinE; rw [if_pos hs, if_pos h0]
    have hWd : pinW w m = { w with pins := w.pins.set m.thread.toNat (IntKind.i64.wrap (m.epoch + 1)) } := by unfold pinW; rw [if_pos ⟨hs, h0⟩]
    have hMm : pinM w m = { m with pc := 2 } := by unfold pinM; rw [if_pos hs, if_neg (by omega), if_pos h0]
    refine ⟨_, _, by rw [hE]; rfl, by rw [hWd]; exact rWo_mono _ _ _ _ hg hF, ?_⟩
    rw [hMm]
    exact ⟨_, _, _, rfl, { hok with pc := show InR (2 : Int) by decide }, hop, rConfig_mono _ _ _ _ (GW.trans (GW.trans hg1 hle6) hg) hcf⟩)
end Go.Proofs.YtkkhdnddplkobaaGreat

