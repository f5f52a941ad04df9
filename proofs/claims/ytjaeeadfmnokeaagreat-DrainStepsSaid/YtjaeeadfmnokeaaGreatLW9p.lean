/- Machines: which ones suit a world. -/
import Derived.Test.YtjaeeadfmnokeaaGreatLW9n
import Derived.Test.YtjaeeadfmnokeaaGreatPl
import Derived.Test.YtjaeeadfmnokeaaGreatLW9h
namespace Go.Proofs.YtjaeeadfmnokeaaGreat
open Go.Proofs.YtjaeeadfmnokeaaGreat.Sx Go.RowKit
theorem ok_pin_in (g : GW) (i n : Int) : OkV Tryz.prog n_pin_in [.int .i64 i, .int .i64 n] g (.bool (inB i n)) :=
  Ok.of_fn hm noT 0 t_pin_in (args := [.v (.int .i64 i), .v (.int .i64 n)]) (by
    repeat ((conv => whnf); first | apply qza | apply qzb | apply qzc | apply qzd | apply qze | intro (_ : Nat) | intro (_ : Option Addr) (_ : Nat))
    conv => whnf
    refine ⟨fun h => ?_, fun h => ?_⟩
    · repeat ((conv => whnf); first | apply qza | apply qzb | apply qzc | apply qzd | apply qze | intro (_ : Nat) | intro (_ : Option Addr) (_ : Nat))
      conv => whnf
      intro g2 hg
      unfold inB; rw [h]; rfl
    · repeat ((conv => whnf); first | apply qza | apply qzb | apply qzc | apply qzd | apply qze | intro (_ : Nat) | intro (_ : Option Addr) (_ : Nat))
      conv => whnf
      intro g2 hg
      unfold inB; rw [h]; rfl)
theorem ok_ref_in (g : GW) (i n : Int) : OkV Tryz.prog n_hydrantref19_in [.int .i64 i, .int .i64 n] g (.bool (inB i n)) :=
  Ok.of_fn hm noT 0 t_hydrantref19_in (args := [.v (.int .i64 i), .v (.int .i64 n)]) (by
    repeat ((conv => whnf); first | apply qza | apply qzb | apply qzc | apply qzd | apply qze | intro (_ : Nat) | intro (_ : Option Addr) (_ : Nat))
    conv => whnf
    refine ⟨fun h => ?_, fun h => ?_⟩
    · repeat ((conv => whnf); first | apply qza | apply qzb | apply qzc | apply qzd | apply qze | intro (_ : Nat) | intro (_ : Option Addr) (_ : Nat))
      conv => whnf
      intro g2 hg
      unfold inB; rw [h]; rfl
    · repeat ((conv => whnf); first | apply qza | apply qzb | apply qzc | apply qzd | apply qze | intro (_ : Nat) | intro (_ : Option Addr) (_ : Nat))
      conv => whnf
      intro g2 hg
      unfold inB; rw [h]; rfl)
theorem ok_Suits (g : GW) {cs ms : List Value} {w : Wd} {m : Mach} (hw : rWo g cs w) (hM : rMach g ms m) (hsn : SnW w) (hb : BgW 1000000 w) : OkV Tryz.prog n_pin_Suits [.agg ⟨cs⟩, .agg ⟨ms⟩] g (.bool (suitB w m)) := by
  have hw0 := hw
  obtain ⟨a, b, c, d, e, rfl, ⟨i1, i2, i3⟩, hP, hV, hL, hC, hR⟩ := hw
  obtain ⟨oa, ca, rfl, a1, a2, a0, hP1⟩ := id hP
  obtain ⟨ob, cb, rfl, b1, b2, b0, hV1⟩ := id hV
  obtain ⟨oc, cc, rfl, c1, c2, c0, hL1⟩ := id hL
  obtain ⟨od, cd, rfl, d1, d2, d0, hC1⟩ := id hC
  obtain ⟨oe, ce, rfl, e1, e2, e0, hR1⟩ := id hR
  obtain ⟨ma, mb, md, rfl, hok, _, ⟨_, _, _, he, ⟨o1, t1, rfl, _⟩, ⟨o2, t2, rfl, _⟩, ⟨o3, t3, rfl, _⟩⟩⟩ := hM
  cases he
  have hLl := hb.1.2.2.1
  exact Ok.of_fn hm noT 0 t_pin_Suits (args := [.v (.agg ⟨[.int .i64 w.epoch, .int .i64 w.current, .int .i64 w.lock, .slice oa w.pins.length ca, .slice ob w.versions.length cb, .slice oc w.listens.length cc, .slice od w.counts.length cd, .slice oe w.limbo.length ce]⟩), .v (.agg ⟨m.cs (.slice o1 m.op.config.listens.length t1) (.slice o2 m.op.config.routes.length t2) (.slice o3 m.op.config.clusters.length t3)⟩)]) (by
    repeat ((conv => whnf); first | apply qza | apply qzb | apply qzc | apply qzd | apply qze | intro (_ : Nat) | intro (_ : Option Addr) (_ : Nat))
    conv => whnf
    refine .inl ⟨_, ok_wIs _ hw0 hsn, ?_⟩
    repeat ((conv => whnf); first | apply qza | apply qzb | apply qzc | apply qzd | apply qze | intro (_ : Nat) | intro (_ : Option Addr) (_ : Nat))
    conv => whnf
    refine ⟨fun z1 => ?_, fun z1 => ?_⟩
    · repeat ((conv => whnf); first | apply qza | apply qzb | apply qzc | apply qzd | apply qze | intro (_ : Nat) | intro (_ : Option Addr) (_ : Nat))
      conv => whnf
      intro g2 hg
      rw [suitB_f fun ⟨v, gr, en, h⟩ => by rw [h.right] at z1; cases z1]
    repeat ((conv => whnf); first | apply qza | apply qzb | apply qzc | apply qzd | apply qze | intro (_ : Nat) | intro (_ : Option Addr) (_ : Nat))
    conv => whnf
    refine .inl ⟨_, ok_pin_in _ _ _, ?_⟩
    repeat ((conv => whnf); first | apply qza | apply qzb | apply qzc | apply qzd | apply qze | intro (_ : Nat) | intro (_ : Option Addr) (_ : Nat))
    conv => whnf
    refine ⟨fun z2 => ?_, fun z2 => ?_⟩
    · repeat ((conv => whnf); first | apply qza | apply qzb | apply qzc | apply qzd | apply qze | intro (_ : Nat) | intro (_ : Option Addr) (_ : Nat))
      conv => whnf
      intro g2 hg
      rw [suitB_f fun ⟨v, gr, en, h⟩ => by rw [inB_iff.2 h.thread] at z2; cases z2]
    repeat ((conv => whnf); first | apply qza | apply qzb | apply qzc | apply qzd | apply qze | intro (_ : Nat) | intro (_ : Option Addr) (_ : Nat))
    conv => whnf
    refine ⟨fun z3 => ?_, fun z3 => ?_⟩
    · repeat ((conv => whnf); first | apply qza | apply qzb | apply qzc | apply qzd | apply qze | intro (_ : Nat) | intro (_ : Option Addr) (_ : Nat))
      conv => whnf
      intro g2 hg
      rw [suitB_f fun ⟨v, gr, en, h⟩ => by rw [h.done] at z3; cases z3]
    repeat ((conv => whnf); first | apply qza | apply qzb | apply qzc | apply qzd | apply qze | intro (_ : Nat) | intro (_ : Option Addr) (_ : Nat))
    conv => whnf
    refine .inl ⟨_, ok_pin_in _ _ _, ?_⟩
    repeat ((conv => whnf); first | apply qza | apply qzb | apply qzc | apply qzd | apply qze | intro (_ : Nat) | intro (_ : Option Addr) (_ : Nat))
    conv => whnf
    refine ⟨fun z4 => ?_, fun z4 => ?_⟩
    · repeat ((conv => whnf); first | apply qza | apply qzb | apply qzc | apply qzd | apply qze | intro (_ : Nat) | intro (_ : Option Addr) (_ : Nat))
      conv => whnf
      intro g2 hg
      rw [suitB_f fun ⟨v, gr, en, h⟩ => by
        have := (List.getElem?_eq_some_iff.1 h.ver.2).1
        rw [inB_iff.2 ⟨h.ver.1, by have := h.ver.1; omega⟩] at z4; cases z4]
    have k4 := inB_iff.1 (nb0 z4)
    obtain ⟨v, hv⟩ := getL_of (l := w.versions) (i := m.version.toNat) (by omega)
    obtain ⟨aV, rfl, ecV, hecV, ⟨va, vb, vd, vn, rfl, hS, hG⟩, hcV⟩ := hV1 _ v hv
    obtain ⟨og, cg, rfl, g1, g2, g0, hG1⟩ := id hG
    repeat ((conv => whnf); first | apply qza | apply qzb | apply qzc | apply qzd | apply qze | intro (_ : Nat) | intro (_ : Option Addr) (_ : Nat))
    conv => whnf
    refine ⟨aV, rfl, ⟨by omega, by omega⟩, ?_⟩
    conv => whnf
    refine ⟨_, hcV 3 _ rfl, ?_⟩
    repeat ((conv => whnf); first | apply qza | apply qzb | apply qzc | apply qzd | apply qze | intro (_ : Nat) | intro (_ : Option Addr) (_ : Nat))
    conv => whnf
    refine .inl ⟨_, ok_pin_in _ _ _, ?_⟩
    repeat ((conv => whnf); first | apply qza | apply qzb | apply qzc | apply qzd | apply qze | intro (_ : Nat) | intro (_ : Option Addr) (_ : Nat))
    conv => whnf
    refine ⟨fun z5 => ?_, fun z5 => ?_⟩
    · repeat ((conv => whnf); first | apply qza | apply qzb | apply qzc | apply qzd | apply qze | intro (_ : Nat) | intro (_ : Option Addr) (_ : Nat))
      conv => whnf
      intro g2 hg
      rw [suitB_f fun ⟨v', gr, en, h⟩ => by
        have := h.ver.2
        rw [hv] at this; cases this
        have := (List.getElem?_eq_some_iff.1 h.clu.2).1
        rw [inB_iff.2 ⟨h.clu.1, by have := h.clu.1; omega⟩] at z5; cases z5]
    have k5 := inB_iff.1 (nb0 z5)
    obtain ⟨gr, hgr⟩ := getL_of (l := v.groups) (i := m.cluster.toNat) (by omega)
    obtain ⟨aG, rfl, ecG, hecG, ⟨ve, rfl, _, hE⟩, hcG⟩ := hG1 _ gr hgr
    obtain ⟨oq, cq, rfl, q1, q2, q0, hE1⟩ := id hE
    repeat ((conv => whnf); first | apply qza | apply qzb | apply qzc | apply qzd | apply qze | intro (_ : Nat) | intro (_ : Option Addr) (_ : Nat))
    conv => whnf
    refine ⟨aG, rfl, ⟨by omega, by omega⟩, ?_⟩
    conv => whnf
    refine ⟨_, hcG 1 _ rfl, ?_⟩
    repeat ((conv => whnf); first | apply qza | apply qzb | apply qzc | apply qzd | apply qze | intro (_ : Nat) | intro (_ : Option Addr) (_ : Nat))
    conv => whnf
    refine .inl ⟨_, ok_pin_in _ _ _, ?_⟩
    repeat ((conv => whnf); first | apply qza | apply qzb | apply qzc | apply qzd | apply qze | intro (_ : Nat) | intro (_ : Option Addr) (_ : Nat))
    conv => whnf
    refine ⟨fun z6 => ?_, fun z6 => ?_⟩
    · repeat ((conv => whnf); first | apply qza | apply qzb | apply qzc | apply qzd | apply qze | intro (_ : Nat) | intro (_ : Option Addr) (_ : Nat))
      conv => whnf
      intro g2 hg
      rw [suitB_f fun ⟨v', gr', en, h⟩ => by
        have := h.ver.2
        rw [hv] at this; cases this
        have := h.clu.2
        rw [hgr] at this; cases this
        have := (List.getElem?_eq_some_iff.1 h.end_.2).1
        rw [inB_iff.2 ⟨h.end_.1, by have := h.end_.1; omega⟩] at z6; cases z6]
    have k6 := inB_iff.1 (nb0 z6)
    repeat ((conv => whnf); first | apply qza | apply qzb | apply qzc | apply qzd | apply qze | intro (_ : Nat) | intro (_ : Option Addr) (_ : Nat))
    conv => whnf
    refine .inl ⟨_, ok_pin_in _ _ _, ?_⟩
    repeat ((conv => whnf); first | apply qza | apply qzb | apply qzc | apply qzd | apply qze | intro (_ : Nat) | intro (_ : Option Addr) (_ : Nat))
    conv => whnf
    refine ⟨fun z7 => ?_, fun z7 => ?_⟩
    · repeat ((conv => whnf); first | apply qza | apply qzb | apply qzc | apply qzd | apply qze | intro (_ : Nat) | intro (_ : Option Addr) (_ : Nat))
      conv => whnf
      intro g2 hg
      rw [suitB_f fun ⟨v', gr', en, h⟩ => by
        have := h.ver.2
        rw [hv] at this; cases this
        have := h.clu.2
        rw [hgr] at this; cases this
        rw [inB_iff.2 h.other] at z7; cases z7]
    have k7 := inB_iff.1 (nb0 z7)
    obtain ⟨en, hen⟩ := getL_of (l := gr.ends) (i := m.end_.toNat) (by omega)
    obtain ⟨aE, rfl, ecE, hecE, ⟨⟨vx, rfl, _, _, hN⟩, _⟩, hcE⟩ := hE1 _ en hen
    obtain ⟨ox, cx, rfl, x1, x2, x0, hN1⟩ := id hN
    repeat ((conv => whnf); first | apply qza | apply qzb | apply qzc | apply qzd | apply qze | intro (_ : Nat) | intro (_ : Option Addr) (_ : Nat))
    conv => whnf
    refine ⟨aE, rfl, ⟨by omega, by omega⟩, ?_⟩
    conv => whnf
    refine ⟨_, hcE 1 _ rfl, ?_⟩
    repeat ((conv => whnf); first | apply qza | apply qzb | apply qzc | apply qzd | apply qze | intro (_ : Nat) | intro (_ : Option Addr) (_ : Nat))
    conv => whnf
    refine .inl ⟨_, ok_pin_in _ _ _, ?_⟩
    repeat ((conv => whnf); first | apply qza | apply qzb | apply qzc | apply qzd | apply qze | intro (_ : Nat) | intro (_ : Option Addr) (_ : Nat))
    conv => whnf
    refine ⟨fun z8 => ?_, fun z8 => ?_⟩
    · repeat ((conv => whnf); first | apply qza | apply qzb | apply qzc | apply qzd | apply qze | intro (_ : Nat) | intro (_ : Option Addr) (_ : Nat))
      conv => whnf
      intro g2 hg
      rw [suitB_f fun ⟨v', gr', en', h⟩ => by
        have := h.ver.2
        rw [hv] at this; cases this
        have := h.clu.2
        rw [hgr] at this; cases this
        have := h.end_.2
        rw [hen] at this; cases this
        rw [inB_iff.2 h.slot] at z8; cases z8]
    have k8 := inB_iff.1 (nb0 z8)
    have hl2 : IntKind.i64.wrap ((w.listens.length : Int) + 1) = (w.listens.length : Int) + 1 := wr (by unfold InR; omega)
    have hmL := hok.listen
    have hl3 : (IntKind.i64.wrap (m.listen + 1) = m.listen + 1 ∨ IntKind.i64.wrap (m.listen + 1) < 0) := by
      rcases Int.lt_or_le m.listen 9223372036854775807 with h | h
      · exact .inl (wr (by unfold InR at hmL ⊢; omega))
      · obtain h : m.listen = 9223372036854775807 := by unfold InR at hmL; omega
        rw [h]; exact .inr (by decide)
    repeat ((conv => whnf); first | apply qza | apply qzb | apply qzc | apply qzd | apply qze | intro (_ : Nat) | intro (_ : Option Addr) (_ : Nat))
    conv => whnf
    refine .inl ⟨_, ok_pin_in _ _ _, ?_⟩
    repeat ((conv => whnf); first | apply qza | apply qzb | apply qzc | apply qzd | apply qze | intro (_ : Nat) | intro (_ : Option Addr) (_ : Nat))
    conv => whnf
    refine ⟨fun z9 => ?_, fun z9 => ?_⟩
    case' refine_2 =>
      repeat ((conv => whnf); first | apply qza | apply qzb | apply qzc | apply qzd | apply qze | intro (_ : Nat) | intro (_ : Option Addr) (_ : Nat))
      conv => whnf
      intro g2 hg
      rw [suitB_f fun ⟨v', gr', en', h⟩ => by
        rw [inB_iff.2 (by rw [hl2, wr (by have := h.listen; unfold InR; omega)]; have := h.listen; omega)] at z9; cases z9]
    have k9 := inB_iff.1 z9
    rw [hl2] at k9
    repeat ((conv => whnf); first | apply qza | apply qzb | apply qzc | apply qzd | apply qze | intro (_ : Nat) | intro (_ : Option Addr) (_ : Nat))
    conv => whnf
    refine ⟨fun z10 => ?_, fun z10 => ?_⟩
    case' refine_2 =>
      repeat ((conv => whnf); first | apply qza | apply qzb | apply qzc | apply qzd | apply qze | intro (_ : Nat) | intro (_ : Option Addr) (_ : Nat))
      conv => whnf
      intro g2 hg
      have := of_decide_eq_false z10
      rw [suitB_f fun ⟨v', gr', en', h⟩ => by have := h.i; omega]
    have k10 := of_decide_eq_true z10
    repeat ((conv => whnf); first | apply qza | apply qzb | apply qzc | apply qzd | apply qze | intro (_ : Nat) | intro (_ : Option Addr) (_ : Nat))
    conv => whnf
    intro g2 hg
    by_cases hk : 0 ≤ m.k
    · rw [decide_eq_true hk, suitB_iff.2 ⟨v, gr, en, ⟨nb0 z1, inB_iff.1 (nb0 z2), z3, ⟨k4.1, hv⟩, ⟨k5.1, hgr⟩, ⟨k6.1, hen⟩, k7, k8, ⟨by omega, by omega⟩, k10, hk⟩⟩]
    · rw [decide_eq_false hk, suitB_f fun ⟨v', gr', en', h⟩ => hk h.k])
end Go.Proofs.YtjaeeadfmnokeaaGreat


/- Machines: which ones suit a world; the document's answer. -/
namespace Go.Proofs.YtjaeeadfmnokeaaGreat
open Go.Proofs.YtjaeeadfmnokeaaGreat.Sx Go.RowKit
theorem ok_rSuits (g : GW) {cs ms : List Value} {w : Wd} {m : Mach} (hw : rWo g cs w) (hM : rMach g ms m) (hsn : SnW w) (hb : BgW 1000000 w) : OkV Tryz.prog n_hydrantref19_Suits [.agg ⟨cs⟩, .agg ⟨ms⟩] g (.bool (suitB w m)) := by
  have hw0 := hw
  obtain ⟨a, b, c, d, e, rfl, ⟨i1, i2, i3⟩, hP, hV, hL, hC, hR⟩ := hw
  obtain ⟨oa, ca, rfl, a1, a2, a0, hP1⟩ := id hP
  obtain ⟨ob, cb, rfl, b1, b2, b0, hV1⟩ := id hV
  obtain ⟨oc, cc, rfl, c1, c2, c0, hL1⟩ := id hL
  obtain ⟨od, cd, rfl, d1, d2, d0, hC1⟩ := id hC
  obtain ⟨oe, ce, rfl, e1, e2, e0, hR1⟩ := id hR
  obtain ⟨ma, mb, md, rfl, hok, _, ⟨_, _, _, he, ⟨o1, t1, rfl, _⟩, ⟨o2, t2, rfl, _⟩, ⟨o3, t3, rfl, _⟩⟩⟩ := hM
  cases he
  have hLl := hb.1.2.2.1
  exact Ok.of_fn hm noT 0 t_hydrantref19_Suits (args := [.v (.agg ⟨[.int .i64 w.epoch, .int .i64 w.current, .int .i64 w.lock, .slice oa w.pins.length ca, .slice ob w.versions.length cb, .slice oc w.listens.length cc, .slice od w.counts.length cd, .slice oe w.limbo.length ce]⟩), .v (.agg ⟨m.cs (.slice o1 m.op.config.listens.length t1) (.slice o2 m.op.config.routes.length t2) (.slice o3 m.op.config.clusters.length t3)⟩)]) (by
    repeat ((conv => whnf); first | apply qza | apply qzb | apply qzc | apply qzd | apply qze | intro (_ : Nat) | intro (_ : Option Addr) (_ : Nat))
    conv => whnf
    refine .inl ⟨_, ok_rwIs _ hw0 hsn, ?_⟩
    repeat ((conv => whnf); first | apply qza | apply qzb | apply qzc | apply qzd | apply qze | intro (_ : Nat) | intro (_ : Option Addr) (_ : Nat))
    conv => whnf
    refine ⟨fun z1 => ?_, fun z1 => ?_⟩
    · repeat ((conv => whnf); first | apply qza | apply qzb | apply qzc | apply qzd | apply qze | intro (_ : Nat) | intro (_ : Option Addr) (_ : Nat))
      conv => whnf
      intro g2 hg
      rw [suitB_f fun ⟨v, gr, en, h⟩ => by rw [h.right] at z1; cases z1]
    repeat ((conv => whnf); first | apply qza | apply qzb | apply qzc | apply qzd | apply qze | intro (_ : Nat) | intro (_ : Option Addr) (_ : Nat))
    conv => whnf
    refine .inl ⟨_, ok_ref_in _ _ _, ?_⟩
    repeat ((conv => whnf); first | apply qza | apply qzb | apply qzc | apply qzd | apply qze | intro (_ : Nat) | intro (_ : Option Addr) (_ : Nat))
    conv => whnf
    refine ⟨fun z2 => ?_, fun z2 => ?_⟩
    · repeat ((conv => whnf); first | apply qza | apply qzb | apply qzc | apply qzd | apply qze | intro (_ : Nat) | intro (_ : Option Addr) (_ : Nat))
      conv => whnf
      intro g2 hg
      rw [suitB_f fun ⟨v, gr, en, h⟩ => by rw [inB_iff.2 h.thread] at z2; cases z2]
    repeat ((conv => whnf); first | apply qza | apply qzb | apply qzc | apply qzd | apply qze | intro (_ : Nat) | intro (_ : Option Addr) (_ : Nat))
    conv => whnf
    refine ⟨fun z3 => ?_, fun z3 => ?_⟩
    · repeat ((conv => whnf); first | apply qza | apply qzb | apply qzc | apply qzd | apply qze | intro (_ : Nat) | intro (_ : Option Addr) (_ : Nat))
      conv => whnf
      intro g2 hg
      rw [suitB_f fun ⟨v, gr, en, h⟩ => by rw [h.done] at z3; cases z3]
    repeat ((conv => whnf); first | apply qza | apply qzb | apply qzc | apply qzd | apply qze | intro (_ : Nat) | intro (_ : Option Addr) (_ : Nat))
    conv => whnf
    refine .inl ⟨_, ok_ref_in _ _ _, ?_⟩
    repeat ((conv => whnf); first | apply qza | apply qzb | apply qzc | apply qzd | apply qze | intro (_ : Nat) | intro (_ : Option Addr) (_ : Nat))
    conv => whnf
    refine ⟨fun z4 => ?_, fun z4 => ?_⟩
    · repeat ((conv => whnf); first | apply qza | apply qzb | apply qzc | apply qzd | apply qze | intro (_ : Nat) | intro (_ : Option Addr) (_ : Nat))
      conv => whnf
      intro g2 hg
      rw [suitB_f fun ⟨v, gr, en, h⟩ => by
        have := (List.getElem?_eq_some_iff.1 h.ver.2).1
        rw [inB_iff.2 ⟨h.ver.1, by have := h.ver.1; omega⟩] at z4; cases z4]
    have k4 := inB_iff.1 (nb0 z4)
    obtain ⟨v, hv⟩ := getL_of (l := w.versions) (i := m.version.toNat) (by omega)
    obtain ⟨aV, rfl, ecV, hecV, ⟨va, vb, vd, vn, rfl, hS, hG⟩, hcV⟩ := hV1 _ v hv
    obtain ⟨og, cg, rfl, g1, g2, g0, hG1⟩ := id hG
    repeat ((conv => whnf); first | apply qza | apply qzb | apply qzc | apply qzd | apply qze | intro (_ : Nat) | intro (_ : Option Addr) (_ : Nat))
    conv => whnf
    refine ⟨aV, rfl, ⟨by omega, by omega⟩, ?_⟩
    conv => whnf
    refine ⟨_, hcV 3 _ rfl, ?_⟩
    repeat ((conv => whnf); first | apply qza | apply qzb | apply qzc | apply qzd | apply qze | intro (_ : Nat) | intro (_ : Option Addr) (_ : Nat))
    conv => whnf
    refine .inl ⟨_, ok_ref_in _ _ _, ?_⟩
    repeat ((conv => whnf); first | apply qza | apply qzb | apply qzc | apply qzd | apply qze | intro (_ : Nat) | intro (_ : Option Addr) (_ : Nat))
    conv => whnf
    refine ⟨fun z5 => ?_, fun z5 => ?_⟩
    · repeat ((conv => whnf); first | apply qza | apply qzb | apply qzc | apply qzd | apply qze | intro (_ : Nat) | intro (_ : Option Addr) (_ : Nat))
      conv => whnf
      intro g2 hg
      rw [suitB_f fun ⟨v', gr, en, h⟩ => by
        have := h.ver.2
        rw [hv] at this; cases this
        have := (List.getElem?_eq_some_iff.1 h.clu.2).1
        rw [inB_iff.2 ⟨h.clu.1, by have := h.clu.1; omega⟩] at z5; cases z5]
    have k5 := inB_iff.1 (nb0 z5)
    obtain ⟨gr, hgr⟩ := getL_of (l := v.groups) (i := m.cluster.toNat) (by omega)
    obtain ⟨aG, rfl, ecG, hecG, ⟨ve, rfl, _, hE⟩, hcG⟩ := hG1 _ gr hgr
    obtain ⟨oq, cq, rfl, q1, q2, q0, hE1⟩ := id hE
    repeat ((conv => whnf); first | apply qza | apply qzb | apply qzc | apply qzd | apply qze | intro (_ : Nat) | intro (_ : Option Addr) (_ : Nat))
    conv => whnf
    refine ⟨aV, rfl, ⟨by omega, by omega⟩, ?_⟩
    conv => whnf
    refine ⟨_, hcV 3 _ rfl, ?_⟩
    repeat ((conv => whnf); first | apply qza | apply qzb | apply qzc | apply qzd | apply qze | intro (_ : Nat) | intro (_ : Option Addr) (_ : Nat))
    conv => whnf
    refine ⟨aG, rfl, ⟨by omega, by omega⟩, ?_⟩
    conv => whnf
    refine ⟨_, hcG 1 _ rfl, ?_⟩
    repeat ((conv => whnf); first | apply qza | apply qzb | apply qzc | apply qzd | apply qze | intro (_ : Nat) | intro (_ : Option Addr) (_ : Nat))
    conv => whnf
    refine .inl ⟨_, ok_ref_in _ _ _, ?_⟩
    repeat ((conv => whnf); first | apply qza | apply qzb | apply qzc | apply qzd | apply qze | intro (_ : Nat) | intro (_ : Option Addr) (_ : Nat))
    conv => whnf
    refine ⟨fun z6 => ?_, fun z6 => ?_⟩
    · repeat ((conv => whnf); first | apply qza | apply qzb | apply qzc | apply qzd | apply qze | intro (_ : Nat) | intro (_ : Option Addr) (_ : Nat))
      conv => whnf
      intro g2 hg
      rw [suitB_f fun ⟨v', gr', en, h⟩ => by
        have := h.ver.2
        rw [hv] at this; cases this
        have := h.clu.2
        rw [hgr] at this; cases this
        have := (List.getElem?_eq_some_iff.1 h.end_.2).1
        rw [inB_iff.2 ⟨h.end_.1, by have := h.end_.1; omega⟩] at z6; cases z6]
    have k6 := inB_iff.1 (nb0 z6)
    repeat ((conv => whnf); first | apply qza | apply qzb | apply qzc | apply qzd | apply qze | intro (_ : Nat) | intro (_ : Option Addr) (_ : Nat))
    conv => whnf
    refine .inl ⟨_, ok_ref_in _ _ _, ?_⟩
    repeat ((conv => whnf); first | apply qza | apply qzb | apply qzc | apply qzd | apply qze | intro (_ : Nat) | intro (_ : Option Addr) (_ : Nat))
    conv => whnf
    refine ⟨fun z7 => ?_, fun z7 => ?_⟩
    · repeat ((conv => whnf); first | apply qza | apply qzb | apply qzc | apply qzd | apply qze | intro (_ : Nat) | intro (_ : Option Addr) (_ : Nat))
      conv => whnf
      intro g2 hg
      rw [suitB_f fun ⟨v', gr', en, h⟩ => by
        have := h.ver.2
        rw [hv] at this; cases this
        have := h.clu.2
        rw [hgr] at this; cases this
        rw [inB_iff.2 h.other] at z7; cases z7]
    have k7 := inB_iff.1 (nb0 z7)
    obtain ⟨en, hen⟩ := getL_of (l := gr.ends) (i := m.end_.toNat) (by omega)
    obtain ⟨aE, rfl, ecE, hecE, ⟨⟨vx, rfl, _, _, hN⟩, _⟩, hcE⟩ := hE1 _ en hen
    obtain ⟨ox, cx, rfl, x1, x2, x0, hN1⟩ := id hN
    repeat ((conv => whnf); first | apply qza | apply qzb | apply qzc | apply qzd | apply qze | intro (_ : Nat) | intro (_ : Option Addr) (_ : Nat))
    conv => whnf
    refine ⟨aE, rfl, ⟨by omega, by omega⟩, ?_⟩
    conv => whnf
    refine ⟨_, hcE 1 _ rfl, ?_⟩
    repeat ((conv => whnf); first | apply qza | apply qzb | apply qzc | apply qzd | apply qze | intro (_ : Nat) | intro (_ : Option Addr) (_ : Nat))
    conv => whnf
    refine .inl ⟨_, ok_ref_in _ _ _, ?_⟩
    repeat ((conv => whnf); first | apply qza | apply qzb | apply qzc | apply qzd | apply qze | intro (_ : Nat) | intro (_ : Option Addr) (_ : Nat))
    conv => whnf
    refine ⟨fun z8 => ?_, fun z8 => ?_⟩
    · repeat ((conv => whnf); first | apply qza | apply qzb | apply qzc | apply qzd | apply qze | intro (_ : Nat) | intro (_ : Option Addr) (_ : Nat))
      conv => whnf
      intro g2 hg
      rw [suitB_f fun ⟨v', gr', en', h⟩ => by
        have := h.ver.2
        rw [hv] at this; cases this
        have := h.clu.2
        rw [hgr] at this; cases this
        have := h.end_.2
        rw [hen] at this; cases this
        rw [inB_iff.2 h.slot] at z8; cases z8]
    have k8 := inB_iff.1 (nb0 z8)
    repeat ((conv => whnf); first | apply qza | apply qzb | apply qzc | apply qzd | apply qze | intro (_ : Nat) | intro (_ : Option Addr) (_ : Nat))
    conv => whnf
    refine ⟨fun z9 => ?_, fun z9 => ?_⟩
    case' refine_2 =>
      repeat ((conv => whnf); first | apply qza | apply qzb | apply qzc | apply qzd | apply qze | intro (_ : Nat) | intro (_ : Option Addr) (_ : Nat))
      conv => whnf
      intro g2 hg
      have := of_decide_eq_false z9
      rw [suitB_f fun ⟨v', gr', en', h⟩ => by have := h.listen; omega]
    have k9 := of_decide_eq_true z9
    repeat ((conv => whnf); first | apply qza | apply qzb | apply qzc | apply qzd | apply qze | intro (_ : Nat) | intro (_ : Option Addr) (_ : Nat))
    conv => whnf
    refine ⟨fun z10 => ?_, fun z10 => ?_⟩
    case' refine_2 =>
      repeat ((conv => whnf); first | apply qza | apply qzb | apply qzc | apply qzd | apply qze | intro (_ : Nat) | intro (_ : Option Addr) (_ : Nat))
      conv => whnf
      intro g2 hg
      have := of_decide_eq_false z10
      rw [suitB_f fun ⟨v', gr', en', h⟩ => by have := h.listen; omega]
    have k10 := of_decide_eq_true z10
    repeat ((conv => whnf); first | apply qza | apply qzb | apply qzc | apply qzd | apply qze | intro (_ : Nat) | intro (_ : Option Addr) (_ : Nat))
    conv => whnf
    refine ⟨fun z11 => ?_, fun z11 => ?_⟩
    case' refine_2 =>
      repeat ((conv => whnf); first | apply qza | apply qzb | apply qzc | apply qzd | apply qze | intro (_ : Nat) | intro (_ : Option Addr) (_ : Nat))
      conv => whnf
      intro g2 hg
      have := of_decide_eq_false z11
      rw [suitB_f fun ⟨v', gr', en', h⟩ => by have := h.i; omega]
    have k11 := of_decide_eq_true z11
    repeat ((conv => whnf); first | apply qza | apply qzb | apply qzc | apply qzd | apply qze | intro (_ : Nat) | intro (_ : Option Addr) (_ : Nat))
    conv => whnf
    intro g2 hg
    by_cases hk : 0 ≤ m.k
    · rw [decide_eq_true hk, suitB_iff.2 ⟨v, gr, en, ⟨nb0 z1, inB_iff.1 (nb0 z2), z3, ⟨k4.1, hv⟩, ⟨k5.1, hgr⟩, ⟨k6.1, hen⟩, k7, k8, ⟨by omega, by omega⟩, k11, hk⟩⟩]
    · rw [decide_eq_false hk, suitB_f fun ⟨v', gr', en', h⟩ => hk h.k])
end Go.Proofs.YtjaeeadfmnokeaaGreat


/- Worlds: what is cloned: rows. -/
namespace Go.Proofs.YtjaeeadfmnokeaaGreat
open Go.Proofs.YtjaeeadfmnokeaaGreat.Sx Go.RowKit
abbrev wT : WTy := ⟨ty_int, ty_api_End, ty_api_Group, ty_api_Version, ty_api_Listen, ty_uint64, ty_sl_uint64, ty_api_Retired⟩
abbrev cI1 (x : Int) : List Value := [.int .i64 x]
abbrev cU1 (x : Int) : List Value := [.int .u64 x]
abbrev cLi (x : Listen) : List Value := [.string x.name, .bool x.drain, .int .i64 x.active, .bool x.closed]
abbrev cRe (x : Retired) : List Value := [.int .i64 x.version, .int .i64 x.at_, .bool x.gone]
theorem oneF' {α : Type} {l : List α} {f : α → List Value} (h : ∀ x ∈ l, (f x).all Value.oneCell' = true) : ∀ u ∈ (l.map f).flatten, u.oneCell' = true := oneF h
theorem ok_cInt (g0 g : GW) (h0 : g0 ≤ g) {v : Value} {l : List Int} (hl : rSl 1 rInt g v l) (hlen : l.length ≤ 17592186044416) : Ok Tryz.prog n_slices_Clone___int_int [v] g fun v' g' => oSl ty_int 1 (oLf rInt) g' g0.w.heap.size (NEW g g') v' l := by
  obtain ⟨oa, ca, rfl, a1, a2, a0, hr⟩ := id hl
  have hR : ∀ x ∈ l, InR x := fun x hx => by
    obtain ⟨i, hi⟩ := List.getElem?_of_mem hx
    obtain ⟨_, _, _, _, ⟨_, h⟩, _⟩ := hr i x hi
    exact h
  have hrd := rSl_rd hl cI1 fun _ _ h => h.1
  exact Ok.of_fn hm noT 0 t_slices_Clone___int_int (args := [.v (.slice oa l.length ca)]) (by
    cases oa with
    | none =>
      repeat ((conv => whnf); first | apply qza | apply qzb | apply qzc | apply qzd | apply qze | intro (_ : Nat) | intro (_ : Option Addr) (_ : Nat))
      conv => whnf
      refine ⟨fun _ => ?_, fun h => nomatch h⟩
      repeat ((conv => whnf); first | apply qza | apply qzb | apply qzc | apply qzd | apply qze | intro (_ : Nat) | intro (_ : Option Addr) (_ : Nat))
      conv => whnf
      intro g2 hg
      exact .inl ⟨List.length_eq_zero_iff.1 (a0 rfl).1, none, rfl⟩
    | some a =>
      repeat ((conv => whnf); first | apply qza | apply qzb | apply qzc | apply qzd | apply qze | intro (_ : Nat) | intro (_ : Option Addr) (_ : Nat))
      conv => whnf
      refine ⟨fun h => (nomatch h), fun _ => ?_⟩
      repeat ((conv => whnf); first | apply qza | apply qzb | apply qzc | apply qzd | apply qze | intro (_ : Nat) | intro (_ : Option Addr) (_ : Nat))
      conv => whnf
      refine ⟨⟨rfl, rfl, rfl, rfl, Nat.zero_le _⟩, ?_⟩
      conv => whnf
      refine ⟨_, ⟨hrd, oneF' fun _ _ => rfl⟩, ?_⟩
      repeat ((conv => whnf); first | apply qza | apply qzb | apply qzc | apply qzd | apply qze | intro (_ : Nat) | intro (_ : Option Addr) (_ : Nat))
      conv => whnf
      refine ⟨⟨by unfold maxLen; omega, by omega⟩, fun oa2 cap2 => ?_⟩
      repeat ((conv => whnf); first | apply qza | apply qzb | apply qzc | apply qzd | apply qze | intro (_ : Nat) | intro (_ : Option Addr) (_ : Nat))
      conv => whnf
      refine fun g1 hg1 hn1 hp1 => ?_
      conv => whnf
      intro g2 hg
      simp only [Nat.zero_add, List.nil_append] at hp1
      have hE := oEls_leaf (sz := 1) (r := rInt) g g g0.w.heap.size cI1 l fun x hx => ⟨rfl, rfl, hR x hx⟩
      have := oSl_up (oLf_fr rInt_any) hg (oEls_sl (oLf_fr rInt_any) hE (GW.refl _) hg1 (hp1.lo_le h0.1) rfl hn1)
      rwa [Nat.zero_add])
theorem ok_cU (g0 g : GW) (h0 : g0 ≤ g) {v : Value} {l : List Int} (hl : rSl 1 rU64 g v l) (hlen : l.length ≤ 17592186044416) : Ok Tryz.prog n_slices_Clone___uint64_uint64 [v] g fun v' g' => oSl ty_uint64 1 (oLf rU64) g' g0.w.heap.size (NEW g g') v' l := by
  obtain ⟨oa, ca, rfl, a1, a2, a0, hr⟩ := id hl
  have hR : ∀ x ∈ l, InU x := fun x hx => by
    obtain ⟨i, hi⟩ := List.getElem?_of_mem hx
    obtain ⟨_, _, _, _, ⟨_, h⟩, _⟩ := hr i x hi
    exact h
  have hrd := rSl_rd hl cU1 fun _ _ h => h.1
  exact Ok.of_fn hm noT 0 t_slices_Clone___uint64_uint64 (args := [.v (.slice oa l.length ca)]) (by
    cases oa with
    | none =>
      repeat ((conv => whnf); first | apply qza | apply qzb | apply qzc | apply qzd | apply qze | intro (_ : Nat) | intro (_ : Option Addr) (_ : Nat))
      conv => whnf
      refine ⟨fun _ => ?_, fun h => nomatch h⟩
      repeat ((conv => whnf); first | apply qza | apply qzb | apply qzc | apply qzd | apply qze | intro (_ : Nat) | intro (_ : Option Addr) (_ : Nat))
      conv => whnf
      intro g2 hg
      exact .inl ⟨List.length_eq_zero_iff.1 (a0 rfl).1, none, rfl⟩
    | some a =>
      repeat ((conv => whnf); first | apply qza | apply qzb | apply qzc | apply qzd | apply qze | intro (_ : Nat) | intro (_ : Option Addr) (_ : Nat))
      conv => whnf
      refine ⟨fun h => (nomatch h), fun _ => ?_⟩
      repeat ((conv => whnf); first | apply qza | apply qzb | apply qzc | apply qzd | apply qze | intro (_ : Nat) | intro (_ : Option Addr) (_ : Nat))
      conv => whnf
      refine ⟨⟨rfl, rfl, rfl, rfl, Nat.zero_le _⟩, ?_⟩
      conv => whnf
      refine ⟨_, ⟨hrd, oneF' fun _ _ => rfl⟩, ?_⟩
      repeat ((conv => whnf); first | apply qza | apply qzb | apply qzc | apply qzd | apply qze | intro (_ : Nat) | intro (_ : Option Addr) (_ : Nat))
      conv => whnf
      refine ⟨⟨by unfold maxLen; omega, by omega⟩, fun oa2 cap2 => ?_⟩
      repeat ((conv => whnf); first | apply qza | apply qzb | apply qzc | apply qzd | apply qze | intro (_ : Nat) | intro (_ : Option Addr) (_ : Nat))
      conv => whnf
      refine fun g1 hg1 hn1 hp1 => ?_
      conv => whnf
      intro g2 hg
      simp only [Nat.zero_add, List.nil_append] at hp1
      have hE := oEls_leaf (sz := 1) (r := rU64) g g g0.w.heap.size cU1 l fun x hx => ⟨rfl, rfl, hR x hx⟩
      have := oSl_up (oLf_fr rU64_any) hg (oEls_sl (oLf_fr rU64_any) hE (GW.refl _) hg1 (hp1.lo_le h0.1) rfl hn1)
      rwa [Nat.zero_add])
theorem ok_cLi (g0 g : GW) (h0 : g0 ≤ g) {v : Value} {l : List Listen} (hl : rSl 4 rListen g v l) (hlen : l.length ≤ 1000000) : Ok Tryz.prog n_slices_Clone___api_Listen_api_Listen [v] g fun v' g' => oSl ty_api_Listen 4 (oLf rListen) g' g0.w.heap.size (NEW g g') v' l := by
  obtain ⟨oa, ca, rfl, a1, a2, a0, hr⟩ := id hl
  have hR : ∀ x ∈ l, InR x.active := fun x hx => by
    obtain ⟨i, hi⟩ := List.getElem?_of_mem hx
    obtain ⟨_, _, _, _, ⟨_, h⟩, _⟩ := hr i x hi
    exact h
  have hrd := rSl_rd hl cLi fun _ _ h => h.1
  exact Ok.of_fn hm noT 0 t_slices_Clone___api_Listen_api_Listen (args := [.v (.slice oa l.length ca)]) (by
    cases oa with
    | none =>
      repeat ((conv => whnf); first | apply qza | apply qzb | apply qzc | apply qzd | apply qze | intro (_ : Nat) | intro (_ : Option Addr) (_ : Nat))
      conv => whnf
      refine ⟨fun _ => ?_, fun h => nomatch h⟩
      repeat ((conv => whnf); first | apply qza | apply qzb | apply qzc | apply qzd | apply qze | intro (_ : Nat) | intro (_ : Option Addr) (_ : Nat))
      conv => whnf
      intro g2 hg
      exact .inl ⟨List.length_eq_zero_iff.1 (a0 rfl).1, none, rfl⟩
    | some a =>
      repeat ((conv => whnf); first | apply qza | apply qzb | apply qzc | apply qzd | apply qze | intro (_ : Nat) | intro (_ : Option Addr) (_ : Nat))
      conv => whnf
      refine ⟨fun h => (nomatch h), fun _ => ?_⟩
      repeat ((conv => whnf); first | apply qza | apply qzb | apply qzc | apply qzd | apply qze | intro (_ : Nat) | intro (_ : Option Addr) (_ : Nat))
      conv => whnf
      refine ⟨⟨rfl, rfl, rfl, rfl, Nat.zero_le _⟩, ?_⟩
      conv => whnf
      refine ⟨_, ⟨hrd, oneF' fun _ _ => rfl⟩, ?_⟩
      repeat ((conv => whnf); first | apply qza | apply qzb | apply qzc | apply qzd | apply qze | intro (_ : Nat) | intro (_ : Option Addr) (_ : Nat))
      conv => whnf
      refine ⟨⟨by unfold maxLen; omega, by omega⟩, fun oa2 cap2 => ?_⟩
      repeat ((conv => whnf); first | apply qza | apply qzb | apply qzc | apply qzd | apply qze | intro (_ : Nat) | intro (_ : Option Addr) (_ : Nat))
      conv => whnf
      refine fun g1 hg1 hn1 hp1 => ?_
      conv => whnf
      intro g2 hg
      simp only [Nat.zero_add, List.nil_append] at hp1
      have hE := oEls_leaf (sz := 4) (r := rListen) g g g0.w.heap.size cLi l fun x hx => ⟨rfl, rfl, hR x hx⟩
      have := oSl_up (oLf_fr rListen_any) hg (oEls_sl (oLf_fr rListen_any) hE (GW.refl _) hg1 (hp1.lo_le h0.1) rfl hn1)
      rwa [Nat.zero_add])
theorem ok_cRe (g0 g : GW) (h0 : g0 ≤ g) {v : Value} {l : List Retired} (hl : rSl 3 rRetired g v l) (hlen : l.length ≤ 1000000) : Ok Tryz.prog n_slices_Clone___api_Retired_api_Retired [v] g fun v' g' => oSl ty_api_Retired 3 (oLf rRetired) g' g0.w.heap.size (NEW g g') v' l := by
  obtain ⟨oa, ca, rfl, a1, a2, a0, hr⟩ := id hl
  have hR : ∀ x ∈ l, InR x.version ∧ InR x.at_ := fun x hx => by
    obtain ⟨i, hi⟩ := List.getElem?_of_mem hx
    obtain ⟨_, _, _, _, ⟨_, h⟩, _⟩ := hr i x hi
    exact h
  have hrd := rSl_rd hl cRe fun _ _ h => h.1
  exact Ok.of_fn hm noT 0 t_slices_Clone___api_Retired_api_Retired (args := [.v (.slice oa l.length ca)]) (by
    cases oa with
    | none =>
      repeat ((conv => whnf); first | apply qza | apply qzb | apply qzc | apply qzd | apply qze | intro (_ : Nat) | intro (_ : Option Addr) (_ : Nat))
      conv => whnf
      refine ⟨fun _ => ?_, fun h => nomatch h⟩
      repeat ((conv => whnf); first | apply qza | apply qzb | apply qzc | apply qzd | apply qze | intro (_ : Nat) | intro (_ : Option Addr) (_ : Nat))
      conv => whnf
      intro g2 hg
      exact .inl ⟨List.length_eq_zero_iff.1 (a0 rfl).1, none, rfl⟩
    | some a =>
      repeat ((conv => whnf); first | apply qza | apply qzb | apply qzc | apply qzd | apply qze | intro (_ : Nat) | intro (_ : Option Addr) (_ : Nat))
      conv => whnf
      refine ⟨fun h => (nomatch h), fun _ => ?_⟩
      repeat ((conv => whnf); first | apply qza | apply qzb | apply qzc | apply qzd | apply qze | intro (_ : Nat) | intro (_ : Option Addr) (_ : Nat))
      conv => whnf
      refine ⟨⟨rfl, rfl, rfl, rfl, Nat.zero_le _⟩, ?_⟩
      conv => whnf
      refine ⟨_, ⟨hrd, oneF' fun _ _ => rfl⟩, ?_⟩
      repeat ((conv => whnf); first | apply qza | apply qzb | apply qzc | apply qzd | apply qze | intro (_ : Nat) | intro (_ : Option Addr) (_ : Nat))
      conv => whnf
      refine ⟨⟨by unfold maxLen; omega, by omega⟩, fun oa2 cap2 => ?_⟩
      repeat ((conv => whnf); first | apply qza | apply qzb | apply qzc | apply qzd | apply qze | intro (_ : Nat) | intro (_ : Option Addr) (_ : Nat))
      conv => whnf
      refine fun g1 hg1 hn1 hp1 => ?_
      conv => whnf
      intro g2 hg
      simp only [Nat.zero_add, List.nil_append] at hp1
      have hE := oEls_leaf (sz := 3) (r := rRetired) g g g0.w.heap.size cRe l fun x hx => ⟨rfl, rfl, hR x hx⟩
      have := oSl_up (oLf_fr rRetired_any) hg (oEls_sl (oLf_fr rRetired_any) hE (GW.refl _) hg1 (hp1.lo_le h0.1) rfl hn1)
      rwa [Nat.zero_add])
end Go.Proofs.YtjaeeadfmnokeaaGreat

