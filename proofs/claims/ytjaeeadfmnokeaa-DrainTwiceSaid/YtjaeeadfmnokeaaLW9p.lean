/- Machines: which ones suit a world. -/
import Derived.Test.YtjaeeadfmnokeaaLW9n
import Derived.Test.YtjaeeadfmnokeaaPl
import Derived.Test.YtjaeeadfmnokeaaLW9b
namespace Go.Proofs.Ytjaeeadfmnokeaa
open Go.Proofs.Ytjaeeadfmnokeaa.Sx Go.RowKit
theorem ok_pin_in (g : GW) (i n : Int) : OkV Try.prog n_pin_in [.int .i64 i, .int .i64 n] g (.bool (inB i n)) :=
  Ok.of_fn hm noT 0 t_pin_in (args := [.v (.int .i64 i), .v (.int .i64 n)]) (by
    repeat ((conv => whnf); first | apply qza | apply qzb | apply qzc | apply qzd | apply qze | intro (_ : Nat) | intro (_ : Option Addr) (_ : Nat))
    conv => whnf
    refine ⟨fun h => ?_, fun h => ?_⟩
    · repeat ((conv => whnf); first | apply qza | apply qzb | apply qzc | apply qzd | apply qze | intro (_ : Nat) | intro (_ : Option Addr) (_ : Nat))
      conv => whnf
      intro g2 hg
      unfold inB; rw [h]; rfl
    · repeat ((conv => whnf); first | apply qza | apply qzb | apply qzc | apply qzd | apply qze | intro (_ : Nat) | intro (_ : Option Addr) (_ : Nat))
      conv => whnf
      intro g2 hg
      unfold inB; rw [h]; rfl)
theorem ok_Suits (g : GW) {cs ms : List Value} {w : Wd} {m : Mach} (hw : rWo g cs w) (hM : rMach g ms m) (hsn : SnW w) (hb : BgW 1000000 w) : OkV Try.prog n_pin_Suits [.agg ⟨cs⟩, .agg ⟨ms⟩] g (.bool (suitB w m)) := by
  have hw0 := hw
  obtain ⟨a, b, c, d, e, rfl, ⟨i1, i2, i3⟩, hP, hV, hL, hC, hR⟩ := hw
  obtain ⟨oa, ca, rfl, a1, a2, a0, hP1⟩ := id hP
  obtain ⟨ob, cb, rfl, b1, b2, b0, hV1⟩ := id hV
  obtain ⟨oc, cc, rfl, c1, c2, c0, hL1⟩ := id hL
  obtain ⟨od, cd, rfl, d1, d2, d0, hC1⟩ := id hC
  obtain ⟨oe, ce, rfl, e1, e2, e0, hR1⟩ := id hR
  obtain ⟨ma, mb, md, rfl, hok, _, ⟨_, _, _, he, ⟨o1, t1, rfl, _⟩, ⟨o2, t2, rfl, _⟩, ⟨o3, t3, rfl, _⟩⟩⟩ := hM
  cases he
  have hLl := hb.1.2.2.1
  exact Ok.of_fn hm noT 0 t_pin_Suits (args := [.v (.agg ⟨[.int .i64 w.epoch, .int .i64 w.current, .int .i64 w.lock, .slice oa w.pins.length ca, .slice ob w.versions.length cb, .slice oc w.listens.length cc, .slice od w.counts.length cd, .slice oe w.limbo.length ce]⟩), .v (.agg ⟨m.cs (.slice o1 m.op.config.listens.length t1) (.slice o2 m.op.config.routes.length t2) (.slice o3 m.op.config.clusters.length t3)⟩)]) (by
    repeat ((conv => whnf); first | apply qza | apply qzb | apply qzc | apply qzd | apply qze | intro (_ : Nat) | intro (_ : Option Addr) (_ : Nat))
    conv => whnf
    refine .inl ⟨_, ok_wIs _ hw0 hsn, ?_⟩
    repeat ((conv => whnf); first | apply qza | apply qzb | apply qzc | apply qzd | apply qze | intro (_ : Nat) | intro (_ : Option Addr) (_ : Nat))
    conv => whnf
    refine ⟨fun z1 => ?_, fun z1 => ?_⟩
    · repeat ((conv => whnf); first | apply qza | apply qzb | apply qzc | apply qzd | apply qze | intro (_ : Nat) | intro (_ : Option Addr) (_ : Nat))
      conv => whnf
      intro g2 hg
      rw [suitB_f fun ⟨v, gr, en, h⟩ => by rw [h.right] at z1; cases z1]
    repeat ((conv => whnf); first | apply qza | apply qzb | apply qzc | apply qzd | apply qze | intro (_ : Nat) | intro (_ : Option Addr) (_ : Nat))
    conv => whnf
    refine .inl ⟨_, ok_pin_in _ _ _, ?_⟩
    repeat ((conv => whnf); first | apply qza | apply qzb | apply qzc | apply qzd | apply qze | intro (_ : Nat) | intro (_ : Option Addr) (_ : Nat))
    conv => whnf
    refine ⟨fun z2 => ?_, fun z2 => ?_⟩
    · repeat ((conv => whnf); first | apply qza | apply qzb | apply qzc | apply qzd | apply qze | intro (_ : Nat) | intro (_ : Option Addr) (_ : Nat))
      conv => whnf
      intro g2 hg
      rw [suitB_f fun ⟨v, gr, en, h⟩ => by rw [inB_iff.2 h.thread] at z2; cases z2]
    repeat ((conv => whnf); first | apply qza | apply qzb | apply qzc | apply qzd | apply qze | intro (_ : Nat) | intro (_ : Option Addr) (_ : Nat))
    conv => whnf
    refine ⟨fun z3 => ?_, fun z3 => ?_⟩
    · repeat ((conv => whnf); first | apply qza | apply qzb | apply qzc | apply qzd | apply qze | intro (_ : Nat) | intro (_ : Option Addr) (_ : Nat))
      conv => whnf
      intro g2 hg
      rw [suitB_f fun ⟨v, gr, en, h⟩ => by rw [h.done] at z3; cases z3]
    repeat ((conv => whnf); first | apply qza | apply qzb | apply qzc | apply qzd | apply qze | intro (_ : Nat) | intro (_ : Option Addr) (_ : Nat))
    conv => whnf
    refine .inl ⟨_, ok_pin_in _ _ _, ?_⟩
    repeat ((conv => whnf); first | apply qza | apply qzb | apply qzc | apply qzd | apply qze | intro (_ : Nat) | intro (_ : Option Addr) (_ : Nat))
    conv => whnf
    refine ⟨fun z4 => ?_, fun z4 => ?_⟩
    · repeat ((conv => whnf); first | apply qza | apply qzb | apply qzc | apply qzd | apply qze | intro (_ : Nat) | intro (_ : Option Addr) (_ : Nat))
      conv => whnf
      intro g2 hg
      rw [suitB_f fun ⟨v, gr, en, h⟩ => by
        have := (List.getElem?_eq_some_iff.1 h.ver.2).1
        rw [inB_iff.2 ⟨h.ver.1, by have := h.ver.1; omega⟩] at z4; cases z4]
    have k4 := inB_iff.1 (nb0 z4)
    obtain ⟨v, hv⟩ := getL_of (l := w.versions) (i := m.version.toNat) (by omega)
    obtain ⟨aV, rfl, ecV, hecV, ⟨va, vb, vd, vn, rfl, hS, hG⟩, hcV⟩ := hV1 _ v hv
    obtain ⟨og, cg, rfl, g1, g2, g0, hG1⟩ := id hG
    repeat ((conv => whnf); first | apply qza | apply qzb | apply qzc | apply qzd | apply qze | intro (_ : Nat) | intro (_ : Option Addr) (_ : Nat))
    conv => whnf
    refine ⟨aV, rfl, ⟨by omega, by omega⟩, ?_⟩
    conv => whnf
    refine ⟨_, hcV 3 _ rfl, ?_⟩
    repeat ((conv => whnf); first | apply qza | apply qzb | apply qzc | apply qzd | apply qze | intro (_ : Nat) | intro (_ : Option Addr) (_ : Nat))
    conv => whnf
    refine .inl ⟨_, ok_pin_in _ _ _, ?_⟩
    repeat ((conv => whnf); first | apply qza | apply qzb | apply qzc | apply qzd | apply qze | intro (_ : Nat) | intro (_ : Option Addr) (_ : Nat))
    conv => whnf
    refine ⟨fun z5 => ?_, fun z5 => ?_⟩
    · repeat ((conv => whnf); first | apply qza | apply qzb | apply qzc | apply qzd | apply qze | intro (_ : Nat) | intro (_ : Option Addr) (_ : Nat))
      conv => whnf
      intro g2 hg
      rw [suitB_f fun ⟨v', gr, en, h⟩ => by
        have := h.ver.2
        rw [hv] at this; cases this
        have := (List.getElem?_eq_some_iff.1 h.clu.2).1
        rw [inB_iff.2 ⟨h.clu.1, by have := h.clu.1; omega⟩] at z5; cases z5]
    have k5 := inB_iff.1 (nb0 z5)
    obtain ⟨gr, hgr⟩ := getL_of (l := v.groups) (i := m.cluster.toNat) (by omega)
    obtain ⟨aG, rfl, ecG, hecG, ⟨ve, rfl, _, hE⟩, hcG⟩ := hG1 _ gr hgr
    obtain ⟨oq, cq, rfl, q1, q2, q0, hE1⟩ := id hE
    repeat ((conv => whnf); first | apply qza | apply qzb | apply qzc | apply qzd | apply qze | intro (_ : Nat) | intro (_ : Option Addr) (_ : Nat))
    conv => whnf
    refine ⟨aG, rfl, ⟨by omega, by omega⟩, ?_⟩
    conv => whnf
    refine ⟨_, hcG 1 _ rfl, ?_⟩
    repeat ((conv => whnf); first | apply qza | apply qzb | apply qzc | apply qzd | apply qze | intro (_ : Nat) | intro (_ : Option Addr) (_ : Nat))
    conv => whnf
    refine .inl ⟨_, ok_pin_in _ _ _, ?_⟩
    repeat ((conv => whnf); first | apply qza | apply qzb | apply qzc | apply qzd | apply qze | intro (_ : Nat) | intro (_ : Option Addr) (_ : Nat))
    conv => whnf
    refine ⟨fun z6 => ?_, fun z6 => ?_⟩
    · repeat ((conv => whnf); first | apply qza | apply qzb | apply qzc | apply qzd | apply qze | intro (_ : Nat) | intro (_ : Option Addr) (_ : Nat))
      conv => whnf
      intro g2 hg
      rw [suitB_f fun ⟨v', gr', en, h⟩ => by
        have := h.ver.2
        rw [hv] at this; cases this
        have := h.clu.2
        rw [hgr] at this; cases this
        have := (List.getElem?_eq_some_iff.1 h.end_.2).1
        rw [inB_iff.2 ⟨h.end_.1, by have := h.end_.1; omega⟩] at z6; cases z6]
    have k6 := inB_iff.1 (nb0 z6)
    repeat ((conv => whnf); first | apply qza | apply qzb | apply qzc | apply qzd | apply qze | intro (_ : Nat) | intro (_ : Option Addr) (_ : Nat))
    conv => whnf
    refine .inl ⟨_, ok_pin_in _ _ _, ?_⟩
    repeat ((conv => whnf); first | apply qza | apply qzb | apply qzc | apply qzd | apply qze | intro (_ : Nat) | intro (_ : Option Addr) (_ : Nat))
    conv => whnf
    refine ⟨fun z7 => ?_, fun z7 => ?_⟩
    · repeat ((conv => whnf); first | apply qza | apply qzb | apply qzc | apply qzd | apply qze | intro (_ : Nat) | intro (_ : Option Addr) (_ : Nat))
      conv => whnf
      intro g2 hg
      rw [suitB_f fun ⟨v', gr', en, h⟩ => by
        have := h.ver.2
        rw [hv] at this; cases this
        have := h.clu.2
        rw [hgr] at this; cases this
        rw [inB_iff.2 h.other] at z7; cases z7]
    have k7 := inB_iff.1 (nb0 z7)
    obtain ⟨en, hen⟩ := getL_of (l := gr.ends) (i := m.end_.toNat) (by omega)
    obtain ⟨aE, rfl, ecE, hecE, ⟨⟨vx, rfl, _, _, hN⟩, _⟩, hcE⟩ := hE1 _ en hen
    obtain ⟨ox, cx, rfl, x1, x2, x0, hN1⟩ := id hN
    repeat ((conv => whnf); first | apply qza | apply qzb | apply qzc | apply qzd | apply qze | intro (_ : Nat) | intro (_ : Option Addr) (_ : Nat))
    conv => whnf
    refine ⟨aE, rfl, ⟨by omega, by omega⟩, ?_⟩
    conv => whnf
    refine ⟨_, hcE 1 _ rfl, ?_⟩
    repeat ((conv => whnf); first | apply qza | apply qzb | apply qzc | apply qzd | apply qze | intro (_ : Nat) | intro (_ : Option Addr) (_ : Nat))
    conv => whnf
    refine .inl ⟨_, ok_pin_in _ _ _, ?_⟩
    repeat ((conv => whnf); first | apply qza | apply qzb | apply qzc | apply qzd | apply qze | intro (_ : Nat) | intro (_ : Option Addr) (_ : Nat))
    conv => whnf
    refine ⟨fun z8 => ?_, fun z8 => ?_⟩
    · repeat ((conv => whnf); first | apply qza | apply qzb | apply qzc | apply qzd | apply qze | intro (_ : Nat) | intro (_ : Option Addr) (_ : Nat))
      conv => whnf
      intro g2 hg
      rw [suitB_f fun ⟨v', gr', en', h⟩ => by
        have := h.ver.2
        rw [hv] at this; cases this
        have := h.clu.2
        rw [hgr] at this; cases this
        have := h.end_.2
        rw [hen] at this; cases this
        rw [inB_iff.2 h.slot] at z8; cases z8]
    have k8 := inB_iff.1 (nb0 z8)
    have hl2 : IntKind.i64.wrap ((w.listens.length : Int) + 1) = (w.listens.length : Int) + 1 := wr (by unfold InR; omega)
    have hmL := hok.listen
    have hl3 : (IntKind.i64.wrap (m.listen + 1) = m.listen + 1 ∨ IntKind.i64.wrap (m.listen + 1) < 0) := by
      rcases Int.lt_or_le m.listen 9223372036854775807 with h | h
      · exact .inl (wr (by unfold InR at hmL ⊢; omega))
      · obtain h : m.listen = 9223372036854775807 := by unfold InR at hmL; omega
        rw [h]; exact .inr (by decide)
    repeat ((conv => whnf); first | apply qza | apply qzb | apply qzc | apply qzd | apply qze | intro (_ : Nat) | intro (_ : Option Addr) (_ : Nat))
    conv => whnf
    refine .inl ⟨_, ok_pin_in _ _ _, ?_⟩
    repeat ((conv => whnf); first | apply qza | apply qzb | apply qzc | apply qzd | apply qze | intro (_ : Nat) | intro (_ : Option Addr) (_ : Nat))
    conv => whnf
    refine ⟨fun z9 => ?_, fun z9 => ?_⟩
    case' refine_2 =>
      repeat ((conv => whnf); first | apply qza | apply qzb | apply qzc | apply qzd | apply qze | intro (_ : Nat) | intro (_ : Option Addr) (_ : Nat))
      conv => whnf
      intro g2 hg
      rw [suitB_f fun ⟨v', gr', en', h⟩ => by
        rw [inB_iff.2 (by rw [hl2, wr (by have := h.listen; unfold InR; omega)]; have := h.listen; omega)] at z9; cases z9]
    have k9 := inB_iff.1 z9
    rw [hl2] at k9
    repeat ((conv => whnf); first | apply qza | apply qzb | apply qzc | apply qzd | apply qze | intro (_ : Nat) | intro (_ : Option Addr) (_ : Nat))
    conv => whnf
    refine ⟨fun z10 => ?_, fun z10 => ?_⟩
    case' refine_2 =>
      repeat ((conv => whnf); first | apply qza | apply qzb | apply qzc | apply qzd | apply qze | intro (_ : Nat) | intro (_ : Option Addr) (_ : Nat))
      conv => whnf
      intro g2 hg
      have := of_decide_eq_false z10
      rw [suitB_f fun ⟨v', gr', en', h⟩ => by have := h.i; omega]
    have k10 := of_decide_eq_true z10
    repeat ((conv => whnf); first | apply qza | apply qzb | apply qzc | apply qzd | apply qze | intro (_ : Nat) | intro (_ : Option Addr) (_ : Nat))
    conv => whnf
    intro g2 hg
    by_cases hk : 0 ≤ m.k
    · rw [decide_eq_true hk, suitB_iff.2 ⟨v, gr, en, ⟨nb0 z1, inB_iff.1 (nb0 z2), z3, ⟨k4.1, hv⟩, ⟨k5.1, hgr⟩, ⟨k6.1, hen⟩, k7, k8, ⟨by omega, by omega⟩, k10, hk⟩⟩]
    · rw [decide_eq_false hk, suitB_f fun ⟨v', gr', en', h⟩ => hk h.k])
end Go.Proofs.Ytjaeeadfmnokeaa


/- Machines: which ones suit a world; the document's answer. -/
namespace Go.Proofs.Ytjaeeadfmnokeaa
open Go.Proofs.Ytjaeeadfmnokeaa.Sx Go.RowKit
end Go.Proofs.Ytjaeeadfmnokeaa


/- Worlds: what is cloned: rows. -/
namespace Go.Proofs.Ytjaeeadfmnokeaa
open Go.Proofs.Ytjaeeadfmnokeaa.Sx Go.RowKit
abbrev wT : WTy := ⟨ty_int, ty_api_End, ty_api_Group, ty_api_Version, ty_api_Listen, ty_uint64, ty_sl_uint64, ty_api_Retired⟩
abbrev cI1 (x : Int) : List Value := [.int .i64 x]
abbrev cU1 (x : Int) : List Value := [.int .u64 x]
abbrev cLi (x : Listen) : List Value := [.string x.name, .bool x.drain, .int .i64 x.active, .bool x.closed]
abbrev cRe (x : Retired) : List Value := [.int .i64 x.version, .int .i64 x.at_, .bool x.gone]
theorem oneF' {α : Type} {l : List α} {f : α → List Value} (h : ∀ x ∈ l, (f x).all Value.oneCell' = true) : ∀ u ∈ (l.map f).flatten, u.oneCell' = true := oneF h
theorem ok_cInt (g0 g : GW) (h0 : g0 ≤ g) {v : Value} {l : List Int} (hl : rSl 1 rInt g v l) (hlen : l.length ≤ 17592186044416) : Ok Try.prog n_slices_Clone___int_int [v] g fun v' g' => oSl ty_int 1 (oLf rInt) g' g0.w.heap.size (NEW g g') v' l := by
  obtain ⟨oa, ca, rfl, a1, a2, a0, hr⟩ := id hl
  have hR : ∀ x ∈ l, InR x := fun x hx => by
    obtain ⟨i, hi⟩ := List.getElem?_of_mem hx
    obtain ⟨_, _, _, _, ⟨_, h⟩, _⟩ := hr i x hi
    exact h
  have hrd := rSl_rd hl cI1 fun _ _ h => h.1
  exact Ok.of_fn hm noT 0 t_slices_Clone___int_int (args := [.v (.slice oa l.length ca)]) (by
    cases oa with
    | none =>
      repeat ((conv => whnf); first | apply qza | apply qzb | apply qzc | apply qzd | apply qze | intro (_ : Nat) | intro (_ : Option Addr) (_ : Nat))
      conv => whnf
      refine ⟨fun _ => ?_, fun h => nomatch h⟩
      repeat ((conv => whnf); first | apply qza | apply qzb | apply qzc | apply qzd | apply qze | intro (_ : Nat) | intro (_ : Option Addr) (_ : Nat))
      conv => whnf
      intro g2 hg
      exact .inl ⟨List.length_eq_zero_iff.1 (a0 rfl).1, none, rfl⟩
    | some a =>
      repeat ((conv => whnf); first | apply qza | apply qzb | apply qzc | apply qzd | apply qze | intro (_ : Nat) | intro (_ : Option Addr) (_ : Nat))
      conv => whnf
      refine ⟨fun h => (nomatch h), fun _ => ?_⟩
      repeat ((conv => whnf); first | apply qza | apply qzb | apply qzc | apply qzd | apply qze | intro (_ : Nat) | intro (_ : Option Addr) (_ : Nat))
      conv => whnf
      refine ⟨⟨rfl, rfl, rfl, rfl, Nat.zero_le _⟩, ?_⟩
      conv => whnf
      refine ⟨_, ⟨hrd, oneF' fun _ _ => rfl⟩, ?_⟩
      repeat ((conv => whnf); first | apply qza | apply qzb | apply qzc | apply qzd | apply qze | intro (_ : Nat) | intro (_ : Option Addr) (_ : Nat))
      conv => whnf
      refine ⟨⟨by unfold maxLen; omega, by omega⟩, fun oa2 cap2 => ?_⟩
      repeat ((conv => whnf); first | apply qza | apply qzb | apply qzc | apply qzd | apply qze | intro (_ : Nat) | intro (_ : Option Addr) (_ : Nat))
      conv => whnf
      refine fun g1 hg1 hn1 hp1 => ?_
      conv => whnf
      intro g2 hg
      simp only [Nat.zero_add, List.nil_append] at hp1
      have hE := oEls_leaf (sz := 1) (r := rInt) g g g0.w.heap.size cI1 l fun x hx => ⟨rfl, rfl, hR x hx⟩
      have := oSl_up (oLf_fr rInt_any) hg (oEls_sl (oLf_fr rInt_any) hE (GW.refl _) hg1 (hp1.lo_le h0.1) rfl hn1)
      rwa [Nat.zero_add])
theorem ok_cU (g0 g : GW) (h0 : g0 ≤ g) {v : Value} {l : List Int} (hl : rSl 1 rU64 g v l) (hlen : l.length ≤ 17592186044416) : Ok Try.prog n_slices_Clone___uint64_uint64 [v] g fun v' g' => oSl ty_uint64 1 (oLf rU64) g' g0.w.heap.size (NEW g g') v' l := by
  obtain ⟨oa, ca, rfl, a1, a2, a0, hr⟩ := id hl
  have hR : ∀ x ∈ l, InU x := fun x hx => by
    obtain ⟨i, hi⟩ := List.getElem?_of_mem hx
    obtain ⟨_, _, _, _, ⟨_, h⟩, _⟩ := hr i x hi
    exact h
  have hrd := rSl_rd hl cU1 fun _ _ h => h.1
  exact Ok.of_fn hm noT 0 t_slices_Clone___uint64_uint64 (args := [.v (.slice oa l.length ca)]) (by
    cases oa with
    | none =>
      repeat ((conv => whnf); first | apply qza | apply qzb | apply qzc | apply qzd | apply qze | intro (_ : Nat) | intro (_ : Option Addr) (_ : Nat))
      conv => whnf
      refine ⟨fun _ => ?_, fun h => nomatch h⟩
      repeat ((conv => whnf); first | apply qza | apply qzb | apply qzc | apply qzd | apply qze | intro (_ : Nat) | intro (_ : Option Addr) (_ : Nat))
      conv => whnf
      intro g2 hg
      exact .inl ⟨List.length_eq_zero_iff.1 (a0 rfl).1, none, rfl⟩
    | some a =>
      repeat ((conv => whnf); first | apply qza | apply qzb | apply qzc | apply qzd | apply qze | intro (_ : Nat) | intro (_ : Option Addr) (_ : Nat))
      conv => whnf
      refine ⟨fun h => (nomatch h), fun _ => ?_⟩
      repeat ((conv => whnf); first | apply qza | apply qzb | apply qzc | apply qzd | apply qze | intro (_ : Nat) | intro (_ : Option Addr) (_ : Nat))
      conv => whnf
      refine ⟨⟨rfl, rfl, rfl, rfl, Nat.zero_le _⟩, ?_⟩
      conv => whnf
      refine ⟨_, ⟨hrd, oneF' fun _ _ => rfl⟩, ?_⟩
      repeat ((conv => whnf); first | apply qza | apply qzb | apply qzc | apply qzd | apply qze | intro (_ : Nat) | intro (_ : Option Addr) (_ : Nat))
      conv => whnf
      refine ⟨⟨by unfold maxLen; omega, by omega⟩, fun oa2 cap2 => ?_⟩
      repeat ((conv => whnf); first | apply qza | apply qzb | apply qzc | apply qzd | apply qze | intro (_ : Nat) | intro (_ : Option Addr) (_ : Nat))
      conv => whnf
      refine fun g1 hg1 hn1 hp1 => ?_
      conv => whnf
      intro g2 hg
      simp only [Nat.zero_add, List.nil_append] at hp1
      have hE := oEls_leaf (sz := 1) (r := rU64) g g g0.w.heap.size cU1 l fun x hx => ⟨rfl, rfl, hR x hx⟩
      have := oSl_up (oLf_fr rU64_any) hg (oEls_sl (oLf_fr rU64_any) hE (GW.refl _) hg1 (hp1.lo_le h0.1) rfl hn1)
      rwa [Nat.zero_add])
theorem ok_cLi (g0 g : GW) (h0 : g0 ≤ g) {v : Value} {l : List Listen} (hl : rSl 4 rListen g v l) (hlen : l.length ≤ 1000000) : Ok Try.prog n_slices_Clone___api_Listen_api_Listen [v] g fun v' g' => oSl ty_api_Listen 4 (oLf rListen) g' g0.w.heap.size (NEW g g') v' l := by
  obtain ⟨oa, ca, rfl, a1, a2, a0, hr⟩ := id hl
  have hR : ∀ x ∈ l, InR x.active := fun x hx => by
    obtain ⟨i, hi⟩ := List.getElem?_of_mem hx
    obtain ⟨_, _, _, _, ⟨_, h⟩, _⟩ := hr i x hi
    exact h
  have hrd := rSl_rd hl cLi fun _ _ h => h.1
  exact Ok.of_fn hm noT 0 t_slices_Clone___api_Listen_api_Listen (args := [.v (.slice oa l.length ca)]) (by
    cases oa with
    | none =>
      repeat ((conv => whnf); first | apply qza | apply qzb | apply qzc | apply qzd | apply qze | intro (_ : Nat) | intro (_ : Option Addr) (_ : Nat))
      conv => whnf
      refine ⟨fun _ => ?_, fun h => nomatch h⟩
      repeat ((conv => whnf); first | apply qza | apply qzb | apply qzc | apply qzd | apply qze | intro (_ : Nat) | intro (_ : Option Addr) (_ : Nat))
      conv => whnf
      intro g2 hg
      exact .inl ⟨List.length_eq_zero_iff.1 (a0 rfl).1, none, rfl⟩
    | some a =>
      repeat ((conv => whnf); first | apply qza | apply qzb | apply qzc | apply qzd | apply qze | intro (_ : Nat) | intro (_ : Option Addr) (_ : Nat))
      conv => whnf
      refine ⟨fun h => (nomatch h), fun _ => ?_⟩
      repeat ((conv => whnf); first | apply qza | apply qzb | apply qzc | apply qzd | apply qze | intro (_ : Nat) | intro (_ : Option Addr) (_ : Nat))
      conv => whnf
      refine ⟨⟨rfl, rfl, rfl, rfl, Nat.zero_le _⟩, ?_⟩
      conv => whnf
      refine ⟨_, ⟨hrd, oneF' fun _ _ => rfl⟩, ?_⟩
      repeat ((conv => whnf); first | apply qza | apply qzb | apply qzc | apply qzd | apply qze | intro (_ : Nat) | intro (_ : Option Addr) (_ : Nat))
      conv => whnf
      refine ⟨⟨by unfold maxLen; omega, by omega⟩, fun oa2 cap2 => ?_⟩
      repeat ((conv => whnf); first | apply qza | apply qzb | apply qzc | apply qzd | apply qze | intro (_ : Nat) | intro (_ : Option Addr) (_ : Nat))
      conv => whnf
      refine fun g1 hg1 hn1 hp1 => ?_
      conv => whnf
      intro g2 hg
      simp only [Nat.zero_add, List.nil_append] at hp1
      have hE := oEls_leaf (sz := 4) (r := rListen) g g g0.w.heap.size cLi l fun x hx => ⟨rfl, rfl, hR x hx⟩
      have := oSl_up (oLf_fr rListen_any) hg (oEls_sl (oLf_fr rListen_any) hE (GW.refl _) hg1 (hp1.lo_le h0.1) rfl hn1)
      rwa [Nat.zero_add])
theorem ok_cRe (g0 g : GW) (h0 : g0 ≤ g) {v : Value} {l : List Retired} (hl : rSl 3 rRetired g v l) (hlen : l.length ≤ 1000000) : Ok Try.prog n_slices_Clone___api_Retired_api_Retired [v] g fun v' g' => oSl ty_api_Retired 3 (oLf rRetired) g' g0.w.heap.size (NEW g g') v' l := by
  obtain ⟨oa, ca, rfl, a1, a2, a0, hr⟩ := id hl
  have hR : ∀ x ∈ l, InR x.version ∧ InR x.at_ := fun x hx => by
    obtain ⟨i, hi⟩ := List.getElem?_of_mem hx
    obtain ⟨_, _, _, _, ⟨_, h⟩, _⟩ := hr i x hi
    exact h
  have hrd := rSl_rd hl cRe fun _ _ h => h.1
  exact Ok.of_fn hm noT 0 t_slices_Clone___api_Retired_api_Retired (args := [.v (.slice oa l.length ca)]) (by
    cases oa with
    | none =>
      repeat ((conv => whnf); first | apply qza | apply qzb | apply qzc | apply qzd | apply qze | intro (_ : Nat) | intro (_ : Option Addr) (_ : Nat))
      conv => whnf
      refine ⟨fun _ => ?_, fun h => nomatch h⟩
      repeat ((conv => whnf); first | apply qza | apply qzb | apply qzc | apply qzd | apply qze | intro (_ : Nat) | intro (_ : Option Addr) (_ : Nat))
      conv => whnf
      intro g2 hg
      exact .inl ⟨List.length_eq_zero_iff.1 (a0 rfl).1, none, rfl⟩
    | some a =>
      repeat ((conv => whnf); first | apply qza | apply qzb | apply qzc | apply qzd | apply qze | intro (_ : Nat) | intro (_ : Option Addr) (_ : Nat))
      conv => whnf
      refine ⟨fun h => (nomatch h), fun _ => ?_⟩
      repeat ((conv => whnf); first | apply qza | apply qzb | apply qzc | apply qzd | apply qze | intro (_ : Nat) | intro (_ : Option Addr) (_ : Nat))
      conv => whnf
      refine ⟨⟨rfl, rfl, rfl, rfl, Nat.zero_le _⟩, ?_⟩
      conv => whnf
      refine ⟨_, ⟨hrd, oneF' fun _ _ => rfl⟩, ?_⟩
      repeat ((conv => whnf); first | apply qza | apply qzb | apply qzc | apply qzd | apply qze | intro (_ : Nat) | intro (_ : Option Addr) (_ : Nat))
      conv => whnf
      refine ⟨⟨by unfold maxLen; omega, by omega⟩, fun oa2 cap2 => ?_⟩
      repeat ((conv => whnf); first | apply qza | apply qzb | apply qzc | apply qzd | apply qze | intro (_ : Nat) | intro (_ : Option Addr) (_ : Nat))
      conv => whnf
      refine fun g1 hg1 hn1 hp1 => ?_
      conv => whnf
      intro g2 hg
      simp only [Nat.zero_add, List.nil_append] at hp1
      have hE := oEls_leaf (sz := 3) (r := rRetired) g g g0.w.heap.size cRe l fun x hx => ⟨rfl, rfl, hR x hx⟩
      have := oSl_up (oLf_fr rRetired_any) hg (oEls_sl (oLf_fr rRetired_any) hE (GW.refl _) hg1 (hp1.lo_le h0.1) rfl hn1)
      rwa [Nat.zero_add])
end Go.Proofs.Ytjaeeadfmnokeaa


/- Worlds: what is cloned: endpoints, groups, versions, rows. -/
namespace Go.Proofs.Ytjaeeadfmnokeaa
open Go.Proofs.Ytjaeeadfmnokeaa.Sx Go.RowKit
theorem ok_cEnd (g0 g : GW) (h0 : g0 ≤ g) {cs : List Value} {x : EndC} (hx : rEn g cs x) : Ok Try.prog n_world_cloner__end [.agg ⟨[]⟩, .agg ⟨cs⟩] g fun v g' => ∃ cs', v = .agg ⟨cs'⟩ ∧ oEn wT true g' g0.w.heap.size (NEW g g') cs' x := by
  obtain ⟨⟨n, rfl, hH, hA, hN⟩, hsz⟩ := hx
  obtain ⟨oa, ca, rfl, a1, a2, a0, hr⟩ := id hN
  exact Ok.of_fn hm noT 0 t_world_cloner__end (args := [.v (.agg ⟨[]⟩), .v (.agg ⟨[.int .u64 x.head, .slice oa x.next.length ca, .int .i64 x.active]⟩)]) (by
    repeat ((conv => whnf); first | apply qza | apply qzb | apply qzc | apply qzd | apply qze | intro (_ : Nat) | intro (_ : Option Addr) (_ : Nat))
    refine .inr ((ok_cInt g0 _ h0 hN hsz).mono fun v g1 hg1 hO => ?_)
    obtain ⟨oV, cV, rfl⟩ := oSl_val hO
    repeat ((conv => whnf); first | apply qza | apply qzb | apply qzc | apply qzd | apply qze | intro (_ : Nat) | intro (_ : Option Addr) (_ : Nat))
    conv => whnf
    intro g2 hg
    exact ⟨_, rfl, _, rfl, ⟨hH, hA, hsz⟩, .inl (oSl_up (oLf_fr rInt_any) hg hO)⟩)
theorem ok_eEnd (g0 g : GW) (h0 : g0 ≤ g) {v : Value} {l : List EndC} (hl : rSl 3 rEn g v l) (hlen : l.length ≤ 1000000)  : Ok Try.prog n_world_each_api_End_world_cloner [v, .func (.func n_world_cloner__end) #[] #[], .agg ⟨[]⟩] g fun v' g' => oSl ty_api_End 3 (oEn wT true) g' g0.w.heap.size (NEW g g') v' l := by
  obtain ⟨oa, ca, rfl, a1, a2, a0, hr⟩ := id hl
  exact Ok.of_fn hm noT 0 t_world_each_api_End_world_cloner (args := [.v (.slice oa l.length ca), .v (.func (.func n_world_cloner__end) #[] #[]), .v (.agg ⟨[]⟩)]) (by
    repeat ((conv => whnf); first | apply qza | apply qzb | apply qzc | apply qzd | apply qze | intro (_ : Nat) | intro (_ : Option Addr) (_ : Nat))
    conv => whnf
    refine ⟨⟨by omega, by omega, by omega, by omega⟩, fun _ => ?_⟩
    repeat ((conv => whnf); first | apply qza | apply qzb | apply qzc | apply qzd | apply qze | intro (_ : Nat) | intro (_ : Option Addr) (_ : Nat))
    rename_i q0 q1
    conv => whnf
    refine ⟨Nat × List (List Value) × GW, fun (k, _, _) => [.v (.int .i64 k)], fun (k, ecs, g') => ⟨g', [.row 1 (some ⟨q1, 0, none⟩) l.length l.length ty_api_End 3 (rowK ecs [.int .u64 0, .slice none 0 0, .int .i64 0] (l.length - k)), .blk 0 q0 ty_world_cloner []], 10, g.w.heap.size⟩, fun (k, ecs, g') => k ≤ l.length ∧ g ≤ g' ∧ oEls 3 (oEn wT true) g g' g0.w.heap.size ecs (l.take k), fun (k, _, _) => l.length - k, fun fr w hw => ⟨(0, [], g), rfl, ⟨Nat.zero_le _, GW.refl _, oEls_nil _ _ _⟩, hw.fit (by simp [fitL, Res.eqv, concL, conc, rowK])⟩, ?_⟩
    rintro ⟨k, ecs, g'⟩ ⟨hk, hgg, hE⟩
    have hE0 := hE
    obtain ⟨_, ⟨hel, hes⟩, _⟩ := hE0
    rw [List.length_take, Nat.min_eq_left hk] at hel
    repeat ((conv => whnf); first | apply qza | apply qzb | apply qzc | apply qzd | apply qze | intro (_ : Nat) | intro (_ : Option Addr) (_ : Nat))
    conv => whnf
    refine ⟨fun hlt => ?_, fun hlt => ?_⟩
    · have h' : k < l.length := by have := of_decide_eq_true hlt; omega
      obtain ⟨x, hx⟩ := getL_of h'
      obtain ⟨x1, x2⟩ := List.getElem?_eq_some_iff.1 hx
      obtain ⟨a, rfl, ec, hec, hxe, hc⟩ := hr k x hx
      have hxe0 := hxe
      obtain ⟨⟨nx, rfl, u1, u2, ⟨oN, cN, rfl, _⟩⟩, u3⟩ := hxe
      repeat ((conv => whnf); first | apply qza | apply qzb | apply qzc | apply qzd | apply qze | intro (_ : Nat) | intro (_ : Option Addr) (_ : Nat))
      conv => whnf
      refine ⟨a, rfl, ⟨by omega, by omega⟩, ?_⟩
      conv => whnf
      refine ⟨_, ⟨rfl, hc.mono hgg⟩, ?_⟩
      repeat ((conv => whnf); first | apply qza | apply qzb | apply qzc | apply qzd | apply qze | intro (_ : Nat) | intro (_ : Option Addr) (_ : Nat))
      conv => whnf
      refine ⟨.of (by kernel_rfl), ?_⟩
      refine .inr ((ok_cEnd g0 _ (GW.trans h0 hgg) (rEn_mono _ _ _ _ hgg hxe0)).mono fun v g1 hg1 hO => ?_)
      obtain ⟨cs', rfl, hO⟩ := hO
      have hO0 := hO
      obtain ⟨nv, rfl, _, hO1⟩ := hO0
      obtain ⟨oW, cW, rfl, _⟩ := oNx_rd hO1
      have hlenR := rowK_len (m := l.length - k) (z := [.int .u64 0, .slice none 0 0, .int .i64 0]) hes rfl
      have hT : l.take (k + 1) = l.take k ++ [x] := by rw [List.take_succ_eq_append_getElem x1, x2]
      have hset := rowK_set (m := l.length - k) (z := [.int .u64 0, .slice none 0 0, .int .i64 0]) hes rfl (by omega) (ec := [.int .u64 x.head, .slice oW x.next.length cW, .int .i64 x.active]) rfl hel.symm
      repeat ((conv => whnf); first | apply qza | apply qzb | apply qzc | apply qzd | apply qze | intro (_ : Nat) | intro (_ : Option Addr) (_ : Nat))
      conv => whnf
      refine ⟨⟨by omega, by omega⟩, ?_⟩
      repeat ((conv => whnf); first | apply qza | apply qzb | apply qzc | apply qzd | apply qze | intro (_ : Nat) | intro (_ : Option Addr) (_ : Nat))
      conv => whnf
      refine ⟨⟨by rw [hlenR, hel]; simp; omega, by decide⟩, ?_⟩
      repeat ((conv => whnf); first | apply qza | apply qzb | apply qzc | apply qzd | apply qze | intro (_ : Nat) | intro (_ : Option Addr) (_ : Nat))
      conv => whnf
      refine fun fr w hw => ⟨(k + 1, ecs ++ [[.int .u64 x.head, .slice oW x.next.length cW, .int .i64 x.active]], g1), congrArg (fun z => [Value.int .i64 z]) (wr1 h' a1 a2).symm, ⟨h', GW.trans hgg hg1, by rw [hT]; exact oEls_snoc oEn_fr hgg hg1 hE rfl hO⟩, dec h', hw.fit ?_⟩
      rw [show l.length - (k + 1) = l.length - k - 1 by omega]
      simp [fitL, Res.eqv, concL, conc, ← hset]
    have hkL : k = l.length := by have := of_decide_eq_false hlt; omega
    subst hkL
    rw [List.take_length] at hE
    repeat ((conv => whnf); first | apply qza | apply qzb | apply qzc | apply qzd | apply qze | intro (_ : Nat) | intro (_ : Option Addr) (_ : Nat))
    conv => whnf
    refine fun g1 hg1 hn1 hp1 => ?_
    rw [Nat.sub_self, rowK_done] at hp1
    conv => whnf
    intro g2 hg
    exact oSl_up oEn_fr hg (oEls_sl oEn_fr hE hgg hg1 (hp1.lo_le h0.1) rfl hn1))
theorem ok_cGroup (g0 g : GW) (h0 : g0 ≤ g) {cs : List Value} {x : Group} (hx : rGr g cs x) (hb : BgG 1000000 x) : Ok Try.prog n_world_cloner__group [.agg ⟨[]⟩, .agg ⟨cs⟩] g fun v g' => ∃ cs', v = .agg ⟨cs'⟩ ∧ oGr wT true g' g0.w.heap.size (NEW g g') cs' x := by
  obtain ⟨n, rfl, hH, hN⟩ := hx
  obtain ⟨oa, ca, rfl, a1, a2, a0, hr⟩ := id hN
  exact Ok.of_fn hm noT 0 t_world_cloner__group (args := [.v (.agg ⟨[]⟩), .v (.agg ⟨[.int .u64 x.ticket, .slice oa x.ends.length ca]⟩)]) (by
    repeat ((conv => whnf); first | apply qza | apply qzb | apply qzc | apply qzd | apply qze | intro (_ : Nat) | intro (_ : Option Addr) (_ : Nat))
    refine .inr ((ok_eEnd g0 _ h0 hN hb).mono fun v g1 hg1 hO => ?_)
    obtain ⟨oV, cV, rfl⟩ := oSl_val hO
    repeat ((conv => whnf); first | apply qza | apply qzb | apply qzc | apply qzd | apply qze | intro (_ : Nat) | intro (_ : Option Addr) (_ : Nat))
    conv => whnf
    intro g2 hg
    exact ⟨_, rfl, _, rfl, hH, oSl_up oEn_fr hg hO⟩)
theorem ok_eGroup (g0 g : GW) (h0 : g0 ≤ g) {v : Value} {l : List Group} (hl : rSl 2 rGr g v l) (hlen : l.length ≤ 1000000) (hb : ∀ y ∈ l, BgG 1000000 y) : Ok Try.prog n_world_each_api_Group_world_cloner [v, .func (.func n_world_cloner__group) #[] #[], .agg ⟨[]⟩] g fun v' g' => oSl ty_api_Group 2 (oGr wT true) g' g0.w.heap.size (NEW g g') v' l := by
  obtain ⟨oa, ca, rfl, a1, a2, a0, hr⟩ := id hl
  exact Ok.of_fn hm noT 0 t_world_each_api_Group_world_cloner (args := [.v (.slice oa l.length ca), .v (.func (.func n_world_cloner__group) #[] #[]), .v (.agg ⟨[]⟩)]) (by
    repeat ((conv => whnf); first | apply qza | apply qzb | apply qzc | apply qzd | apply qze | intro (_ : Nat) | intro (_ : Option Addr) (_ : Nat))
    conv => whnf
    refine ⟨⟨by omega, by omega, by omega, by omega⟩, fun _ => ?_⟩
    repeat ((conv => whnf); first | apply qza | apply qzb | apply qzc | apply qzd | apply qze | intro (_ : Nat) | intro (_ : Option Addr) (_ : Nat))
    rename_i q0 q1
    conv => whnf
    refine ⟨Nat × List (List Value) × GW, fun (k, _, _) => [.v (.int .i64 k)], fun (k, ecs, g') => ⟨g', [.row 1 (some ⟨q1, 0, none⟩) l.length l.length ty_api_Group 2 (rowK ecs [.int .u64 0, .slice none 0 0] (l.length - k)), .blk 0 q0 ty_world_cloner []], 10, g.w.heap.size⟩, fun (k, ecs, g') => k ≤ l.length ∧ g ≤ g' ∧ oEls 2 (oGr wT true) g g' g0.w.heap.size ecs (l.take k), fun (k, _, _) => l.length - k, fun fr w hw => ⟨(0, [], g), rfl, ⟨Nat.zero_le _, GW.refl _, oEls_nil _ _ _⟩, hw.fit (by simp [fitL, Res.eqv, concL, conc, rowK])⟩, ?_⟩
    rintro ⟨k, ecs, g'⟩ ⟨hk, hgg, hE⟩
    have hE0 := hE
    obtain ⟨_, ⟨hel, hes⟩, _⟩ := hE0
    rw [List.length_take, Nat.min_eq_left hk] at hel
    repeat ((conv => whnf); first | apply qza | apply qzb | apply qzc | apply qzd | apply qze | intro (_ : Nat) | intro (_ : Option Addr) (_ : Nat))
    conv => whnf
    refine ⟨fun hlt => ?_, fun hlt => ?_⟩
    · have h' : k < l.length := by have := of_decide_eq_true hlt; omega
      obtain ⟨x, hx⟩ := getL_of h'
      obtain ⟨x1, x2⟩ := List.getElem?_eq_some_iff.1 hx
      obtain ⟨a, rfl, ec, hec, hxe, hc⟩ := hr k x hx
      have hxe0 := hxe
      obtain ⟨nx, rfl, u1, ⟨oN, cN, rfl, _⟩⟩ := hxe
      repeat ((conv => whnf); first | apply qza | apply qzb | apply qzc | apply qzd | apply qze | intro (_ : Nat) | intro (_ : Option Addr) (_ : Nat))
      conv => whnf
      refine ⟨a, rfl, ⟨by omega, by omega⟩, ?_⟩
      conv => whnf
      refine ⟨_, ⟨rfl, hc.mono hgg⟩, ?_⟩
      repeat ((conv => whnf); first | apply qza | apply qzb | apply qzc | apply qzd | apply qze | intro (_ : Nat) | intro (_ : Option Addr) (_ : Nat))
      conv => whnf
      refine ⟨.of (by kernel_rfl), ?_⟩
      refine .inr ((ok_cGroup g0 _ (GW.trans h0 hgg) (rGr_mono _ _ _ _ hgg hxe0) (hb x (List.mem_of_getElem? hx))).mono fun v g1 hg1 hO => ?_)
      obtain ⟨cs', rfl, hO⟩ := hO
      have hO0 := hO
      obtain ⟨nv, rfl, _, hO1⟩ := hO0
      obtain ⟨oW, cW, rfl⟩ := oSl_val hO1
      have hlenR := rowK_len (m := l.length - k) (z := [.int .u64 0, .slice none 0 0]) hes rfl
      have hT : l.take (k + 1) = l.take k ++ [x] := by rw [List.take_succ_eq_append_getElem x1, x2]
      have hset := rowK_set (m := l.length - k) (z := [.int .u64 0, .slice none 0 0]) hes rfl (by omega) (ec := [.int .u64 x.ticket, .slice oW x.ends.length cW]) rfl hel.symm
      repeat ((conv => whnf); first | apply qza | apply qzb | apply qzc | apply qzd | apply qze | intro (_ : Nat) | intro (_ : Option Addr) (_ : Nat))
      conv => whnf
      refine ⟨⟨by omega, by omega⟩, ?_⟩
      repeat ((conv => whnf); first | apply qza | apply qzb | apply qzc | apply qzd | apply qze | intro (_ : Nat) | intro (_ : Option Addr) (_ : Nat))
      conv => whnf
      refine ⟨⟨by rw [hlenR, hel]; simp; omega, by decide⟩, ?_⟩
      repeat ((conv => whnf); first | apply qza | apply qzb | apply qzc | apply qzd | apply qze | intro (_ : Nat) | intro (_ : Option Addr) (_ : Nat))
      conv => whnf
      refine fun fr w hw => ⟨(k + 1, ecs ++ [[.int .u64 x.ticket, .slice oW x.ends.length cW]], g1), congrArg (fun z => [Value.int .i64 z]) (wr1 h' a1 a2).symm, ⟨h', GW.trans hgg hg1, by rw [hT]; exact oEls_snoc oGr_fr hgg hg1 hE rfl hO⟩, dec h', hw.fit ?_⟩
      rw [show l.length - (k + 1) = l.length - k - 1 by omega]
      simp [fitL, Res.eqv, concL, conc, ← hset]
    have hkL : k = l.length := by have := of_decide_eq_false hlt; omega
    subst hkL
    rw [List.take_length] at hE
    repeat ((conv => whnf); first | apply qza | apply qzb | apply qzc | apply qzd | apply qze | intro (_ : Nat) | intro (_ : Option Addr) (_ : Nat))
    conv => whnf
    refine fun g1 hg1 hn1 hp1 => ?_
    rw [Nat.sub_self, rowK_done] at hp1
    conv => whnf
    intro g2 hg
    exact oSl_up oGr_fr hg (oEls_sl oGr_fr hE hgg hg1 (hp1.lo_le h0.1) rfl hn1))
theorem ok_cVersion (g0 g : GW) (h0 : g0 ≤ g) {cs : List Value} {x : Version} (hx : rVe g0 cs x) (hb : BgV 1000000 x) : Ok Try.prog n_world_cloner__version [.agg ⟨[]⟩, .agg ⟨cs⟩] g fun v g' => ∃ cs', v = .agg ⟨cs'⟩ ∧ oVe wT true g' g0.w.heap.size (NEW g g') cs' x := by
  obtain ⟨a, b, d, n, rfl, hS, hN⟩ := hx
  have hS0 := hS
  obtain ⟨_, _, _, he, ⟨oa', ca', rfl, _⟩, ⟨ob', cb', rfl, _⟩, ⟨od', cd', rfl, _⟩⟩ := hS
  cases he
  obtain ⟨oa, ca, rfl, a1, a2, a0, hr⟩ := id hN
  exact Ok.of_fn hm noT 0 t_world_cloner__version (args := [.v (.agg ⟨[]⟩), .v (.agg ⟨[.slice oa' x.snap.listens.length ca', .slice ob' x.snap.rules.length cb', .slice od' x.snap.clusters.length cd', .slice oa x.groups.length ca, .bool x.freed]⟩)]) (by
    repeat ((conv => whnf); first | apply qza | apply qzb | apply qzc | apply qzd | apply qze | intro (_ : Nat) | intro (_ : Option Addr) (_ : Nat))
    refine .inr ((ok_eGroup g0 _ h0 (hN.mono rGr_mono h0) hb.1 hb.2).mono fun v g1 hg1 hO => ?_)
    obtain ⟨oV, cV, rfl⟩ := oSl_val hO
    repeat ((conv => whnf); first | apply qza | apply qzb | apply qzc | apply qzd | apply qze | intro (_ : Nat) | intro (_ : Option Addr) (_ : Nat))
    conv => whnf
    intro g2 hg
    exact ⟨_, rfl, _, _, _, _, rfl, rSnap_mono _ _ _ _ (GW.le_vw (GW.trans h0 (GW.trans hg1 hg)) (Nat.le_refl _)) hS0, oSl_up oGr_fr hg hO⟩)
theorem ok_eVersion (g0 g : GW) (h0 : g0 ≤ g) {v : Value} {l : List Version} (hl : rSl 5 rVe g0 v l) (hlen : l.length ≤ 1000000) (hb : ∀ y ∈ l, BgV 1000000 y) : Ok Try.prog n_world_each_api_Version_world_cloner [v, .func (.func n_world_cloner__version) #[] #[], .agg ⟨[]⟩] g fun v' g' => oSl ty_api_Version 5 (oVe wT true) g' g0.w.heap.size (NEW g g') v' l := by
  obtain ⟨oa, ca, rfl, a1, a2, a0, hr⟩ := id hl
  exact Ok.of_fn hm noT 0 t_world_each_api_Version_world_cloner (args := [.v (.slice oa l.length ca), .v (.func (.func n_world_cloner__version) #[] #[]), .v (.agg ⟨[]⟩)]) (by
    repeat ((conv => whnf); first | apply qza | apply qzb | apply qzc | apply qzd | apply qze | intro (_ : Nat) | intro (_ : Option Addr) (_ : Nat))
    conv => whnf
    refine ⟨⟨by omega, by omega, by omega, by omega⟩, fun _ => ?_⟩
    repeat ((conv => whnf); first | apply qza | apply qzb | apply qzc | apply qzd | apply qze | intro (_ : Nat) | intro (_ : Option Addr) (_ : Nat))
    rename_i q0 q1
    conv => whnf
    refine ⟨Nat × List (List Value) × GW, fun (k, _, _) => [.v (.int .i64 k)], fun (k, ecs, g') => ⟨g', [.row 1 (some ⟨q1, 0, none⟩) l.length l.length ty_api_Version 5 (rowK ecs [.slice none 0 0, .slice none 0 0, .slice none 0 0, .slice none 0 0, .bool false] (l.length - k)), .blk 0 q0 ty_world_cloner []], 10, g.w.heap.size⟩, fun (k, ecs, g') => k ≤ l.length ∧ g ≤ g' ∧ oEls 5 (oVe wT true) g g' g0.w.heap.size ecs (l.take k), fun (k, _, _) => l.length - k, fun fr w hw => ⟨(0, [], g), rfl, ⟨Nat.zero_le _, GW.refl _, oEls_nil _ _ _⟩, hw.fit (by simp [fitL, Res.eqv, concL, conc, rowK])⟩, ?_⟩
    rintro ⟨k, ecs, g'⟩ ⟨hk, hgg, hE⟩
    have hE0 := hE
    obtain ⟨_, ⟨hel, hes⟩, _⟩ := hE0
    rw [List.length_take, Nat.min_eq_left hk] at hel
    repeat ((conv => whnf); first | apply qza | apply qzb | apply qzc | apply qzd | apply qze | intro (_ : Nat) | intro (_ : Option Addr) (_ : Nat))
    conv => whnf
    refine ⟨fun hlt => ?_, fun hlt => ?_⟩
    · have h' : k < l.length := by have := of_decide_eq_true hlt; omega
      obtain ⟨x, hx⟩ := getL_of h'
      obtain ⟨x1, x2⟩ := List.getElem?_eq_some_iff.1 hx
      obtain ⟨a, rfl, ec, hec, hxe, hc⟩ := hr k x hx
      have hxe0 := hxe
      obtain ⟨sa, sb, sd, nx, rfl, ⟨_, _, _, hee, ⟨oa', ca', rfl, _⟩, ⟨ob', cb', rfl, _⟩, ⟨od', cd', rfl, _⟩⟩, ⟨oN, cN, rfl, _⟩⟩ := hxe
      cases hee
      repeat ((conv => whnf); first | apply qza | apply qzb | apply qzc | apply qzd | apply qze | intro (_ : Nat) | intro (_ : Option Addr) (_ : Nat))
      conv => whnf
      refine ⟨a, rfl, ⟨by omega, by omega⟩, ?_⟩
      conv => whnf
      refine ⟨_, ⟨rfl, hc.mono (GW.trans h0 hgg)⟩, ?_⟩
      repeat ((conv => whnf); first | apply qza | apply qzb | apply qzc | apply qzd | apply qze | intro (_ : Nat) | intro (_ : Option Addr) (_ : Nat))
      conv => whnf
      refine ⟨.of (by kernel_rfl), ?_⟩
      refine .inr ((ok_cVersion g0 _ (GW.trans h0 hgg) hxe0 (hb x (List.mem_of_getElem? hx))).mono fun v g1 hg1 hO => ?_)
      obtain ⟨cs', rfl, hO⟩ := hO
      have hO0 := hO
      obtain ⟨ua, ub, ud, nv, rfl, ⟨_, _, _, hee, ⟨oa2, ca2, rfl, _⟩, ⟨ob2, cb2, rfl, _⟩, ⟨od2, cd2, rfl, _⟩⟩, hO1⟩ := hO0
      cases hee
      obtain ⟨oW, cW, rfl⟩ := oSl_val hO1
      have hlenR := rowK_len (m := l.length - k) (z := [.slice none 0 0, .slice none 0 0, .slice none 0 0, .slice none 0 0, .bool false]) hes rfl
      have hT : l.take (k + 1) = l.take k ++ [x] := by rw [List.take_succ_eq_append_getElem x1, x2]
      have hset := rowK_set (m := l.length - k) (z := [.slice none 0 0, .slice none 0 0, .slice none 0 0, .slice none 0 0, .bool false]) hes rfl (by omega) (ec := [.slice oa2 x.snap.listens.length ca2, .slice ob2 x.snap.rules.length cb2, .slice od2 x.snap.clusters.length cd2, .slice oW x.groups.length cW, .bool x.freed]) rfl hel.symm
      repeat ((conv => whnf); first | apply qza | apply qzb | apply qzc | apply qzd | apply qze | intro (_ : Nat) | intro (_ : Option Addr) (_ : Nat))
      conv => whnf
      refine ⟨⟨by omega, by omega⟩, ?_⟩
      repeat ((conv => whnf); first | apply qza | apply qzb | apply qzc | apply qzd | apply qze | intro (_ : Nat) | intro (_ : Option Addr) (_ : Nat))
      conv => whnf
      refine ⟨⟨by rw [hlenR, hel]; simp; omega, by decide⟩, ?_⟩
      repeat ((conv => whnf); first | apply qza | apply qzb | apply qzc | apply qzd | apply qze | intro (_ : Nat) | intro (_ : Option Addr) (_ : Nat))
      conv => whnf
      refine fun fr w hw => ⟨(k + 1, ecs ++ [[.slice oa2 x.snap.listens.length ca2, .slice ob2 x.snap.rules.length cb2, .slice od2 x.snap.clusters.length cd2, .slice oW x.groups.length cW, .bool x.freed]], g1), congrArg (fun z => [Value.int .i64 z]) (wr1 h' a1 a2).symm, ⟨h', GW.trans hgg hg1, by rw [hT]; exact oEls_snoc oVe_fr hgg hg1 hE rfl hO⟩, dec h', hw.fit ?_⟩
      rw [show l.length - (k + 1) = l.length - k - 1 by omega]
      simp [fitL, Res.eqv, concL, conc, ← hset]
    have hkL : k = l.length := by have := of_decide_eq_false hlt; omega
    subst hkL
    rw [List.take_length] at hE
    repeat ((conv => whnf); first | apply qza | apply qzb | apply qzc | apply qzd | apply qze | intro (_ : Nat) | intro (_ : Option Addr) (_ : Nat))
    conv => whnf
    refine fun g1 hg1 hn1 hp1 => ?_
    rw [Nat.sub_self, rowK_done] at hp1
    conv => whnf
    intro g2 hg
    exact oSl_up oVe_fr hg (oEls_sl oVe_fr hE hgg hg1 (hp1.lo_le h0.1) rfl hn1))
theorem ok_cRow (g0 g : GW) (h0 : g0 ≤ g) {v : Value} {x : List Int} (hx : rSl 1 rU64 g v x) (hb : x.length ≤ 17592186044416) : Ok Try.prog n_world_cloner__row [.agg ⟨[]⟩, v] g fun v' g' => oSl ty_uint64 1 (oLf rU64) g' g0.w.heap.size (NEW g g') v' x := by
  obtain ⟨oa, ca, rfl, a1, a2, a0, hr⟩ := id hx
  exact Ok.of_fn hm noT 0 t_world_cloner__row (args := [.v (.agg ⟨[]⟩), .v (.slice oa x.length ca)]) (by
    repeat ((conv => whnf); first | apply qza | apply qzb | apply qzc | apply qzd | apply qze | intro (_ : Nat) | intro (_ : Option Addr) (_ : Nat))
    refine .inr ((ok_cU g0 _ h0 hx hb).mono fun v g1 hg1 hO => ?_)
    obtain ⟨oV, cV, rfl⟩ := oSl_val hO
    repeat ((conv => whnf); first | apply qza | apply qzb | apply qzc | apply qzd | apply qze | intro (_ : Nat) | intro (_ : Option Addr) (_ : Nat))
    conv => whnf
    intro g2 hg
    exact oSl_up (oLf_fr rU64_any) hg hO)
theorem ok_eRow (g0 g : GW) (h0 : g0 ≤ g) {v : Value} {l : List (List Int)} (hl : rSl 1 rRow g v l) (hlen : l.length ≤ 1000000) (hb : ∀ y ∈ l, y.length ≤ 1000000) : Ok Try.prog n_world_each___uint64_world_cloner [v, .func (.func n_world_cloner__row) #[] #[], .agg ⟨[]⟩] g fun v' g' => oSl ty_sl_uint64 1 (oRo wT) g' g0.w.heap.size (NEW g g') v' l := by
  obtain ⟨oa, ca, rfl, a1, a2, a0, hr⟩ := id hl
  exact Ok.of_fn hm noT 0 t_world_each___uint64_world_cloner (args := [.v (.slice oa l.length ca), .v (.func (.func n_world_cloner__row) #[] #[]), .v (.agg ⟨[]⟩)]) (by
    repeat ((conv => whnf); first | apply qza | apply qzb | apply qzc | apply qzd | apply qze | intro (_ : Nat) | intro (_ : Option Addr) (_ : Nat))
    conv => whnf
    refine ⟨⟨by omega, by omega, by omega, by omega⟩, fun _ => ?_⟩
    repeat ((conv => whnf); first | apply qza | apply qzb | apply qzc | apply qzd | apply qze | intro (_ : Nat) | intro (_ : Option Addr) (_ : Nat))
    rename_i q0 q1
    conv => whnf
    refine ⟨Nat × List (List Value) × GW, fun (k, _, _) => [.v (.int .i64 k)], fun (k, ecs, g') => ⟨g', [.row 1 (some ⟨q1, 0, none⟩) l.length l.length ty_sl_uint64 1 (rowK ecs [.slice none 0 0] (l.length - k)), .blk 0 q0 ty_world_cloner []], 10, g.w.heap.size⟩, fun (k, ecs, g') => k ≤ l.length ∧ g ≤ g' ∧ oEls 1 (oRo wT) g g' g0.w.heap.size ecs (l.take k), fun (k, _, _) => l.length - k, fun fr w hw => ⟨(0, [], g), rfl, ⟨Nat.zero_le _, GW.refl _, oEls_nil _ _ _⟩, hw.fit (by simp [fitL, Res.eqv, concL, conc, rowK])⟩, ?_⟩
    rintro ⟨k, ecs, g'⟩ ⟨hk, hgg, hE⟩
    have hE0 := hE
    obtain ⟨_, ⟨hel, hes⟩, _⟩ := hE0
    rw [List.length_take, Nat.min_eq_left hk] at hel
    repeat ((conv => whnf); first | apply qza | apply qzb | apply qzc | apply qzd | apply qze | intro (_ : Nat) | intro (_ : Option Addr) (_ : Nat))
    conv => whnf
    refine ⟨fun hlt => ?_, fun hlt => ?_⟩
    · have h' : k < l.length := by have := of_decide_eq_true hlt; omega
      obtain ⟨x, hx⟩ := getL_of h'
      obtain ⟨x1, x2⟩ := List.getElem?_eq_some_iff.1 hx
      obtain ⟨a, rfl, ec, hec, hxe, hc⟩ := hr k x hx
      have hxe0 := hxe
      obtain ⟨nx, rfl, hN⟩ := hxe
      have hN0 := hN
      obtain ⟨oN, cN, rfl, _⟩ := hN
      repeat ((conv => whnf); first | apply qza | apply qzb | apply qzc | apply qzd | apply qze | intro (_ : Nat) | intro (_ : Option Addr) (_ : Nat))
      conv => whnf
      refine ⟨a, rfl, ⟨by omega, by omega⟩, ?_⟩
      conv => whnf
      refine ⟨_, hc.mono hgg 0 _ rfl, ?_⟩
      repeat ((conv => whnf); first | apply qza | apply qzb | apply qzc | apply qzd | apply qze | intro (_ : Nat) | intro (_ : Option Addr) (_ : Nat))
      conv => whnf
      refine ⟨.of (by kernel_rfl), ?_⟩
      refine .inr ((ok_cRow g0 _ (GW.trans h0 hgg) (hN0.mono rU64_mono hgg) (by have := hb x (List.mem_of_getElem? hx); omega)).mono fun v g1 hg1 hO => ?_)
      obtain ⟨oW, cW, rfl⟩ := oSl_val hO
      have hlenR := rowK_len (m := l.length - k) (z := [.slice none 0 0]) hes rfl
      have hT : l.take (k + 1) = l.take k ++ [x] := by rw [List.take_succ_eq_append_getElem x1, x2]
      have hset := rowK_set (m := l.length - k) (z := [.slice none 0 0]) hes rfl (by omega) (ec := [.slice oW x.length cW]) rfl hel.symm
      repeat ((conv => whnf); first | apply qza | apply qzb | apply qzc | apply qzd | apply qze | intro (_ : Nat) | intro (_ : Option Addr) (_ : Nat))
      conv => whnf
      refine ⟨⟨by omega, by omega⟩, ?_⟩
      repeat ((conv => whnf); first | apply qza | apply qzb | apply qzc | apply qzd | apply qze | intro (_ : Nat) | intro (_ : Option Addr) (_ : Nat))
      conv => whnf
      refine ⟨⟨by rw [hlenR, hel]; simp; omega, by decide⟩, ?_⟩
      repeat ((conv => whnf); first | apply qza | apply qzb | apply qzc | apply qzd | apply qze | intro (_ : Nat) | intro (_ : Option Addr) (_ : Nat))
      conv => whnf
      refine fun fr w hw => ⟨(k + 1, ecs ++ [[.slice oW x.length cW]], g1), congrArg (fun z => [Value.int .i64 z]) (wr1 h' a1 a2).symm, ⟨h', GW.trans hgg hg1, by rw [hT]; exact oEls_snoc oRo_fr hgg hg1 hE rfl ⟨_, rfl, hO⟩⟩, dec h', hw.fit ?_⟩
      rw [show l.length - (k + 1) = l.length - k - 1 by omega]
      simp [fitL, Res.eqv, concL, conc, ← hset]
    have hkL : k = l.length := by have := of_decide_eq_false hlt; omega
    subst hkL
    rw [List.take_length] at hE
    repeat ((conv => whnf); first | apply qza | apply qzb | apply qzc | apply qzd | apply qze | intro (_ : Nat) | intro (_ : Option Addr) (_ : Nat))
    conv => whnf
    refine fun g1 hg1 hn1 hp1 => ?_
    rw [Nat.sub_self, rowK_done] at hp1
    conv => whnf
    intro g2 hg
    exact oSl_up oRo_fr hg (oEls_sl oRo_fr hE hgg hg1 (hp1.lo_le h0.1) rfl hn1))
end Go.Proofs.Ytjaeeadfmnokeaa


/- Worlds: clones. -/
namespace Go.Proofs.Ytjaeeadfmnokeaa
open Go.Proofs.Ytjaeeadfmnokeaa.Sx Go.RowKit
/-- A world of its own. -/
def CloneP (g : GW) (w : Wd) (v : Value) (g' : GW) : Prop := ∃ cs T, v = .agg ⟨cs⟩ ∧ oWo wT true g' g.w.heap.size T cs w
/-- Five parts, one behind the other. -/
def T5 (g1 g2 g3 g4 g5 g6 : GW) : Nat → Nat → Prop := fun i n => match i with
  | 0 => NEW g1 g2 n
  | 1 => NEW g2 g3 n
  | 2 => NEW g3 g4 n
  | 3 => NEW g4 g5 n
  | 4 => NEW g5 g6 n
  | _ => False
theorem T5_disj {g1 g2 g3 g4 g5 g6 : GW} (h1 : g1 ≤ g2) (h2 : g2 ≤ g3) (h3 : g3 ≤ g4) (h4 : g4 ≤ g5) (i j n : Nat) (p : T5 g1 g2 g3 g4 g5 g6 i n) (q : T5 g1 g2 g3 g4 g5 g6 j n) : i = j := by
  have e3 := GW.trans h2 h3
  have e4 := GW.trans e3 h4
  have e5 := GW.trans h3 h4
  have key : ∀ {a b c d : GW}, b ≤ c → NEW a b n → NEW c d n → False := fun k p q => q.2 (k.2 n p.1).1
  match i, j, p, q with
  | 0, 0, _, _ => rfl
  | 1, 1, _, _ => rfl
  | 2, 2, _, _ => rfl
  | 3, 3, _, _ => rfl
  | 4, 4, _, _ => rfl
  | 0, 1, p, q => exact (key (GW.refl _) p q).elim
  | 0, 2, p, q => exact (key h2 p q).elim
  | 0, 3, p, q => exact (key e3 p q).elim
  | 0, 4, p, q => exact (key e4 p q).elim
  | 1, 2, p, q => exact (key (GW.refl _) p q).elim
  | 1, 3, p, q => exact (key h3 p q).elim
  | 1, 4, p, q => exact (key e5 p q).elim
  | 2, 3, p, q => exact (key (GW.refl _) p q).elim
  | 2, 4, p, q => exact (key h4 p q).elim
  | 3, 4, p, q => exact (key (GW.refl _) p q).elim
  | 1, 0, p, q => exact (key (GW.refl _) q p).elim
  | 2, 0, p, q => exact (key h2 q p).elim
  | 3, 0, p, q => exact (key e3 q p).elim
  | 4, 0, p, q => exact (key e4 q p).elim
  | 2, 1, p, q => exact (key (GW.refl _) q p).elim
  | 3, 1, p, q => exact (key h3 q p).elim
  | 4, 1, p, q => exact (key e5 q p).elim
  | 3, 2, p, q => exact (key (GW.refl _) q p).elim
  | 4, 2, p, q => exact (key h4 q p).elim
  | 4, 3, p, q => exact (key (GW.refl _) q p).elim
  | _ + 5, _, p, _ => exact p.elim
  | _, _ + 5, _, q => exact q.elim
theorem ok_Clone (g : GW) {cs : List Value} {w : Wd} (hw : rWo g cs w) (hb : BgW 1000000 w) : Ok Try.prog n_world_Clone [.agg ⟨cs⟩] g (CloneP g w) := by
  obtain ⟨a, b, c, d, e, rfl, ⟨i1, i2, i3⟩, hP, hV, hL, hC, hR⟩ := hw
  obtain ⟨⟨z1, z2, z3, z4, z5⟩, z6, z7⟩ := hb
  obtain ⟨oa, ca, rfl, a1, a2, a0, hP1⟩ := id hP
  obtain ⟨ob, cb, rfl, b1, b2, b0, hV1⟩ := id hV
  obtain ⟨oc, cc, rfl, c1, c2, c0, hL1⟩ := id hL
  obtain ⟨od, cd, rfl, d1, d2, d0, hC1⟩ := id hC
  obtain ⟨oe, ce, rfl, e1, e2, e0, hR1⟩ := id hR
  exact Ok.of_fn hm noT 0 t_world_Clone (args := [.v (.agg ⟨[.int .i64 w.epoch, .int .i64 w.current, .int .i64 w.lock, .slice oa w.pins.length ca, .slice ob w.versions.length cb, .slice oc w.listens.length cc, .slice od w.counts.length cd, .slice oe w.limbo.length ce]⟩)]) (by
    repeat ((conv => whnf); first | apply qza | apply qzb | apply qzc | apply qzd | apply qze | intro (_ : Nat) | intro (_ : Option Addr) (_ : Nat))
    refine .inr ((ok_cInt g _ (GW.refl _) hP (by omega)).mono fun v1 r1 k1 o1 => ?_)
    obtain ⟨p1, q1, rfl⟩ := oSl_val o1
    repeat ((conv => whnf); first | apply qza | apply qzb | apply qzc | apply qzd | apply qze | intro (_ : Nat) | intro (_ : Option Addr) (_ : Nat))
    refine .inr ((ok_eVersion g _ k1 hV z2 z7).mono fun v2 r2 k2 o2 => ?_)
    obtain ⟨p2, q2, rfl⟩ := oSl_val o2
    have m2 := GW.trans k1 k2
    repeat ((conv => whnf); first | apply qza | apply qzb | apply qzc | apply qzd | apply qze | intro (_ : Nat) | intro (_ : Option Addr) (_ : Nat))
    refine .inr ((ok_cLi g _ m2 (hL.mono rListen_mono m2) z3).mono fun v3 r3 k3 o3 => ?_)
    obtain ⟨p3, q3, rfl⟩ := oSl_val o3
    have m3 := GW.trans m2 k3
    repeat ((conv => whnf); first | apply qza | apply qzb | apply qzc | apply qzd | apply qze | intro (_ : Nat) | intro (_ : Option Addr) (_ : Nat))
    refine .inr ((ok_eRow g _ m3 (hC.mono rRow_mono m3) z4 z6).mono fun v4 r4 k4 o4 => ?_)
    obtain ⟨p4, q4, rfl⟩ := oSl_val o4
    have m4 := GW.trans m3 k4
    repeat ((conv => whnf); first | apply qza | apply qzb | apply qzc | apply qzd | apply qze | intro (_ : Nat) | intro (_ : Option Addr) (_ : Nat))
    refine .inr ((ok_cRe g _ m4 (hR.mono rRetired_mono m4) z5).mono fun v5 r5 k5 o5 => ?_)
    obtain ⟨p5, q5, rfl⟩ := oSl_val o5
    repeat ((conv => whnf); first | apply qza | apply qzb | apply qzc | apply qzd | apply qze | intro (_ : Nat) | intro (_ : Option Addr) (_ : Nat))
    conv => whnf
    intro g2 hg
    have n5 := hg
    have n4 := GW.trans k5 n5
    have n3 := GW.trans k4 n4
    have n2 := GW.trans k3 n3
    have n1 := GW.trans k2 n2
    exact ⟨_, T5 g r1 r2 r3 r4 r5, rfl, _, _, _, _, _, rfl, ⟨i1, i2, i3⟩, T5_disj k1 k2 k3 k4, oSl_fr (oLf_fr rInt_any) (GW.vw_up n1 _ _) o1, oSl_fr oVe_fr (GW.vw_up n2 _ _) o2, oSl_fr (oLf_fr rListen_any) (GW.vw_up n3 _ _) o3, oSl_fr oRo_fr (GW.vw_up n4 _ _) o4, oSl_fr (oLf_fr rRetired_any) (GW.vw_up n5 _ _) o5⟩)
end Go.Proofs.Ytjaeeadfmnokeaa


/- Worlds: clones, the document's answer. -/
namespace Go.Proofs.Ytjaeeadfmnokeaa
open Go.Proofs.Ytjaeeadfmnokeaa.Sx Go.RowKit
end Go.Proofs.Ytjaeeadfmnokeaa


/- Pins: a thread is pinned no more. -/
namespace Go.Proofs.Ytjaeeadfmnokeaa
open Go.Proofs.Ytjaeeadfmnokeaa.Sx Go.RowKit
end Go.Proofs.Ytjaeeadfmnokeaa


/- Pins: a thread is pinned no more; the document's answer. -/
namespace Go.Proofs.Ytjaeeadfmnokeaa
open Go.Proofs.Ytjaeeadfmnokeaa.Sx Go.RowKit
end Go.Proofs.Ytjaeeadfmnokeaa

