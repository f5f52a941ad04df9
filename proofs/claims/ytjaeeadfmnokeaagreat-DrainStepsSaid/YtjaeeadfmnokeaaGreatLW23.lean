/- Drains: a step. -/
import Derived.Test.YtjaeeadfmnokeaaGreatLW9k
import Derived.Test.YtjaeeadfmnokeaaGreatLW9a
import Derived.Test.YtjaeeadfmnokeaaGreatPl
import Derived.Test.YtjaeeadfmnokeaaGreatLW9h
import Derived.Test.YtjaeeadfmnokeaaGreatLS7b
namespace Go.Proofs.YtjaeeadfmnokeaaGreat
open Go.Proofs.YtjaeeadfmnokeaaGreat.Sx Go.RowKit
def DrP (w : Wd) (m : Mach) (v : Value) (g' : GW) : Prop := ∃ cs ms, v = .tuple #[.agg ⟨cs⟩, .agg ⟨ms⟩, .agg ⟨(drE w m).cs⟩] ∧ rWo g' cs (drW w m) ∧ rMach g' ms (drM w m)
theorem ok_gDrain (g : GW) (x : Listen) : OkV Tryz.prog n_gates_Drain [.agg ⟨cLis x⟩] g (.agg ⟨cLis (drL x)⟩) :=
  Ok.of_fn hm noT 0 t_gates_Drain (args := [.v (.agg ⟨cLis x⟩)]) (by
    repeat ((conv => whnf); first | apply qza | apply qzb | apply qzc | apply qzd | apply qze | intro (_ : Nat) | intro (_ : Option Addr) (_ : Nat))
    conv => whnf
    intro g2 hg
    rfl)
def tDr : List (Nat × FnI) := [(n_drain_work__ends, f_drain_work__ends)]
theorem tDr_ok : TblOk Tryz.prog tDr := by
  intro x hx
  simp only [tDr, List.mem_cons, List.not_mem_nil, or_false] at hx
  rcases hx with rfl
  exact ⟨_, _, t_drain_work__ends⟩
set_option maxHeartbeats 8000000 in
set_option maxRecDepth 100000 in
theorem ok_dStep (g : GW) {cs ms : List Value} {w : Wd} {m : Mach} (hw : rWo g cs w) (hM : rMach g ms m) (hsn : SnW w) (hb : BgW 1000000 w) : Ok Tryz.prog n_drain_Step [.agg ⟨cs⟩, .agg ⟨ms⟩] g (DrP w m) := by
  have hw0 := hw
  have hM0 := hM
  obtain ⟨a, b, c, d, e, rfl, ⟨i1, i2, i3⟩, hP, hV, hL, hC, hR⟩ := hw
  obtain ⟨oa, ca, rfl, a1, a2, a0, hP1⟩ := id hP
  obtain ⟨ob, cb, rfl, b1, b2, b0, hV1⟩ := id hV
  obtain ⟨oc, cc, rfl, c1, c2, c0, hL1⟩ := id hL
  obtain ⟨od, cd, rfl, d1, d2, d0, hC1⟩ := id hC
  obtain ⟨oe, ce, rfl, e1, e2, e0, hR1⟩ := id hR
  obtain ⟨ma, mb, md, rfl, hok, hop, hcf⟩ := hM
  obtain ⟨_, _, _, he, ⟨o1, t1, rfl, _⟩, ⟨o2, t2, rfl, _⟩, ⟨o3, t3, rfl, _⟩⟩ := id hcf
  cases he
  exact Ok.of_fn hm tDr_ok 2 t_drain_Step (args := [.v (.agg ⟨[.int .i64 w.epoch, .int .i64 w.current, .int .i64 w.lock, .slice oa w.pins.length ca, .slice ob w.versions.length cb, .slice oc w.listens.length cc, .slice od w.counts.length cd, .slice oe w.limbo.length ce]⟩), .v (.agg ⟨m.cs (.slice o1 m.op.config.listens.length t1) (.slice o2 m.op.config.routes.length t2) (.slice o3 m.op.config.clusters.length t3)⟩)]) (by
    repeat ((conv => whnf); first | apply qza | apply qzb | apply qzc | apply qzd | apply qze | intro (_ : Nat) | intro (_ : Option Addr) (_ : Nat))
    conv => whnf
    refine ⟨fun z1 => ?_, fun z1 => ?_⟩
    · repeat ((conv => whnf); first | apply qza | apply qzb | apply qzc | apply qzd | apply qze | intro (_ : Nat) | intro (_ : Option Addr) (_ : Nat))
      conv => whnf
      intro g2 hg
      obtain ⟨hWd, hMm, hE⟩ := dr_no (w := w) (m := m) (fun h => bneT z1 h.2)
      exact ⟨_, _, by rw [hE]; rfl, by rw [hWd]; exact rWo_mono _ _ _ _ hg hw0, by rw [hMm]; exact rMach_mono _ _ _ _ hg hM0⟩
    repeat ((conv => whnf); first | apply qza | apply qzb | apply qzc | apply qzd | apply qze | intro (_ : Nat) | intro (_ : Option Addr) (_ : Nat))
    conv => whnf
    refine .inl ⟨_, ok_Suits _ hw0 hM0 hsn hb, ?_⟩
    repeat ((conv => whnf); first | apply qza | apply qzb | apply qzc | apply qzd | apply qze | intro (_ : Nat) | intro (_ : Option Addr) (_ : Nat))
    conv => whnf
    refine ⟨fun z2 => ?_, fun z2 => ?_⟩
    · repeat ((conv => whnf); first | apply qza | apply qzb | apply qzc | apply qzd | apply qze | intro (_ : Nat) | intro (_ : Option Addr) (_ : Nat))
      conv => whnf
      intro g2 hg
      obtain ⟨hWd, hMm, hE⟩ := dr_no (w := w) (m := m) (fun h => by rw [h.1] at z2; cases z2)
      exact ⟨_, _, by rw [hE]; rfl, by rw [hWd]; exact rWo_mono _ _ _ _ hg hw0, by rw [hMm]; exact rMach_mono _ _ _ _ hg hM0⟩
    have hs := nb0 z2
    have hgo : drGo w m := ⟨hs, bneF z1⟩
    repeat ((conv => whnf); first | apply qza | apply qzb | apply qzc | apply qzd | apply qze | intro (_ : Nat) | intro (_ : Option Addr) (_ : Nat))
    refine .inr ((ok_Clone _ hw0 hb).mono fun v g3 hg3 hO => ?_)
    obtain ⟨cs, T, rfl, hT⟩ := hO
    have hF := oWo_rd hT
    obtain ⟨oa', ca', ob', cb', oc', cc', od', cd', oe', ce', rfl⟩ := rWo_open hF
    obtain ⟨_, _, _, _, _, hq, _, _, _, hLi, _, _⟩ := id hF
    simp only [List.cons.injEq, and_true] at hq
    obtain ⟨_, _, _, _, _, rfl, _⟩ := hq
    repeat ((conv => whnf); first | apply qza | apply qzb | apply qzc | apply qzd | apply qze | intro (_ : Nat) | intro (_ : Option Addr) (_ : Nat))
    conv => whnf
    refine .inl ⟨_, ok_gPlace _ hLi _, ?_⟩
    repeat ((conv => whnf); first | apply qza | apply qzb | apply qzc | apply qzd | apply qze | intro (_ : Nat) | intro (_ : Option Addr) (_ : Nat))
    conv => whnf
    refine ⟨fun z3 => ?_, fun z3 => ?_⟩
    · obtain ⟨hWd, hMm, hE⟩ := dr_none hgo (show drI w m < 0 from of_decide_eq_true z3)
      repeat ((conv => whnf); first | apply qza | apply qzb | apply qzc | apply qzd | apply qze | intro (_ : Nat) | intro (_ : Option Addr) (_ : Nat))
      conv => whnf
      intro g2 hg
      refine ⟨_, _, by rw [hE]; rfl, by rw [hWd]; exact rWo_mono _ _ _ _ hg hF, ?_⟩
      rw [hMm]
      exact ⟨_, _, _, rfl, { hok with answer := ansK_ok (by decide) }, hop, rConfig_mono _ _ _ _ (GW.trans hg3 hg) hcf⟩
    have hnn : 0 ≤ drI w m := by have h9 : ¬ drI w m < 0 := of_decide_eq_false z3; omega
    obtain ⟨x, hx, hlt⟩ := place_lt (show 0 ≤ placeL w.listens m.op.listen from hnn)
    have hlt' : drI w m < w.listens.length := hlt
    have hl8 := hb.1.2.2.1
    obtain ⟨hWd, hMm, hE⟩ := dr_some hgo hnn hx
    obtain ⟨_, _, kl, kl1, kl2, kl0, klr⟩ := hLi
    cases kl
    obtain ⟨al, rfl, el, hel, ⟨rfl, hxa⟩, hcl⟩ := klr _ x hx
    obtain ⟨bk, cap, hv, rcl, b5, j5, bc, ty5, ⟨hA, p1, p2, p3, p4⟩, _, hk5⟩ := oWo_lis hT hx (x' := drL x) (o := 0) (vs := cLis (drL x)) (by simp) (by simp [Value.oneCell']) rfl hxa
    cases hv
    repeat ((conv => whnf); first | apply qza | apply qzb | apply qzc | apply qzd | apply qze | intro (_ : Nat) | intro (_ : Option Addr) (_ : Nat))
    conv => whnf
    refine ⟨_, rfl, ⟨by show 0 ≤ drI w m; omega, by show drI w m < w.listens.length; omega⟩, ?_⟩
    repeat ((conv => whnf); first | apply qza | apply qzb | apply qzc | apply qzd | apply qze | intro (_ : Nat) | intro (_ : Option Addr) (_ : Nat))
    conv => whnf
    refine ⟨_, ⟨rfl, hcl⟩, ?_⟩
    repeat ((conv => whnf); first | apply qza | apply qzb | apply qzc | apply qzd | apply qze | intro (_ : Nat) | intro (_ : Option Addr) (_ : Nat))
    conv => whnf
    refine .inl ⟨_, ok_gDrain _ x, ?_⟩
    repeat ((conv => whnf); first | apply qza | apply qzb | apply qzc | apply qzd | apply qze | intro (_ : Nat) | intro (_ : Option Addr) (_ : Nat))
    conv => whnf
    refine ⟨_, rfl, ⟨by show 0 ≤ drI w m; omega, by show drI w m < w.listens.length; omega⟩, ?_⟩
    repeat ((conv => whnf); first | apply qza | apply qzb | apply qzc | apply qzd | apply qze | intro (_ : Nat) | intro (_ : Option Addr) (_ : Nat))
    conv => whnf
    refine ⟨b5, j5, bc, ty5, ⟨by rw [← hA]; rfl, p1, p2, p3, p4⟩, ?_⟩
    repeat ((conv => whnf); first | apply qza | apply qzb | apply qzc | apply qzd | apply qze | intro (_ : Nat) | intro (_ : Option Addr) (_ : Nat))
    conv => whnf
    refine fun g6 u6 => ?_
    have hFx := oWo_rd (hk5 g6 u6)
    have hle6 : g ≤ g6 := u6.le hg3 (fun h => by have := g.wf _ h; omega)
    repeat ((conv => whnf); first | apply qza | apply qzb | apply qzc | apply qzd | apply qze | intro (_ : Nat) | intro (_ : Option Addr) (_ : Nat))
    conv => whnf
    intro g2 hg
    refine ⟨_, _, by rw [hE]; rfl, by rw [hWd]; exact rWo_mono _ _ _ _ hg hFx, ?_⟩
    rw [hMm]
    exact ⟨_, _, _, rfl, { hok with listen := show InR (drI w m) by unfold InR; omega, answer := ansK_ok ⟨by decide, by unfold InR; omega⟩ }, hop, rConfig_mono _ _ _ _ (GW.trans hle6 hg) hcf⟩)
end Go.Proofs.YtjaeeadfmnokeaaGreat


/- Machines: events of no version, ends; the document's. -/
namespace Go.Proofs.YtjaeeadfmnokeaaGreat
open Go.Proofs.YtjaeeadfmnokeaaGreat.Sx Go.RowKit
set_option maxRecDepth 100000 in
theorem ok_Other (g : GW) (m : Mach) {o1 o2 o3 : Option Addr} {l1 l2 l3 t1 t2 t3 : Nat} (a c v : Int) : OkV Tryz.prog n_hydrantref20_Other [.agg ⟨m.cs (.slice o1 l1 t1) (.slice o2 l2 t2) (.slice o3 l3 t3)⟩, .int .i64 a, .int .i64 c, .int .i64 v] g (.agg ⟨(⟨m.thread, 0, a, c, -1, false, v, false, false, false, ans0⟩ : Ev).cs⟩) :=
  Ok.of_fn hm noT 0 t_hydrantref20_Other (args := [.v (.agg ⟨m.cs (.slice o1 l1 t1) (.slice o2 l2 t2) (.slice o3 l3 t3)⟩), .v (.int .i64 a), .v (.int .i64 c), .v (.int .i64 v)]) (by
    repeat ((conv => whnf); first | apply qza | apply qzb | apply qzc | apply qzd | apply qze | intro (_ : Nat) | intro (_ : Option Addr) (_ : Nat))
    conv => whnf
    intro g2 hg
    rfl)
set_option maxRecDepth 100000 in
theorem ok_Done (g : GW) (m : Mach) (e : Ev) (a : Ans) {o1 o2 o3 : Option Addr} {l1 l2 l3 t1 t2 t3 : Nat} : OkV Tryz.prog n_hydrantref22_Done [.agg ⟨m.cs (.slice o1 l1 t1) (.slice o2 l2 t2) (.slice o3 l3 t3)⟩, .agg ⟨e.cs⟩, .agg ⟨a.cs⟩] g (.tuple #[.agg ⟨Mach.cs (.slice o1 l1 t1) (.slice o2 l2 t2) (.slice o3 l3 t3) { m with done := true, answer := a }⟩, .agg ⟨({ e with done := true, answer := a } : Ev).cs⟩]) :=
  Ok.of_fn hm noT 0 t_hydrantref22_Done (args := [.v (.agg ⟨m.cs (.slice o1 l1 t1) (.slice o2 l2 t2) (.slice o3 l3 t3)⟩), .v (.agg ⟨e.cs⟩), .v (.agg ⟨a.cs⟩)]) (by
    repeat ((conv => whnf); first | apply qza | apply qzb | apply qzc | apply qzd | apply qze | intro (_ : Nat) | intro (_ : Option Addr) (_ : Nat))
    conv => whnf
    intro g2 hg
    rfl)
end Go.Proofs.YtjaeeadfmnokeaaGreat


/- Drains: the document's step. -/
namespace Go.Proofs.YtjaeeadfmnokeaaGreat
open Go.Proofs.YtjaeeadfmnokeaaGreat.Sx Go.RowKit
set_option maxHeartbeats 8000000 in
set_option maxRecDepth 100000 in
theorem ok_rdStep (g : GW) {cs ms : List Value} {w : Wd} {m : Mach} (hw : rWo g cs w) (hM : rMach g ms m) (hsn : SnW w) (hb : BgW 1000000 w) : Ok Tryz.prog n_hydrantref23_Step [.agg ⟨cs⟩, .agg ⟨ms⟩] g (DrP w m) := by
  have hw0 := hw
  have hM0 := hM
  obtain ⟨a, b, c, d, e, rfl, ⟨i1, i2, i3⟩, hP, hV, hL, hC, hR⟩ := hw
  obtain ⟨oa, ca, rfl, a1, a2, a0, hP1⟩ := id hP
  obtain ⟨ob, cb, rfl, b1, b2, b0, hV1⟩ := id hV
  obtain ⟨oc, cc, rfl, c1, c2, c0, hL1⟩ := id hL
  obtain ⟨od, cd, rfl, d1, d2, d0, hC1⟩ := id hC
  obtain ⟨oe, ce, rfl, e1, e2, e0, hR1⟩ := id hR
  obtain ⟨ma, mb, md, rfl, hok, hop, hcf⟩ := hM
  obtain ⟨_, _, _, he, ⟨o1, t1, rfl, _⟩, ⟨o2, t2, rfl, _⟩, ⟨o3, t3, rfl, _⟩⟩ := id hcf
  cases he
  exact Ok.of_fn hm noT 0 t_hydrantref23_Step (args := [.v (.agg ⟨[.int .i64 w.epoch, .int .i64 w.current, .int .i64 w.lock, .slice oa w.pins.length ca, .slice ob w.versions.length cb, .slice oc w.listens.length cc, .slice od w.counts.length cd, .slice oe w.limbo.length ce]⟩), .v (.agg ⟨m.cs (.slice o1 m.op.config.listens.length t1) (.slice o2 m.op.config.routes.length t2) (.slice o3 m.op.config.clusters.length t3)⟩)]) (by
    repeat ((conv => whnf); first | apply qza | apply qzb | apply qzc | apply qzd | apply qze | intro (_ : Nat) | intro (_ : Option Addr) (_ : Nat))
    conv => whnf
    refine .inl ⟨_, ok_rSuits _ hw0 hM0 hsn hb, ?_⟩
    repeat ((conv => whnf); first | apply qza | apply qzb | apply qzc | apply qzd | apply qze | intro (_ : Nat) | intro (_ : Option Addr) (_ : Nat))
    conv => whnf
    refine ⟨fun z2 => ?_, fun z2 => ?_⟩
    · repeat ((conv => whnf); first | apply qza | apply qzb | apply qzc | apply qzd | apply qze | intro (_ : Nat) | intro (_ : Option Addr) (_ : Nat))
      conv => whnf
      intro g2 hg
      obtain ⟨hWd, hMm, hE⟩ := dr_no (w := w) (m := m) (fun h => by rw [h.1] at z2; cases z2)
      exact ⟨_, _, by rw [hE]; rfl, by rw [hWd]; exact rWo_mono _ _ _ _ hg hw0, by rw [hMm]; exact rMach_mono _ _ _ _ hg hM0⟩
    have hs := nb0 z2
    repeat ((conv => whnf); first | apply qza | apply qzb | apply qzc | apply qzd | apply qze | intro (_ : Nat) | intro (_ : Option Addr) (_ : Nat))
    conv => whnf
    refine ⟨fun z1 => ?_, fun z1 => ?_⟩
    · repeat ((conv => whnf); first | apply qza | apply qzb | apply qzc | apply qzd | apply qze | intro (_ : Nat) | intro (_ : Option Addr) (_ : Nat))
      conv => whnf
      intro g2 hg
      obtain ⟨hWd, hMm, hE⟩ := dr_no (w := w) (m := m) (fun h => bneT z1 h.2)
      exact ⟨_, _, by rw [hE]; rfl, by rw [hWd]; exact rWo_mono _ _ _ _ hg hw0, by rw [hMm]; exact rMach_mono _ _ _ _ hg hM0⟩
    have hgo : drGo w m := ⟨hs, bneF z1⟩
    repeat ((conv => whnf); first | apply qza | apply qzb | apply qzc | apply qzd | apply qze | intro (_ : Nat) | intro (_ : Option Addr) (_ : Nat))
    refine .inr ((ok_rClone _ hw0 hb).mono fun v g3 hg3 hO => ?_)
    obtain ⟨cs, T, rfl, hT⟩ := hO
    have hF := oWo_rd hT
    obtain ⟨oa', ca', ob', cb', oc', cc', od', cd', oe', ce', rfl⟩ := rWo_open hF
    obtain ⟨_, _, _, _, _, hq, _, _, _, hLi, _, _⟩ := id hF
    simp only [List.cons.injEq, and_true] at hq
    obtain ⟨_, _, _, _, _, rfl, _⟩ := hq
    repeat ((conv => whnf); first | apply qza | apply qzb | apply qzc | apply qzd | apply qze | intro (_ : Nat) | intro (_ : Option Addr) (_ : Nat))
    conv => whnf
    refine .inl ⟨_, ok_rPlace _ (hL.mono rListen_mono hg3) _, ?_⟩
    repeat ((conv => whnf); first | apply qza | apply qzb | apply qzc | apply qzd | apply qze | intro (_ : Nat) | intro (_ : Option Addr) (_ : Nat))
    conv => whnf
    refine ⟨fun z3 => ?_, fun z3 => ?_⟩
    · obtain ⟨hWd, hMm, hE⟩ := dr_none hgo (show drI w m < 0 from of_decide_eq_true z3)
      repeat ((conv => whnf); first | apply qza | apply qzb | apply qzc | apply qzd | apply qze | intro (_ : Nat) | intro (_ : Option Addr) (_ : Nat))
      conv => whnf
      refine .inl ⟨_, ok_Other _ m 1 0 0, ?_⟩
      repeat ((conv => whnf); first | apply qza | apply qzb | apply qzc | apply qzd | apply qze | intro (_ : Nat) | intro (_ : Option Addr) (_ : Nat))
      conv => whnf
      refine .inl ⟨_, ok_Done _ m ⟨m.thread, 0, 1, 0, -1, false, 0, false, false, false, ans0⟩ (ansK 7 0), ?_⟩
      repeat ((conv => whnf); first | apply qza | apply qzb | apply qzc | apply qzd | apply qze | intro (_ : Nat) | intro (_ : Option Addr) (_ : Nat))
      conv => whnf
      intro g2 hg
      refine ⟨_, _, by rw [hE], by rw [hWd]; exact rWo_mono _ _ _ _ hg hF, ?_⟩
      rw [hMm]
      exact ⟨_, _, _, rfl, { hok with answer := ansK_ok (by decide) }, hop, rConfig_mono _ _ _ _ (GW.trans hg3 hg) hcf⟩
    have hnn : 0 ≤ drI w m := by have h9 : ¬ drI w m < 0 := of_decide_eq_false z3; omega
    obtain ⟨x, hx, hlt⟩ := place_lt (show 0 ≤ placeL w.listens m.op.listen from hnn)
    have hlt' : drI w m < w.listens.length := hlt
    have hl8 := hb.1.2.2.1
    obtain ⟨hWd, hMm, hE⟩ := dr_some hgo hnn hx
    obtain ⟨_, _, kl, kl1, kl2, kl0, klr⟩ := hLi
    cases kl
    obtain ⟨al, rfl, el, hel, ⟨rfl, hxa⟩, hcl⟩ := klr _ x hx
    obtain ⟨bk, cap, hv, rcl, b5, j5, bc, ty5, ⟨hA, p1, p2, p3, p4⟩, _, hk5⟩ := oWo_lis hT hx (x' := drL x) (o := 1) (vs := [.bool true]) (by simp) (by simp [Value.oneCell']) rfl hxa
    cases hv
    repeat ((conv => whnf); first | apply qza | apply qzb | apply qzc | apply qzd | apply qze | intro (_ : Nat) | intro (_ : Option Addr) (_ : Nat))
    conv => whnf
    refine ⟨_, rfl, ⟨by show 0 ≤ drI w m; omega, by show drI w m < w.listens.length; omega⟩, ?_⟩
    repeat ((conv => whnf); first | apply qza | apply qzb | apply qzc | apply qzd | apply qze | intro (_ : Nat) | intro (_ : Option Addr) (_ : Nat))
    conv => whnf
    refine ⟨b5, j5, bc, ty5, ⟨by rw [← hA], p1, p2, p3, p4⟩, ?_⟩
    repeat ((conv => whnf); first | apply qza | apply qzb | apply qzc | apply qzd | apply qze | intro (_ : Nat) | intro (_ : Option Addr) (_ : Nat))
    conv => whnf
    refine fun g6 u6 => ?_
    have hFx := oWo_rd (hk5 g6 u6)
    have hle6 : g ≤ g6 := u6.le hg3 (fun h => by have := g.wf _ h; omega)
    repeat ((conv => whnf); first | apply qza | apply qzb | apply qzc | apply qzd | apply qze | intro (_ : Nat) | intro (_ : Option Addr) (_ : Nat))
    conv => whnf
    refine .inl ⟨_, ok_Other _ { m with listen := drI w m } 2 4 1, ?_⟩
    repeat ((conv => whnf); first | apply qza | apply qzb | apply qzc | apply qzd | apply qze | intro (_ : Nat) | intro (_ : Option Addr) (_ : Nat))
    conv => whnf
    refine .inl ⟨_, ok_Done _ { m with listen := drI w m } ⟨m.thread, 0, 2, 4, -1, false, 1, false, false, false, ans0⟩ (ansK 10 (drI w m)), ?_⟩
    repeat ((conv => whnf); first | apply qza | apply qzb | apply qzc | apply qzd | apply qze | intro (_ : Nat) | intro (_ : Option Addr) (_ : Nat))
    conv => whnf
    intro g2 hg
    refine ⟨_, _, by rw [hE], by rw [hWd]; exact rWo_mono _ _ _ _ hg hFx, ?_⟩
    rw [hMm]
    exact ⟨_, _, _, rfl, { hok with listen := show InR (drI w m) by unfold InR; omega, answer := ansK_ok ⟨by decide, by unfold InR; omega⟩ }, hop, rConfig_mono _ _ _ _ (GW.trans hle6 hg) hcf⟩)
end Go.Proofs.YtjaeeadfmnokeaaGreat


/- Slots: those of a new endpoint. -/
namespace Go.Proofs.YtjaeeadfmnokeaaGreat
open Go.Proofs.YtjaeeadfmnokeaaGreat.Sx Go.RowKit
def FreshP (n : Int) (v : Value) (g' : GW) : Prop :=
  ((1 ≤ n ∧ n ≤ 4) ∧ ∃ oa cap, v = .tuple #[.agg ⟨[.int .u64 1, .slice oa n.toNat cap, .int .i64 0]⟩, .int .i64 0] ∧ rSl 1 rInt g' (.slice oa n.toNat cap) (freshE n.toNat).next) ∨
  (¬ (1 ≤ n ∧ n ≤ 4) ∧ v = .tuple #[.agg ⟨[.int .u64 0, .slice none 0 0, .int .i64 0]⟩, .int .i64 1])
abbrev upE (k : Nat) : List (List Value) := (List.range k).map fun (i : Nat) => [Value.int .i64 ((i : Int) + 1)]
theorem upE_succ (k : Nat) : upE (k + 1) = upE k ++ [[Value.int .i64 ((k : Int) + 1)]] := by simp [upE, List.range_succ]
theorem upE_sz {k : Nat} : ∀ e ∈ upE k, e.length = 1 := fun e he => by
  obtain ⟨x, _, rfl⟩ := List.mem_map.1 he; rfl
theorem ok_Fresh (g : GW) {n : Int} : Ok Tryz.prog n_slots_Fresh [.int .i64 n] g (FreshP n) :=
  Ok.of_fn hm noT 0 t_slots_Fresh (args := [.v (.int .i64 n)]) (by
    repeat ((conv => whnf); first | apply qza | apply qzb | apply qzc | apply qzd | apply qze | intro (_ : Nat) | intro (_ : Option Addr) (_ : Nat))
    conv => whnf
    refine ⟨fun z1 => ?_, fun z1 => ?_⟩
    · repeat ((conv => whnf); first | apply qza | apply qzb | apply qzc | apply qzd | apply qze | intro (_ : Nat) | intro (_ : Option Addr) (_ : Nat))
      conv => whnf
      intro g2 hg
      exact .inr ⟨by have := of_decide_eq_true z1; omega, rfl⟩
    repeat ((conv => whnf); first | apply qza | apply qzb | apply qzc | apply qzd | apply qze | intro (_ : Nat) | intro (_ : Option Addr) (_ : Nat))
    conv => whnf
    refine ⟨fun z2 => ?_, fun z2 => ?_⟩
    · repeat ((conv => whnf); first | apply qza | apply qzb | apply qzc | apply qzd | apply qze | intro (_ : Nat) | intro (_ : Option Addr) (_ : Nat))
      conv => whnf
      intro g2 hg
      exact .inr ⟨by have := of_decide_eq_true z2; omega, rfl⟩
    have k1 := of_decide_eq_false z1
    have k2 := of_decide_eq_false z2
    obtain ⟨N, rfl⟩ := Int.eq_ofNat_of_zero_le (show 0 ≤ n by omega)
    repeat ((conv => whnf); first | apply qza | apply qzb | apply qzc | apply qzd | apply qze | intro (_ : Nat) | intro (_ : Option Addr) (_ : Nat))
    conv => whnf
    refine ⟨⟨by omega, by omega, by omega, by omega⟩, fun _ => ?_⟩
    repeat ((conv => whnf); first | apply qza | apply qzb | apply qzc | apply qzd | apply qze | intro (_ : Nat) | intro (_ : Option Addr) (_ : Nat))
    rename_i q0 q1 q2
    conv => whnf
    refine ⟨Nat, fun k => [.v (.int .i64 k)], fun k => ⟨g, [.blk 2 q2 ty_api_End [.v (.int .u64 0), .row 1 (some ⟨q1, 0, none⟩) N N, .v (.int .i64 0)], .row 1 (some ⟨q1, 0, none⟩) N N ty_int 1 (rowK (upE k) [.int .i64 0] (N - k)), .blk 0 q0 ty_api_End [.v (.int .u64 0), .v (.slice none 0 0), .v (.int .i64 0)]], 3, g.w.heap.size⟩, fun k => k ≤ N, fun k => N - k, fun fr w hw => ⟨0, rfl, Nat.zero_le _, hw.fit (by simp [fitL, Res.eqv, concL, conc, rowK, upE])⟩, ?_⟩
    intro k hk
    have hlen := rowK_len (m := N - k) (z := [.int .i64 0]) (upE_sz (k := k)) rfl
    have hul : (upE k).length = k := by simp [upE]
    repeat ((conv => whnf); first | apply qza | apply qzb | apply qzc | apply qzd | apply qze | intro (_ : Nat) | intro (_ : Option Addr) (_ : Nat))
    conv => whnf
    refine ⟨fun hlt => ?_, fun hlt => ?_⟩
    · have h' : k < N := by have := of_decide_eq_true hlt; omega
      have hset := rowK_set (m := N - k) (z := [.int .i64 0]) (upE_sz (k := k)) rfl (by omega) (ec := [.int .i64 ((k : Int) + 1)]) rfl hul.symm
      rw [← upE_succ] at hset
      repeat ((conv => whnf); first | apply qza | apply qzb | apply qzc | apply qzd | apply qze | intro (_ : Nat) | intro (_ : Option Addr) (_ : Nat))
      conv => whnf
      refine ⟨⟨by omega, by omega⟩, ?_⟩
      repeat ((conv => whnf); first | apply qza | apply qzb | apply qzc | apply qzd | apply qze | intro (_ : Nat) | intro (_ : Option Addr) (_ : Nat))
      conv => whnf
      refine ⟨⟨by rw [hlen, hul]; simp; omega, by decide⟩, ?_⟩
      repeat ((conv => whnf); first | apply qza | apply qzb | apply qzc | apply qzd | apply qze | intro (_ : Nat) | intro (_ : Option Addr) (_ : Nat))
      conv => whnf
      refine fun fr w hw => ⟨k + 1, congrArg (fun z => [Value.int .i64 z]) (by rw [wr (show InR ((k : Int) + 1) by unfold InR; omega)]; omega), h', dec h', hw.fit ?_⟩
      rw [show N - (k + 1) = N - k - 1 by omega, ← hset]
      simp [fitL, Res.eqv, concL, conc, wr (show InR ((k : Int) + 1) by unfold InR; omega)]
    have hkN : k = N := by have := of_decide_eq_false hlt; omega
    subst hkN
    rw [Nat.sub_self, hul] at hlen
    repeat ((conv => whnf); first | apply qza | apply qzb | apply qzc | apply qzd | apply qze | intro (_ : Nat) | intro (_ : Option Addr) (_ : Nat))
    conv => whnf
    refine ⟨⟨by rw [wr (by unfold InR; omega)]; omega, by rw [wr (by unfold InR; omega)]; omega⟩, ?_⟩
    repeat ((conv => whnf); first | apply qza | apply qzb | apply qzc | apply qzd | apply qze | intro (_ : Nat) | intro (_ : Option Addr) (_ : Nat))
    conv => whnf
    refine ⟨⟨by rw [Nat.sub_self, hlen, wr (by unfold InR; omega)]; simp; omega, by decide⟩, ?_⟩
    repeat ((conv => whnf); first | apply qza | apply qzb | apply qzc | apply qzd | apply qze | intro (_ : Nat) | intro (_ : Option Addr) (_ : Nat))
    conv => whnf
    refine .inl ⟨_, (ok_tMake _ (t := 0) (i := 0) (by decide) (by decide)).to (show _ = Value.tuple #[.int .u64 1, .int .i64 0] from rfl), ?_⟩
    repeat ((conv => whnf); first | apply qza | apply qzb | apply qzc | apply qzd | apply qze | intro (_ : Nat) | intro (_ : Option Addr) (_ : Nat))
    conv => whnf
    refine fun g1 hg1 hn1 hp1 => ?_
    repeat ((conv => whnf); first | apply qza | apply qzb | apply qzc | apply qzd | apply qze | intro (_ : Nat) | intro (_ : Option Addr) (_ : Nat))
    conv => whnf
    intro g2 hg
    refine .inl ⟨⟨by omega, by omega⟩, _, _, rfl, ?_⟩
    have hN : k = 1 ∨ k = 2 ∨ k = 3 ∨ k = 4 := by omega
    rcases hN with rfl | rfl | rfl | rfl
    all_goals exact (rSl_of1 hp1.rd (freshE _).next (fun x => .int .i64 x) rfl fun x hx => ⟨rfl, by simp [freshE, List.range, List.range.loop] at hx; unfold InR; omega⟩).mono rInt_mono hg)
theorem fresh_en {g : GW} {n : Int} {oa : Option Addr} {cap : Nat} (h : 1 ≤ n ∧ n ≤ 4) (hr : rSl 1 rInt g (.slice oa n.toNat cap) (freshE n.toNat).next) : rEn g [.int .u64 1, .slice oa n.toNat cap, .int .i64 0] (freshE n.toNat) :=
  ⟨⟨_, rfl, show InU 1 by decide, show InR 0 by decide, hr⟩, by simp [freshE]; omega⟩
end Go.Proofs.YtjaeeadfmnokeaaGreat


/- Worlds: a snapshot's cells. -/
namespace Go.Proofs.YtjaeeadfmnokeaaGreat
open Go.Proofs.YtjaeeadfmnokeaaGreat.Sx Go.RowKit
def CellsP (s : Snap) (v : Value) (g' : GW) : Prop :=
  (checkE (confS s) = none ∧ ∃ a b d oa n cap, v = .tuple #[.agg ⟨[a, b, d, .slice oa n cap, .bool false]⟩, .int .i64 0] ∧ rVe g' [a, b, d, .slice oa n cap, .bool false] (cellsV s)) ∨
  (checkE (confS s) ≠ none ∧ v = .tuple #[.agg ⟨[.slice none 0 0, .slice none 0 0, .slice none 0 0, .slice none 0 0, .bool false]⟩, .int .i64 1])
theorem ok_Cells (g : GW) {cs : List Value} {s : Snap} (hs : rSnap g cs s) (hsz : s.rules.length ≤ 1000000) : Ok Tryz.prog n_world_Cells [.agg ⟨cs⟩] g (CellsP s) := by
  have hs0 := hs
  obtain ⟨a, b, d, rfl, hl, hr, hk⟩ := hs
  obtain ⟨oa, ca, rfl, a1, a2, a0, hl1⟩ := id hl
  obtain ⟨ob, cb, rfl, b1, b2, b0, hr1⟩ := id hr
  obtain ⟨od, cd, rfl, d1, d2, d0, hk1⟩ := id hk
  exact Ok.of_fn hm noT 0 t_world_Cells (args := [.v (.agg ⟨[.slice oa s.listens.length ca, .slice ob s.rules.length cb, .slice od s.clusters.length cd]⟩)]) (by
    repeat ((conv => whnf); first | apply qza | apply qzb | apply qzc | apply qzd | apply qze | intro (_ : Nat) | intro (_ : Option Addr) (_ : Nat))
    conv => whnf
    refine .inl ⟨_, ok_sIs _ hs0 hsz, ?_⟩
    repeat ((conv => whnf); first | apply qza | apply qzb | apply qzc | apply qzd | apply qze | intro (_ : Nat) | intro (_ : Option Addr) (_ : Nat))
    conv => whnf
    refine ⟨fun z1 => ?_, fun z1 => ?_⟩
    · repeat ((conv => whnf); first | apply qza | apply qzb | apply qzc | apply qzd | apply qze | intro (_ : Nat) | intro (_ : Option Addr) (_ : Nat))
      conv => whnf
      intro g2 hg
      refine .inr ⟨fun h => ?_, rfl⟩
      rw [eqB_t h] at z1; cases z1
    have hz := eqB_iff.1 (nb0 z1)
    have G := good_iff.1 hz
    have hclL : s.clusters.length ≤ 4 := G.size.2.2.2
    have hcl : ∀ x ∈ s.clusters, (1 ≤ x.slots ∧ x.slots ≤ 4) ∧ (1 ≤ x.health.length ∧ x.health.length ≤ 4) := fun x hx => (G.cl x hx).2.2
    repeat ((conv => whnf); first | apply qza | apply qzb | apply qzc | apply qzd | apply qze | intro (_ : Nat) | intro (_ : Option Addr) (_ : Nat))
    rename_i q0 q1 q2
    conv => whnf
    refine ⟨Nat × List (List Value) × Option Addr × Nat × GW, fun (k, _, _, _, _) => [.v (.int .i64 k)], fun (k, ecs, oX, cX, g') => ⟨g', [.row 10 oX k cX ty_api_Group 2 ecs.flatten, .blk 2 q2 ty_api_Version [.v (.slice oa s.listens.length ca), .v (.slice ob s.rules.length cb), .v (.slice od s.clusters.length cd), .row 10 oX k cX, .v (.bool false)], .blk 1 q1 ty_api_Version [.v (.slice none 0 0), .v (.slice none 0 0), .v (.slice none 0 0), .v (.slice none 0 0), .v (.bool false)], .blk 0 q0 ty_api_Snap [.v (.slice oa s.listens.length ca), .v (.slice ob s.rules.length cb), .v (.slice od s.clusters.length cd)]], 20, g.w.heap.size⟩, fun (k, ecs, _, _, g') => k ≤ s.clusters.length ∧ g ≤ g' ∧ rEls 2 rGr g' ecs ((s.clusters.take k).map fun c => (⟨0, c.health.map fun _ => freshE c.slots.toNat⟩ : Group)), fun (k, _, _, _, _) => s.clusters.length - k, fun fr w hw => ⟨(0, [], none, 0, g), rfl, ⟨Nat.zero_le _, GW.refl _, rEls_nil _⟩, (hw.nil_row (nx' := 20) 10 ty_api_Group 2).fit (by simp [fitL, Res.eqv, concL, conc])⟩, ?_⟩
    rintro ⟨k, ecs, oX, cX, g'⟩ ⟨hkk, hgg, hE⟩
    repeat ((conv => whnf); first | apply qza | apply qzb | apply qzc | apply qzd | apply qze | intro (_ : Nat) | intro (_ : Option Addr) (_ : Nat))
    conv => whnf
    refine ⟨fun hlt => ?_, fun hlt => ?_⟩
    · have h' : k < s.clusters.length := by have := of_decide_eq_true hlt; omega
      obtain ⟨x, hx⟩ := getL_of h'
      obtain ⟨x1, x2⟩ := List.getElem?_eq_some_iff.1 hx
      have hxc := hcl x (List.mem_of_getElem? hx)
      obtain ⟨a, rfl, ec, hec, ⟨hv, rfl, _, _, ⟨oh, ch, rfl, t1, t2, _⟩⟩, hc⟩ := hk1 k x hx
      repeat ((conv => whnf); first | apply qza | apply qzb | apply qzc | apply qzd | apply qze | intro (_ : Nat) | intro (_ : Option Addr) (_ : Nat))
      conv => whnf
      refine ⟨a, rfl, ⟨by omega, by omega⟩, ?_⟩
      conv => whnf
      refine ⟨_, ⟨rfl, hc.mono hgg⟩, ?_⟩
      repeat ((conv => whnf); first | apply qza | apply qzb | apply qzc | apply qzd | apply qze | intro (_ : Nat) | intro (_ : Option Addr) (_ : Nat))
      rename_i qc qg
      conv => whnf
      refine ⟨Nat × List (List Value) × Option Addr × Nat × GW, fun (n, _, _, _, _) => [.v (.int .i64 n)], fun (n, ecs2, oE, cE, g2) => ⟨g2, [.row 30 oE n cE ty_api_End 3 ecs2.flatten, .blk 21 qg ty_api_Group [.v (.int .u64 0), .row 30 oE n cE], .blk 20 qc ty_api_Cluster [.v (.string x.name), .v (.int .i64 x.policy), .v (.int .i64 x.slots), .v (.slice oh x.health.length ch)], .row 10 oX k cX ty_api_Group 2 ecs.flatten, .blk 2 q2 ty_api_Version [.v (.slice oa s.listens.length ca), .v (.slice ob s.rules.length cb), .v (.slice (some a) s.clusters.length cd), .row 10 oX k cX, .v (.bool false)], .blk 1 q1 ty_api_Version [.v (.slice none 0 0), .v (.slice none 0 0), .v (.slice none 0 0), .v (.slice none 0 0), .v (.bool false)], .blk 0 q0 ty_api_Snap [.v (.slice oa s.listens.length ca), .v (.slice ob s.rules.length cb), .v (.slice (some a) s.clusters.length cd)]], 40, g.w.heap.size⟩, fun (n, ecs2, _, _, g2) => n ≤ x.health.length ∧ g' ≤ g2 ∧ rEls 3 rEn g2 ecs2 ((x.health.take n).map fun _ => freshE x.slots.toNat), fun (n, _, _, _, _) => x.health.length - n, fun fr w hw => ⟨(0, [], none, 0, g'), rfl, ⟨Nat.zero_le _, GW.refl _, rEls_nil _⟩, (hw.nil_row (nx' := 40) 30 ty_api_End 3).fit (by simp [fitL, Res.eqv, concL, conc])⟩, ?_⟩
      rintro ⟨n, ecs2, oE, cE, g2⟩ ⟨hn, hg2, hE2⟩
      repeat ((conv => whnf); first | apply qza | apply qzb | apply qzc | apply qzd | apply qze | intro (_ : Nat) | intro (_ : Option Addr) (_ : Nat))
      conv => whnf
      refine ⟨fun hln => ?_, fun hln => ?_⟩
      · have h2 : n < x.health.length := by have := of_decide_eq_true hln; omega
        repeat ((conv => whnf); first | apply qza | apply qzb | apply qzc | apply qzd | apply qze | intro (_ : Nat) | intro (_ : Option Addr) (_ : Nat))
        refine .inr ((ok_Fresh _).mono fun v g3 hg3 hF => ?_)
        rcases hF with ⟨_, oF, cF, rfl, hF⟩ | ⟨hF, _⟩
        rotate_left
        · exact absurd hxc.1 hF
        have hEn := fresh_en hxc.1 hF
        have hT : ((x.health.take (n + 1)).map fun _ => freshE x.slots.toNat) = ((x.health.take n).map fun _ => freshE x.slots.toNat) ++ [freshE x.slots.toNat] := by
          rw [List.take_succ_eq_append_getElem h2, List.map_append]; rfl
        repeat ((conv => whnf); first | apply qza | apply qzb | apply qzc | apply qzd | apply qze | intro (_ : Nat) | intro (_ : Option Addr) (_ : Nat))
        conv => whnf
        refine ⟨fun h => (nomatch h), fun _ => ?_⟩
        repeat ((conv => whnf); first | apply qza | apply qzb | apply qzc | apply qzd | apply qze | intro (_ : Nat) | intro (_ : Option Addr) (_ : Nat))
        conv => whnf
        refine ⟨⟨by unfold maxLen; omega, by omega⟩, fun oa2 cap2 => ?_⟩
        repeat ((conv => whnf); first | apply qza | apply qzb | apply qzc | apply qzd | apply qze | intro (_ : Nat) | intro (_ : Option Addr) (_ : Nat))
        conv => whnf
        refine fun fr w hw => ⟨(n + 1, ecs2 ++ [[.int .u64 1, .slice oF x.slots.toNat cF, .int .i64 0]], oa2, cap2, g3), congrArg (fun z => [Value.int .i64 z]) (wr1 h2 t1 t2).symm, ⟨h2, GW.trans hg2 hg3, by rw [hT]; exact rEls_snoc (rEls_up rEn_mono hg3 hE2) rfl hEn⟩, dec h2, hw.fit (by simp [fitL, Res.eqv, concL, conc])⟩
      have hnL : n = x.health.length := by have := of_decide_eq_false hln; omega
      subst hnL
      rw [List.take_length] at hE2
      have hT : ((s.clusters.take (k + 1)).map fun c => (⟨0, c.health.map fun _ => freshE c.slots.toNat⟩ : Group)) = ((s.clusters.take k).map fun c => (⟨0, c.health.map fun _ => freshE c.slots.toNat⟩ : Group)) ++ [⟨0, x.health.map fun _ => freshE x.slots.toNat⟩] := by
        rw [List.take_succ_eq_append_getElem x1, List.map_append, x2]; rfl
      repeat ((conv => whnf); first | apply qza | apply qzb | apply qzc | apply qzd | apply qze | intro (_ : Nat) | intro (_ : Option Addr) (_ : Nat))
      conv => whnf
      refine fun g3 hg3 hn3 hp3 => ?_
      have hSl := rEls_sl (rEls_up rEn_mono hg3 hE2) hp3 (by simp)
      repeat ((conv => whnf); first | apply qza | apply qzb | apply qzc | apply qzd | apply qze | intro (_ : Nat) | intro (_ : Option Addr) (_ : Nat))
      conv => whnf
      refine ⟨⟨by unfold maxLen; omega, by omega⟩, fun oa2 cap2 => ?_⟩
      repeat ((conv => whnf); first | apply qza | apply qzb | apply qzc | apply qzd | apply qze | intro (_ : Nat) | intro (_ : Option Addr) (_ : Nat))
      conv => whnf
      refine fun fr w hw => ⟨(k + 1, ecs ++ [[.int .u64 0, .slice oE x.health.length cE]], oa2, cap2, g3), congrArg (fun z => [Value.int .i64 z]) (wr1 h' d1 d2).symm, ⟨h', GW.trans hgg (GW.trans hg2 hg3), by rw [hT]; exact rEls_snoc (rEls_up rGr_mono (GW.trans hg2 hg3) hE) rfl ⟨_, rfl, show InU 0 by decide, hSl⟩⟩, dec h', hw.fit (by simp [fitL, Res.eqv, concL, conc])⟩
    have hkL : k = s.clusters.length := by have := of_decide_eq_false hlt; omega
    subst hkL
    rw [List.take_length] at hE
    repeat ((conv => whnf); first | apply qza | apply qzb | apply qzc | apply qzd | apply qze | intro (_ : Nat) | intro (_ : Option Addr) (_ : Nat))
    conv => whnf
    refine fun g3 hg3 hn3 hp3 => ?_
    have hSl := rEls_sl (rEls_up rGr_mono hg3 hE) hp3 (by simp)
    repeat ((conv => whnf); first | apply qza | apply qzb | apply qzc | apply qzd | apply qze | intro (_ : Nat) | intro (_ : Option Addr) (_ : Nat))
    conv => whnf
    intro g2 hg
    exact .inl ⟨hz, _, _, _, _, _, _, rfl, ⟨_, _, _, _, rfl, rSnap_mono _ _ _ _ (GW.trans hgg (GW.trans hg3 hg)) hs0, hSl.mono rGr_mono hg⟩⟩)
end Go.Proofs.YtjaeeadfmnokeaaGreat


/- Worlds: counts of a new world. -/
namespace Go.Proofs.YtjaeeadfmnokeaaGreat
open Go.Proofs.YtjaeeadfmnokeaaGreat.Sx Go.RowKit
def ShardP (n : Int) (v : Value) (g' : GW) : Prop :=
  ((1 ≤ n ∧ n ≤ 8) ∧ ∃ oa cap, v = .tuple #[.slice oa n.toNat cap, .int .i64 0] ∧ rSl 1 rRow g' (.slice oa n.toNat cap) (zCounts n.toNat)) ∨
  (¬ (1 ≤ n ∧ n ≤ 8) ∧ v = .tuple #[.slice none 0 0, .int .i64 1])
theorem ok_ShardNew (g : GW) {n : Int} : Ok Tryz.prog n_shard_New [.int .i64 n] g (ShardP n) :=
  Ok.of_fn hm noT 0 t_shard_New (args := [.v (.int .i64 n)]) (by
    repeat ((conv => whnf); first | apply qza | apply qzb | apply qzc | apply qzd | apply qze | intro (_ : Nat) | intro (_ : Option Addr) (_ : Nat))
    conv => whnf
    refine ⟨fun z1 => ?_, fun z1 => ?_⟩
    · repeat ((conv => whnf); first | apply qza | apply qzb | apply qzc | apply qzd | apply qze | intro (_ : Nat) | intro (_ : Option Addr) (_ : Nat))
      conv => whnf
      intro g2 hg
      exact .inr ⟨by have := of_decide_eq_true z1; omega, rfl⟩
    repeat ((conv => whnf); first | apply qza | apply qzb | apply qzc | apply qzd | apply qze | intro (_ : Nat) | intro (_ : Option Addr) (_ : Nat))
    conv => whnf
    refine ⟨fun z2 => ?_, fun z2 => ?_⟩
    · repeat ((conv => whnf); first | apply qza | apply qzb | apply qzc | apply qzd | apply qze | intro (_ : Nat) | intro (_ : Option Addr) (_ : Nat))
      conv => whnf
      intro g2 hg
      exact .inr ⟨by have := of_decide_eq_true z2; omega, rfl⟩
    have k1 := of_decide_eq_false z1
    have k2 := of_decide_eq_false z2
    obtain ⟨N, rfl⟩ := Int.eq_ofNat_of_zero_le (show 0 ≤ n by omega)
    repeat ((conv => whnf); first | apply qza | apply qzb | apply qzc | apply qzd | apply qze | intro (_ : Nat) | intro (_ : Option Addr) (_ : Nat))
    conv => whnf
    refine ⟨⟨by omega, by omega, by omega, by omega⟩, fun _ => ?_⟩
    repeat ((conv => whnf); first | apply qza | apply qzb | apply qzc | apply qzd | apply qze | intro (_ : Nat) | intro (_ : Option Addr) (_ : Nat))
    rename_i q1
    conv => whnf
    refine ⟨Nat × List (List Value) × GW, fun (k, _, _) => [.v (.int .i64 k)], fun (k, ecs, g') => ⟨g', [.row 0 (some ⟨q1, 0, none⟩) N N ty_sl_uint64 1 (rowK ecs [.slice none 0 0] (N - k))], 10, g.w.heap.size⟩, fun (k, ecs, g') => k ≤ N ∧ g ≤ g' ∧ rEls 1 rRow g' ecs (zCounts k), fun (k, _, _) => N - k, fun fr w hw => ⟨(0, [], g), rfl, ⟨Nat.zero_le _, GW.refl _, rEls_nil _⟩, hw.fit (by simp [fitL, Res.eqv, concL, conc, rowK])⟩, ?_⟩
    rintro ⟨k, ecs, g'⟩ ⟨hk, hgg, hE⟩
    have hel : ecs.length = k := by have := hE.1.1; simpa [zCounts] using this
    have hlen := rowK_len (m := N - k) (z := [.slice none 0 0]) hE.1.2 rfl
    repeat ((conv => whnf); first | apply qza | apply qzb | apply qzc | apply qzd | apply qze | intro (_ : Nat) | intro (_ : Option Addr) (_ : Nat))
    conv => whnf
    refine ⟨fun hlt => ?_, fun hlt => ?_⟩
    · have h' : k < N := by have := of_decide_eq_true hlt; omega
      repeat ((conv => whnf); first | apply qza | apply qzb | apply qzc | apply qzd | apply qze | intro (_ : Nat) | intro (_ : Option Addr) (_ : Nat))
      conv => whnf
      refine ⟨⟨by decide, by decide, by decide, by decide⟩, fun _ => ?_⟩
      repeat ((conv => whnf); first | apply qza | apply qzb | apply qzc | apply qzd | apply qze | intro (_ : Nat) | intro (_ : Option Addr) (_ : Nat))
      conv => whnf
      refine ⟨⟨by omega, by omega⟩, ?_⟩
      repeat ((conv => whnf); first | apply qza | apply qzb | apply qzc | apply qzd | apply qze | intro (_ : Nat) | intro (_ : Option Addr) (_ : Nat))
      rename_i q2
      conv => whnf
      refine fun g2 hg2 hn2 hp2 => ?_
      have hrow : rSl 1 rU64 g2 (.slice (some ⟨q2, 0, none⟩) 6 6) [0, 0, 0, 0, 0, 0] := rSl_of1 hp2.rd [0, 0, 0, 0, 0, 0] (fun x => .int .u64 x) rfl fun x hx => ⟨rfl, by simp at hx; subst hx; decide⟩
      have hset := rowK_set (m := N - k) (z := [.slice none 0 0]) hE.1.2 rfl (by omega) (ec := [.slice (some ⟨q2, 0, none⟩) 6 6]) rfl hel.symm
      have hT : zCounts (k + 1) = zCounts k ++ [[0, 0, 0, 0, 0, 0]] := by simp [zCounts, List.range_succ]
      repeat ((conv => whnf); first | apply qza | apply qzb | apply qzc | apply qzd | apply qze | intro (_ : Nat) | intro (_ : Option Addr) (_ : Nat))
      conv => whnf
      refine ⟨⟨by rw [hlen, hel]; simp; omega, by decide⟩, ?_⟩
      repeat ((conv => whnf); first | apply qza | apply qzb | apply qzc | apply qzd | apply qze | intro (_ : Nat) | intro (_ : Option Addr) (_ : Nat))
      conv => whnf
      refine fun fr w hw => ⟨(k + 1, ecs ++ [[.slice (some ⟨q2, 0, none⟩) 6 6]], g2), congrArg (fun z => [Value.int .i64 z]) (by rw [wr (show InR ((k : Int) + 1) by unfold InR; omega)]; omega), ⟨h', GW.trans hgg hg2, by rw [hT]; exact rEls_snoc (rEls_up rRow_mono hg2 hE) rfl ⟨_, rfl, hrow⟩⟩, dec h', hw.fit ?_⟩
      rw [show N - (k + 1) = N - k - 1 by omega, ← hset]
      simp [fitL, Res.eqv, concL, conc]
    have hkN : k = N := by have := of_decide_eq_false hlt; omega
    subst hkN
    repeat ((conv => whnf); first | apply qza | apply qzb | apply qzc | apply qzd | apply qze | intro (_ : Nat) | intro (_ : Option Addr) (_ : Nat))
    conv => whnf
    refine fun g2 hg2 hn2 hp2 => ?_
    rw [Nat.sub_self, rowK_done] at hp2
    have hSl := rEls_sl (rEls_up rRow_mono hg2 hE) hp2 (by simp [zCounts])
    repeat ((conv => whnf); first | apply qza | apply qzb | apply qzc | apply qzd | apply qze | intro (_ : Nat) | intro (_ : Option Addr) (_ : Nat))
    conv => whnf
    intro g2 hg
    exact .inl ⟨⟨by omega, by omega⟩, _, _, rfl, hSl.mono rRow_mono hg⟩)
end Go.Proofs.YtjaeeadfmnokeaaGreat

