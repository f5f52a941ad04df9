/- Drains: a step. -/
import Derived.Test.YtjaeeadfmnokeaaLW9p
import Derived.Test.YtjaeeadfmnokeaaLW9b
import Derived.Test.YtjaeeadfmnokeaaPl
import Derived.Test.YtjaeeadfmnokeaaLS7b
namespace Go.Proofs.Ytjaeeadfmnokeaa
open Go.Proofs.Ytjaeeadfmnokeaa.Sx Go.RowKit
def DrP (w : Wd) (m : Mach) (v : Value) (g' : GW) : Prop := ∃ cs ms, v = .tuple #[.agg ⟨cs⟩, .agg ⟨ms⟩, .agg ⟨(drE w m).cs⟩] ∧ rWo g' cs (drW w m) ∧ rMach g' ms (drM w m)
theorem ok_gDrain (g : GW) (x : Listen) : OkV Try.prog n_gates_Drain [.agg ⟨cLis x⟩] g (.agg ⟨cLis (drL x)⟩) :=
  Ok.of_fn hm noT 0 t_gates_Drain (args := [.v (.agg ⟨cLis x⟩)]) (by
    repeat ((conv => whnf); first | apply qza | apply qzb | apply qzc | apply qzd | apply qze | intro (_ : Nat) | intro (_ : Option Addr) (_ : Nat))
    conv => whnf
    intro g2 hg
    rfl)
def tDr : List (Nat × FnI) := [(n_drain_work__ends, f_drain_work__ends)]
theorem tDr_ok : TblOk Try.prog tDr := by
  intro x hx
  simp only [tDr, List.mem_cons, List.not_mem_nil, or_false] at hx
  rcases hx with rfl
  exact ⟨_, _, t_drain_work__ends⟩
set_option maxHeartbeats 8000000 in
set_option maxRecDepth 100000 in
theorem ok_dStep (g : GW) {cs ms : List Value} {w : Wd} {m : Mach} (hw : rWo g cs w) (hM : rMach g ms m) (hsn : SnW w) (hb : BgW 1000000 w) : Ok Try.prog n_drain_Step [.agg ⟨cs⟩, .agg ⟨ms⟩] g (DrP w m) := by
  have hw0 := hw
  have hM0 := hM
  obtain ⟨a, b, c, d, e, rfl, ⟨i1, i2, i3⟩, hP, hV, hL, hC, hR⟩ := hw
  obtain ⟨oa, ca, rfl, a1, a2, a0, hP1⟩ := id hP
  obtain ⟨ob, cb, rfl, b1, b2, b0, hV1⟩ := id hV
  obtain ⟨oc, cc, rfl, c1, c2, c0, hL1⟩ := id hL
  obtain ⟨od, cd, rfl, d1, d2, d0, hC1⟩ := id hC
  obtain ⟨oe, ce, rfl, e1, e2, e0, hR1⟩ := id hR
  obtain ⟨ma, mb, md, rfl, hok, hop, hcf⟩ := hM
  obtain ⟨_, _, _, he, ⟨o1, t1, rfl, _⟩, ⟨o2, t2, rfl, _⟩, ⟨o3, t3, rfl, _⟩⟩ := id hcf
  cases he
  exact Ok.of_fn hm tDr_ok 2 t_drain_Step (args := [.v (.agg ⟨[.int .i64 w.epoch, .int .i64 w.current, .int .i64 w.lock, .slice oa w.pins.length ca, .slice ob w.versions.length cb, .slice oc w.listens.length cc, .slice od w.counts.length cd, .slice oe w.limbo.length ce]⟩), .v (.agg ⟨m.cs (.slice o1 m.op.config.listens.length t1) (.slice o2 m.op.config.routes.length t2) (.slice o3 m.op.config.clusters.length t3)⟩)]) (by
    repeat ((conv => whnf); first | apply qza | apply qzb | apply qzc | apply qzd | apply qze | intro (_ : Nat) | intro (_ : Option Addr) (_ : Nat))
    conv => whnf
    refine ⟨fun z1 => ?_, fun z1 => ?_⟩
    · repeat ((conv => whnf); first | apply qza | apply qzb | apply qzc | apply qzd | apply qze | intro (_ : Nat) | intro (_ : Option Addr) (_ : Nat))
      conv => whnf
      intro g2 hg
      obtain ⟨hWd, hMm, hE⟩ := dr_no (w := w) (m := m) (fun h => bneT z1 h.2)
      exact ⟨_, _, by rw [hE]; rfl, by rw [hWd]; exact rWo_mono _ _ _ _ hg hw0, by rw [hMm]; exact rMach_mono _ _ _ _ hg hM0⟩
    repeat ((conv => whnf); first | apply qza | apply qzb | apply qzc | apply qzd | apply qze | intro (_ : Nat) | intro (_ : Option Addr) (_ : Nat))
    conv => whnf
    refine .inl ⟨_, ok_Suits _ hw0 hM0 hsn hb, ?_⟩
    repeat ((conv => whnf); first | apply qza | apply qzb | apply qzc | apply qzd | apply qze | intro (_ : Nat) | intro (_ : Option Addr) (_ : Nat))
    conv => whnf
    refine ⟨fun z2 => ?_, fun z2 => ?_⟩
    · repeat ((conv => whnf); first | apply qza | apply qzb | apply qzc | apply qzd | apply qze | intro (_ : Nat) | intro (_ : Option Addr) (_ : Nat))
      conv => whnf
      intro g2 hg
      obtain ⟨hWd, hMm, hE⟩ := dr_no (w := w) (m := m) (fun h => by rw [h.1] at z2; cases z2)
      exact ⟨_, _, by rw [hE]; rfl, by rw [hWd]; exact rWo_mono _ _ _ _ hg hw0, by rw [hMm]; exact rMach_mono _ _ _ _ hg hM0⟩
    have hs := nb0 z2
    have hgo : drGo w m := ⟨hs, bneF z1⟩
    repeat ((conv => whnf); first | apply qza | apply qzb | apply qzc | apply qzd | apply qze | intro (_ : Nat) | intro (_ : Option Addr) (_ : Nat))
    refine .inr ((ok_Clone _ hw0 hb).mono fun v g3 hg3 hO => ?_)
    obtain ⟨cs, T, rfl, hT⟩ := hO
    have hF := oWo_rd hT
    obtain ⟨oa', ca', ob', cb', oc', cc', od', cd', oe', ce', rfl⟩ := rWo_open hF
    obtain ⟨_, _, _, _, _, hq, _, _, _, hLi, _, _⟩ := id hF
    simp only [List.cons.injEq, and_true] at hq
    obtain ⟨_, _, _, _, _, rfl, _⟩ := hq
    repeat ((conv => whnf); first | apply qza | apply qzb | apply qzc | apply qzd | apply qze | intro (_ : Nat) | intro (_ : Option Addr) (_ : Nat))
    conv => whnf
    refine .inl ⟨_, ok_gPlace _ hLi _, ?_⟩
    repeat ((conv => whnf); first | apply qza | apply qzb | apply qzc | apply qzd | apply qze | intro (_ : Nat) | intro (_ : Option Addr) (_ : Nat))
    conv => whnf
    refine ⟨fun z3 => ?_, fun z3 => ?_⟩
    · obtain ⟨hWd, hMm, hE⟩ := dr_none hgo (show drI w m < 0 from of_decide_eq_true z3)
      repeat ((conv => whnf); first | apply qza | apply qzb | apply qzc | apply qzd | apply qze | intro (_ : Nat) | intro (_ : Option Addr) (_ : Nat))
      conv => whnf
      intro g2 hg
      refine ⟨_, _, by rw [hE]; rfl, by rw [hWd]; exact rWo_mono _ _ _ _ hg hF, ?_⟩
      rw [hMm]
      exact ⟨_, _, _, rfl, { hok with answer := ansK_ok (by decide) }, hop, rConfig_mono _ _ _ _ (GW.trans hg3 hg) hcf⟩
    have hnn : 0 ≤ drI w m := by have h9 : ¬ drI w m < 0 := of_decide_eq_false z3; omega
    obtain ⟨x, hx, hlt⟩ := place_lt (show 0 ≤ placeL w.listens m.op.listen from hnn)
    have hlt' : drI w m < w.listens.length := hlt
    have hl8 := hb.1.2.2.1
    obtain ⟨hWd, hMm, hE⟩ := dr_some hgo hnn hx
    obtain ⟨_, _, kl, kl1, kl2, kl0, klr⟩ := hLi
    cases kl
    obtain ⟨al, rfl, el, hel, ⟨rfl, hxa⟩, hcl⟩ := klr _ x hx
    obtain ⟨bk, cap, hv, rcl, b5, j5, bc, ty5, ⟨hA, p1, p2, p3, p4⟩, _, hk5⟩ := oWo_lis hT hx (x' := drL x) (o := 0) (vs := cLis (drL x)) (by simp) (by simp [Value.oneCell']) rfl hxa
    cases hv
    repeat ((conv => whnf); first | apply qza | apply qzb | apply qzc | apply qzd | apply qze | intro (_ : Nat) | intro (_ : Option Addr) (_ : Nat))
    conv => whnf
    refine ⟨_, rfl, ⟨by show 0 ≤ drI w m; omega, by show drI w m < w.listens.length; omega⟩, ?_⟩
    repeat ((conv => whnf); first | apply qza | apply qzb | apply qzc | apply qzd | apply qze | intro (_ : Nat) | intro (_ : Option Addr) (_ : Nat))
    conv => whnf
    refine ⟨_, ⟨rfl, hcl⟩, ?_⟩
    repeat ((conv => whnf); first | apply qza | apply qzb | apply qzc | apply qzd | apply qze | intro (_ : Nat) | intro (_ : Option Addr) (_ : Nat))
    conv => whnf
    refine .inl ⟨_, ok_gDrain _ x, ?_⟩
    repeat ((conv => whnf); first | apply qza | apply qzb | apply qzc | apply qzd | apply qze | intro (_ : Nat) | intro (_ : Option Addr) (_ : Nat))
    conv => whnf
    refine ⟨_, rfl, ⟨by show 0 ≤ drI w m; omega, by show drI w m < w.listens.length; omega⟩, ?_⟩
    repeat ((conv => whnf); first | apply qza | apply qzb | apply qzc | apply qzd | apply qze | intro (_ : Nat) | intro (_ : Option Addr) (_ : Nat))
    conv => whnf
    refine ⟨b5, j5, bc, ty5, ⟨by rw [← hA]; rfl, p1, p2, p3, p4⟩, ?_⟩
    repeat ((conv => whnf); first | apply qza | apply qzb | apply qzc | apply qzd | apply qze | intro (_ : Nat) | intro (_ : Option Addr) (_ : Nat))
    conv => whnf
    refine fun g6 u6 => ?_
    have hFx := oWo_rd (hk5 g6 u6)
    have hle6 : g ≤ g6 := u6.le hg3 (fun h => by have := g.wf _ h; omega)
    repeat ((conv => whnf); first | apply qza | apply qzb | apply qzc | apply qzd | apply qze | intro (_ : Nat) | intro (_ : Option Addr) (_ : Nat))
    conv => whnf
    intro g2 hg
    refine ⟨_, _, by rw [hE]; rfl, by rw [hWd]; exact rWo_mono _ _ _ _ hg hFx, ?_⟩
    rw [hMm]
    exact ⟨_, _, _, rfl, { hok with listen := show InR (drI w m) by unfold InR; omega, answer := ansK_ok ⟨by decide, by unfold InR; omega⟩ }, hop, rConfig_mono _ _ _ _ (GW.trans hle6 hg) hcf⟩)
end Go.Proofs.Ytjaeeadfmnokeaa


/- Slots: those of a new endpoint. -/
namespace Go.Proofs.Ytjaeeadfmnokeaa
open Go.Proofs.Ytjaeeadfmnokeaa.Sx Go.RowKit
def FreshP (n : Int) (v : Value) (g' : GW) : Prop :=
  ((1 ≤ n ∧ n ≤ 4) ∧ ∃ oa cap, v = .tuple #[.agg ⟨[.int .u64 1, .slice oa n.toNat cap, .int .i64 0]⟩, .int .i64 0] ∧ rSl 1 rInt g' (.slice oa n.toNat cap) (freshE n.toNat).next) ∨
  (¬ (1 ≤ n ∧ n ≤ 4) ∧ v = .tuple #[.agg ⟨[.int .u64 0, .slice none 0 0, .int .i64 0]⟩, .int .i64 1])
abbrev upE (k : Nat) : List (List Value) := (List.range k).map fun (i : Nat) => [Value.int .i64 ((i : Int) + 1)]
theorem upE_succ (k : Nat) : upE (k + 1) = upE k ++ [[Value.int .i64 ((k : Int) + 1)]] := by simp [upE, List.range_succ]
theorem upE_sz {k : Nat} : ∀ e ∈ upE k, e.length = 1 := fun e he => by
  obtain ⟨x, _, rfl⟩ := List.mem_map.1 he; rfl
theorem ok_Fresh (g : GW) {n : Int} : Ok Try.prog n_slots_Fresh [.int .i64 n] g (FreshP n) :=
  Ok.of_fn hm noT 0 t_slots_Fresh (args := [.v (.int .i64 n)]) (by
    repeat ((conv => whnf); first | apply qza | apply qzb | apply qzc | apply qzd | apply qze | intro (_ : Nat) | intro (_ : Option Addr) (_ : Nat))
    conv => whnf
    refine ⟨fun z1 => ?_, fun z1 => ?_⟩
    · repeat ((conv => whnf); first | apply qza | apply qzb | apply qzc | apply qzd | apply qze | intro (_ : Nat) | intro (_ : Option Addr) (_ : Nat))
      conv => whnf
      intro g2 hg
      exact .inr ⟨by have := of_decide_eq_true z1; omega, rfl⟩
    repeat ((conv => whnf); first | apply qza | apply qzb | apply qzc | apply qzd | apply qze | intro (_ : Nat) | intro (_ : Option Addr) (_ : Nat))
    conv => whnf
    refine ⟨fun z2 => ?_, fun z2 => ?_⟩
    · repeat ((conv => whnf); first | apply qza | apply qzb | apply qzc | apply qzd | apply qze | intro (_ : Nat) | intro (_ : Option Addr) (_ : Nat))
      conv => whnf
      intro g2 hg
      exact .inr ⟨by have := of_decide_eq_true z2; omega, rfl⟩
    have k1 := of_decide_eq_false z1
    have k2 := of_decide_eq_false z2
    obtain ⟨N, rfl⟩ := Int.eq_ofNat_of_zero_le (show 0 ≤ n by omega)
    repeat ((conv => whnf); first | apply qza | apply qzb | apply qzc | apply qzd | apply qze | intro (_ : Nat) | intro (_ : Option Addr) (_ : Nat))
    conv => whnf
    refine ⟨⟨by omega, by omega, by omega, by omega⟩, fun _ => ?_⟩
    repeat ((conv => whnf); first | apply qza | apply qzb | apply qzc | apply qzd | apply qze | intro (_ : Nat) | intro (_ : Option Addr) (_ : Nat))
    rename_i q0 q1 q2
    conv => whnf
    refine ⟨Nat, fun k => [.v (.int .i64 k)], fun k => ⟨g, [.blk 2 q2 ty_api_End [.v (.int .u64 0), .row 1 (some ⟨q1, 0, none⟩) N N, .v (.int .i64 0)], .row 1 (some ⟨q1, 0, none⟩) N N ty_int 1 (rowK (upE k) [.int .i64 0] (N - k)), .blk 0 q0 ty_api_End [.v (.int .u64 0), .v (.slice none 0 0), .v (.int .i64 0)]], 3, g.w.heap.size⟩, fun k => k ≤ N, fun k => N - k, fun fr w hw => ⟨0, rfl, Nat.zero_le _, hw.fit (by simp [fitL, Res.eqv, concL, conc, rowK, upE])⟩, ?_⟩
    intro k hk
    have hlen := rowK_len (m := N - k) (z := [.int .i64 0]) (upE_sz (k := k)) rfl
    have hul : (upE k).length = k := by simp [upE]
    repeat ((conv => whnf); first | apply qza | apply qzb | apply qzc | apply qzd | apply qze | intro (_ : Nat) | intro (_ : Option Addr) (_ : Nat))
    conv => whnf
    refine ⟨fun hlt => ?_, fun hlt => ?_⟩
    · have h' : k < N := by have := of_decide_eq_true hlt; omega
      have hset := rowK_set (m := N - k) (z := [.int .i64 0]) (upE_sz (k := k)) rfl (by omega) (ec := [.int .i64 ((k : Int) + 1)]) rfl hul.symm
      rw [← upE_succ] at hset
      repeat ((conv => whnf); first | apply qza | apply qzb | apply qzc | apply qzd | apply qze | intro (_ : Nat) | intro (_ : Option Addr) (_ : Nat))
      conv => whnf
      refine ⟨⟨by omega, by omega⟩, ?_⟩
      repeat ((conv => whnf); first | apply qza | apply qzb | apply qzc | apply qzd | apply qze | intro (_ : Nat) | intro (_ : Option Addr) (_ : Nat))
      conv => whnf
      refine ⟨⟨by rw [hlen, hul]; simp; omega, by decide⟩, ?_⟩
      repeat ((conv => whnf); first | apply qza | apply qzb | apply qzc | apply qzd | apply qze | intro (_ : Nat) | intro (_ : Option Addr) (_ : Nat))
      conv => whnf
      refine fun fr w hw => ⟨k + 1, congrArg (fun z => [Value.int .i64 z]) (by rw [wr (show InR ((k : Int) + 1) by unfold InR; omega)]; omega), h', dec h', hw.fit ?_⟩
      rw [show N - (k + 1) = N - k - 1 by omega, ← hset]
      simp [fitL, Res.eqv, concL, conc, wr (show InR ((k : Int) + 1) by unfold InR; omega)]
    have hkN : k = N := by have := of_decide_eq_false hlt; omega
    subst hkN
    rw [Nat.sub_self, hul] at hlen
    repeat ((conv => whnf); first | apply qza | apply qzb | apply qzc | apply qzd | apply qze | intro (_ : Nat) | intro (_ : Option Addr) (_ : Nat))
    conv => whnf
    refine ⟨⟨by rw [wr (by unfold InR; omega)]; omega, by rw [wr (by unfold InR; omega)]; omega⟩, ?_⟩
    repeat ((conv => whnf); first | apply qza | apply qzb | apply qzc | apply qzd | apply qze | intro (_ : Nat) | intro (_ : Option Addr) (_ : Nat))
    conv => whnf
    refine ⟨⟨by rw [Nat.sub_self, hlen, wr (by unfold InR; omega)]; simp; omega, by decide⟩, ?_⟩
    repeat ((conv => whnf); first | apply qza | apply qzb | apply qzc | apply qzd | apply qze | intro (_ : Nat) | intro (_ : Option Addr) (_ : Nat))
    conv => whnf
    refine .inl ⟨_, (ok_tMake _ (t := 0) (i := 0) (by decide) (by decide)).to (show _ = Value.tuple #[.int .u64 1, .int .i64 0] from rfl), ?_⟩
    repeat ((conv => whnf); first | apply qza | apply qzb | apply qzc | apply qzd | apply qze | intro (_ : Nat) | intro (_ : Option Addr) (_ : Nat))
    conv => whnf
    refine fun g1 hg1 hn1 hp1 => ?_
    repeat ((conv => whnf); first | apply qza | apply qzb | apply qzc | apply qzd | apply qze | intro (_ : Nat) | intro (_ : Option Addr) (_ : Nat))
    conv => whnf
    intro g2 hg
    refine .inl ⟨⟨by omega, by omega⟩, _, _, rfl, ?_⟩
    have hN : k = 1 ∨ k = 2 ∨ k = 3 ∨ k = 4 := by omega
    rcases hN with rfl | rfl | rfl | rfl
    all_goals exact (rSl_of1 hp1.rd (freshE _).next (fun x => .int .i64 x) rfl fun x hx => ⟨rfl, by simp [freshE, List.range, List.range.loop] at hx; unfold InR; omega⟩).mono rInt_mono hg)
theorem fresh_en {g : GW} {n : Int} {oa : Option Addr} {cap : Nat} (h : 1 ≤ n ∧ n ≤ 4) (hr : rSl 1 rInt g (.slice oa n.toNat cap) (freshE n.toNat).next) : rEn g [.int .u64 1, .slice oa n.toNat cap, .int .i64 0] (freshE n.toNat) :=
  ⟨⟨_, rfl, show InU 1 by decide, show InR 0 by decide, hr⟩, by simp [freshE]; omega⟩
end Go.Proofs.Ytjaeeadfmnokeaa


/- Worlds: a snapshot's cells. -/
namespace Go.Proofs.Ytjaeeadfmnokeaa
open Go.Proofs.Ytjaeeadfmnokeaa.Sx Go.RowKit
def CellsP (s : Snap) (v : Value) (g' : GW) : Prop :=
  (checkE (confS s) = none ∧ ∃ a b d oa n cap, v = .tuple #[.agg ⟨[a, b, d, .slice oa n cap, .bool false]⟩, .int .i64 0] ∧ rVe g' [a, b, d, .slice oa n cap, .bool false] (cellsV s)) ∨
  (checkE (confS s) ≠ none ∧ v = .tuple #[.agg ⟨[.slice none 0 0, .slice none 0 0, .slice none 0 0, .slice none 0 0, .bool false]⟩, .int .i64 1])
theorem ok_Cells (g : GW) {cs : List Value} {s : Snap} (hs : rSnap g cs s) (hsz : s.rules.length ≤ 1000000) : Ok Try.prog n_world_Cells [.agg ⟨cs⟩] g (CellsP s) := by
  have hs0 := hs
  obtain ⟨a, b, d, rfl, hl, hr, hk⟩ := hs
  obtain ⟨oa, ca, rfl, a1, a2, a0, hl1⟩ := id hl
  obtain ⟨ob, cb, rfl, b1, b2, b0, hr1⟩ := id hr
  obtain ⟨od, cd, rfl, d1, d2, d0, hk1⟩ := id hk
  exact Ok.of_fn hm noT 0 t_world_Cells (args := [.v (.agg ⟨[.slice oa s.listens.length ca, .slice ob s.rules.length cb, .slice od s.clusters.length cd]⟩)]) (by
    repeat ((conv => whnf); first | apply qza | apply qzb | apply qzc | apply qzd | apply qze | intro (_ : Nat) | intro (_ : Option Addr) (_ : Nat))
    conv => whnf
    refine .inl ⟨_, ok_sIs _ hs0 hsz, ?_⟩
    repeat ((conv => whnf); first | apply qza | apply qzb | apply qzc | apply qzd | apply qze | intro (_ : Nat) | intro (_ : Option Addr) (_ : Nat))
    conv => whnf
    refine ⟨fun z1 => ?_, fun z1 => ?_⟩
    · repeat ((conv => whnf); first | apply qza | apply qzb | apply qzc | apply qzd | apply qze | intro (_ : Nat) | intro (_ : Option Addr) (_ : Nat))
      conv => whnf
      intro g2 hg
      refine .inr ⟨fun h => ?_, rfl⟩
      rw [eqB_t h] at z1; cases z1
    have hz := eqB_iff.1 (nb0 z1)
    have G := good_iff.1 hz
    have hclL : s.clusters.length ≤ 4 := G.size.2.2.2
    have hcl : ∀ x ∈ s.clusters, (1 ≤ x.slots ∧ x.slots ≤ 4) ∧ (1 ≤ x.health.length ∧ x.health.length ≤ 4) := fun x hx => (G.cl x hx).2.2
    repeat ((conv => whnf); first | apply qza | apply qzb | apply qzc | apply qzd | apply qze | intro (_ : Nat) | intro (_ : Option Addr) (_ : Nat))
    rename_i q0 q1 q2
    conv => whnf
    refine ⟨Nat × List (List Value) × Option Addr × Nat × GW, fun (k, _, _, _, _) => [.v (.int .i64 k)], fun (k, ecs, oX, cX, g') => ⟨g', [.row 10 oX k cX ty_api_Group 2 ecs.flatten, .blk 2 q2 ty_api_Version [.v (.slice oa s.listens.length ca), .v (.slice ob s.rules.length cb), .v (.slice od s.clusters.length cd), .row 10 oX k cX, .v (.bool false)], .blk 1 q1 ty_api_Version [.v (.slice none 0 0), .v (.slice none 0 0), .v (.slice none 0 0), .v (.slice none 0 0), .v (.bool false)], .blk 0 q0 ty_api_Snap [.v (.slice oa s.listens.length ca), .v (.slice ob s.rules.length cb), .v (.slice od s.clusters.length cd)]], 20, g.w.heap.size⟩, fun (k, ecs, _, _, g') => k ≤ s.clusters.length ∧ g ≤ g' ∧ rEls 2 rGr g' ecs ((s.clusters.take k).map fun c => (⟨0, c.health.map fun _ => freshE c.slots.toNat⟩ : Group)), fun (k, _, _, _, _) => s.clusters.length - k, fun fr w hw => ⟨(0, [], none, 0, g), rfl, ⟨Nat.zero_le _, GW.refl _, rEls_nil _⟩, (hw.nil_row (nx' := 20) 10 ty_api_Group 2).fit (by simp [fitL, Res.eqv, concL, conc])⟩, ?_⟩
    rintro ⟨k, ecs, oX, cX, g'⟩ ⟨hkk, hgg, hE⟩
    repeat ((conv => whnf); first | apply qza | apply qzb | apply qzc | apply qzd | apply qze | intro (_ : Nat) | intro (_ : Option Addr) (_ : Nat))
    conv => whnf
    refine ⟨fun hlt => ?_, fun hlt => ?_⟩
    · have h' : k < s.clusters.length := by have := of_decide_eq_true hlt; omega
      obtain ⟨x, hx⟩ := getL_of h'
      obtain ⟨x1, x2⟩ := List.getElem?_eq_some_iff.1 hx
      have hxc := hcl x (List.mem_of_getElem? hx)
      obtain ⟨a, rfl, ec, hec, ⟨hv, rfl, _, _, ⟨oh, ch, rfl, t1, t2, _⟩⟩, hc⟩ := hk1 k x hx
      repeat ((conv => whnf); first | apply qza | apply qzb | apply qzc | apply qzd | apply qze | intro (_ : Nat) | intro (_ : Option Addr) (_ : Nat))
      conv => whnf
      refine ⟨a, rfl, ⟨by omega, by omega⟩, ?_⟩
      conv => whnf
      refine ⟨_, ⟨rfl, hc.mono hgg⟩, ?_⟩
      repeat ((conv => whnf); first | apply qza | apply qzb | apply qzc | apply qzd | apply qze | intro (_ : Nat) | intro (_ : Option Addr) (_ : Nat))
      rename_i qc qg
      conv => whnf
      refine ⟨Nat × List (List Value) × Option Addr × Nat × GW, fun (n, _, _, _, _) => [.v (.int .i64 n)], fun (n, ecs2, oE, cE, g2) => ⟨g2, [.row 30 oE n cE ty_api_End 3 ecs2.flatten, .blk 21 qg ty_api_Group [.v (.int .u64 0), .row 30 oE n cE], .blk 20 qc ty_api_Cluster [.v (.string x.name), .v (.int .i64 x.policy), .v (.int .i64 x.slots), .v (.slice oh x.health.length ch)], .row 10 oX k cX ty_api_Group 2 ecs.flatten, .blk 2 q2 ty_api_Version [.v (.slice oa s.listens.length ca), .v (.slice ob s.rules.length cb), .v (.slice (some a) s.clusters.length cd), .row 10 oX k cX, .v (.bool false)], .blk 1 q1 ty_api_Version [.v (.slice none 0 0), .v (.slice none 0 0), .v (.slice none 0 0), .v (.slice none 0 0), .v (.bool false)], .blk 0 q0 ty_api_Snap [.v (.slice oa s.listens.length ca), .v (.slice ob s.rules.length cb), .v (.slice (some a) s.clusters.length cd)]], 40, g.w.heap.size⟩, fun (n, ecs2, _, _, g2) => n ≤ x.health.length ∧ g' ≤ g2 ∧ rEls 3 rEn g2 ecs2 ((x.health.take n).map fun _ => freshE x.slots.toNat), fun (n, _, _, _, _) => x.health.length - n, fun fr w hw => ⟨(0, [], none, 0, g'), rfl, ⟨Nat.zero_le _, GW.refl _, rEls_nil _⟩, (hw.nil_row (nx' := 40) 30 ty_api_End 3).fit (by simp [fitL, Res.eqv, concL, conc])⟩, ?_⟩
      rintro ⟨n, ecs2, oE, cE, g2⟩ ⟨hn, hg2, hE2⟩
      repeat ((conv => whnf); first | apply qza | apply qzb | apply qzc | apply qzd | apply qze | intro (_ : Nat) | intro (_ : Option Addr) (_ : Nat))
      conv => whnf
      refine ⟨fun hln => ?_, fun hln => ?_⟩
      · have h2 : n < x.health.length := by have := of_decide_eq_true hln; omega
        repeat ((conv => whnf); first | apply qza | apply qzb | apply qzc | apply qzd | apply qze | intro (_ : Nat) | intro (_ : Option Addr) (_ : Nat))
        refine .inr ((ok_Fresh _).mono fun v g3 hg3 hF => ?_)
        rcases hF with ⟨_, oF, cF, rfl, hF⟩ | ⟨hF, _⟩
        rotate_left
        · exact absurd hxc.1 hF
        have hEn := fresh_en hxc.1 hF
        have hT : ((x.health.take (n + 1)).map fun _ => freshE x.slots.toNat) = ((x.health.take n).map fun _ => freshE x.slots.toNat) ++ [freshE x.slots.toNat] := by
          rw [List.take_succ_eq_append_getElem h2, List.map_append]; rfl
        repeat ((conv => whnf); first | apply qza | apply qzb | apply qzc | apply qzd | apply qze | intro (_ : Nat) | intro (_ : Option Addr) (_ : Nat))
        conv => whnf
        refine ⟨fun h => (nomatch h), fun _ => ?_⟩
        repeat ((conv => whnf); first | apply qza | apply qzb | apply qzc | apply qzd | apply qze | intro (_ : Nat) | intro (_ : Option Addr) (_ : Nat))
        conv => whnf
        refine ⟨⟨by unfold maxLen; omega, by omega⟩, fun oa2 cap2 => ?_⟩
        repeat ((conv => whnf); first | apply qza | apply qzb | apply qzc | apply qzd | apply qze | intro (_ : Nat) | intro (_ : Option Addr) (_ : Nat))
        conv => whnf
        refine fun fr w hw => ⟨(n + 1, ecs2 ++ [[.int .u64 1, .slice oF x.slots.toNat cF, .int .i64 0]], oa2, cap2, g3), congrArg (fun z => [Value.int .i64 z]) (wr1 h2 t1 t2).symm, ⟨h2, GW.trans hg2 hg3, by rw [hT]; exact rEls_snoc (rEls_up rEn_mono hg3 hE2) rfl hEn⟩, dec h2, hw.fit (by simp [fitL, Res.eqv, concL, conc])⟩
      have hnL : n = x.health.length := by have := of_decide_eq_false hln; omega
      subst hnL
      rw [List.take_length] at hE2
      have hT : ((s.clusters.take (k + 1)).map fun c => (⟨0, c.health.map fun _ => freshE c.slots.toNat⟩ : Group)) = ((s.clusters.take k).map fun c => (⟨0, c.health.map fun _ => freshE c.slots.toNat⟩ : Group)) ++ [⟨0, x.health.map fun _ => freshE x.slots.toNat⟩] := by
        rw [List.take_succ_eq_append_getElem x1, List.map_append, x2]; rfl
      repeat ((conv => whnf); first | apply qza | apply qzb | apply qzc | apply qzd | apply qze | intro (_ : Nat) | intro (_ : Option Addr) (_ : Nat))
      conv => whnf
      refine fun g3 hg3 hn3 hp3 => ?_
      have hSl := rEls_sl (rEls_up rEn_mono hg3 hE2) hp3 (by simp)
      repeat ((conv => whnf); first | apply qza | apply qzb | apply qzc | apply qzd | apply qze | intro (_ : Nat) | intro (_ : Option Addr) (_ : Nat))
      conv => whnf
      refine ⟨⟨by unfold maxLen; omega, by omega⟩, fun oa2 cap2 => ?_⟩
      repeat ((conv => whnf); first | apply qza | apply qzb | apply qzc | apply qzd | apply qze | intro (_ : Nat) | intro (_ : Option Addr) (_ : Nat))
      conv => whnf
      refine fun fr w hw => ⟨(k + 1, ecs ++ [[.int .u64 0, .slice oE x.health.length cE]], oa2, cap2, g3), congrArg (fun z => [Value.int .i64 z]) (wr1 h' d1 d2).symm, ⟨h', GW.trans hgg (GW.trans hg2 hg3), by rw [hT]; exact rEls_snoc (rEls_up rGr_mono (GW.trans hg2 hg3) hE) rfl ⟨_, rfl, show InU 0 by decide, hSl⟩⟩, dec h', hw.fit (by simp [fitL, Res.eqv, concL, conc])⟩
    have hkL : k = s.clusters.length := by have := of_decide_eq_false hlt; omega
    subst hkL
    rw [List.take_length] at hE
    repeat ((conv => whnf); first | apply qza | apply qzb | apply qzc | apply qzd | apply qze | intro (_ : Nat) | intro (_ : Option Addr) (_ : Nat))
    conv => whnf
    refine fun g3 hg3 hn3 hp3 => ?_
    have hSl := rEls_sl (rEls_up rGr_mono hg3 hE) hp3 (by simp)
    repeat ((conv => whnf); first | apply qza | apply qzb | apply qzc | apply qzd | apply qze | intro (_ : Nat) | intro (_ : Option Addr) (_ : Nat))
    conv => whnf
    intro g2 hg
    exact .inl ⟨hz, _, _, _, _, _, _, rfl, ⟨_, _, _, _, rfl, rSnap_mono _ _ _ _ (GW.trans hgg (GW.trans hg3 hg)) hs0, hSl.mono rGr_mono hg⟩⟩)
end Go.Proofs.Ytjaeeadfmnokeaa


/- Worlds: counts of a new world. -/
namespace Go.Proofs.Ytjaeeadfmnokeaa
open Go.Proofs.Ytjaeeadfmnokeaa.Sx Go.RowKit
def ShardP (n : Int) (v : Value) (g' : GW) : Prop :=
  ((1 ≤ n ∧ n ≤ 8) ∧ ∃ oa cap, v = .tuple #[.slice oa n.toNat cap, .int .i64 0] ∧ rSl 1 rRow g' (.slice oa n.toNat cap) (zCounts n.toNat)) ∨
  (¬ (1 ≤ n ∧ n ≤ 8) ∧ v = .tuple #[.slice none 0 0, .int .i64 1])
theorem ok_ShardNew (g : GW) {n : Int} : Ok Try.prog n_shard_New [.int .i64 n] g (ShardP n) :=
  Ok.of_fn hm noT 0 t_shard_New (args := [.v (.int .i64 n)]) (by
    repeat ((conv => whnf); first | apply qza | apply qzb | apply qzc | apply qzd | apply qze | intro (_ : Nat) | intro (_ : Option Addr) (_ : Nat))
    conv => whnf
    refine ⟨fun z1 => ?_, fun z1 => ?_⟩
    · repeat ((conv => whnf); first | apply qza | apply qzb | apply qzc | apply qzd | apply qze | intro (_ : Nat) | intro (_ : Option Addr) (_ : Nat))
      conv => whnf
      intro g2 hg
      exact .inr ⟨by have := of_decide_eq_true z1; omega, rfl⟩
    repeat ((conv => whnf); first | apply qza | apply qzb | apply qzc | apply qzd | apply qze | intro (_ : Nat) | intro (_ : Option Addr) (_ : Nat))
    conv => whnf
    refine ⟨fun z2 => ?_, fun z2 => ?_⟩
    · repeat ((conv => whnf); first | apply qza | apply qzb | apply qzc | apply qzd | apply qze | intro (_ : Nat) | intro (_ : Option Addr) (_ : Nat))
      conv => whnf
      intro g2 hg
      exact .inr ⟨by have := of_decide_eq_true z2; omega, rfl⟩
    have k1 := of_decide_eq_false z1
    have k2 := of_decide_eq_false z2
    obtain ⟨N, rfl⟩ := Int.eq_ofNat_of_zero_le (show 0 ≤ n by omega)
    repeat ((conv => whnf); first | apply qza | apply qzb | apply qzc | apply qzd | apply qze | intro (_ : Nat) | intro (_ : Option Addr) (_ : Nat))
    conv => whnf
    refine ⟨⟨by omega, by omega, by omega, by omega⟩, fun _ => ?_⟩
    repeat ((conv => whnf); first | apply qza | apply qzb | apply qzc | apply qzd | apply qze | intro (_ : Nat) | intro (_ : Option Addr) (_ : Nat))
    rename_i q1
    conv => whnf
    refine ⟨Nat × List (List Value) × GW, fun (k, _, _) => [.v (.int .i64 k)], fun (k, ecs, g') => ⟨g', [.row 0 (some ⟨q1, 0, none⟩) N N ty_sl_uint64 1 (rowK ecs [.slice none 0 0] (N - k))], 10, g.w.heap.size⟩, fun (k, ecs, g') => k ≤ N ∧ g ≤ g' ∧ rEls 1 rRow g' ecs (zCounts k), fun (k, _, _) => N - k, fun fr w hw => ⟨(0, [], g), rfl, ⟨Nat.zero_le _, GW.refl _, rEls_nil _⟩, hw.fit (by simp [fitL, Res.eqv, concL, conc, rowK])⟩, ?_⟩
    rintro ⟨k, ecs, g'⟩ ⟨hk, hgg, hE⟩
    have hel : ecs.length = k := by have := hE.1.1; simpa [zCounts] using this
    have hlen := rowK_len (m := N - k) (z := [.slice none 0 0]) hE.1.2 rfl
    repeat ((conv => whnf); first | apply qza | apply qzb | apply qzc | apply qzd | apply qze | intro (_ : Nat) | intro (_ : Option Addr) (_ : Nat))
    conv => whnf
    refine ⟨fun hlt => ?_, fun hlt => ?_⟩
    · have h' : k < N := by have := of_decide_eq_true hlt; omega
      repeat ((conv => whnf); first | apply qza | apply qzb | apply qzc | apply qzd | apply qze | intro (_ : Nat) | intro (_ : Option Addr) (_ : Nat))
      conv => whnf
      refine ⟨⟨by decide, by decide, by decide, by decide⟩, fun _ => ?_⟩
      repeat ((conv => whnf); first | apply qza | apply qzb | apply qzc | apply qzd | apply qze | intro (_ : Nat) | intro (_ : Option Addr) (_ : Nat))
      conv => whnf
      refine ⟨⟨by omega, by omega⟩, ?_⟩
      repeat ((conv => whnf); first | apply qza | apply qzb | apply qzc | apply qzd | apply qze | intro (_ : Nat) | intro (_ : Option Addr) (_ : Nat))
      rename_i q2
      conv => whnf
      refine fun g2 hg2 hn2 hp2 => ?_
      have hrow : rSl 1 rU64 g2 (.slice (some ⟨q2, 0, none⟩) 6 6) [0, 0, 0, 0, 0, 0] := rSl_of1 hp2.rd [0, 0, 0, 0, 0, 0] (fun x => .int .u64 x) rfl fun x hx => ⟨rfl, by simp at hx; subst hx; decide⟩
      have hset := rowK_set (m := N - k) (z := [.slice none 0 0]) hE.1.2 rfl (by omega) (ec := [.slice (some ⟨q2, 0, none⟩) 6 6]) rfl hel.symm
      have hT : zCounts (k + 1) = zCounts k ++ [[0, 0, 0, 0, 0, 0]] := by simp [zCounts, List.range_succ]
      repeat ((conv => whnf); first | apply qza | apply qzb | apply qzc | apply qzd | apply qze | intro (_ : Nat) | intro (_ : Option Addr) (_ : Nat))
      conv => whnf
      refine ⟨⟨by rw [hlen, hel]; simp; omega, by decide⟩, ?_⟩
      repeat ((conv => whnf); first | apply qza | apply qzb | apply qzc | apply qzd | apply qze | intro (_ : Nat) | intro (_ : Option Addr) (_ : Nat))
      conv => whnf
      refine fun fr w hw => ⟨(k + 1, ecs ++ [[.slice (some ⟨q2, 0, none⟩) 6 6]], g2), congrArg (fun z => [Value.int .i64 z]) (by rw [wr (show InR ((k : Int) + 1) by unfold InR; omega)]; omega), ⟨h', GW.trans hgg hg2, by rw [hT]; exact rEls_snoc (rEls_up rRow_mono hg2 hE) rfl ⟨_, rfl, hrow⟩⟩, dec h', hw.fit ?_⟩
      rw [show N - (k + 1) = N - k - 1 by omega, ← hset]
      simp [fitL, Res.eqv, concL, conc]
    have hkN : k = N := by have := of_decide_eq_false hlt; omega
    subst hkN
    repeat ((conv => whnf); first | apply qza | apply qzb | apply qzc | apply qzd | apply qze | intro (_ : Nat) | intro (_ : Option Addr) (_ : Nat))
    conv => whnf
    refine fun g2 hg2 hn2 hp2 => ?_
    rw [Nat.sub_self, rowK_done] at hp2
    have hSl := rEls_sl (rEls_up rRow_mono hg2 hE) hp2 (by simp [zCounts])
    repeat ((conv => whnf); first | apply qza | apply qzb | apply qzc | apply qzd | apply qze | intro (_ : Nat) | intro (_ : Option Addr) (_ : Nat))
    conv => whnf
    intro g2 hg
    exact .inl ⟨⟨by omega, by omega⟩, _, _, rfl, hSl.mono rRow_mono hg⟩)
end Go.Proofs.Ytjaeeadfmnokeaa


/- Worlds: a new one. -/
namespace Go.Proofs.Ytjaeeadfmnokeaa
open Go.Proofs.Ytjaeeadfmnokeaa.Sx Go.RowKit
abbrev zWs : List Value := [.int .i64 0, .int .i64 0, .int .i64 0, .slice none 0 0, .slice none 0 0, .slice none 0 0, .slice none 0 0, .slice none 0 0]
def NewP (s : Snap) (l : List BA) (t : Int) (v : Value) (g' : GW) : Prop :=
  (NewOk s l t ∧ ∃ cs, v = .tuple #[.agg ⟨cs⟩, .int .i64 0] ∧ rWo g' cs (newW s l t.toNat)) ∨ (¬ NewOk s l t ∧ v = .tuple #[.agg ⟨zWs⟩, .int .i64 1])
theorem ok_New (g : GW) {cs : List Value} {s : Snap} {v : Value} {l : List BA} {t : Int} (hs : rSnap g cs s) (hl : rSl 1 rStr g v l) (hsz : s.rules.length ≤ 1000000) (hll : l.length ≤ 1000000) : Ok Try.prog n_world_New [.agg ⟨cs⟩, v, .int .i64 t] g (NewP s l t) := by
  have hs0 := hs
  obtain ⟨a, b, d, rfl, ⟨oa, ca, rfl, _⟩, ⟨ob, cb, rfl, _⟩, ⟨od, cd, rfl, _⟩⟩ := hs
  obtain ⟨ol, cl, rfl, l1, l2, l0, hl1⟩ := id hl
  exact Ok.of_fn hm noT 0 t_world_New (args := [.v (.agg ⟨[.slice oa s.listens.length ca, .slice ob s.rules.length cb, .slice od s.clusters.length cd]⟩), .v (.slice ol l.length cl), .v (.int .i64 t)]) (by
    repeat ((conv => whnf); first | apply qza | apply qzb | apply qzc | apply qzd | apply qze | intro (_ : Nat) | intro (_ : Option Addr) (_ : Nat))
    rename_i q0 q1
    refine .inr ((ok_Cells _ hs0 hsz).mono fun v g1 hg1 hC => ?_)
    rcases hC with ⟨hz, ka, kb, kd, oV, nV, cV, rfl, hV⟩ | ⟨hz, rfl⟩
    rotate_left
    · repeat ((conv => whnf); first | apply qza | apply qzb | apply qzc | apply qzd | apply qze | intro (_ : Nat) | intro (_ : Option Addr) (_ : Nat))
      conv => whnf
      refine ⟨fun _ => ?_, fun h => nomatch h⟩
      repeat ((conv => whnf); first | apply qza | apply qzb | apply qzc | apply qzd | apply qze | intro (_ : Nat) | intro (_ : Option Addr) (_ : Nat))
      conv => whnf
      intro g2 hg
      exact .inr ⟨fun h => hz h.1, rfl⟩
    have hV0 := hV
    obtain ⟨_, _, _, _, he, ⟨_, _, _, he2, ⟨sa, ta, rfl, _⟩, ⟨sb, tb, rfl, _⟩, ⟨sd, td, rfl, _⟩⟩, hG⟩ := hV
    simp only [List.cons.injEq, and_true] at he
    obtain ⟨rfl, rfl, rfl, rfl, _⟩ := he
    cases he2
    repeat ((conv => whnf); first | apply qza | apply qzb | apply qzc | apply qzd | apply qze | intro (_ : Nat) | intro (_ : Option Addr) (_ : Nat))
    rename_i q2
    conv => whnf
    refine ⟨fun h => (nomatch h), fun _ => ?_⟩
    repeat ((conv => whnf); first | apply qza | apply qzb | apply qzc | apply qzd | apply qze | intro (_ : Nat) | intro (_ : Option Addr) (_ : Nat))
    refine .inr ((ok_ShardNew _).mono fun v g2 hg2 hS => ?_)
    rcases hS with ⟨ht, oS, cS, rfl, hSh⟩ | ⟨ht, rfl⟩
    rotate_left
    · repeat ((conv => whnf); first | apply qza | apply qzb | apply qzc | apply qzd | apply qze | intro (_ : Nat) | intro (_ : Option Addr) (_ : Nat))
      conv => whnf
      refine ⟨fun _ => ?_, fun h => nomatch h⟩
      repeat ((conv => whnf); first | apply qza | apply qzb | apply qzc | apply qzd | apply qze | intro (_ : Nat) | intro (_ : Option Addr) (_ : Nat))
      conv => whnf
      intro g2 hg
      exact .inr ⟨fun h => ht h.2.1, rfl⟩
    obtain ⟨N, rfl⟩ := Int.eq_ofNat_of_zero_le (show 0 ≤ t by omega)
    have hg02 := GW.trans hg1 hg2
    repeat ((conv => whnf); first | apply qza | apply qzb | apply qzc | apply qzd | apply qze | intro (_ : Nat) | intro (_ : Option Addr) (_ : Nat))
    conv => whnf
    refine ⟨fun h => (nomatch h), fun _ => ?_⟩
    repeat ((conv => whnf); first | apply qza | apply qzb | apply qzc | apply qzd | apply qze | intro (_ : Nat) | intro (_ : Option Addr) (_ : Nat))
    refine ⟨?_, ?_⟩
    · repeat ((conv => whnf); first | apply qza | apply qzb | apply qzc | apply qzd | apply qze | intro (_ : Nat) | intro (_ : Option Addr) (_ : Nat))
      conv => whnf
      refine ⟨⟨by omega, by omega, by omega, by omega⟩, fun _ => ?_⟩
      repeat ((conv => whnf); first | apply qza | apply qzb | apply qzc | apply qzd | apply qze | intro (_ : Nat) | intro (_ : Option Addr) (_ : Nat))
      rename_i qV qP qw
      conv => whnf
      refine ⟨Nat × Option Addr × Nat × Nat × GW, fun (k, _, _, _, _) => [.v (.int .i64 k)], fun (k, oX, nX, cX, g') => ⟨g', [.blk 5 qw ty_api_World [.v (.int .i64 0), .v (.int .i64 0), .v (.int .i64 0), .row 4 (some ⟨qP, 0, none⟩) N N, .sl 3 qV 0 1 1, .v (.slice oX nX cX), .v (.slice oS N cS), .v (.slice none 0 0)], .row 4 (some ⟨qP, 0, none⟩) N N ty_int 1 (List.replicate N [Value.int .i64 0]).flatten, .blk 3 qV ty_api_Version [.v (.slice sa (cellsV s).snap.listens.length ta), .v (.slice sb (cellsV s).snap.rules.length tb), .v (.slice sd (cellsV s).snap.clusters.length td), .v (.slice oV nV cV), .v (.bool false)], .blk 2 q2 ty_api_Version [.v (.slice sa (cellsV s).snap.listens.length ta), .v (.slice sb (cellsV s).snap.rules.length tb), .v (.slice sd (cellsV s).snap.clusters.length td), .v (.slice oV nV cV), .v (.bool false)], .blk 1 q1 ty_api_World [.v (.int .i64 0), .v (.int .i64 0), .v (.int .i64 0), .v (.slice none 0 0), .v (.slice none 0 0), .v (.slice none 0 0), .v (.slice none 0 0), .v (.slice none 0 0)], .blk 0 q0 ty_api_Snap [.v (.slice oa s.listens.length ca), .v (.slice ob s.rules.length cb), .v (.slice od s.clusters.length cd)]], 20, g.w.heap.size⟩, fun (k, oX, nX, cX, g') => k ≤ l.length ∧ g2 ≤ g' ∧ nX = k ∧ PbSl g' g.w.heap.size ty_api_Listen 4 (.slice oX nX cX) nX ((lisL (l.take k)).map cLi).flatten ∧ (∀ a, oX = some a → ¬ g2.g a.block) ∧ AllK (namF l) l k, fun (k, _, _, _, _) => l.length - k, fun fr w hw => ⟨(0, none, 0, 0, g2), rfl, ⟨Nat.zero_le _, GW.refl _, rfl, ⟨rfl, .inl ⟨rfl, rfl⟩, fun u hu => by cases hu⟩, (fun a h => by cases h), AllK.zero _ _⟩, hw.fit (by simp [fitL, Res.eqv, concL, conc])⟩, ?_⟩
      rintro ⟨k, oX, nX, cX, g'⟩ ⟨hk, hgg, hn, hpb, hnb, hAK⟩
      have hll2 : (lisL (l.take k)).length = k := by simp [lisL]; omega
      have hlis : rSl 4 rListen g' (.slice oX nX cX) (lisL (l.take k)) := rSl_ofE hpb.rd (lisL (l.take k)) cLi rfl (by omega) (fun _ _ => rfl) fun x hx => by
        obtain ⟨y, _, rfl⟩ := List.mem_map.1 hx
        exact ⟨rfl, show InR 0 by decide⟩
      repeat ((conv => whnf); first | apply qza | apply qzb | apply qzc | apply qzd | apply qze | intro (_ : Nat) | intro (_ : Option Addr) (_ : Nat))
      conv => whnf
      refine ⟨fun hlt => ?_, fun hlt => ?_⟩
      · have h' : k < l.length := by have := of_decide_eq_true hlt; omega
        obtain ⟨x, hx⟩ := getL_of h'
        obtain ⟨a, rfl, ec, hec, rfl, hc⟩ := hl1 k x hx
        have hbad : namF l k x = false → ¬ NewOk s l N := fun hf h => by have h3 := h.2.2; rw [allI_false hx hf] at h3; cases h3
        repeat ((conv => whnf); first | apply qza | apply qzb | apply qzc | apply qzd | apply qze | intro (_ : Nat) | intro (_ : Option Addr) (_ : Nat))
        conv => whnf
        refine ⟨a, rfl, ⟨by omega, by omega⟩, ?_⟩
        conv => whnf
        refine ⟨_, (hc.mono (GW.trans hg02 hgg)) 0 _ rfl, ?_⟩
        repeat ((conv => whnf); first | apply qza | apply qzb | apply qzc | apply qzd | apply qze | intro (_ : Nat) | intro (_ : Option Addr) (_ : Nat))
        conv => whnf
        refine .inl ⟨_, ok_Name _ _, ?_⟩
        repeat ((conv => whnf); first | apply qza | apply qzb | apply qzc | apply qzd | apply qze | intro (_ : Nat) | intro (_ : Option Addr) (_ : Nat))
        conv => whnf
        refine ⟨fun y1 => ?_, fun y1 => ?_⟩
        · repeat ((conv => whnf); first | apply qza | apply qzb | apply qzc | apply qzd | apply qze | intro (_ : Nat) | intro (_ : Option Addr) (_ : Nat))
          conv => whnf
          intro g2 hg
          exact .inr ⟨hbad (by unfold namF; rw [nb1 y1]; rfl), rfl⟩
        repeat ((conv => whnf); first | apply qza | apply qzb | apply qzc | apply qzd | apply qze | intro (_ : Nat) | intro (_ : Option Addr) (_ : Nat))
        conv => whnf
        refine .inl ⟨_, ok_gPlace _ hlis _, ?_⟩
        repeat ((conv => whnf); first | apply qza | apply qzb | apply qzc | apply qzd | apply qze | intro (_ : Nat) | intro (_ : Option Addr) (_ : Nat))
        conv => whnf
        refine ⟨fun y2 => ?_, fun y2 => ?_⟩
        · repeat ((conv => whnf); first | apply qza | apply qzb | apply qzc | apply qzd | apply qze | intro (_ : Nat) | intro (_ : Option Addr) (_ : Nat))
          conv => whnf
          intro g2 hg
          exact .inr ⟨hbad (by unfold namF; rw [decide_eq_false (by have := of_decide_eq_true y2; omega)]; simp), rfl⟩
        have hnF : namF l k x = true := by unfold namF; rw [nb0 y1, decide_eq_true (by have := of_decide_eq_false y2; omega)]; rfl
        have hT := lisL_take hx
        rcases hpb.2.1 with ⟨he, hn0⟩ | ⟨bk, cap', rest, he, hb1, hb2, hb3, hb4, hb5⟩
        · cases he
          have hk0 : k = 0 := by omega
          subst hk0
          repeat ((conv => whnf); first | apply qza | apply qzb | apply qzc | apply qzd | apply qze | intro (_ : Nat) | intro (_ : Option Addr) (_ : Nat))
          conv => whnf
          refine ⟨⟨by unfold maxLen; omega, by omega⟩, fun oa3 cap3 => ?_⟩
          repeat ((conv => whnf); first | apply qza | apply qzb | apply qzc | apply qzd | apply qze | intro (_ : Nat) | intro (_ : Option Addr) (_ : Nat))
          conv => whnf
          refine fun fr w hw => by
            have hw1 : HSim fr ⟨g', .row 70 oa3 (1) cap3 ty_api_Listen 4 (cLi ⟨x, false, 0, false⟩) :: [.blk 5 qw ty_api_World [.v (.int .i64 0), .v (.int .i64 0), .v (.int .i64 0), .row 4 (some ⟨qP, 0, none⟩) N N, .sl 3 qV 0 1 1, .v (.slice oa3 (1) cap3), .v (.slice oS N cS), .v (.slice none 0 0)], .row 4 (some ⟨qP, 0, none⟩) N N ty_int 1 (List.replicate N [Value.int .i64 0]).flatten, .blk 3 qV ty_api_Version [.v (.slice sa (cellsV s).snap.listens.length ta), .v (.slice sb (cellsV s).snap.rules.length tb), .v (.slice sd (cellsV s).snap.clusters.length td), .v (.slice oV nV cV), .v (.bool false)], .blk 2 q2 ty_api_Version [.v (.slice sa (cellsV s).snap.listens.length ta), .v (.slice sb (cellsV s).snap.rules.length tb), .v (.slice sd (cellsV s).snap.clusters.length td), .v (.slice oV nV cV), .v (.bool false)], .blk 1 q1 ty_api_World [.v (.int .i64 0), .v (.int .i64 0), .v (.int .i64 0), .v (.slice none 0 0), .v (.slice none 0 0), .v (.slice none 0 0), .v (.slice none 0 0), .v (.slice none 0 0)], .blk 0 q0 ty_api_Snap [.v (.slice oa s.listens.length ca), .v (.slice ob s.rules.length cb), .v (.slice od s.clusters.length cd)]], 80, g.w.heap.size⟩ w := hw.fit (by simp [fitL, Res.eqv, concL, conc])
            obtain ⟨g4, k1', k2, k3, k4⟩ := hw1.row_pub
            refine ⟨(0 + 1, oa3, 1, cap3, g4), congrArg (fun z => [Value.int .i64 z]) (wr1 h' l1 l2).symm, ⟨h', GW.trans hgg k1', rfl, ?_, fun a ha q => k2 a ha (hgg.2 _ q).1, hAK.succ hx hnF⟩, dec h', k4.fit (by simp [fitL, Res.eqv, concL, conc])⟩
            rw [hT]; exact k3
        · cases he
          have hbk : ¬ g2.g bk := hnb _ rfl
          repeat ((conv => whnf); first | apply qza | apply qzb | apply qzc | apply qzd | apply qze | intro (_ : Nat) | intro (_ : Option Addr) (_ : Nat))
          conv => whnf
          refine .inr ⟨bk, _, rest, ⟨rfl, hb1.1, hb1.2, hb2, hpb.1, hpb.2.2, hb3, hb4, hb5, by unfold maxLen; omega, by omega⟩, fun gL hless oa3 cap3 => ?_⟩
          repeat ((conv => whnf); first | apply qza | apply qzb | apply qzc | apply qzd | apply qze | intro (_ : Nat) | intro (_ : Option Addr) (_ : Nat))
          conv => whnf
          refine fun fr w hw => by
            have hw1 : HSim fr ⟨gL, .row 70 oa3 (nX + 1) cap3 ty_api_Listen 4 (((lisL (l.take k)).map cLi).flatten ++ cLi ⟨x, false, 0, false⟩) :: [.blk 5 qw ty_api_World [.v (.int .i64 0), .v (.int .i64 0), .v (.int .i64 0), .row 4 (some ⟨qP, 0, none⟩) N N, .sl 3 qV 0 1 1, .v (.slice oa3 (nX + 1) cap3), .v (.slice oS N cS), .v (.slice none 0 0)], .row 4 (some ⟨qP, 0, none⟩) N N ty_int 1 (List.replicate N [Value.int .i64 0]).flatten, .blk 3 qV ty_api_Version [.v (.slice sa (cellsV s).snap.listens.length ta), .v (.slice sb (cellsV s).snap.rules.length tb), .v (.slice sd (cellsV s).snap.clusters.length td), .v (.slice oV nV cV), .v (.bool false)], .blk 2 q2 ty_api_Version [.v (.slice sa (cellsV s).snap.listens.length ta), .v (.slice sb (cellsV s).snap.rules.length tb), .v (.slice sd (cellsV s).snap.clusters.length td), .v (.slice oV nV cV), .v (.bool false)], .blk 1 q1 ty_api_World [.v (.int .i64 0), .v (.int .i64 0), .v (.int .i64 0), .v (.slice none 0 0), .v (.slice none 0 0), .v (.slice none 0 0), .v (.slice none 0 0), .v (.slice none 0 0)], .blk 0 q0 ty_api_Snap [.v (.slice oa s.listens.length ca), .v (.slice ob s.rules.length cb), .v (.slice od s.clusters.length cd)]], 80, g.w.heap.size⟩ w := hw.fit (by simp [fitL, Res.eqv, concL, conc])
            obtain ⟨g4, k1', k2, k3, k4⟩ := hw1.row_pub
            have hgL := hless.le hgg hbk
            refine ⟨(k + 1, oa3, nX + 1, cap3, g4), congrArg (fun z => [Value.int .i64 z]) (wr1 h' l1 l2).symm, ⟨h', GW.trans hgL k1', by omega, ?_, fun a ha q => k2 a ha (hgL.2 _ q).1, hAK.succ hx hnF⟩, dec h', k4.fit (by simp [fitL, Res.eqv, concL, conc])⟩
            rw [hT]; simpa using k3
      have hkL : k = l.length := by have := of_decide_eq_false hlt; omega
      subst hkL
      have hok : NewOk s l N := ⟨hz, ht, hAK.done (Nat.le_refl _)⟩
      rw [List.take_length] at hlis
      repeat ((conv => whnf); first | apply qza | apply qzb | apply qzc | apply qzd | apply qze | intro (_ : Nat) | intro (_ : Option Addr) (_ : Nat))
      conv => whnf
      refine fun gA kA nA pA => ?_
      repeat ((conv => whnf); first | apply qza | apply qzb | apply qzc | apply qzd | apply qze | intro (_ : Nat) | intro (_ : Option Addr) (_ : Nat))
      conv => whnf
      refine ⟨5, rfl, by unfold maxLen; omega, fun gB kB nB pB => ?_⟩
      repeat ((conv => whnf); first | apply qza | apply qzb | apply qzc | apply qzd | apply qze | intro (_ : Nat) | intro (_ : Option Addr) (_ : Nat))
      conv => whnf
      intro g2 hg
      have mA := GW.trans kA (GW.trans kB hg)
      refine .inl ⟨hok, _, rfl, _, _, _, _, _, rfl, ⟨show InR 0 by decide, show InR 0 by decide, show InR 0 by decide⟩, ?_, ?_, hlis.mono rListen_mono mA, hSh.mono rRow_mono (GW.trans hgg mA), ⟨none, 0, rfl, Nat.le_refl _, Nat.zero_le _, fun _ => ⟨rfl, rfl⟩, fun i x hx => by simp [newW] at hx⟩⟩
      · exact (rSl_of1 pA.rd (List.replicate N 0) (fun x => .int .i64 x) (by simp [List.flatten_replicate_singleton]) fun x hx => ⟨rfl, by rw [List.eq_of_mem_replicate hx]; decide⟩).mono rInt_mono (GW.trans kB hg)
      · refine rSl_of (pB.rd.mono hg) [cellsV s] [[.slice sa (cellsV s).snap.listens.length ta, .slice sb (cellsV s).snap.rules.length tb, .slice sd (cellsV s).snap.clusters.length td, .slice oV nV cV, .bool false]] rfl (fun e he => ?_) rfl rfl fun i x ec hx hec => ?_
        · simp at he; subst he; rfl
        · cases i with
          | zero =>
            simp at hx hec
            subst hx; subst hec
            exact rVe_mono _ _ _ _ (GW.trans hg2 (GW.trans hgg mA)) hV0
          | succ i => simp at hx
    · repeat ((conv => whnf); first | apply qza | apply qzb | apply qzc | apply qzd | apply qze | intro (_ : Nat) | intro (_ : Option Addr) (_ : Nat))
      conv => whnf
      refine ⟨⟨by omega, by omega, by omega, by omega⟩, fun _ => ?_⟩
      repeat ((conv => whnf); first | apply qza | apply qzb | apply qzc | apply qzd | apply qze | intro (_ : Nat) | intro (_ : Option Addr) (_ : Nat))
      rename_i qP qV qw
      conv => whnf
      refine ⟨Nat × Option Addr × Nat × Nat × GW, fun (k, _, _, _, _) => [.v (.int .i64 k)], fun (k, oX, nX, cX, g') => ⟨g', [.blk 5 qw ty_api_World [.v (.int .i64 0), .v (.int .i64 0), .v (.int .i64 0), .row 3 (some ⟨qP, 0, none⟩) N N, .sl 4 qV 0 1 1, .v (.slice oX nX cX), .v (.slice oS N cS), .v (.slice none 0 0)], .blk 4 qV ty_api_Version [.v (.slice sa (cellsV s).snap.listens.length ta), .v (.slice sb (cellsV s).snap.rules.length tb), .v (.slice sd (cellsV s).snap.clusters.length td), .v (.slice oV nV cV), .v (.bool false)], .row 3 (some ⟨qP, 0, none⟩) N N ty_int 1 (List.replicate N [Value.int .i64 0]).flatten, .blk 2 q2 ty_api_Version [.v (.slice sa (cellsV s).snap.listens.length ta), .v (.slice sb (cellsV s).snap.rules.length tb), .v (.slice sd (cellsV s).snap.clusters.length td), .v (.slice oV nV cV), .v (.bool false)], .blk 1 q1 ty_api_World [.v (.int .i64 0), .v (.int .i64 0), .v (.int .i64 0), .v (.slice none 0 0), .v (.slice none 0 0), .v (.slice none 0 0), .v (.slice none 0 0), .v (.slice none 0 0)], .blk 0 q0 ty_api_Snap [.v (.slice oa s.listens.length ca), .v (.slice ob s.rules.length cb), .v (.slice od s.clusters.length cd)]], 20, g.w.heap.size⟩, fun (k, oX, nX, cX, g') => k ≤ l.length ∧ g2 ≤ g' ∧ nX = k ∧ PbSl g' g.w.heap.size ty_api_Listen 4 (.slice oX nX cX) nX ((lisL (l.take k)).map cLi).flatten ∧ (∀ a, oX = some a → ¬ g2.g a.block) ∧ AllK (namF l) l k, fun (k, _, _, _, _) => l.length - k, fun fr w hw => ⟨(0, none, 0, 0, g2), rfl, ⟨Nat.zero_le _, GW.refl _, rfl, ⟨rfl, .inl ⟨rfl, rfl⟩, fun u hu => by cases hu⟩, (fun a h => by cases h), AllK.zero _ _⟩, hw.fit (by simp [fitL, Res.eqv, concL, conc])⟩, ?_⟩
      rintro ⟨k, oX, nX, cX, g'⟩ ⟨hk, hgg, hn, hpb, hnb, hAK⟩
      have hll2 : (lisL (l.take k)).length = k := by simp [lisL]; omega
      have hlis : rSl 4 rListen g' (.slice oX nX cX) (lisL (l.take k)) := rSl_ofE hpb.rd (lisL (l.take k)) cLi rfl (by omega) (fun _ _ => rfl) fun x hx => by
        obtain ⟨y, _, rfl⟩ := List.mem_map.1 hx
        exact ⟨rfl, show InR 0 by decide⟩
      repeat ((conv => whnf); first | apply qza | apply qzb | apply qzc | apply qzd | apply qze | intro (_ : Nat) | intro (_ : Option Addr) (_ : Nat))
      conv => whnf
      refine ⟨fun hlt => ?_, fun hlt => ?_⟩
      · have h' : k < l.length := by have := of_decide_eq_true hlt; omega
        obtain ⟨x, hx⟩ := getL_of h'
        obtain ⟨a, rfl, ec, hec, rfl, hc⟩ := hl1 k x hx
        have hbad : namF l k x = false → ¬ NewOk s l N := fun hf h => by have h3 := h.2.2; rw [allI_false hx hf] at h3; cases h3
        repeat ((conv => whnf); first | apply qza | apply qzb | apply qzc | apply qzd | apply qze | intro (_ : Nat) | intro (_ : Option Addr) (_ : Nat))
        conv => whnf
        refine ⟨a, rfl, ⟨by omega, by omega⟩, ?_⟩
        conv => whnf
        refine ⟨_, (hc.mono (GW.trans hg02 hgg)) 0 _ rfl, ?_⟩
        repeat ((conv => whnf); first | apply qza | apply qzb | apply qzc | apply qzd | apply qze | intro (_ : Nat) | intro (_ : Option Addr) (_ : Nat))
        conv => whnf
        refine .inl ⟨_, ok_Name _ _, ?_⟩
        repeat ((conv => whnf); first | apply qza | apply qzb | apply qzc | apply qzd | apply qze | intro (_ : Nat) | intro (_ : Option Addr) (_ : Nat))
        conv => whnf
        refine ⟨fun y1 => ?_, fun y1 => ?_⟩
        · repeat ((conv => whnf); first | apply qza | apply qzb | apply qzc | apply qzd | apply qze | intro (_ : Nat) | intro (_ : Option Addr) (_ : Nat))
          conv => whnf
          intro g2 hg
          exact .inr ⟨hbad (by unfold namF; rw [nb1 y1]; rfl), rfl⟩
        repeat ((conv => whnf); first | apply qza | apply qzb | apply qzc | apply qzd | apply qze | intro (_ : Nat) | intro (_ : Option Addr) (_ : Nat))
        conv => whnf
        refine .inl ⟨_, ok_gPlace _ hlis _, ?_⟩
        repeat ((conv => whnf); first | apply qza | apply qzb | apply qzc | apply qzd | apply qze | intro (_ : Nat) | intro (_ : Option Addr) (_ : Nat))
        conv => whnf
        refine ⟨fun y2 => ?_, fun y2 => ?_⟩
        · repeat ((conv => whnf); first | apply qza | apply qzb | apply qzc | apply qzd | apply qze | intro (_ : Nat) | intro (_ : Option Addr) (_ : Nat))
          conv => whnf
          intro g2 hg
          exact .inr ⟨hbad (by unfold namF; rw [decide_eq_false (by have := of_decide_eq_true y2; omega)]; simp), rfl⟩
        have hnF : namF l k x = true := by unfold namF; rw [nb0 y1, decide_eq_true (by have := of_decide_eq_false y2; omega)]; rfl
        have hT := lisL_take hx
        rcases hpb.2.1 with ⟨he, hn0⟩ | ⟨bk, cap', rest, he, hb1, hb2, hb3, hb4, hb5⟩
        · cases he
          have hk0 : k = 0 := by omega
          subst hk0
          repeat ((conv => whnf); first | apply qza | apply qzb | apply qzc | apply qzd | apply qze | intro (_ : Nat) | intro (_ : Option Addr) (_ : Nat))
          conv => whnf
          refine ⟨⟨by unfold maxLen; omega, by omega⟩, fun oa3 cap3 => ?_⟩
          repeat ((conv => whnf); first | apply qza | apply qzb | apply qzc | apply qzd | apply qze | intro (_ : Nat) | intro (_ : Option Addr) (_ : Nat))
          conv => whnf
          refine fun fr w hw => by
            have hw1 : HSim fr ⟨g', .row 70 oa3 (1) cap3 ty_api_Listen 4 (cLi ⟨x, false, 0, false⟩) :: [.blk 5 qw ty_api_World [.v (.int .i64 0), .v (.int .i64 0), .v (.int .i64 0), .row 3 (some ⟨qP, 0, none⟩) N N, .sl 4 qV 0 1 1, .v (.slice oa3 (1) cap3), .v (.slice oS N cS), .v (.slice none 0 0)], .blk 4 qV ty_api_Version [.v (.slice sa (cellsV s).snap.listens.length ta), .v (.slice sb (cellsV s).snap.rules.length tb), .v (.slice sd (cellsV s).snap.clusters.length td), .v (.slice oV nV cV), .v (.bool false)], .row 3 (some ⟨qP, 0, none⟩) N N ty_int 1 (List.replicate N [Value.int .i64 0]).flatten, .blk 2 q2 ty_api_Version [.v (.slice sa (cellsV s).snap.listens.length ta), .v (.slice sb (cellsV s).snap.rules.length tb), .v (.slice sd (cellsV s).snap.clusters.length td), .v (.slice oV nV cV), .v (.bool false)], .blk 1 q1 ty_api_World [.v (.int .i64 0), .v (.int .i64 0), .v (.int .i64 0), .v (.slice none 0 0), .v (.slice none 0 0), .v (.slice none 0 0), .v (.slice none 0 0), .v (.slice none 0 0)], .blk 0 q0 ty_api_Snap [.v (.slice oa s.listens.length ca), .v (.slice ob s.rules.length cb), .v (.slice od s.clusters.length cd)]], 80, g.w.heap.size⟩ w := hw.fit (by simp [fitL, Res.eqv, concL, conc])
            obtain ⟨g4, k1', k2, k3, k4⟩ := hw1.row_pub
            refine ⟨(0 + 1, oa3, 1, cap3, g4), congrArg (fun z => [Value.int .i64 z]) (wr1 h' l1 l2).symm, ⟨h', GW.trans hgg k1', rfl, ?_, fun a ha q => k2 a ha (hgg.2 _ q).1, hAK.succ hx hnF⟩, dec h', k4.fit (by simp [fitL, Res.eqv, concL, conc])⟩
            rw [hT]; exact k3
        · cases he
          have hbk : ¬ g2.g bk := hnb _ rfl
          repeat ((conv => whnf); first | apply qza | apply qzb | apply qzc | apply qzd | apply qze | intro (_ : Nat) | intro (_ : Option Addr) (_ : Nat))
          conv => whnf
          refine .inr ⟨bk, _, rest, ⟨rfl, hb1.1, hb1.2, hb2, hpb.1, hpb.2.2, hb3, hb4, hb5, by unfold maxLen; omega, by omega⟩, fun gL hless oa3 cap3 => ?_⟩
          repeat ((conv => whnf); first | apply qza | apply qzb | apply qzc | apply qzd | apply qze | intro (_ : Nat) | intro (_ : Option Addr) (_ : Nat))
          conv => whnf
          refine fun fr w hw => by
            have hw1 : HSim fr ⟨gL, .row 70 oa3 (nX + 1) cap3 ty_api_Listen 4 (((lisL (l.take k)).map cLi).flatten ++ cLi ⟨x, false, 0, false⟩) :: [.blk 5 qw ty_api_World [.v (.int .i64 0), .v (.int .i64 0), .v (.int .i64 0), .row 3 (some ⟨qP, 0, none⟩) N N, .sl 4 qV 0 1 1, .v (.slice oa3 (nX + 1) cap3), .v (.slice oS N cS), .v (.slice none 0 0)], .blk 4 qV ty_api_Version [.v (.slice sa (cellsV s).snap.listens.length ta), .v (.slice sb (cellsV s).snap.rules.length tb), .v (.slice sd (cellsV s).snap.clusters.length td), .v (.slice oV nV cV), .v (.bool false)], .row 3 (some ⟨qP, 0, none⟩) N N ty_int 1 (List.replicate N [Value.int .i64 0]).flatten, .blk 2 q2 ty_api_Version [.v (.slice sa (cellsV s).snap.listens.length ta), .v (.slice sb (cellsV s).snap.rules.length tb), .v (.slice sd (cellsV s).snap.clusters.length td), .v (.slice oV nV cV), .v (.bool false)], .blk 1 q1 ty_api_World [.v (.int .i64 0), .v (.int .i64 0), .v (.int .i64 0), .v (.slice none 0 0), .v (.slice none 0 0), .v (.slice none 0 0), .v (.slice none 0 0), .v (.slice none 0 0)], .blk 0 q0 ty_api_Snap [.v (.slice oa s.listens.length ca), .v (.slice ob s.rules.length cb), .v (.slice od s.clusters.length cd)]], 80, g.w.heap.size⟩ w := hw.fit (by simp [fitL, Res.eqv, concL, conc])
            obtain ⟨g4, k1', k2, k3, k4⟩ := hw1.row_pub
            have hgL := hless.le hgg hbk
            refine ⟨(k + 1, oa3, nX + 1, cap3, g4), congrArg (fun z => [Value.int .i64 z]) (wr1 h' l1 l2).symm, ⟨h', GW.trans hgL k1', by omega, ?_, fun a ha q => k2 a ha (hgL.2 _ q).1, hAK.succ hx hnF⟩, dec h', k4.fit (by simp [fitL, Res.eqv, concL, conc])⟩
            rw [hT]; simpa using k3
      have hkL : k = l.length := by have := of_decide_eq_false hlt; omega
      subst hkL
      have hok : NewOk s l N := ⟨hz, ht, hAK.done (Nat.le_refl _)⟩
      rw [List.take_length] at hlis
      repeat ((conv => whnf); first | apply qza | apply qzb | apply qzc | apply qzd | apply qze | intro (_ : Nat) | intro (_ : Option Addr) (_ : Nat))
      conv => whnf
      refine fun gA kA nA pA => ?_
      repeat ((conv => whnf); first | apply qza | apply qzb | apply qzc | apply qzd | apply qze | intro (_ : Nat) | intro (_ : Option Addr) (_ : Nat))
      conv => whnf
      refine ⟨5, rfl, by unfold maxLen; omega, fun gB kB nB pB => ?_⟩
      repeat ((conv => whnf); first | apply qza | apply qzb | apply qzc | apply qzd | apply qze | intro (_ : Nat) | intro (_ : Option Addr) (_ : Nat))
      conv => whnf
      intro g2 hg
      have mA := GW.trans kA (GW.trans kB hg)
      refine .inl ⟨hok, _, rfl, _, _, _, _, _, rfl, ⟨show InR 0 by decide, show InR 0 by decide, show InR 0 by decide⟩, ?_, ?_, hlis.mono rListen_mono mA, hSh.mono rRow_mono (GW.trans hgg mA), ⟨none, 0, rfl, Nat.le_refl _, Nat.zero_le _, fun _ => ⟨rfl, rfl⟩, fun i x hx => by simp [newW] at hx⟩⟩
      · exact (rSl_of1 pA.rd (List.replicate N 0) (fun x => .int .i64 x) (by simp [List.flatten_replicate_singleton]) fun x hx => ⟨rfl, by rw [List.eq_of_mem_replicate hx]; decide⟩).mono rInt_mono (GW.trans kB hg)
      · refine rSl_of (pB.rd.mono hg) [cellsV s] [[.slice sa (cellsV s).snap.listens.length ta, .slice sb (cellsV s).snap.rules.length tb, .slice sd (cellsV s).snap.clusters.length td, .slice oV nV cV, .bool false]] rfl (fun e he => ?_) rfl rfl fun i x ec hx hec => ?_
        · simp at he; subst he; rfl
        · cases i with
          | zero =>
            simp at hx hec
            subst hx; subst hec
            exact rVe_mono _ _ _ _ (GW.trans hg2 (GW.trans hgg mA)) hV0
          | succ i => simp at hx)
end Go.Proofs.Ytjaeeadfmnokeaa

