/- Whether a configuration may be: the order of its parts. -/
import Derived.Test.YtjbhkahjhohaeaaK5e
namespace Go.Proofs.Ytjbhkahjhohaeaa
open Go.Proofs.Ytjbhkahjhohaeaa.Sx Go.RowKit
abbrev fS (s : BA) : List Value := [.string s]
theorem lw_Order (g : GW) {cs : List Value} {c : Config} (hc : rConfig g cs c) : OkV Try.prog n_hydrantlaw05_ConfigOrder [.agg ⟨cs⟩] g (.bool true) := by
  have hc0 := hc
  obtain ⟨a, b, d, rfl, hl, hr, hk⟩ := hc
  obtain ⟨oa, ca, rfl, a1, a2, a0, hl1⟩ := id hl
  obtain ⟨ob, cb, rfl, b1, b2, b0, hr1⟩ := id hr
  obtain ⟨od, cd, rfl, d1, d2, d0, hk1⟩ := id hk
  exact Ok.of_fn hm noT 0 t_hydrantlaw05_ConfigOrder (args := [.v (.agg ⟨[.slice oa c.listens.length ca, .slice ob c.routes.length cb, .slice od c.clusters.length cd]⟩)]) (by
    repeat ((conv => whnf); first | refine ⟨Eq.refl _, ?_⟩ | refine ⟨⟨Eq.refl _, Eq.refl _⟩, ?_⟩ | refine ⟨⟨Eq.refl _, Eq.refl _, Eq.refl _⟩, ?_⟩ | refine ⟨⟨Eq.refl _, Eq.refl _, Eq.refl _, Eq.refl _⟩, ?_⟩ | refine ⟨⟨Eq.refl _, Eq.refl _, Eq.refl _, Eq.refl _, Eq.refl _⟩, ?_⟩ | refine fun (_ : Nat) => ?_ | refine fun (_ : Option Addr) (_ : Nat) => ?_ | fail)
    rename_i p0
    conv => whnf
    refine .inl ⟨_, ok_cBig _ hc0, ?_⟩
    conv => whnf
    refine ⟨fun hb => ?_, fun hb => ?_⟩
    · conv => whnf
      intro g2 hg
      rfl
    obtain ⟨hsm, s1, s2, s3⟩ := smC_of hb
    repeat ((conv => whnf); first | refine ⟨Eq.refl _, ?_⟩ | refine ⟨⟨Eq.refl _, Eq.refl _⟩, ?_⟩ | refine ⟨⟨Eq.refl _, Eq.refl _, Eq.refl _⟩, ?_⟩ | refine ⟨⟨Eq.refl _, Eq.refl _, Eq.refl _, Eq.refl _⟩, ?_⟩ | refine ⟨⟨Eq.refl _, Eq.refl _, Eq.refl _, Eq.refl _, Eq.refl _⟩, ?_⟩ | refine fun (_ : Nat) => ?_ | refine fun (_ : Option Addr) (_ : Nat) => ?_ | fail)
    have wrd : ∀ (n k : Nat), n ≤ 50 → k < n → IntKind.i64.wrap ((n : Int) - 1 - k - 1) = (n : Int) - 1 - ((k + 1 : Nat) : Int) := fun n k h1 h2 => by
      rw [wr (show InR _ by unfold InR; omega)]; omega
    obtain ⟨ecs, rdC, lenC, szC, RC⟩ := rSl_rdE hk
    rename_i px
    conv => whnf
    refine ⟨Nat × Option Addr × Nat, fun (k, _, _) => [.v (.int .i64 ((c.listens.length : Int) - 1 - k))], fun (k, oL, cL) => ⟨g, [.row 10 oL k cL ty_string 1 ((c.listens.reverse.take k).map fS).flatten, .blk 1 px ty_api_Config [.row 10 oL k cL, .v (.slice none 0 0), .v (.slice none 0 0)], .blk 0 p0 ty_api_Config [.v (.slice oa c.listens.length ca), .v (.slice ob c.routes.length cb), .v (.slice od c.clusters.length cd)]], 40, g.w.heap.size⟩, fun (k, _, _) => k ≤ c.listens.length, fun (k, _, _) => c.listens.length - k, ?_, ?_⟩
    · intro fr w hw
      exact ⟨(0, none, 0), by simp [concL, conc, wr (show InR ((c.listens.length : Int) - 1) by unfold InR; omega)], Nat.zero_le _, (hw.nil_row (nx' := 40) 10 ty_string 1).fit (by simp [fitL, Res.eqv, concL, conc])⟩
    rintro ⟨k, oL, cL⟩ hkk
    have hkk : k ≤ c.listens.length := hkk
    repeat ((conv => whnf); first | refine ⟨Eq.refl _, ?_⟩ | refine ⟨⟨Eq.refl _, Eq.refl _⟩, ?_⟩ | refine ⟨⟨Eq.refl _, Eq.refl _, Eq.refl _⟩, ?_⟩ | refine ⟨⟨Eq.refl _, Eq.refl _, Eq.refl _, Eq.refl _⟩, ?_⟩ | refine ⟨⟨Eq.refl _, Eq.refl _, Eq.refl _, Eq.refl _, Eq.refl _⟩, ?_⟩ | refine fun (_ : Nat) => ?_ | refine fun (_ : Option Addr) (_ : Nat) => ?_ | fail)
    conv => whnf
    refine ⟨fun hlt => ?_, fun hlt => ?_⟩
    · have h' : k < c.listens.length := by have := of_decide_eq_true hlt; omega
      have hi : (c.listens.length : Int) - 1 - k = ((c.listens.length - 1 - k : Nat) : Int) := by omega
      obtain ⟨x, hx⟩ := getL_of (show c.listens.length - 1 - k < c.listens.length by omega)
      obtain ⟨a, rfl, ec, hec, rfl, hc⟩ := hl1 _ x hx
      have hT := take_rev h' hx
      repeat ((conv => whnf); first | refine ⟨Eq.refl _, ?_⟩ | refine ⟨⟨Eq.refl _, Eq.refl _⟩, ?_⟩ | refine ⟨⟨Eq.refl _, Eq.refl _, Eq.refl _⟩, ?_⟩ | refine ⟨⟨Eq.refl _, Eq.refl _, Eq.refl _, Eq.refl _⟩, ?_⟩ | refine ⟨⟨Eq.refl _, Eq.refl _, Eq.refl _, Eq.refl _, Eq.refl _⟩, ?_⟩ | refine fun (_ : Nat) => ?_ | refine fun (_ : Option Addr) (_ : Nat) => ?_ | fail)
      conv => whnf
      refine ⟨a, rfl, ⟨by omega, by omega⟩, ?_⟩
      rw [hi]
      conv => whnf
      refine ⟨_, hc 0 _ rfl, ?_⟩
      repeat ((conv => whnf); first | refine ⟨Eq.refl _, ?_⟩ | refine ⟨⟨Eq.refl _, Eq.refl _⟩, ?_⟩ | refine ⟨⟨Eq.refl _, Eq.refl _, Eq.refl _⟩, ?_⟩ | refine ⟨⟨Eq.refl _, Eq.refl _, Eq.refl _, Eq.refl _⟩, ?_⟩ | refine ⟨⟨Eq.refl _, Eq.refl _, Eq.refl _, Eq.refl _, Eq.refl _⟩, ?_⟩ | refine fun (_ : Nat) => ?_ | refine fun (_ : Option Addr) (_ : Nat) => ?_ | fail)
      conv => whnf
      refine ⟨⟨by unfold maxLen; omega, by omega⟩, fun oa2 cap2 => ?_⟩
      repeat ((conv => whnf); first | refine ⟨Eq.refl _, ?_⟩ | refine ⟨⟨Eq.refl _, Eq.refl _⟩, ?_⟩ | refine ⟨⟨Eq.refl _, Eq.refl _, Eq.refl _⟩, ?_⟩ | refine ⟨⟨Eq.refl _, Eq.refl _, Eq.refl _, Eq.refl _⟩, ?_⟩ | refine ⟨⟨Eq.refl _, Eq.refl _, Eq.refl _, Eq.refl _, Eq.refl _⟩, ?_⟩ | refine fun (_ : Nat) => ?_ | refine fun (_ : Option Addr) (_ : Nat) => ?_ | fail)
      conv => whnf
      refine fun fr w hw => ⟨(k + 1, oa2, cap2), congrArg (fun z => [Value.int .i64 z]) (wrd _ _ s1 h').symm, h', dec h', hw.fit ?_⟩
      simp [fitL, Res.eqv, concL, conc, hT]
    have hz0 : k = c.listens.length := by have := of_decide_eq_false hlt; omega
    subst hz0
    clear hkk hlt
    repeat ((conv => whnf); first | refine ⟨Eq.refl _, ?_⟩ | refine ⟨⟨Eq.refl _, Eq.refl _⟩, ?_⟩ | refine ⟨⟨Eq.refl _, Eq.refl _, Eq.refl _⟩, ?_⟩ | refine ⟨⟨Eq.refl _, Eq.refl _, Eq.refl _, Eq.refl _⟩, ?_⟩ | refine ⟨⟨Eq.refl _, Eq.refl _, Eq.refl _, Eq.refl _, Eq.refl _⟩, ?_⟩ | refine fun (_ : Nat) => ?_ | refine fun (_ : Option Addr) (_ : Nat) => ?_ | fail)
    conv => whnf
    refine ⟨Nat × Option Addr × Nat, fun (k, _, _) => [.v (.int .i64 ((c.clusters.length : Int) - 1 - k))], fun (k, oC, cC) => ⟨g, [.row 11 oC k cC ty_api_Cluster 4 (ecs.reverse.take k).flatten, .row 10 oL c.listens.length cL ty_string 1 ((c.listens.reverse.take c.listens.length).map fS).flatten, .blk 1 px ty_api_Config [.row 10 oL c.listens.length cL, .v (.slice none 0 0), .row 11 oC k cC], .blk 0 p0 ty_api_Config [.v (.slice oa c.listens.length ca), .v (.slice ob c.routes.length cb), .v (.slice od c.clusters.length cd)]], 40, g.w.heap.size⟩, fun (k, _, _) => k ≤ c.clusters.length, fun (k, _, _) => c.clusters.length - k, ?_, ?_⟩
    · intro fr w hw
      exact ⟨(0, none, 0), by simp [concL, conc, wr (show InR ((c.clusters.length : Int) - 1) by unfold InR; omega)], Nat.zero_le _, (hw.nil_row (nx' := 40) 11 ty_api_Cluster 4).fit (by simp [fitL, Res.eqv, concL, conc])⟩
    rintro ⟨k, oC, cC⟩ hkk
    have hkk : k ≤ c.clusters.length := hkk
    repeat ((conv => whnf); first | refine ⟨Eq.refl _, ?_⟩ | refine ⟨⟨Eq.refl _, Eq.refl _⟩, ?_⟩ | refine ⟨⟨Eq.refl _, Eq.refl _, Eq.refl _⟩, ?_⟩ | refine ⟨⟨Eq.refl _, Eq.refl _, Eq.refl _, Eq.refl _⟩, ?_⟩ | refine ⟨⟨Eq.refl _, Eq.refl _, Eq.refl _, Eq.refl _, Eq.refl _⟩, ?_⟩ | refine fun (_ : Nat) => ?_ | refine fun (_ : Option Addr) (_ : Nat) => ?_ | fail)
    conv => whnf
    refine ⟨fun hlt => ?_, fun hlt => ?_⟩
    · have h' : k < c.clusters.length := by have := of_decide_eq_true hlt; omega
      have hi : (c.clusters.length : Int) - 1 - k = ((c.clusters.length - 1 - k : Nat) : Int) := by omega
      obtain ⟨x, hx⟩ := getL_of (show c.clusters.length - 1 - k < c.clusters.length by omega)
      obtain ⟨ec, hec⟩ := getL_of (show c.clusters.length - 1 - k < ecs.length by omega)
      obtain ⟨hv, rfl, _, _, _, _, rfl, _⟩ := RC _ _ _ hx hec
      obtain ⟨a, rfl, hc⟩ := rdE_at rdC szC (by omega) hec
      have hT := take_rev (show k < ecs.length by omega) (by rw [lenC]; exact hec)
      repeat ((conv => whnf); first | refine ⟨Eq.refl _, ?_⟩ | refine ⟨⟨Eq.refl _, Eq.refl _⟩, ?_⟩ | refine ⟨⟨Eq.refl _, Eq.refl _, Eq.refl _⟩, ?_⟩ | refine ⟨⟨Eq.refl _, Eq.refl _, Eq.refl _, Eq.refl _⟩, ?_⟩ | refine ⟨⟨Eq.refl _, Eq.refl _, Eq.refl _, Eq.refl _, Eq.refl _⟩, ?_⟩ | refine fun (_ : Nat) => ?_ | refine fun (_ : Option Addr) (_ : Nat) => ?_ | fail)
      conv => whnf
      refine ⟨a, rfl, ⟨by omega, by omega⟩, ?_⟩
      rw [hi]
      conv => whnf
      refine ⟨_, ⟨rfl, hc⟩, ?_⟩
      repeat ((conv => whnf); first | refine ⟨Eq.refl _, ?_⟩ | refine ⟨⟨Eq.refl _, Eq.refl _⟩, ?_⟩ | refine ⟨⟨Eq.refl _, Eq.refl _, Eq.refl _⟩, ?_⟩ | refine ⟨⟨Eq.refl _, Eq.refl _, Eq.refl _, Eq.refl _⟩, ?_⟩ | refine ⟨⟨Eq.refl _, Eq.refl _, Eq.refl _, Eq.refl _, Eq.refl _⟩, ?_⟩ | refine fun (_ : Nat) => ?_ | refine fun (_ : Option Addr) (_ : Nat) => ?_ | fail)
      conv => whnf
      refine ⟨⟨by unfold maxLen; omega, by omega⟩, fun oa2 cap2 => ?_⟩
      repeat ((conv => whnf); first | refine ⟨Eq.refl _, ?_⟩ | refine ⟨⟨Eq.refl _, Eq.refl _⟩, ?_⟩ | refine ⟨⟨Eq.refl _, Eq.refl _, Eq.refl _⟩, ?_⟩ | refine ⟨⟨Eq.refl _, Eq.refl _, Eq.refl _, Eq.refl _⟩, ?_⟩ | refine ⟨⟨Eq.refl _, Eq.refl _, Eq.refl _, Eq.refl _, Eq.refl _⟩, ?_⟩ | refine fun (_ : Nat) => ?_ | refine fun (_ : Option Addr) (_ : Nat) => ?_ | fail)
      conv => whnf
      refine fun fr w hw => ⟨(k + 1, oa2, cap2), congrArg (fun z => [Value.int .i64 z]) (wrd _ _ s3 h').symm, h', dec h', hw.fit ?_⟩
      simp [fitL, Res.eqv, concL, conc, hT]
    have hz2 : k = c.clusters.length := by have := of_decide_eq_false hlt; omega
    subst hz2
    clear hkk hlt
    repeat ((conv => whnf); first | refine ⟨Eq.refl _, ?_⟩ | refine ⟨⟨Eq.refl _, Eq.refl _⟩, ?_⟩ | refine ⟨⟨Eq.refl _, Eq.refl _, Eq.refl _⟩, ?_⟩ | refine ⟨⟨Eq.refl _, Eq.refl _, Eq.refl _, Eq.refl _⟩, ?_⟩ | refine ⟨⟨Eq.refl _, Eq.refl _, Eq.refl _, Eq.refl _, Eq.refl _⟩, ?_⟩ | refine fun (_ : Nat) => ?_ | refine fun (_ : Option Addr) (_ : Nat) => ?_ | fail)
    conv => whnf
    refine ⟨Nat × Option Addr × Nat, fun (k, _, _) => [.v (.int .i64 ((c.routes.length : Int) - 1 - k))], fun (k, oR, cR) => ⟨g, [.row 12 oR k cR ty_api_Route 4 ((c.routes.reverse.take k).map cRoute).flatten, .row 11 oC c.clusters.length cC ty_api_Cluster 4 (ecs.reverse.take c.clusters.length).flatten, .row 10 oL c.listens.length cL ty_string 1 ((c.listens.reverse.take c.listens.length).map fS).flatten, .blk 1 px ty_api_Config [.row 10 oL c.listens.length cL, .row 12 oR k cR, .row 11 oC c.clusters.length cC], .blk 0 p0 ty_api_Config [.v (.slice oa c.listens.length ca), .v (.slice ob c.routes.length cb), .v (.slice od c.clusters.length cd)]], 40, g.w.heap.size⟩, fun (k, _, _) => k ≤ c.routes.length, fun (k, _, _) => c.routes.length - k, ?_, ?_⟩
    · intro fr w hw
      exact ⟨(0, none, 0), by simp [concL, conc, wr (show InR ((c.routes.length : Int) - 1) by unfold InR; omega)], Nat.zero_le _, (hw.nil_row (nx' := 40) 12 ty_api_Route 4).fit (by simp [fitL, Res.eqv, concL, conc])⟩
    rintro ⟨k, oR, cR⟩ hkk
    have hkk : k ≤ c.routes.length := hkk
    repeat ((conv => whnf); first | refine ⟨Eq.refl _, ?_⟩ | refine ⟨⟨Eq.refl _, Eq.refl _⟩, ?_⟩ | refine ⟨⟨Eq.refl _, Eq.refl _, Eq.refl _⟩, ?_⟩ | refine ⟨⟨Eq.refl _, Eq.refl _, Eq.refl _, Eq.refl _⟩, ?_⟩ | refine ⟨⟨Eq.refl _, Eq.refl _, Eq.refl _, Eq.refl _, Eq.refl _⟩, ?_⟩ | refine fun (_ : Nat) => ?_ | refine fun (_ : Option Addr) (_ : Nat) => ?_ | fail)
    conv => whnf
    refine ⟨fun hlt => ?_, fun hlt => ?_⟩
    · have h' : k < c.routes.length := by have := of_decide_eq_true hlt; omega
      have hi : (c.routes.length : Int) - 1 - k = ((c.routes.length - 1 - k : Nat) : Int) := by omega
      obtain ⟨x, hx⟩ := getL_of (show c.routes.length - 1 - k < c.routes.length by omega)
      obtain ⟨a, rfl, ec, hec, rfl, hc⟩ := hr1 _ x hx
      have hT := take_rev h' hx
      repeat ((conv => whnf); first | refine ⟨Eq.refl _, ?_⟩ | refine ⟨⟨Eq.refl _, Eq.refl _⟩, ?_⟩ | refine ⟨⟨Eq.refl _, Eq.refl _, Eq.refl _⟩, ?_⟩ | refine ⟨⟨Eq.refl _, Eq.refl _, Eq.refl _, Eq.refl _⟩, ?_⟩ | refine ⟨⟨Eq.refl _, Eq.refl _, Eq.refl _, Eq.refl _, Eq.refl _⟩, ?_⟩ | refine fun (_ : Nat) => ?_ | refine fun (_ : Option Addr) (_ : Nat) => ?_ | fail)
      conv => whnf
      refine ⟨a, rfl, ⟨by omega, by omega⟩, ?_⟩
      rw [hi]
      conv => whnf
      refine ⟨_, ⟨rfl, hc⟩, ?_⟩
      repeat ((conv => whnf); first | refine ⟨Eq.refl _, ?_⟩ | refine ⟨⟨Eq.refl _, Eq.refl _⟩, ?_⟩ | refine ⟨⟨Eq.refl _, Eq.refl _, Eq.refl _⟩, ?_⟩ | refine ⟨⟨Eq.refl _, Eq.refl _, Eq.refl _, Eq.refl _⟩, ?_⟩ | refine ⟨⟨Eq.refl _, Eq.refl _, Eq.refl _, Eq.refl _, Eq.refl _⟩, ?_⟩ | refine fun (_ : Nat) => ?_ | refine fun (_ : Option Addr) (_ : Nat) => ?_ | fail)
      conv => whnf
      refine ⟨⟨by unfold maxLen; omega, by omega⟩, fun oa2 cap2 => ?_⟩
      repeat ((conv => whnf); first | refine ⟨Eq.refl _, ?_⟩ | refine ⟨⟨Eq.refl _, Eq.refl _⟩, ?_⟩ | refine ⟨⟨Eq.refl _, Eq.refl _, Eq.refl _⟩, ?_⟩ | refine ⟨⟨Eq.refl _, Eq.refl _, Eq.refl _, Eq.refl _⟩, ?_⟩ | refine ⟨⟨Eq.refl _, Eq.refl _, Eq.refl _, Eq.refl _, Eq.refl _⟩, ?_⟩ | refine fun (_ : Nat) => ?_ | refine fun (_ : Option Addr) (_ : Nat) => ?_ | fail)
      conv => whnf
      refine fun fr w hw => ⟨(k + 1, oa2, cap2), congrArg (fun z => [Value.int .i64 z]) (wrd _ _ s2 h').symm, h', dec h', hw.fit ?_⟩
      simp [fitL, Res.eqv, concL, conc, hT]
    have hz1 : k = c.routes.length := by have := of_decide_eq_false hlt; omega
    subst hz1
    clear hkk hlt
    repeat ((conv => whnf); first | refine ⟨Eq.refl _, ?_⟩ | refine ⟨⟨Eq.refl _, Eq.refl _⟩, ?_⟩ | refine ⟨⟨Eq.refl _, Eq.refl _, Eq.refl _⟩, ?_⟩ | refine ⟨⟨Eq.refl _, Eq.refl _, Eq.refl _, Eq.refl _⟩, ?_⟩ | refine ⟨⟨Eq.refl _, Eq.refl _, Eq.refl _, Eq.refl _, Eq.refl _⟩, ?_⟩ | refine fun (_ : Nat) => ?_ | refine fun (_ : Option Addr) (_ : Nat) => ?_ | fail)
    have kind : ∀ d : Config, ∃ e i, eiT (checkE d) = .tuple #[.int .i64 e, .int .i64 i] ∧ ((e = 0 ∧ i = 0 ∧ checkE d = none) ∨ (e ≠ 0 ∧ checkE d ≠ none)) := fun d => by
      rcases ei_val (checkE d) with ⟨hz, h⟩ | ⟨e, i, hz, h⟩
      · exact ⟨0, 0, h, .inl ⟨rfl, rfl, hz⟩⟩
      · exact ⟨e, i, h, .inr ⟨by have := (checkE_ne hz).1; omega, by rw [hz]; simp⟩⟩
    obtain ⟨e1, i1, hv1, k1⟩ := kind c
    obtain ⟨e2, i2, hv2, k2⟩ := kind (revC c)
    have hrev : checkE (revC c) = none ↔ checkE c = none := by rw [good_iff, good_iff]; exact good_rev c
    conv => whnf
    refine .inl ⟨_, (ok_Check _ hc0).to hv1, ?_⟩
    repeat ((conv => whnf); first | refine ⟨Eq.refl _, ?_⟩ | refine ⟨⟨Eq.refl _, Eq.refl _⟩, ?_⟩ | refine ⟨⟨Eq.refl _, Eq.refl _, Eq.refl _⟩, ?_⟩ | refine ⟨⟨Eq.refl _, Eq.refl _, Eq.refl _, Eq.refl _⟩, ?_⟩ | refine ⟨⟨Eq.refl _, Eq.refl _, Eq.refl _, Eq.refl _, Eq.refl _⟩, ?_⟩ | refine fun (_ : Nat) => ?_ | refine fun (_ : Option Addr) (_ : Nat) => ?_ | fail)
    conv => whnf
    refine fun g1 hg1 hn1 hp1 => ?_
    repeat ((conv => whnf); first | refine ⟨Eq.refl _, ?_⟩ | refine ⟨⟨Eq.refl _, Eq.refl _⟩, ?_⟩ | refine ⟨⟨Eq.refl _, Eq.refl _, Eq.refl _⟩, ?_⟩ | refine ⟨⟨Eq.refl _, Eq.refl _, Eq.refl _, Eq.refl _⟩, ?_⟩ | refine ⟨⟨Eq.refl _, Eq.refl _, Eq.refl _, Eq.refl _, Eq.refl _⟩, ?_⟩ | refine fun (_ : Nat) => ?_ | refine fun (_ : Option Addr) (_ : Nat) => ?_ | fail)
    conv => whnf
    refine fun g2 hg2 hn2 hp2 => ?_
    repeat ((conv => whnf); first | refine ⟨Eq.refl _, ?_⟩ | refine ⟨⟨Eq.refl _, Eq.refl _⟩, ?_⟩ | refine ⟨⟨Eq.refl _, Eq.refl _, Eq.refl _⟩, ?_⟩ | refine ⟨⟨Eq.refl _, Eq.refl _, Eq.refl _, Eq.refl _⟩, ?_⟩ | refine ⟨⟨Eq.refl _, Eq.refl _, Eq.refl _, Eq.refl _, Eq.refl _⟩, ?_⟩ | refine fun (_ : Nat) => ?_ | refine fun (_ : Option Addr) (_ : Nat) => ?_ | fail)
    conv => whnf
    refine fun g3 hg3 hn3 hp3 => ?_
    have hcx : rConfig g3 [.slice oL c.listens.length cL, .slice oR c.routes.length cR, .slice oC c.clusters.length cC] (revC c) := by
      refine ⟨_, _, _, rfl, (rSl_ofE hp1.rd _ fS ?_ (by simp [revC]) (fun _ _ => rfl) fun _ _ => rfl : rSl 1 rStr g1 _ _).mono rStr_mono hg2 |>.mono rStr_mono hg3, (rSl_ofE hp2.rd _ cRoute ?_ (by simp [revC]) (fun _ _ => rfl) fun _ _ => rfl : rSl 4 rRoute g2 _ _).mono rRoute_mono hg3, rSl_of hp3.rd _ ecs.reverse ?_ (fun e he => szC e (by simpa using he)) (by simp [revC]) (by simp [revC, lenC]) ?_⟩
      · rw [List.take_of_length_le (by simp)]; rfl
      · rw [List.take_of_length_le (by simp)]; rfl
      · rw [List.take_of_length_le (by simp [lenC])]
      · exact pair_rev (R := fun x ec => rCluster g3 ec x) lenC fun i x ec hx hec => rCluster_mono _ _ _ _ hg3 (rCluster_mono _ _ _ _ hg2 (rCluster_mono _ _ _ _ hg1 (RC i x ec hx hec)))
    conv => whnf
    refine .inl ⟨_, (ok_Check _ hcx).to hv2, ?_⟩
    repeat ((conv => whnf); first | refine ⟨Eq.refl _, ?_⟩ | refine ⟨⟨Eq.refl _, Eq.refl _⟩, ?_⟩ | refine ⟨⟨Eq.refl _, Eq.refl _, Eq.refl _⟩, ?_⟩ | refine ⟨⟨Eq.refl _, Eq.refl _, Eq.refl _, Eq.refl _⟩, ?_⟩ | refine ⟨⟨Eq.refl _, Eq.refl _, Eq.refl _, Eq.refl _, Eq.refl _⟩, ?_⟩ | refine fun (_ : Nat) => ?_ | refine fun (_ : Option Addr) (_ : Nat) => ?_ | fail)
    conv => whnf
    refine .inl ⟨_, ok_checked5 _, ?_⟩
    rw [hrev] at k2
    clear hcx hp1 hp2 hp3 hc0 hl hr hk hl1 hr1 hk1 RC rdC
    repeat' ((conv => whnf); first | refine ⟨Eq.refl _, ?_⟩ | refine ⟨⟨Eq.refl _, Eq.refl _⟩, ?_⟩ | refine ⟨⟨Eq.refl _, Eq.refl _, Eq.refl _⟩, ?_⟩ | refine ⟨⟨Eq.refl _, Eq.refl _, Eq.refl _, Eq.refl _⟩, ?_⟩ | refine ⟨⟨Eq.refl _, Eq.refl _, Eq.refl _, Eq.refl _, Eq.refl _⟩, ?_⟩ | refine fun (_ : Nat) => ?_ | refine fun (_ : Option Addr) (_ : Nat) => ?_ | refine .inl ⟨_, rfl, ?_⟩ | refine ⟨fun _ => ?_, fun _ => ?_⟩ | fail)
    all_goals (conv => whnf)
    all_goals (intro g4 hg4)
    all_goals (rcases k1 with ⟨rfl, rfl, k1⟩ | ⟨k1, k1'⟩ <;> rcases k2 with ⟨rfl, rfl, k2⟩ | ⟨k2, k2'⟩ <;> simp_all)
    all_goals (refine absurd (?_ : (e1 == 0) = (e2 == 0)) (by assumption); rw [beq_eq_false_iff_ne.2 k1, beq_eq_false_iff_ne.2 k2]))
end Go.Proofs.Ytjbhkahjhohaeaa
