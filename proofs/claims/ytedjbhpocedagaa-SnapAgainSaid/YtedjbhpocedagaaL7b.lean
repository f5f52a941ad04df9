/- The law of a snapshot that is built again. -/
import Derived.Test.YtedjbhpocedagaaL7
namespace Go.Proofs.Ytedjbhpocedagaa
open Go.Proofs.Ytedjbhpocedagaa.Sx Go.RowKit
theorem lw_Again (g : GW) {cs : List Value} {s : Snap} (hs : rSnap g cs s) (l h p : BA) : OkV Try.prog n_hydrantlaw07_SnapAgain [.agg ⟨cs⟩, .string l, .string h, .string p] g (.bool true) := by
  have hs0 := hs
  obtain ⟨a, b, d, rfl, hl, hr, hk⟩ := hs
  obtain ⟨oa, ca, rfl, a1, a2, a0, hl1⟩ := id hl
  obtain ⟨ob, cb, rfl, b1, b2, b0, hr1⟩ := id hr
  obtain ⟨od, cd, rfl, d1, d2, d0, hk1⟩ := id hk
  exact Ok.of_fn hm noT 0 t_hydrantlaw07_SnapAgain (args := [.v (.agg ⟨[.slice oa s.listens.length ca, .slice ob s.rules.length cb, .slice od s.clusters.length cd]⟩), .v (.string l), .v (.string h), .v (.string p)]) (by
    repeat ((conv => whnf); first | refine ⟨Eq.refl _, ?_⟩ | refine ⟨⟨Eq.refl _, Eq.refl _⟩, ?_⟩ | refine ⟨⟨Eq.refl _, Eq.refl _, Eq.refl _⟩, ?_⟩ | refine ⟨⟨Eq.refl _, Eq.refl _, Eq.refl _, Eq.refl _⟩, ?_⟩ | refine ⟨⟨Eq.refl _, Eq.refl _, Eq.refl _, Eq.refl _, Eq.refl _⟩, ?_⟩ | refine fun (_ : Nat) => ?_ | refine fun (_ : Option Addr) (_ : Nat) => ?_ | fail)
    conv => whnf
    refine .inl ⟨_, ok_big7 _ hs0, ?_⟩
    conv => whnf
    refine ⟨fun z1 => ?_, fun z1 => ?_⟩
    · conv => whnf
      refine .inl ⟨_, ok_built7 _, ?_⟩
      conv => whnf
      intro g2 hg
      rfl
    repeat ((conv => whnf); first | refine ⟨Eq.refl _, ?_⟩ | refine ⟨⟨Eq.refl _, Eq.refl _⟩, ?_⟩ | refine ⟨⟨Eq.refl _, Eq.refl _, Eq.refl _⟩, ?_⟩ | refine ⟨⟨Eq.refl _, Eq.refl _, Eq.refl _, Eq.refl _⟩, ?_⟩ | refine ⟨⟨Eq.refl _, Eq.refl _, Eq.refl _, Eq.refl _, Eq.refl _⟩, ?_⟩ | refine fun (_ : Nat) => ?_ | refine fun (_ : Option Addr) (_ : Nat) => ?_ | fail)
    conv => whnf
    refine ⟨fun z2 => ?_, fun z2 => ?_⟩
    · conv => whnf
      refine .inl ⟨_, ok_built7 _, ?_⟩
      conv => whnf
      intro g2 hg
      rfl
    repeat ((conv => whnf); first | refine ⟨Eq.refl _, ?_⟩ | refine ⟨⟨Eq.refl _, Eq.refl _⟩, ?_⟩ | refine ⟨⟨Eq.refl _, Eq.refl _, Eq.refl _⟩, ?_⟩ | refine ⟨⟨Eq.refl _, Eq.refl _, Eq.refl _, Eq.refl _⟩, ?_⟩ | refine ⟨⟨Eq.refl _, Eq.refl _, Eq.refl _, Eq.refl _, Eq.refl _⟩, ?_⟩ | refine fun (_ : Nat) => ?_ | refine fun (_ : Option Addr) (_ : Nat) => ?_ | fail)
    conv => whnf
    refine ⟨fun z3 => ?_, fun z3 => ?_⟩
    · conv => whnf
      refine .inl ⟨_, ok_built7 _, ?_⟩
      conv => whnf
      intro g2 hg
      rfl
    have hbig : (bigR s.rules || decide (100 < (h.size : Int)) || decide (100 < (p.size : Int))) = false := by
      rw [Bool.or_eq_false_iff] at z1; rw [z1.1, z2, z3]; rfl
    obtain ⟨t1, t2, t3, t4⟩ := small_of hbig
    have hsz : s.rules.length ≤ 1000000 := by omega
    repeat ((conv => whnf); first | refine ⟨Eq.refl _, ?_⟩ | refine ⟨⟨Eq.refl _, Eq.refl _⟩, ?_⟩ | refine ⟨⟨Eq.refl _, Eq.refl _, Eq.refl _⟩, ?_⟩ | refine ⟨⟨Eq.refl _, Eq.refl _, Eq.refl _, Eq.refl _⟩, ?_⟩ | refine ⟨⟨Eq.refl _, Eq.refl _, Eq.refl _, Eq.refl _, Eq.refl _⟩, ?_⟩ | refine fun (_ : Nat) => ?_ | refine fun (_ : Option Addr) (_ : Nat) => ?_ | fail)
    by_cases hz : checkE (confS s) = none
    rotate_left
    · conv => whnf
      refine .inl ⟨_, (ok_sIs _ hs0 hsz).to (congrArg Value.bool (eqB_f hz)), ?_⟩
      conv => whnf
      refine ⟨fun _ => ?_, fun h => nomatch h⟩
      conv => whnf
      refine .inl ⟨_, ok_built7 _, ?_⟩
      conv => whnf
      intro g2 hg
      rfl
    have G := good_iff.1 hz
    have hbc := built_conf G
    conv => whnf
    refine .inl ⟨_, (ok_sIs _ hs0 hsz).to (congrArg Value.bool (eqB_t hz)), ?_⟩
    conv => whnf
    refine ⟨fun h => (nomatch h), fun _ => ?_⟩
    repeat ((conv => whnf); first | refine ⟨Eq.refl _, ?_⟩ | refine ⟨⟨Eq.refl _, Eq.refl _⟩, ?_⟩ | refine ⟨⟨Eq.refl _, Eq.refl _, Eq.refl _⟩, ?_⟩ | refine ⟨⟨Eq.refl _, Eq.refl _, Eq.refl _, Eq.refl _⟩, ?_⟩ | refine ⟨⟨Eq.refl _, Eq.refl _, Eq.refl _, Eq.refl _, Eq.refl _⟩, ?_⟩ | refine fun (_ : Nat) => ?_ | refine fun (_ : Option Addr) (_ : Nat) => ?_ | fail)
    refine .inr ((ok_Config _ hs0 hsz).mono fun v g1 hg1 hC => ?_)
    obtain ⟨oC, nC, cC, rfl, hrt⟩ := hC
    have hc1 : rConfig g1 _ (confS s) := ⟨_, _, _, rfl, hl.mono rStr_mono hg1, hrt, hk.mono rCluster_mono hg1⟩
    repeat ((conv => whnf); first | refine ⟨Eq.refl _, ?_⟩ | refine ⟨⟨Eq.refl _, Eq.refl _⟩, ?_⟩ | refine ⟨⟨Eq.refl _, Eq.refl _, Eq.refl _⟩, ?_⟩ | refine ⟨⟨Eq.refl _, Eq.refl _, Eq.refl _, Eq.refl _⟩, ?_⟩ | refine ⟨⟨Eq.refl _, Eq.refl _, Eq.refl _, Eq.refl _, Eq.refl _⟩, ?_⟩ | refine fun (_ : Nat) => ?_ | refine fun (_ : Option Addr) (_ : Nat) => ?_ | fail)
    refine .inr ((ok_Build _ hc1).mono fun v g2 hg2 hB => ?_)
    rcases hB with ⟨_, oR, n, cR, rfl, hrl, _⟩ | ⟨e, i, he, rfl⟩
    rotate_left
    · rw [hz] at he; cases he
    rw [hbc] at hrl
    have hs2 : rSnap g2 [.slice oa s.listens.length ca, .slice oR n cR, .slice od s.clusters.length cd] s := ⟨_, _, _, rfl, (hl.mono rStr_mono hg1).mono rStr_mono hg2, hrl, (hk.mono rCluster_mono hg1).mono rCluster_mono hg2⟩
    have hs3 := rSnap_mono _ _ _ _ hg2 (rSnap_mono _ _ _ _ hg1 hs0)
    obtain ⟨a, e, hv, hae⟩ : ∃ a e : Int, findT s l h p = .tuple #[.int .i64 a, .int .i64 e] ∧ ((e = 0 ∧ 0 ≤ a ∧ a < s.clusters.length) ∨ e = 3 ∨ e = 5) := by
      unfold findT
      split
      · exact ⟨_, _, rfl, .inr (.inl rfl)⟩
      · split
        · exact ⟨_, _, rfl, .inr (.inr rfl)⟩
        · rename_i j hb
          obtain ⟨r, q1, _⟩ := bestO_some.1 hb
          refine ⟨_, _, rfl, .inl ⟨rfl, ?_⟩⟩
          simp only [q1, Option.map_some, Option.get!_some]
          obtain ⟨_, _, _, h4⟩ := G.rt (routeOf s r) (List.mem_map.2 ⟨r, List.mem_of_getElem? q1, rfl⟩)
          apply Classical.byContradiction
          intro hn
          have : (routeOf s r).cluster = ⟨#[]⟩ := by
            show clusAt s.clusters r.cluster = _
            unfold clusAt; rw [if_neg hn]
          rw [this] at h4
          obtain ⟨x, hx, hx2⟩ := List.any_eq_true.1 h4
          exact name_ne (G.cl x hx).1 (bs_ext (by simpa using hx2))
    repeat ((conv => whnf); first | refine ⟨Eq.refl _, ?_⟩ | refine ⟨⟨Eq.refl _, Eq.refl _⟩, ?_⟩ | refine ⟨⟨Eq.refl _, Eq.refl _, Eq.refl _⟩, ?_⟩ | refine ⟨⟨Eq.refl _, Eq.refl _, Eq.refl _, Eq.refl _⟩, ?_⟩ | refine ⟨⟨Eq.refl _, Eq.refl _, Eq.refl _, Eq.refl _, Eq.refl _⟩, ?_⟩ | refine fun (_ : Nat) => ?_ | refine fun (_ : Option Addr) (_ : Nat) => ?_ | fail)
    conv => whnf
    refine .inl ⟨_, (ok_Find _ hs3 l h p ⟨t1, t2, t3⟩).to hv, ?_⟩
    repeat ((conv => whnf); first | refine ⟨Eq.refl _, ?_⟩ | refine ⟨⟨Eq.refl _, Eq.refl _⟩, ?_⟩ | refine ⟨⟨Eq.refl _, Eq.refl _, Eq.refl _⟩, ?_⟩ | refine ⟨⟨Eq.refl _, Eq.refl _, Eq.refl _, Eq.refl _⟩, ?_⟩ | refine ⟨⟨Eq.refl _, Eq.refl _, Eq.refl _, Eq.refl _, Eq.refl _⟩, ?_⟩ | refine fun (_ : Nat) => ?_ | refine fun (_ : Option Addr) (_ : Nat) => ?_ | fail)
    conv => whnf
    refine .inl ⟨_, ok_built7 _, ?_⟩
    conv => whnf
    refine ⟨fun _ => ?_, fun h => nomatch h⟩
    conv => whnf
    refine ⟨fun _ => ?_, fun h => nomatch h⟩
    repeat ((conv => whnf); first | refine ⟨Eq.refl _, ?_⟩ | refine ⟨⟨Eq.refl _, Eq.refl _⟩, ?_⟩ | refine ⟨⟨Eq.refl _, Eq.refl _, Eq.refl _⟩, ?_⟩ | refine ⟨⟨Eq.refl _, Eq.refl _, Eq.refl _, Eq.refl _⟩, ?_⟩ | refine ⟨⟨Eq.refl _, Eq.refl _, Eq.refl _, Eq.refl _, Eq.refl _⟩, ?_⟩ | refine fun (_ : Nat) => ?_ | refine fun (_ : Option Addr) (_ : Nat) => ?_ | fail)
    conv => whnf
    refine .inl ⟨_, (ok_Same _ hs3 hs2).to (congrArg Value.bool (eqB_t rfl)), ?_⟩
    conv => whnf
    refine ⟨fun _ => ?_, fun h => nomatch h⟩
    clear hs3 hs2 hrl hs0 hc1 hrt hr1 hl1 hk1
    repeat' ((conv => whnf); first | refine ⟨Eq.refl _, ?_⟩ | refine ⟨⟨Eq.refl _, Eq.refl _⟩, ?_⟩ | refine ⟨⟨Eq.refl _, Eq.refl _, Eq.refl _⟩, ?_⟩ | refine ⟨⟨Eq.refl _, Eq.refl _, Eq.refl _, Eq.refl _⟩, ?_⟩ | refine ⟨⟨Eq.refl _, Eq.refl _, Eq.refl _, Eq.refl _, Eq.refl _⟩, ?_⟩ | refine fun (_ : Nat) => ?_ | refine fun (_ : Option Addr) (_ : Nat) => ?_ | refine .inl ⟨_, rfl, ?_⟩ | refine ⟨fun _ => ?_, fun _ => ?_⟩ | fail)
    all_goals (conv => whnf)
    all_goals (intro g3 hg3)
    all_goals (rcases hae with ⟨rfl, h0, h1⟩ | rfl | rfl <;> simp_all)
    all_goals omega)
end Go.Proofs.Ytedjbhpocedagaa
