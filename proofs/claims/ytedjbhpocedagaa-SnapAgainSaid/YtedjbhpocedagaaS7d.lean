/- Snapshots: the document's building; whether one is right; what is found. -/
import Derived.Test.YtedjbhpocedagaaS7c
namespace Go.Proofs.Ytedjbhpocedagaa
open Go.Proofs.Ytedjbhpocedagaa.Sx Go.RowKit
theorem ok_rBuild (g : GW) {a b d : Value} {c : Config} (hc : rConfig g [a, b, d] c) (hsm : SmC c) : Ok Try.prog n_hydrantref07_Build [.agg ⟨[a, b, d]⟩] g (BuildP g c a d) := by
  have hc0 := hc
  obtain ⟨_, _, _, he, hl, hr, hk⟩ := hc
  cases he
  obtain ⟨oa, ca, rfl, a1, a2, a0, hl1⟩ := id hl
  obtain ⟨ob, cb, rfl, b1, b2, b0, hr1⟩ := id hr
  obtain ⟨od, cd, rfl, d1, d2, d0, hk1⟩ := id hk
  exact Ok.of_fn hm noT 0 t_hydrantref07_Build (args := [.v (.agg ⟨[.slice oa c.listens.length ca, .slice ob c.routes.length cb, .slice od c.clusters.length cd]⟩)]) (by
    rcases ei_val (checkE c) with ⟨hz, hv⟩ | ⟨e, i, hz, hv⟩
    rotate_left
    · have hne := checkE_ne hz
      repeat ((conv => whnf); first | refine ⟨Eq.refl _, ?_⟩ | refine ⟨⟨Eq.refl _, Eq.refl _⟩, ?_⟩ | refine ⟨⟨Eq.refl _, Eq.refl _, Eq.refl _⟩, ?_⟩ | refine ⟨⟨Eq.refl _, Eq.refl _, Eq.refl _, Eq.refl _⟩, ?_⟩ | refine ⟨⟨Eq.refl _, Eq.refl _, Eq.refl _, Eq.refl _, Eq.refl _⟩, ?_⟩ | refine fun (_ : Nat) => ?_ | refine fun (_ : Option Addr) (_ : Nat) => ?_ | fail)
      conv => whnf
      refine .inl ⟨_, (ok_rCheck _ hc0 hsm).to hv, ?_⟩
      conv => whnf
      refine ⟨fun _ => ?_, fun hx => absurd hx (by simp; omega)⟩
      repeat ((conv => whnf); first | refine ⟨Eq.refl _, ?_⟩ | refine ⟨⟨Eq.refl _, Eq.refl _⟩, ?_⟩ | refine ⟨⟨Eq.refl _, Eq.refl _, Eq.refl _⟩, ?_⟩ | refine ⟨⟨Eq.refl _, Eq.refl _, Eq.refl _, Eq.refl _⟩, ?_⟩ | refine ⟨⟨Eq.refl _, Eq.refl _, Eq.refl _, Eq.refl _, Eq.refl _⟩, ?_⟩ | refine fun (_ : Nat) => ?_ | refine fun (_ : Option Addr) (_ : Nat) => ?_ | fail)
      conv => whnf
      intro g2 hg
      exact .inr ⟨e, i, hz, rfl⟩
    have G := good_iff.1 hz
    have hsz := G.size
    repeat ((conv => whnf); first | refine ⟨Eq.refl _, ?_⟩ | refine ⟨⟨Eq.refl _, Eq.refl _⟩, ?_⟩ | refine ⟨⟨Eq.refl _, Eq.refl _, Eq.refl _⟩, ?_⟩ | refine ⟨⟨Eq.refl _, Eq.refl _, Eq.refl _, Eq.refl _⟩, ?_⟩ | refine ⟨⟨Eq.refl _, Eq.refl _, Eq.refl _, Eq.refl _, Eq.refl _⟩, ?_⟩ | refine fun (_ : Nat) => ?_ | refine fun (_ : Option Addr) (_ : Nat) => ?_ | fail)
    conv => whnf
    refine .inl ⟨_, (ok_rCheck _ hc0 hsm).to hv, ?_⟩
    conv => whnf
    refine ⟨fun h => (nomatch h), fun _ => ?_⟩
    repeat ((conv => whnf); first | refine ⟨Eq.refl _, ?_⟩ | refine ⟨⟨Eq.refl _, Eq.refl _⟩, ?_⟩ | refine ⟨⟨Eq.refl _, Eq.refl _, Eq.refl _⟩, ?_⟩ | refine ⟨⟨Eq.refl _, Eq.refl _, Eq.refl _, Eq.refl _⟩, ?_⟩ | refine ⟨⟨Eq.refl _, Eq.refl _, Eq.refl _, Eq.refl _, Eq.refl _⟩, ?_⟩ | refine fun (_ : Nat) => ?_ | refine fun (_ : Option Addr) (_ : Nat) => ?_ | fail)
    rename_i p0 p1 _ p2
    conv => whnf
    refine ⟨Nat × Option Addr × Nat, fun (k, _, _) => [.v (.int .i64 k)], fun (k, oR, cR) => ⟨g, [.row 10 oR k cR ty_api_Rule 4 ((c.routes.take k).map (cRul c)).flatten, .blk 2 p2 ty_api_Snap [.v (.slice oa c.listens.length ca), .row 10 oR k cR, .v (.slice od c.clusters.length cd)], .blk 1 p1 ty_api_Snap [.v (.slice none 0 0), .v (.slice none 0 0), .v (.slice none 0 0)], .blk 0 p0 ty_api_Config [.v (.slice oa c.listens.length ca), .v (.slice ob c.routes.length cb), .v (.slice od c.clusters.length cd)]], 40, g.w.heap.size⟩, fun (k, _, _) => k ≤ c.routes.length, fun (k, _, _) => c.routes.length - k, ?_, ?_⟩
    · intro fr w hw
      exact ⟨(0, none, 0), rfl, Nat.zero_le _, (hw.nil_row (nx' := 40) 10 ty_api_Rule 4).fit (by simp [fitL, Res.eqv, concL, conc])⟩
    rintro ⟨k, oR, cR⟩ hkk
    have hkk : k ≤ c.routes.length := hkk
    repeat ((conv => whnf); first | refine ⟨Eq.refl _, ?_⟩ | refine ⟨⟨Eq.refl _, Eq.refl _⟩, ?_⟩ | refine ⟨⟨Eq.refl _, Eq.refl _, Eq.refl _⟩, ?_⟩ | refine ⟨⟨Eq.refl _, Eq.refl _, Eq.refl _, Eq.refl _⟩, ?_⟩ | refine ⟨⟨Eq.refl _, Eq.refl _, Eq.refl _, Eq.refl _, Eq.refl _⟩, ?_⟩ | refine fun (_ : Nat) => ?_ | refine fun (_ : Option Addr) (_ : Nat) => ?_ | fail)
    conv => whnf
    refine ⟨fun hlt => ?_, fun hlt => ?_⟩
    · have h' : k < c.routes.length := by have := of_decide_eq_true hlt; omega
      obtain ⟨x, hx⟩ := getL_of h'
      obtain ⟨a, rfl, ec, hec, rfl, hc⟩ := hr1 k x hx
      have hT := take_map (f := cRul c) hx
      repeat ((conv => whnf); first | refine ⟨Eq.refl _, ?_⟩ | refine ⟨⟨Eq.refl _, Eq.refl _⟩, ?_⟩ | refine ⟨⟨Eq.refl _, Eq.refl _, Eq.refl _⟩, ?_⟩ | refine ⟨⟨Eq.refl _, Eq.refl _, Eq.refl _, Eq.refl _⟩, ?_⟩ | refine ⟨⟨Eq.refl _, Eq.refl _, Eq.refl _, Eq.refl _, Eq.refl _⟩, ?_⟩ | refine fun (_ : Nat) => ?_ | refine fun (_ : Option Addr) (_ : Nat) => ?_ | fail)
      conv => whnf
      refine ⟨a, rfl, ⟨by omega, by omega⟩, ?_⟩
      conv => whnf
      refine ⟨_, ⟨rfl, hc⟩, ?_⟩
      repeat ((conv => whnf); first | refine ⟨Eq.refl _, ?_⟩ | refine ⟨⟨Eq.refl _, Eq.refl _⟩, ?_⟩ | refine ⟨⟨Eq.refl _, Eq.refl _, Eq.refl _⟩, ?_⟩ | refine ⟨⟨Eq.refl _, Eq.refl _, Eq.refl _, Eq.refl _⟩, ?_⟩ | refine ⟨⟨Eq.refl _, Eq.refl _, Eq.refl _, Eq.refl _, Eq.refl _⟩, ?_⟩ | refine fun (_ : Nat) => ?_ | refine fun (_ : Option Addr) (_ : Nat) => ?_ | fail)
      conv => whnf
      refine .inl ⟨_, ok_Listen _ hl _, ?_⟩
      repeat ((conv => whnf); first | refine ⟨Eq.refl _, ?_⟩ | refine ⟨⟨Eq.refl _, Eq.refl _⟩, ?_⟩ | refine ⟨⟨Eq.refl _, Eq.refl _, Eq.refl _⟩, ?_⟩ | refine ⟨⟨Eq.refl _, Eq.refl _, Eq.refl _, Eq.refl _⟩, ?_⟩ | refine ⟨⟨Eq.refl _, Eq.refl _, Eq.refl _, Eq.refl _, Eq.refl _⟩, ?_⟩ | refine fun (_ : Nat) => ?_ | refine fun (_ : Option Addr) (_ : Nat) => ?_ | fail)
      conv => whnf
      refine .inl ⟨_, ok_Cluster _ hk _, ?_⟩
      repeat ((conv => whnf); first | refine ⟨Eq.refl _, ?_⟩ | refine ⟨⟨Eq.refl _, Eq.refl _⟩, ?_⟩ | refine ⟨⟨Eq.refl _, Eq.refl _, Eq.refl _⟩, ?_⟩ | refine ⟨⟨Eq.refl _, Eq.refl _, Eq.refl _, Eq.refl _⟩, ?_⟩ | refine ⟨⟨Eq.refl _, Eq.refl _, Eq.refl _, Eq.refl _, Eq.refl _⟩, ?_⟩ | refine fun (_ : Nat) => ?_ | refine fun (_ : Option Addr) (_ : Nat) => ?_ | fail)
      conv => whnf
      refine ⟨⟨by unfold maxLen; omega, by omega⟩, fun oa2 cap2 => ?_⟩
      repeat ((conv => whnf); first | refine ⟨Eq.refl _, ?_⟩ | refine ⟨⟨Eq.refl _, Eq.refl _⟩, ?_⟩ | refine ⟨⟨Eq.refl _, Eq.refl _, Eq.refl _⟩, ?_⟩ | refine ⟨⟨Eq.refl _, Eq.refl _, Eq.refl _, Eq.refl _⟩, ?_⟩ | refine ⟨⟨Eq.refl _, Eq.refl _, Eq.refl _, Eq.refl _, Eq.refl _⟩, ?_⟩ | refine fun (_ : Nat) => ?_ | refine fun (_ : Option Addr) (_ : Nat) => ?_ | fail)
      conv => whnf
      refine fun fr w hw => ⟨(k + 1, oa2, cap2), congrArg (fun z => [Value.int .i64 z]) (wr1 h' b1 b2).symm, h', dec h', hw.fit ?_⟩
      simp only [hT]
      simp [fitL, Res.eqv, concL, conc, ruleOf]
    have hz1 : k = c.routes.length := by have := of_decide_eq_false hlt; omega
    subst hz1
    repeat ((conv => whnf); first | refine ⟨Eq.refl _, ?_⟩ | refine ⟨⟨Eq.refl _, Eq.refl _⟩, ?_⟩ | refine ⟨⟨Eq.refl _, Eq.refl _, Eq.refl _⟩, ?_⟩ | refine ⟨⟨Eq.refl _, Eq.refl _, Eq.refl _, Eq.refl _⟩, ?_⟩ | refine ⟨⟨Eq.refl _, Eq.refl _, Eq.refl _, Eq.refl _, Eq.refl _⟩, ?_⟩ | refine fun (_ : Nat) => ?_ | refine fun (_ : Option Addr) (_ : Nat) => ?_ | fail)
    conv => whnf
    refine fun g1 hg1 hn1 hp1 => ?_
    conv => whnf
    intro g2 hg
    refine .inl ⟨hz, _, _, _, rfl, ?_, fun x hx hg => hn1 x hx hg⟩
    refine ((rSl_ofE hp1.rd (builtS c).rules cRule ?_ (by simp [builtS]) (fun _ _ => rfl) fun r hr => ?_).mono rRule_mono hg)
    · rw [List.take_of_length_le (Nat.le_refl _)]; simp [builtS, List.map_map, Function.comp_def]
    · obtain ⟨q, _, rfl⟩ := List.mem_map.1 hr
      exact ⟨rfl, idx_inr (by omega), idx_inr (by omega)⟩)
theorem ok_sIs (g : GW) {cs : List Value} {s : Snap} (hs : rSnap g cs s) (hsz : s.rules.length ≤ 1000000) : OkV Try.prog n_snap_Is [.agg ⟨cs⟩] g (.bool (eqB (checkE (confS s)) none)) := by
  have hs0 := hs
  obtain ⟨a, b, d, rfl, hl, hr, hk⟩ := hs
  obtain ⟨oa, ca, rfl, a1, a2, a0, hl1⟩ := id hl
  obtain ⟨ob, cb, rfl, b1, b2, b0, hr1⟩ := id hr
  obtain ⟨od, cd, rfl, d1, d2, d0, hk1⟩ := id hk
  exact Ok.of_fn hm noT 0 t_snap_Is (args := [.v (.agg ⟨[.slice oa s.listens.length ca, .slice ob s.rules.length cb, .slice od s.clusters.length cd]⟩)]) (by
    repeat ((conv => whnf); first | refine ⟨Eq.refl _, ?_⟩ | refine ⟨⟨Eq.refl _, Eq.refl _⟩, ?_⟩ | refine ⟨⟨Eq.refl _, Eq.refl _, Eq.refl _⟩, ?_⟩ | refine ⟨⟨Eq.refl _, Eq.refl _, Eq.refl _, Eq.refl _⟩, ?_⟩ | refine ⟨⟨Eq.refl _, Eq.refl _, Eq.refl _, Eq.refl _, Eq.refl _⟩, ?_⟩ | refine fun (_ : Nat) => ?_ | refine fun (_ : Option Addr) (_ : Nat) => ?_ | fail)
    conv => whnf
    refine .inr ((ok_Config g hs0 hsz).mono fun v g1 hg1 hC => ?_)
    obtain ⟨oR, n, cR, rfl, hrt⟩ := hC
    have hcc : rConfig g1 [.slice oa s.listens.length ca, .slice oR n cR, .slice od s.clusters.length cd] (confS s) := ⟨_, _, _, rfl, hl.mono rStr_mono hg1, hrt, hk.mono rCluster_mono hg1⟩
    rcases ei_val (checkE (confS s)) with ⟨hz, hv⟩ | ⟨e, i, hz, hv⟩
    · conv => whnf
      refine .inl ⟨_, (ok_Check _ hcc).to hv, ?_⟩
      conv => whnf
      intro g2 hg
      rw [eqB_t hz]; rfl
    · have hne := checkE_ne hz
      conv => whnf
      refine .inl ⟨_, (ok_Check _ hcc).to hv, ?_⟩
      conv => whnf
      intro g2 hg
      rw [eqB_f (by rw [hz]; simp)]
      exact congrArg Value.bool (by simp; omega))
def findT (s : Snap) (l h p : BA) : Value :=
  if idxI (idxO (fun x => bs x == bs l) s.listens) < 0 then .tuple #[.int .i64 0, .int .i64 3] else
  match bestO (fitR (idxI (idxO (fun x => bs x == bs l) s.listens)) h p) s.rules with
  | none => .tuple #[.int .i64 0, .int .i64 5]
  | some j => .tuple #[.int .i64 ((s.rules[j]?).map (·.cluster)).get!, .int .i64 0]
theorem ok_Find (g : GW) {cs : List Value} {s : Snap} (hs : rSnap g cs s) (l h p : BA) (hsm : SmL s.rules ∧ Sm h ∧ Sm p) : OkV Try.prog n_snap_Find [.agg ⟨cs⟩, .string l, .string h, .string p] g (findT s l h p) := by
  have hs0 := hs
  obtain ⟨a, b, d, rfl, hl, hr, hk⟩ := hs
  obtain ⟨oa, ca, rfl, a1, a2, a0, hl1⟩ := id hl
  obtain ⟨ob, cb, rfl, b1, b2, b0, hr1⟩ := id hr
  obtain ⟨od, cd, rfl, d1, d2, d0, hk1⟩ := id hk
  exact Ok.of_fn hm noT 0 t_snap_Find (args := [.v (.agg ⟨[.slice oa s.listens.length ca, .slice ob s.rules.length cb, .slice od s.clusters.length cd]⟩), .v (.string l), .v (.string h), .v (.string p)]) (by
    repeat ((conv => whnf); first | refine ⟨Eq.refl _, ?_⟩ | refine ⟨⟨Eq.refl _, Eq.refl _⟩, ?_⟩ | refine ⟨⟨Eq.refl _, Eq.refl _, Eq.refl _⟩, ?_⟩ | refine ⟨⟨Eq.refl _, Eq.refl _, Eq.refl _, Eq.refl _⟩, ?_⟩ | refine ⟨⟨Eq.refl _, Eq.refl _, Eq.refl _, Eq.refl _, Eq.refl _⟩, ?_⟩ | refine fun (_ : Nat) => ?_ | refine fun (_ : Option Addr) (_ : Nat) => ?_ | fail)
    conv => whnf
    refine .inl ⟨_, ok_listener _ hl _, ?_⟩
    conv => whnf
    refine ⟨fun k1 => ?_, fun k1 => ?_⟩
    · conv => whnf
      intro g2 hg
      rw [findT, if_pos (of_decide_eq_true k1)]
    have k1 := of_decide_eq_false k1
    repeat ((conv => whnf); first | refine ⟨Eq.refl _, ?_⟩ | refine ⟨⟨Eq.refl _, Eq.refl _⟩, ?_⟩ | refine ⟨⟨Eq.refl _, Eq.refl _, Eq.refl _⟩, ?_⟩ | refine ⟨⟨Eq.refl _, Eq.refl _, Eq.refl _, Eq.refl _⟩, ?_⟩ | refine ⟨⟨Eq.refl _, Eq.refl _, Eq.refl _, Eq.refl _, Eq.refl _⟩, ?_⟩ | refine fun (_ : Nat) => ?_ | refine fun (_ : Option Addr) (_ : Nat) => ?_ | fail)
    cases hb : bestO (fitR (idxI (idxO (fun x => bs x == bs l) s.listens)) h p) s.rules with
    | none =>
      conv => whnf
      refine .inl ⟨_, (ok_Best _ hr _ _ _ hsm).to (congrArg bestT hb), ?_⟩
      conv => whnf
      refine ⟨fun _ => ?_, fun h => nomatch h⟩
      conv => whnf
      intro g2 hg
      rw [findT, if_neg k1, hb]
    | some j =>
      conv => whnf
      refine .inl ⟨_, (ok_Best _ hr _ _ _ hsm).to (congrArg bestT hb), ?_⟩
      conv => whnf
      refine ⟨fun h => (nomatch h), fun _ => ?_⟩
      obtain ⟨r, q1, q2, _⟩ := bestO_some.1 hb
      obtain ⟨a, rfl, ec, hec, ⟨rfl, _, _⟩, hc⟩ := hr1 j r q1
      repeat ((conv => whnf); first | refine ⟨Eq.refl _, ?_⟩ | refine ⟨⟨Eq.refl _, Eq.refl _⟩, ?_⟩ | refine ⟨⟨Eq.refl _, Eq.refl _, Eq.refl _⟩, ?_⟩ | refine ⟨⟨Eq.refl _, Eq.refl _, Eq.refl _, Eq.refl _⟩, ?_⟩ | refine ⟨⟨Eq.refl _, Eq.refl _, Eq.refl _, Eq.refl _, Eq.refl _⟩, ?_⟩ | refine fun (_ : Nat) => ?_ | refine fun (_ : Option Addr) (_ : Nat) => ?_ | fail)
      conv => whnf
      refine ⟨a, rfl, ⟨by omega, by omega⟩, ?_⟩
      conv => whnf
      refine ⟨_, hc 3 _ rfl, ?_⟩
      conv => whnf
      intro g2 hg
      rw [findT, if_neg k1, hb]
      simp [q1])
theorem ok_big7 (g : GW) {cs : List Value} {s : Snap} (hs : rSnap g cs s) : OkV Try.prog n_hydrantlaw07_big [.agg ⟨cs⟩] g (.bool (bigR s.rules || bigC ⟨s.listens, [], s.clusters⟩)) := by
  obtain ⟨a, b, d, rfl, hl, hr, hk⟩ := hs
  obtain ⟨oa, ca, rfl, a1, a2, a0, hl1⟩ := id hl
  obtain ⟨ob, cb, rfl, b1, b2, b0, hr1⟩ := id hr
  obtain ⟨od, cd, rfl, d1, d2, d0, hk1⟩ := id hk
  exact Ok.of_fn hm noT 0 t_hydrantlaw07_big (args := [.v (.agg ⟨[.slice oa s.listens.length ca, .slice ob s.rules.length cb, .slice od s.clusters.length cd]⟩)]) (by
    have hcc : rConfig g [.slice oa s.listens.length ca, .slice none 0 0, .slice od s.clusters.length cd] ⟨s.listens, [], s.clusters⟩ := ⟨_, _, _, rfl, hl, ⟨none, 0, rfl, Nat.le_refl _, Nat.zero_le _, fun _ => ⟨rfl, rfl⟩, fun i x hx => by simp at hx⟩, hk⟩
    repeat ((conv => whnf); first | refine ⟨Eq.refl _, ?_⟩ | refine ⟨⟨Eq.refl _, Eq.refl _⟩, ?_⟩ | refine ⟨⟨Eq.refl _, Eq.refl _, Eq.refl _⟩, ?_⟩ | refine ⟨⟨Eq.refl _, Eq.refl _, Eq.refl _, Eq.refl _⟩, ?_⟩ | refine ⟨⟨Eq.refl _, Eq.refl _, Eq.refl _, Eq.refl _, Eq.refl _⟩, ?_⟩ | refine fun (_ : Nat) => ?_ | refine fun (_ : Option Addr) (_ : Nat) => ?_ | fail)
    conv => whnf
    refine .inl ⟨_, ok_rBig _ hr, ?_⟩
    conv => whnf
    refine ⟨fun k1 => ?_, fun k1 => ?_⟩
    · conv => whnf
      intro g2 hg
      rw [k1]; rfl
    repeat ((conv => whnf); first | refine ⟨Eq.refl _, ?_⟩ | refine ⟨⟨Eq.refl _, Eq.refl _⟩, ?_⟩ | refine ⟨⟨Eq.refl _, Eq.refl _, Eq.refl _⟩, ?_⟩ | refine ⟨⟨Eq.refl _, Eq.refl _, Eq.refl _, Eq.refl _⟩, ?_⟩ | refine ⟨⟨Eq.refl _, Eq.refl _, Eq.refl _, Eq.refl _, Eq.refl _⟩, ?_⟩ | refine fun (_ : Nat) => ?_ | refine fun (_ : Option Addr) (_ : Nat) => ?_ | fail)
    conv => whnf
    refine .inl ⟨_, ok_cBig _ hcc, ?_⟩
    conv => whnf
    intro g2 hg
    rw [k1]; rfl)
end Go.Proofs.Ytedjbhpocedagaa
