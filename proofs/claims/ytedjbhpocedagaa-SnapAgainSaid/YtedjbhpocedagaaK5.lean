/- Whether a configuration may be: the program's and the document's answers. -/
import Derived.Test.YtedjbhpocedagaaN3
import Derived.Test.YtedjbhpocedagaaP5
namespace Go.Proofs.Ytedjbhpocedagaa
open Go.Proofs.Ytedjbhpocedagaa.Sx
theorem ok_Index (g : GW) {v : Value} {l : List BA} (hl : rSl 1 rStr g v l) (s : BA) : OkV Try.prog n_slices_Index___string_string [v, .string s] g (.int .i64 (idxI (idxO (fun x => bs s == bs x) l))) :=
  Ok.of_fn hm noT 0 t_slices_Index___string_string (args := [.v v, .v (.string s)]) (by
    obtain ⟨oa, cap, rfl, h1, h2, h0, hr⟩ := hl
    repeat ((conv => whnf); first | refine ⟨Eq.refl _, ?_⟩ | refine ⟨⟨Eq.refl _, Eq.refl _⟩, ?_⟩ | refine ⟨⟨Eq.refl _, Eq.refl _, Eq.refl _⟩, ?_⟩ | refine ⟨⟨Eq.refl _, Eq.refl _, Eq.refl _, Eq.refl _⟩, ?_⟩ | refine ⟨⟨Eq.refl _, Eq.refl _, Eq.refl _, Eq.refl _, Eq.refl _⟩, ?_⟩ | refine fun (_ : Nat) => ?_ | refine fun (_ : Option Addr) (_ : Nat) => ?_ | fail)
    conv => whnf
    refine ⟨Nat, fun k => [.v (.int .i64 k)], fun k => ⟨g, [], _, _⟩, fun k => k ≤ l.length ∧ Pass (idxF fun x => bs s == bs x) l k, fun k => l.length - k, loop_here 0 rfl ⟨Nat.zero_le _, Pass.zero _ _⟩ rfl, ?_⟩
    rintro k ⟨hk, hp⟩
    conv => whnf
    refine ⟨fun hlt => ?_, fun hlt => ?_⟩
    · have h' : k < l.length := by have := of_decide_eq_true hlt; omega
      obtain ⟨x, hx⟩ := getL_of h'
      obtain ⟨a, rfl, ec, hec, rfl, hc⟩ := hr k x hx
      conv => whnf
      refine ⟨a, rfl, ⟨by omega, by omega⟩, ?_⟩
      conv => whnf
      refine ⟨_, hc 0 _ rfl, ?_⟩
      conv => whnf
      refine ⟨fun he => ?_, fun he => ?_⟩
      · conv => whnf
        intro g2 hg
        rw [idxO_hit hp hx he]
      · conv => whnf
        refine fun fr w hw => ⟨k + 1, congrArg (fun z => [Value.int .i64 z]) (wr1 h' h1 h2).symm, ⟨h', idx_next hp hx he⟩, dec h', hw⟩
    · conv => whnf
      intro g2 hg
      have := of_decide_eq_false hlt
      rw [idxO_miss hp (by omega)])
theorem ok_Contains (g : GW) {v : Value} {l : List BA} (hl : rSl 1 rStr g v l) (s : BA) : OkV Try.prog n_slices_Contains___string_string [v, .string s] g (.bool (hasS l s)) :=
  Ok.of_fn hm noT 0 t_slices_Contains___string_string (args := [.v v, .v (.string s)]) (by
    conv => whnf
    refine .inl ⟨_, ok_Index _ hl _, ?_⟩
    conv => whnf
    intro g2 hg
    rw [idx_any]
    have : (fun x => bs s == bs x) = fun x => bs x == bs s := by funext x; exact beqL_symm _ _
    rw [this]; rfl)
def tC : List (Nat × FnI) := [(n_slices_ContainsFunc___api_Cluster_api_Cluster, f_slices_ContainsFunc___api_Cluster_api_Cluster), (n_slices_IndexFunc___api_Cluster_api_Cluster, f_slices_IndexFunc___api_Cluster_api_Cluster), (n_config_named_1, f_config_named_1)]
theorem tC_ok : TblOk Try.prog tC := by
  intro x hx
  simp only [tC, List.mem_cons, List.not_mem_nil, or_false] at hx
  rcases hx with rfl | rfl | rfl
  · exact ⟨_, _, t_slices_ContainsFunc___api_Cluster_api_Cluster⟩
  · exact ⟨_, _, t_slices_IndexFunc___api_Cluster_api_Cluster⟩
  · exact ⟨_, _, t_config_named_1⟩
theorem ok_named (g : GW) {v : Value} {l : List Cluster} (hl : rSl 4 rCluster g v l) (s : BA) : OkV Try.prog n_config_named [v, .string s] g (.bool (hasC l s)) :=
  Ok.of_fn hm tC_ok 3 t_config_named (args := [.v v, .v (.string s)]) (by
    obtain ⟨oa, cap, rfl, h1, h2, h0, hr⟩ := hl
    repeat ((conv => whnf); first | refine ⟨Eq.refl _, ?_⟩ | refine ⟨⟨Eq.refl _, Eq.refl _⟩, ?_⟩ | refine ⟨⟨Eq.refl _, Eq.refl _, Eq.refl _⟩, ?_⟩ | refine ⟨⟨Eq.refl _, Eq.refl _, Eq.refl _, Eq.refl _⟩, ?_⟩ | refine ⟨⟨Eq.refl _, Eq.refl _, Eq.refl _, Eq.refl _, Eq.refl _⟩, ?_⟩ | refine fun (_ : Nat) => ?_ | refine fun (_ : Option Addr) (_ : Nat) => ?_ | fail)
    conv => whnf
    refine ⟨Nat, fun k => [.v (.int .i64 k)], fun k => ⟨g, [.blk 0 _ _ [.v (.string s)]], _, _⟩, fun k => k ≤ l.length ∧ Pass (idxF fun (x : Cluster) => bs x.name == bs s) l k, fun k => l.length - k, loop_here 0 rfl ⟨Nat.zero_le _, Pass.zero _ _⟩ rfl, ?_⟩
    rintro k ⟨hk, hp⟩
    conv => whnf
    refine ⟨fun hlt => ?_, fun hlt => ?_⟩
    · have h' : k < l.length := by have := of_decide_eq_true hlt; omega
      obtain ⟨x, hx⟩ := getL_of h'
      obtain ⟨a, rfl, ec, hec, ⟨hv, rfl, _, _, _, _, rfl, _⟩, hc⟩ := hr k x hx
      conv => whnf
      refine ⟨a, rfl, ⟨by omega, by omega⟩, ?_⟩
      conv => whnf
      refine ⟨_, ⟨rfl, hc⟩, ?_⟩
      conv => whnf
      refine ⟨k_config_named_1, ?_⟩
      repeat ((conv => whnf); first | refine ⟨Eq.refl _, ?_⟩ | refine ⟨⟨Eq.refl _, Eq.refl _⟩, ?_⟩ | refine ⟨⟨Eq.refl _, Eq.refl _, Eq.refl _⟩, ?_⟩ | refine ⟨⟨Eq.refl _, Eq.refl _, Eq.refl _, Eq.refl _⟩, ?_⟩ | refine ⟨⟨Eq.refl _, Eq.refl _, Eq.refl _, Eq.refl _, Eq.refl _⟩, ?_⟩ | refine fun (_ : Nat) => ?_ | refine fun (_ : Option Addr) (_ : Nat) => ?_ | fail)
      conv => whnf
      refine ⟨fun he => ?_, fun he => ?_⟩
      · conv => whnf
        intro g2 hg
        have : hasC l s = true := List.any_eq_true.2 ⟨x, List.mem_of_getElem? hx, he⟩
        rw [this]; simp
      · conv => whnf
        refine fun fr w hw => ⟨k + 1, congrArg (fun z => [Value.int .i64 z]) (wr1 h' h1 h2).symm, ⟨h', idx_next hp hx he⟩, dec h', ?_⟩
        exact hw.fit (by simp [fitL, Res.eqv, concL, conc])
    · conv => whnf
      intro g2 hg
      have := of_decide_eq_false hlt
      have h3 := idx_any (fun (x : Cluster) => bs x.name == bs s) l
      rw [idxO_miss hp (by omega)] at h3
      rw [show hasC l s = false from by rw [hasC, ← h3]; rfl]; rfl)

/-- Is a number within? -/
theorem ok_within (g : GW) (n a b : Int) : OkV Try.prog n_config_within [.int .i64 n, .int .i64 a, .int .i64 b] g (.bool (decide (a ≤ n) && decide (n ≤ b))) :=
  Ok.of_fn hm noT 0 t_config_within (args := [.v (.int .i64 n), .v (.int .i64 a), .v (.int .i64 b)]) (by
    repeat' ((conv => whnf); first | refine ⟨Eq.refl _, ?_⟩ | refine ⟨⟨Eq.refl _, Eq.refl _⟩, ?_⟩ | refine ⟨⟨Eq.refl _, Eq.refl _, Eq.refl _⟩, ?_⟩ | refine ⟨⟨Eq.refl _, Eq.refl _, Eq.refl _, Eq.refl _⟩, ?_⟩ | refine ⟨⟨Eq.refl _, Eq.refl _, Eq.refl _, Eq.refl _, Eq.refl _⟩, ?_⟩ | refine fun (_ : Nat) => ?_ | refine fun (_ : Option Addr) (_ : Nat) => ?_ | refine .inl ⟨_, rfl, ?_⟩ | refine ⟨fun _ => ?_, fun _ => ?_⟩ | fail)
    all_goals (conv => whnf)
    all_goals (intro g2 hg)
    all_goals (first | (simp_all; done) | (simp_all; omega)))
theorem ok_csize (g : GW) {cs : List Value} {c : Config} (hc : rConfig g cs c) : OkV Try.prog n_config_checker__size [.agg ⟨cs⟩] g (eiT (sizeE c)) := by
  obtain ⟨a, b, d, rfl, hl, hr, hk⟩ := hc
  obtain ⟨oa, ca, rfl, a1, a2, a0, hl1⟩ := id hl
  obtain ⟨ob, cb, rfl, b1, b2, b0, hr1⟩ := id hr
  obtain ⟨od, cd, rfl, d1, d2, d0, hk1⟩ := id hk
  exact Ok.of_fn hm noT 0 t_config_checker__size (args := [.v (.agg ⟨[.slice oa c.listens.length ca, .slice ob c.routes.length cb, .slice od c.clusters.length cd]⟩)]) (by
    repeat' ((conv => whnf); first | refine ⟨Eq.refl _, ?_⟩ | refine ⟨⟨Eq.refl _, Eq.refl _⟩, ?_⟩ | refine ⟨⟨Eq.refl _, Eq.refl _, Eq.refl _⟩, ?_⟩ | refine ⟨⟨Eq.refl _, Eq.refl _, Eq.refl _, Eq.refl _⟩, ?_⟩ | refine ⟨⟨Eq.refl _, Eq.refl _, Eq.refl _, Eq.refl _, Eq.refl _⟩, ?_⟩ | refine fun (_ : Nat) => ?_ | refine fun (_ : Option Addr) (_ : Nat) => ?_ | refine .inl ⟨_, ok_within _ _ _ _, ?_⟩ | refine ⟨fun _ => ?_, fun _ => ?_⟩ | fail)
    all_goals (conv => whnf)
    all_goals (intro g2 hg)
    all_goals first | (rw [show sizeE c = some (6, 0) from if_neg (by simp_all; try omega)]; rfl; done) | (rw [show sizeE c = none from if_pos (by simp_all; try omega)]; rfl))

theorem ok_clistens (g : GW) {cs : List Value} {c : Config} (hc : rConfig g cs c) : OkV Try.prog n_config_checker__listens [.agg ⟨cs⟩] g (eiT (listensE c)) := by
  obtain ⟨a, b, d, rfl, hl, hr, hk⟩ := hc
  obtain ⟨oa, ca, rfl, a1, a2, a0, hl1⟩ := id hl
  obtain ⟨ob, cb, rfl, b1, b2, b0, hr1⟩ := id hr
  obtain ⟨od, cd, rfl, d1, d2, d0, hk1⟩ := id hk
  exact Ok.of_fn hm noT 0 t_config_checker__listens (args := [.v (.agg ⟨[.slice oa c.listens.length ca, .slice ob c.routes.length cb, .slice od c.clusters.length cd]⟩)]) (by
    repeat ((conv => whnf); first | refine ⟨Eq.refl _, ?_⟩ | refine ⟨⟨Eq.refl _, Eq.refl _⟩, ?_⟩ | refine ⟨⟨Eq.refl _, Eq.refl _, Eq.refl _⟩, ?_⟩ | refine ⟨⟨Eq.refl _, Eq.refl _, Eq.refl _, Eq.refl _⟩, ?_⟩ | refine ⟨⟨Eq.refl _, Eq.refl _, Eq.refl _, Eq.refl _, Eq.refl _⟩, ?_⟩ | refine fun (_ : Nat) => ?_ | refine fun (_ : Option Addr) (_ : Nat) => ?_ | fail)
    conv => whnf
    refine ⟨Nat, fun k => [.v (.int .i64 k)], fun k => ⟨g, [.blk 0 _ _ [.v (.slice oa c.listens.length ca), .v (.slice ob c.routes.length cb), .v (.slice od c.clusters.length cd)]], _, _⟩, fun k => k ≤ c.listens.length ∧ Pass (listenF c.listens) c.listens k, fun k => c.listens.length - k, loop_here 0 rfl ⟨Nat.zero_le _, Pass.zero _ _⟩ rfl, ?_⟩
    rintro k ⟨hk, hp⟩
    conv => whnf
    refine ⟨fun hlt => ?_, fun hlt => ?_⟩
    · have h' : k < c.listens.length := by have := of_decide_eq_true hlt; omega
      obtain ⟨x, hx⟩ := getL_of h'
      obtain ⟨a, rfl, ec, hec, rfl, hc⟩ := hl1 k x hx
      conv => whnf
      refine ⟨a, rfl, ⟨by omega, by omega⟩, ?_⟩
      conv => whnf
      refine ⟨_, hc 0 _ rfl, ?_⟩
      repeat ((conv => whnf); first | refine ⟨Eq.refl _, ?_⟩ | refine ⟨⟨Eq.refl _, Eq.refl _⟩, ?_⟩ | refine ⟨⟨Eq.refl _, Eq.refl _, Eq.refl _⟩, ?_⟩ | refine ⟨⟨Eq.refl _, Eq.refl _, Eq.refl _, Eq.refl _⟩, ?_⟩ | refine ⟨⟨Eq.refl _, Eq.refl _, Eq.refl _, Eq.refl _, Eq.refl _⟩, ?_⟩ | refine fun (_ : Nat) => ?_ | refine fun (_ : Option Addr) (_ : Nat) => ?_ | fail)
      conv => whnf
      refine .inl ⟨_, ok_Name _ _, ?_⟩
      conv => whnf
      refine ⟨fun hn => ?_, fun hn => ?_⟩
      · conv => whnf
        intro g2 hg
        rw [show listensE c = some ((3, k) : EI) from hp.hit hx (by rw [listenF, if_neg (by simp [nb1 hn])])]; rfl
      · repeat ((conv => whnf); first | refine ⟨Eq.refl _, ?_⟩ | refine ⟨⟨Eq.refl _, Eq.refl _⟩, ?_⟩ | refine ⟨⟨Eq.refl _, Eq.refl _, Eq.refl _⟩, ?_⟩ | refine ⟨⟨Eq.refl _, Eq.refl _, Eq.refl _, Eq.refl _⟩, ?_⟩ | refine ⟨⟨Eq.refl _, Eq.refl _, Eq.refl _, Eq.refl _, Eq.refl _⟩, ?_⟩ | refine fun (_ : Nat) => ?_ | refine fun (_ : Option Addr) (_ : Nat) => ?_ | fail)
        conv => whnf
        refine ⟨⟨by omega, by omega⟩, ?_⟩
        repeat ((conv => whnf); first | refine ⟨Eq.refl _, ?_⟩ | refine ⟨⟨Eq.refl _, Eq.refl _⟩, ?_⟩ | refine ⟨⟨Eq.refl _, Eq.refl _, Eq.refl _⟩, ?_⟩ | refine ⟨⟨Eq.refl _, Eq.refl _, Eq.refl _, Eq.refl _⟩, ?_⟩ | refine ⟨⟨Eq.refl _, Eq.refl _, Eq.refl _, Eq.refl _, Eq.refl _⟩, ?_⟩ | refine fun (_ : Nat) => ?_ | refine fun (_ : Option Addr) (_ : Nat) => ?_ | fail)
        conv => whnf
        refine .inl ⟨_, ok_Contains _ (hl.take (Nat.le_of_lt h')) _, ?_⟩
        conv => whnf
        refine ⟨fun hs => ?_, fun hs => ?_⟩
        · conv => whnf
          intro g2 hg
          rw [show listensE c = some ((4, k) : EI) from hp.hit hx (by rw [listenF, if_pos (nb0 hn), if_pos hs])]; rfl
        · conv => whnf
          refine fun fr w hw => ⟨k + 1, congrArg (fun z => [Value.int .i64 z]) (wr1 h' a1 a2).symm, ⟨h', hp.succ hx (by rw [listenF, if_pos (nb0 hn), if_neg (by simp [hs])])⟩, dec h', ?_⟩
          exact hw.fit (by simp [fitL, Res.eqv, concL, conc])
    · conv => whnf
      intro g2 hg
      have := of_decide_eq_false hlt
      rw [show listensE c = none from hp.done (by omega)]; rfl)

theorem ok_cclusters (g : GW) {cs : List Value} {c : Config} (hc : rConfig g cs c) : OkV Try.prog n_config_checker__clusters [.agg ⟨cs⟩] g (eiT (clustersE c)) := by
  obtain ⟨a, b, d, rfl, hl, hr, hk⟩ := hc
  obtain ⟨oa, ca, rfl, a1, a2, a0, hl1⟩ := id hl
  obtain ⟨ob, cb, rfl, b1, b2, b0, hr1⟩ := id hr
  obtain ⟨od, cd, rfl, d1, d2, d0, hk1⟩ := id hk
  exact Ok.of_fn hm noT 0 t_config_checker__clusters (args := [.v (.agg ⟨[.slice oa c.listens.length ca, .slice ob c.routes.length cb, .slice od c.clusters.length cd]⟩)]) (by
    repeat ((conv => whnf); first | refine ⟨Eq.refl _, ?_⟩ | refine ⟨⟨Eq.refl _, Eq.refl _⟩, ?_⟩ | refine ⟨⟨Eq.refl _, Eq.refl _, Eq.refl _⟩, ?_⟩ | refine ⟨⟨Eq.refl _, Eq.refl _, Eq.refl _, Eq.refl _⟩, ?_⟩ | refine ⟨⟨Eq.refl _, Eq.refl _, Eq.refl _, Eq.refl _, Eq.refl _⟩, ?_⟩ | refine fun (_ : Nat) => ?_ | refine fun (_ : Option Addr) (_ : Nat) => ?_ | fail)
    conv => whnf
    refine ⟨Nat, fun k => [.v (.int .i64 k)], fun k => ⟨g, [.blk 0 _ _ [.v (.slice oa c.listens.length ca), .v (.slice ob c.routes.length cb), .v (.slice od c.clusters.length cd)]], _, _⟩, fun k => k ≤ c.clusters.length ∧ Pass (clusterF c.clusters) c.clusters k, fun k => c.clusters.length - k, loop_here 0 rfl ⟨Nat.zero_le _, Pass.zero _ _⟩ rfl, ?_⟩
    rintro k ⟨hkk, hp⟩
    conv => whnf
    refine ⟨fun hlt => ?_, fun hlt => ?_⟩
    · have h' : k < c.clusters.length := by have := of_decide_eq_true hlt; omega
      obtain ⟨x, hx⟩ := getL_of h'
      obtain ⟨a, rfl, ec, hec, ⟨hv, rfl, _, _, _, _, rfl, _⟩, hc⟩ := hk1 k x hx
      have hit : ∀ e : EI, clusterF c.clusters k x = some e → clustersE c = some e := fun e he => hp.hit hx he
      conv => whnf
      refine ⟨a, rfl, ⟨by omega, by omega⟩, ?_⟩
      conv => whnf
      refine ⟨_, ⟨rfl, hc⟩, ?_⟩
      repeat ((conv => whnf); first | refine ⟨Eq.refl _, ?_⟩ | refine ⟨⟨Eq.refl _, Eq.refl _⟩, ?_⟩ | refine ⟨⟨Eq.refl _, Eq.refl _, Eq.refl _⟩, ?_⟩ | refine ⟨⟨Eq.refl _, Eq.refl _, Eq.refl _, Eq.refl _⟩, ?_⟩ | refine ⟨⟨Eq.refl _, Eq.refl _, Eq.refl _, Eq.refl _, Eq.refl _⟩, ?_⟩ | refine fun (_ : Nat) => ?_ | refine fun (_ : Option Addr) (_ : Nat) => ?_ | fail)
      conv => whnf
      refine .inl ⟨_, ok_Name _ _, ?_⟩
      conv => whnf
      refine ⟨fun hn => ?_, fun hn => ?_⟩
      · conv => whnf
        intro g2 hg
        rw [hit (3, k) (by rw [clusterF, if_neg (by simp [nb1 hn])])]; rfl
      have hn := nb0 hn
      repeat ((conv => whnf); first | refine ⟨Eq.refl _, ?_⟩ | refine ⟨⟨Eq.refl _, Eq.refl _⟩, ?_⟩ | refine ⟨⟨Eq.refl _, Eq.refl _, Eq.refl _⟩, ?_⟩ | refine ⟨⟨Eq.refl _, Eq.refl _, Eq.refl _, Eq.refl _⟩, ?_⟩ | refine ⟨⟨Eq.refl _, Eq.refl _, Eq.refl _, Eq.refl _, Eq.refl _⟩, ?_⟩ | refine fun (_ : Nat) => ?_ | refine fun (_ : Option Addr) (_ : Nat) => ?_ | fail)
      conv => whnf
      refine ⟨⟨by omega, by omega⟩, ?_⟩
      repeat ((conv => whnf); first | refine ⟨Eq.refl _, ?_⟩ | refine ⟨⟨Eq.refl _, Eq.refl _⟩, ?_⟩ | refine ⟨⟨Eq.refl _, Eq.refl _, Eq.refl _⟩, ?_⟩ | refine ⟨⟨Eq.refl _, Eq.refl _, Eq.refl _, Eq.refl _⟩, ?_⟩ | refine ⟨⟨Eq.refl _, Eq.refl _, Eq.refl _, Eq.refl _, Eq.refl _⟩, ?_⟩ | refine fun (_ : Nat) => ?_ | refine fun (_ : Option Addr) (_ : Nat) => ?_ | fail)
      conv => whnf
      refine .inl ⟨_, ok_named _ (hk.take (Nat.le_of_lt h')) _, ?_⟩
      conv => whnf
      refine ⟨fun hs => ?_, fun hs => ?_⟩
      · conv => whnf
        intro g2 hg
        rw [hit (4, k) (by rw [clusterF, if_pos hn, if_pos hs])]; rfl
      have hp9 : ¬(x.policy = 1 ∨ x.policy = 2) → clusterF c.clusters k x = some (9, (k : Int)) := fun h => by rw [clusterF, if_pos hn, if_neg (by simp [hs]), if_neg h]
      have hp10 : (x.policy = 1 ∨ x.policy = 2) → ¬(1 ≤ x.slots ∧ x.slots ≤ 4) → clusterF c.clusters k x = some (10, (k : Int)) := fun h h2 => by rw [clusterF, if_pos hn, if_neg (by simp [hs]), if_pos h, if_neg h2]
      have hp6 : (x.policy = 1 ∨ x.policy = 2) → (1 ≤ x.slots ∧ x.slots ≤ 4) → ¬(1 ≤ x.health.length ∧ x.health.length ≤ 4) → clusterF c.clusters k x = some (6, (k : Int)) := fun h h2 h3 => by rw [clusterF, if_pos hn, if_neg (by simp [hs]), if_pos h, if_pos h2, if_neg h3]
      have hp0 : (x.policy = 1 ∨ x.policy = 2) → (1 ≤ x.slots ∧ x.slots ≤ 4) → (1 ≤ x.health.length ∧ x.health.length ≤ 4) → clusterF c.clusters k x = none := fun h h2 h3 => by rw [clusterF, if_pos hn, if_neg (by simp [hs]), if_pos h, if_pos h2, if_pos h3]
      have hpn := fun e => hp.succ hx e
      clear hlt hp
      repeat' ((conv => whnf); first | refine ⟨Eq.refl _, ?_⟩ | refine ⟨⟨Eq.refl _, Eq.refl _⟩, ?_⟩ | refine ⟨⟨Eq.refl _, Eq.refl _, Eq.refl _⟩, ?_⟩ | refine ⟨⟨Eq.refl _, Eq.refl _, Eq.refl _, Eq.refl _⟩, ?_⟩ | refine ⟨⟨Eq.refl _, Eq.refl _, Eq.refl _, Eq.refl _, Eq.refl _⟩, ?_⟩ | refine fun (_ : Nat) => ?_ | refine fun (_ : Option Addr) (_ : Nat) => ?_ | refine .inl ⟨_, ok_within _ _ _ _, ?_⟩ | refine ⟨fun _ => ?_, fun _ => ?_⟩ | fail)
      all_goals (conv => whnf)
      all_goals (try simp only [bne_iff_ne, ne_eq, bne_eq_false_iff_eq, Bool.not_eq_true', Bool.not_eq_false', Bool.and_eq_true, Bool.and_eq_false_iff, decide_eq_true_eq, decide_eq_false_iff_not] at *)
      all_goals first
        | (intro g2 hg; rw [hit (9, k) (hp9 (by omega))]; rfl; done)
        | (intro g2 hg; rw [hit (10, k) (hp10 (by omega) (by omega))]; rfl; done)
        | (intro g2 hg; rw [hit (6, k) (hp6 (by omega) (by omega) (by omega))]; rfl; done)
        | refine fun fr w hw => ⟨k + 1, congrArg (fun z => [Value.int .i64 z]) (wr1 h' d1 d2).symm, ⟨h', hpn (hp0 (by omega) (by omega) (by omega))⟩, dec h', ?_⟩
      all_goals (exact hw.fit (by simp [fitL, Res.eqv, concL, conc]))
    · conv => whnf
      intro g2 hg
      have := of_decide_eq_false hlt
      rw [show clustersE c = none from hp.done (by omega)]; rfl)

end Go.Proofs.Ytedjbhpocedagaa
