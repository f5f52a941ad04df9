/- Snapshots: what is built, and their configurations: the program's and the document's answers. -/
import Derived.Test.YtedjbhpocedagaaK5d
import Derived.Test.YtedjbhpocedagaaR6
import Derived.Test.YtedjbhpocedagaaD3
import Derived.Test.YtedjbhpocedagaaP7
namespace Go.Proofs.Ytedjbhpocedagaa
open Go.Proofs.Ytedjbhpocedagaa.Sx Go.RowKit
def tS : List (Nat × FnI) := [(n_snap_place_string, f_snap_place_string), (n_snap_listener_1, f_snap_listener_1)]
theorem tS_ok : TblOk Try.prog tS := by
  intro x hx
  simp only [tS, List.mem_cons, List.not_mem_nil, or_false] at hx
  rcases hx with rfl | rfl
  · exact ⟨_, _, t_snap_place_string⟩
  · exact ⟨_, _, t_snap_listener_1⟩
def tK : List (Nat × FnI) := [(n_snap_place_api_Cluster, f_snap_place_api_Cluster), (n_snap_cluster_1, f_snap_cluster_1)]
theorem tK_ok : TblOk Try.prog tK := by
  intro x hx
  simp only [tK, List.mem_cons, List.not_mem_nil, or_false] at hx
  rcases hx with rfl | rfl
  · exact ⟨_, _, t_snap_place_api_Cluster⟩
  · exact ⟨_, _, t_snap_cluster_1⟩
theorem ok_listener (g : GW) {v : Value} {l : List BA} (hl : rSl 1 rStr g v l) (s : BA) : OkV Try.prog n_snap_listener [v, .string s] g (.int .i64 (idxI (idxO (fun x => bs x == bs s) l))) :=
  Ok.of_fn hm tS_ok 2 t_snap_listener (args := [.v v, .v (.string s)]) (by
    obtain ⟨oa, cap, rfl, h1, h2, h0, hr⟩ := hl
    repeat ((conv => whnf); first | refine ⟨Eq.refl _, ?_⟩ | refine ⟨⟨Eq.refl _, Eq.refl _⟩, ?_⟩ | refine ⟨⟨Eq.refl _, Eq.refl _, Eq.refl _⟩, ?_⟩ | refine ⟨⟨Eq.refl _, Eq.refl _, Eq.refl _, Eq.refl _⟩, ?_⟩ | refine ⟨⟨Eq.refl _, Eq.refl _, Eq.refl _, Eq.refl _, Eq.refl _⟩, ?_⟩ | refine fun (_ : Nat) => ?_ | refine fun (_ : Option Addr) (_ : Nat) => ?_ | fail)
    conv => whnf
    refine ⟨Nat, fun k => [.v (.int .i64 k)], fun k => ⟨g, [.blk 0 _ _ [.v (.string s)]], _, _⟩, fun k => k ≤ l.length ∧ Pass (idxF fun x => bs x == bs s) l k, fun k => l.length - k, loop_here 0 rfl ⟨Nat.zero_le _, Pass.zero _ _⟩ rfl, ?_⟩
    rintro k ⟨hk, hp⟩
    conv => whnf
    refine ⟨fun hlt => ?_, fun hlt => ?_⟩
    · have h' : k < l.length := by have := of_decide_eq_true hlt; omega
      obtain ⟨x, hx⟩ := getL_of h'
      obtain ⟨a, rfl, ec, hec, rfl, hc⟩ := hr k x hx
      conv => whnf
      refine ⟨a, rfl, ⟨by omega, by omega⟩, ?_⟩
      conv => whnf
      refine ⟨_, hc 0 _ rfl, ?_⟩
      conv => whnf
      refine ⟨k_snap_listener_1, ?_⟩
      repeat ((conv => whnf); first | refine ⟨Eq.refl _, ?_⟩ | refine ⟨⟨Eq.refl _, Eq.refl _⟩, ?_⟩ | refine ⟨⟨Eq.refl _, Eq.refl _, Eq.refl _⟩, ?_⟩ | refine ⟨⟨Eq.refl _, Eq.refl _, Eq.refl _, Eq.refl _⟩, ?_⟩ | refine ⟨⟨Eq.refl _, Eq.refl _, Eq.refl _, Eq.refl _, Eq.refl _⟩, ?_⟩ | refine fun (_ : Nat) => ?_ | refine fun (_ : Option Addr) (_ : Nat) => ?_ | fail)
      conv => whnf
      refine ⟨fun he => ?_, fun he => ?_⟩
      · conv => whnf
        intro g2 hg
        rw [idxO_hit hp hx he]
      · conv => whnf
        refine fun fr w hw => ⟨k + 1, congrArg (fun z => [Value.int .i64 z]) (wr1 h' h1 h2).symm, ⟨h', idx_next hp hx he⟩, dec h', ?_⟩
        exact hw.fit (by simp [fitL, Res.eqv, concL, conc])
    · conv => whnf
      intro g2 hg
      have := of_decide_eq_false hlt
      rw [idxO_miss hp (by omega)])
theorem ok_scluster (g : GW) {v : Value} {l : List Cluster} (hl : rSl 4 rCluster g v l) (s : BA) : OkV Try.prog n_snap_cluster [v, .string s] g (.int .i64 (idxI (idxO (fun (x : Cluster) => bs x.name == bs s) l))) :=
  Ok.of_fn hm tK_ok 2 t_snap_cluster (args := [.v v, .v (.string s)]) (by
    obtain ⟨oa, cap, rfl, h1, h2, h0, hr⟩ := hl
    repeat ((conv => whnf); first | refine ⟨Eq.refl _, ?_⟩ | refine ⟨⟨Eq.refl _, Eq.refl _⟩, ?_⟩ | refine ⟨⟨Eq.refl _, Eq.refl _, Eq.refl _⟩, ?_⟩ | refine ⟨⟨Eq.refl _, Eq.refl _, Eq.refl _, Eq.refl _⟩, ?_⟩ | refine ⟨⟨Eq.refl _, Eq.refl _, Eq.refl _, Eq.refl _, Eq.refl _⟩, ?_⟩ | refine fun (_ : Nat) => ?_ | refine fun (_ : Option Addr) (_ : Nat) => ?_ | fail)
    conv => whnf
    refine ⟨Nat, fun k => [.v (.int .i64 k)], fun k => ⟨g, [.blk 0 _ _ [.v (.string s)]], _, _⟩, fun k => k ≤ l.length ∧ Pass (idxF fun (x : Cluster) => bs x.name == bs s) l k, fun k => l.length - k, loop_here 0 rfl ⟨Nat.zero_le _, Pass.zero _ _⟩ rfl, ?_⟩
    rintro k ⟨hk, hp⟩
    conv => whnf
    refine ⟨fun hlt => ?_, fun hlt => ?_⟩
    · have h' : k < l.length := by have := of_decide_eq_true hlt; omega
      obtain ⟨x, hx⟩ := getL_of h'
      obtain ⟨a, rfl, ec, hec, ⟨hv, rfl, _, _, _, _, rfl, _⟩, hc⟩ := hr k x hx
      conv => whnf
      refine ⟨a, rfl, ⟨by omega, by omega⟩, ?_⟩
      conv => whnf
      refine ⟨_, ⟨rfl, hc⟩, ?_⟩
      repeat ((conv => whnf); first | refine ⟨Eq.refl _, ?_⟩ | refine ⟨⟨Eq.refl _, Eq.refl _⟩, ?_⟩ | refine ⟨⟨Eq.refl _, Eq.refl _, Eq.refl _⟩, ?_⟩ | refine ⟨⟨Eq.refl _, Eq.refl _, Eq.refl _, Eq.refl _⟩, ?_⟩ | refine ⟨⟨Eq.refl _, Eq.refl _, Eq.refl _, Eq.refl _, Eq.refl _⟩, ?_⟩ | refine fun (_ : Nat) => ?_ | refine fun (_ : Option Addr) (_ : Nat) => ?_ | fail)
      conv => whnf
      refine ⟨k_snap_cluster_1, ?_⟩
      repeat ((conv => whnf); first | refine ⟨Eq.refl _, ?_⟩ | refine ⟨⟨Eq.refl _, Eq.refl _⟩, ?_⟩ | refine ⟨⟨Eq.refl _, Eq.refl _, Eq.refl _⟩, ?_⟩ | refine ⟨⟨Eq.refl _, Eq.refl _, Eq.refl _, Eq.refl _⟩, ?_⟩ | refine ⟨⟨Eq.refl _, Eq.refl _, Eq.refl _, Eq.refl _, Eq.refl _⟩, ?_⟩ | refine fun (_ : Nat) => ?_ | refine fun (_ : Option Addr) (_ : Nat) => ?_ | fail)
      conv => whnf
      refine ⟨fun he => ?_, fun he => ?_⟩
      · conv => whnf
        intro g2 hg
        rw [idxO_hit hp hx he]
      · conv => whnf
        refine fun fr w hw => ⟨k + 1, congrArg (fun z => [Value.int .i64 z]) (wr1 h' h1 h2).symm, ⟨h', idx_next hp hx he⟩, dec h', ?_⟩
        exact hw.fit (by simp [fitL, Res.eqv, concL, conc])
    · conv => whnf
      intro g2 hg
      have := of_decide_eq_false hlt
      rw [idxO_miss hp (by omega)])
theorem idx_inr {α : Type} {f : α → Bool} {l : List α} (h : l.length ≤ maxLen) : InR (idxI (idxO f l)) := by
  unfold maxLen at h
  cases hi : idxO f l with
  | none => exact ⟨by decide, by decide⟩
  | some i => have := idxO_lt hi; exact ⟨by simp only [idxI]; omega, by simp only [idxI]; omega⟩
theorem take_map {α β : Type} {l : List α} {f : α → List β} {k : Nat} {x : α} (hx : l[k]? = some x) : ((l.take (k + 1)).map f).flatten = ((l.take k).map f).flatten ++ f x := by
  obtain ⟨h1, h2⟩ := List.getElem?_eq_some_iff.1 hx
  rw [List.take_succ_eq_append_getElem h1, h2]; simp
def BuildP (g : GW) (c : Config) (a d v : Value) (g' : GW) : Prop :=
  (checkE c = none ∧ ∃ oa n cap, v = .tuple #[.agg ⟨[a, .slice oa n cap, d]⟩, .int .i64 0, .int .i64 0] ∧ rSl 4 rRule g' (.slice oa n cap) (builtS c).rules ∧ ∀ x, oa = some x → ¬ g.g x.block) ∨
  ∃ e i, checkE c = some (e, i) ∧ v = .tuple #[.agg ⟨[.slice none 0 0, .slice none 0 0, .slice none 0 0]⟩, .int .i64 e, .int .i64 i]
abbrev cRul (c : Config) (r : Route) : List Value := cRule (ruleOf c r)
theorem ok_Build (g : GW) {a b d : Value} {c : Config} (hc : rConfig g [a, b, d] c) : Ok Try.prog n_snap_Build [.agg ⟨[a, b, d]⟩] g (BuildP g c a d) := by
  have hc0 := hc
  obtain ⟨_, _, _, he, hl, hr, hk⟩ := hc
  cases he
  obtain ⟨oa, ca, rfl, a1, a2, a0, hl1⟩ := id hl
  obtain ⟨ob, cb, rfl, b1, b2, b0, hr1⟩ := id hr
  obtain ⟨od, cd, rfl, d1, d2, d0, hk1⟩ := id hk
  exact Ok.of_fn hm noT 0 t_snap_Build (args := [.v (.agg ⟨[.slice oa c.listens.length ca, .slice ob c.routes.length cb, .slice od c.clusters.length cd]⟩)]) (by
    rcases ei_val (checkE c) with ⟨hz, hv⟩ | ⟨e, i, hz, hv⟩
    rotate_left
    · have hne := checkE_ne hz
      repeat ((conv => whnf); first | refine ⟨Eq.refl _, ?_⟩ | refine ⟨⟨Eq.refl _, Eq.refl _⟩, ?_⟩ | refine ⟨⟨Eq.refl _, Eq.refl _, Eq.refl _⟩, ?_⟩ | refine ⟨⟨Eq.refl _, Eq.refl _, Eq.refl _, Eq.refl _⟩, ?_⟩ | refine ⟨⟨Eq.refl _, Eq.refl _, Eq.refl _, Eq.refl _, Eq.refl _⟩, ?_⟩ | refine fun (_ : Nat) => ?_ | refine fun (_ : Option Addr) (_ : Nat) => ?_ | fail)
      conv => whnf
      refine .inl ⟨_, (ok_Check _ hc0).to hv, ?_⟩
      conv => whnf
      refine ⟨fun _ => ?_, fun hx => absurd hx (by simp; omega)⟩
      repeat ((conv => whnf); first | refine ⟨Eq.refl _, ?_⟩ | refine ⟨⟨Eq.refl _, Eq.refl _⟩, ?_⟩ | refine ⟨⟨Eq.refl _, Eq.refl _, Eq.refl _⟩, ?_⟩ | refine ⟨⟨Eq.refl _, Eq.refl _, Eq.refl _, Eq.refl _⟩, ?_⟩ | refine ⟨⟨Eq.refl _, Eq.refl _, Eq.refl _, Eq.refl _, Eq.refl _⟩, ?_⟩ | refine fun (_ : Nat) => ?_ | refine fun (_ : Option Addr) (_ : Nat) => ?_ | fail)
      conv => whnf
      intro g2 hg
      exact .inr ⟨e, i, hz, rfl⟩
    have G := good_iff.1 hz
    have hsz := G.size
    repeat ((conv => whnf); first | refine ⟨Eq.refl _, ?_⟩ | refine ⟨⟨Eq.refl _, Eq.refl _⟩, ?_⟩ | refine ⟨⟨Eq.refl _, Eq.refl _, Eq.refl _⟩, ?_⟩ | refine ⟨⟨Eq.refl _, Eq.refl _, Eq.refl _, Eq.refl _⟩, ?_⟩ | refine ⟨⟨Eq.refl _, Eq.refl _, Eq.refl _, Eq.refl _, Eq.refl _⟩, ?_⟩ | refine fun (_ : Nat) => ?_ | refine fun (_ : Option Addr) (_ : Nat) => ?_ | fail)
    conv => whnf
    refine .inl ⟨_, (ok_Check _ hc0).to hv, ?_⟩
    conv => whnf
    refine ⟨fun h => (nomatch h), fun _ => ?_⟩
    repeat ((conv => whnf); first | refine ⟨Eq.refl _, ?_⟩ | refine ⟨⟨Eq.refl _, Eq.refl _⟩, ?_⟩ | refine ⟨⟨Eq.refl _, Eq.refl _, Eq.refl _⟩, ?_⟩ | refine ⟨⟨Eq.refl _, Eq.refl _, Eq.refl _, Eq.refl _⟩, ?_⟩ | refine ⟨⟨Eq.refl _, Eq.refl _, Eq.refl _, Eq.refl _, Eq.refl _⟩, ?_⟩ | refine fun (_ : Nat) => ?_ | refine fun (_ : Option Addr) (_ : Nat) => ?_ | fail)
    rename_i p0 p1 _ p2
    conv => whnf
    refine ⟨Nat × Option Addr × Nat, fun (k, _, _) => [.v (.int .i64 k)], fun (k, oR, cR) => ⟨g, [.row 10 oR k cR ty_api_Rule 4 ((c.routes.take k).map (cRul c)).flatten, .blk 2 p2 ty_api_Snap [.v (.slice oa c.listens.length ca), .row 10 oR k cR, .v (.slice od c.clusters.length cd)], .blk 1 p1 ty_api_Snap [.v (.slice none 0 0), .v (.slice none 0 0), .v (.slice none 0 0)], .blk 0 p0 ty_api_Config [.v (.slice oa c.listens.length ca), .v (.slice ob c.routes.length cb), .v (.slice od c.clusters.length cd)]], 40, g.w.heap.size⟩, fun (k, _, _) => k ≤ c.routes.length, fun (k, _, _) => c.routes.length - k, ?_, ?_⟩
    · intro fr w hw
      exact ⟨(0, none, 0), rfl, Nat.zero_le _, (hw.nil_row (nx' := 40) 10 ty_api_Rule 4).fit (by simp [fitL, Res.eqv, concL, conc])⟩
    rintro ⟨k, oR, cR⟩ hkk
    have hkk : k ≤ c.routes.length := hkk
    repeat ((conv => whnf); first | refine ⟨Eq.refl _, ?_⟩ | refine ⟨⟨Eq.refl _, Eq.refl _⟩, ?_⟩ | refine ⟨⟨Eq.refl _, Eq.refl _, Eq.refl _⟩, ?_⟩ | refine ⟨⟨Eq.refl _, Eq.refl _, Eq.refl _, Eq.refl _⟩, ?_⟩ | refine ⟨⟨Eq.refl _, Eq.refl _, Eq.refl _, Eq.refl _, Eq.refl _⟩, ?_⟩ | refine fun (_ : Nat) => ?_ | refine fun (_ : Option Addr) (_ : Nat) => ?_ | fail)
    conv => whnf
    refine ⟨fun hlt => ?_, fun hlt => ?_⟩
    · have h' : k < c.routes.length := by have := of_decide_eq_true hlt; omega
      obtain ⟨x, hx⟩ := getL_of h'
      obtain ⟨a, rfl, ec, hec, rfl, hc⟩ := hr1 k x hx
      have hT := take_map (f := cRul c) hx
      repeat ((conv => whnf); first | refine ⟨Eq.refl _, ?_⟩ | refine ⟨⟨Eq.refl _, Eq.refl _⟩, ?_⟩ | refine ⟨⟨Eq.refl _, Eq.refl _, Eq.refl _⟩, ?_⟩ | refine ⟨⟨Eq.refl _, Eq.refl _, Eq.refl _, Eq.refl _⟩, ?_⟩ | refine ⟨⟨Eq.refl _, Eq.refl _, Eq.refl _, Eq.refl _, Eq.refl _⟩, ?_⟩ | refine fun (_ : Nat) => ?_ | refine fun (_ : Option Addr) (_ : Nat) => ?_ | fail)
      conv => whnf
      refine ⟨a, rfl, ⟨by omega, by omega⟩, ?_⟩
      conv => whnf
      refine ⟨_, ⟨rfl, hc⟩, ?_⟩
      repeat ((conv => whnf); first | refine ⟨Eq.refl _, ?_⟩ | refine ⟨⟨Eq.refl _, Eq.refl _⟩, ?_⟩ | refine ⟨⟨Eq.refl _, Eq.refl _, Eq.refl _⟩, ?_⟩ | refine ⟨⟨Eq.refl _, Eq.refl _, Eq.refl _, Eq.refl _⟩, ?_⟩ | refine ⟨⟨Eq.refl _, Eq.refl _, Eq.refl _, Eq.refl _, Eq.refl _⟩, ?_⟩ | refine fun (_ : Nat) => ?_ | refine fun (_ : Option Addr) (_ : Nat) => ?_ | fail)
      conv => whnf
      refine .inl ⟨_, ok_listener _ hl _, ?_⟩
      repeat ((conv => whnf); first | refine ⟨Eq.refl _, ?_⟩ | refine ⟨⟨Eq.refl _, Eq.refl _⟩, ?_⟩ | refine ⟨⟨Eq.refl _, Eq.refl _, Eq.refl _⟩, ?_⟩ | refine ⟨⟨Eq.refl _, Eq.refl _, Eq.refl _, Eq.refl _⟩, ?_⟩ | refine ⟨⟨Eq.refl _, Eq.refl _, Eq.refl _, Eq.refl _, Eq.refl _⟩, ?_⟩ | refine fun (_ : Nat) => ?_ | refine fun (_ : Option Addr) (_ : Nat) => ?_ | fail)
      conv => whnf
      refine .inl ⟨_, ok_scluster _ hk _, ?_⟩
      repeat ((conv => whnf); first | refine ⟨Eq.refl _, ?_⟩ | refine ⟨⟨Eq.refl _, Eq.refl _⟩, ?_⟩ | refine ⟨⟨Eq.refl _, Eq.refl _, Eq.refl _⟩, ?_⟩ | refine ⟨⟨Eq.refl _, Eq.refl _, Eq.refl _, Eq.refl _⟩, ?_⟩ | refine ⟨⟨Eq.refl _, Eq.refl _, Eq.refl _, Eq.refl _, Eq.refl _⟩, ?_⟩ | refine fun (_ : Nat) => ?_ | refine fun (_ : Option Addr) (_ : Nat) => ?_ | fail)
      conv => whnf
      refine ⟨⟨by unfold maxLen; omega, by omega⟩, fun oa2 cap2 => ?_⟩
      repeat ((conv => whnf); first | refine ⟨Eq.refl _, ?_⟩ | refine ⟨⟨Eq.refl _, Eq.refl _⟩, ?_⟩ | refine ⟨⟨Eq.refl _, Eq.refl _, Eq.refl _⟩, ?_⟩ | refine ⟨⟨Eq.refl _, Eq.refl _, Eq.refl _, Eq.refl _⟩, ?_⟩ | refine ⟨⟨Eq.refl _, Eq.refl _, Eq.refl _, Eq.refl _, Eq.refl _⟩, ?_⟩ | refine fun (_ : Nat) => ?_ | refine fun (_ : Option Addr) (_ : Nat) => ?_ | fail)
      conv => whnf
      refine fun fr w hw => ⟨(k + 1, oa2, cap2), congrArg (fun z => [Value.int .i64 z]) (wr1 h' b1 b2).symm, h', dec h', hw.fit ?_⟩
      simp only [hT]
      simp [fitL, Res.eqv, concL, conc, ruleOf]
    have hz1 : k = c.routes.length := by have := of_decide_eq_false hlt; omega
    subst hz1
    repeat ((conv => whnf); first | refine ⟨Eq.refl _, ?_⟩ | refine ⟨⟨Eq.refl _, Eq.refl _⟩, ?_⟩ | refine ⟨⟨Eq.refl _, Eq.refl _, Eq.refl _⟩, ?_⟩ | refine ⟨⟨Eq.refl _, Eq.refl _, Eq.refl _, Eq.refl _⟩, ?_⟩ | refine ⟨⟨Eq.refl _, Eq.refl _, Eq.refl _, Eq.refl _, Eq.refl _⟩, ?_⟩ | refine fun (_ : Nat) => ?_ | refine fun (_ : Option Addr) (_ : Nat) => ?_ | fail)
    conv => whnf
    refine fun g1 hg1 hn1 hp1 => ?_
    conv => whnf
    intro g2 hg
    refine .inl ⟨hz, _, _, _, rfl, ?_, fun x hx hg => hn1 x hx hg⟩
    refine ((rSl_ofE hp1.rd (builtS c).rules cRule ?_ (by simp [builtS]) (fun _ _ => rfl) fun r hr => ?_).mono rRule_mono hg)
    · rw [List.take_of_length_le (Nat.le_refl _)]; simp [builtS, List.map_map, Function.comp_def]
    · obtain ⟨q, _, rfl⟩ := List.mem_map.1 hr
      exact ⟨rfl, idx_inr (by omega), idx_inr (by omega)⟩)
end Go.Proofs.Ytedjbhpocedagaa
