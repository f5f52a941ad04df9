/- Whether a configuration may be: the routes, and the whole. -/
import Derived.Test.YtedjbhpocedagaaK5
namespace Go.Proofs.Ytedjbhpocedagaa
open Go.Proofs.Ytedjbhpocedagaa.Sx
theorem ok_croutes (g : GW) {cs : List Value} {c : Config} (hc : rConfig g cs c) : OkV Try.prog n_config_checker__routes [.agg ⟨cs⟩] g (eiT (routesE c)) := by
  obtain ⟨a, b, d, rfl, hl, hr, hk⟩ := hc
  obtain ⟨oa, ca, rfl, a1, a2, a0, hl1⟩ := id hl
  obtain ⟨ob, cb, rfl, b1, b2, b0, hr1⟩ := id hr
  obtain ⟨od, cd, rfl, d1, d2, d0, hk1⟩ := id hk
  exact Ok.of_fn hm noT 0 t_config_checker__routes (args := [.v (.agg ⟨[.slice oa c.listens.length ca, .slice ob c.routes.length cb, .slice od c.clusters.length cd]⟩)]) (by
    repeat ((conv => whnf); first | refine ⟨Eq.refl _, ?_⟩ | refine ⟨⟨Eq.refl _, Eq.refl _⟩, ?_⟩ | refine ⟨⟨Eq.refl _, Eq.refl _, Eq.refl _⟩, ?_⟩ | refine ⟨⟨Eq.refl _, Eq.refl _, Eq.refl _, Eq.refl _⟩, ?_⟩ | refine ⟨⟨Eq.refl _, Eq.refl _, Eq.refl _, Eq.refl _, Eq.refl _⟩, ?_⟩ | refine fun (_ : Nat) => ?_ | refine fun (_ : Option Addr) (_ : Nat) => ?_ | fail)
    conv => whnf
    refine ⟨Nat, fun k => [.v (.int .i64 k)], fun k => ⟨g, [.blk 0 _ _ [.v (.slice oa c.listens.length ca), .v (.slice ob c.routes.length cb), .v (.slice od c.clusters.length cd)]], _, _⟩, fun k => k ≤ c.routes.length ∧ Pass (routeF c) c.routes k, fun k => c.routes.length - k, loop_here 0 rfl ⟨Nat.zero_le _, Pass.zero _ _⟩ rfl, ?_⟩
    rintro k ⟨hkk, hp⟩
    conv => whnf
    refine ⟨fun hlt => ?_, fun hlt => ?_⟩
    · have h' : k < c.routes.length := by have := of_decide_eq_true hlt; omega
      obtain ⟨x, hx⟩ := getL_of h'
      obtain ⟨a, rfl, ec, hec, rfl, hc⟩ := hr1 k x hx
      have hit : ∀ e : EI, routeF c k x = some e → routesE c = some e := fun e he => hp.hit hx he
      conv => whnf
      refine ⟨a, rfl, ⟨by omega, by omega⟩, ?_⟩
      conv => whnf
      refine ⟨_, ⟨rfl, hc⟩, ?_⟩
      repeat ((conv => whnf); first | refine ⟨Eq.refl _, ?_⟩ | refine ⟨⟨Eq.refl _, Eq.refl _⟩, ?_⟩ | refine ⟨⟨Eq.refl _, Eq.refl _, Eq.refl _⟩, ?_⟩ | refine ⟨⟨Eq.refl _, Eq.refl _, Eq.refl _, Eq.refl _⟩, ?_⟩ | refine ⟨⟨Eq.refl _, Eq.refl _, Eq.refl _, Eq.refl _, Eq.refl _⟩, ?_⟩ | refine fun (_ : Nat) => ?_ | refine fun (_ : Option Addr) (_ : Nat) => ?_ | fail)
      conv => whnf
      refine .inl ⟨_, ok_Contains _ hl _, ?_⟩
      conv => whnf
      refine ⟨fun h1 => ?_, fun h1 => ?_⟩
      · conv => whnf
        intro g2 hg
        rw [hit (5, k) (by rw [routeF, if_neg (by simp [nb1 h1])])]; rfl
      have h1 := nb0 h1
      repeat ((conv => whnf); first | refine ⟨Eq.refl _, ?_⟩ | refine ⟨⟨Eq.refl _, Eq.refl _⟩, ?_⟩ | refine ⟨⟨Eq.refl _, Eq.refl _, Eq.refl _⟩, ?_⟩ | refine ⟨⟨Eq.refl _, Eq.refl _, Eq.refl _, Eq.refl _⟩, ?_⟩ | refine ⟨⟨Eq.refl _, Eq.refl _, Eq.refl _, Eq.refl _, Eq.refl _⟩, ?_⟩ | refine fun (_ : Nat) => ?_ | refine fun (_ : Option Addr) (_ : Nat) => ?_ | fail)
      conv => whnf
      refine .inl ⟨_, ok_Pattern _ _, ?_⟩
      conv => whnf
      refine ⟨fun h2 => ?_, fun h2 => ?_⟩
      · conv => whnf
        intro g2 hg
        rw [hit (7, k) (by rw [routeF, if_pos h1, if_neg (by simp [nb1 h2])])]; rfl
      have h2 := nb0 h2
      repeat ((conv => whnf); first | refine ⟨Eq.refl _, ?_⟩ | refine ⟨⟨Eq.refl _, Eq.refl _⟩, ?_⟩ | refine ⟨⟨Eq.refl _, Eq.refl _, Eq.refl _⟩, ?_⟩ | refine ⟨⟨Eq.refl _, Eq.refl _, Eq.refl _, Eq.refl _⟩, ?_⟩ | refine ⟨⟨Eq.refl _, Eq.refl _, Eq.refl _, Eq.refl _, Eq.refl _⟩, ?_⟩ | refine fun (_ : Nat) => ?_ | refine fun (_ : Option Addr) (_ : Nat) => ?_ | fail)
      conv => whnf
      refine .inl ⟨_, ok_Path _ _, ?_⟩
      conv => whnf
      refine ⟨fun h3 => ?_, fun h3 => ?_⟩
      · conv => whnf
        intro g2 hg
        rw [hit (8, k) (by rw [routeF, if_pos h1, if_pos h2, if_neg (by simp [nb1 h3])])]; rfl
      have h3 := nb0 h3
      repeat ((conv => whnf); first | refine ⟨Eq.refl _, ?_⟩ | refine ⟨⟨Eq.refl _, Eq.refl _⟩, ?_⟩ | refine ⟨⟨Eq.refl _, Eq.refl _, Eq.refl _⟩, ?_⟩ | refine ⟨⟨Eq.refl _, Eq.refl _, Eq.refl _, Eq.refl _⟩, ?_⟩ | refine ⟨⟨Eq.refl _, Eq.refl _, Eq.refl _, Eq.refl _, Eq.refl _⟩, ?_⟩ | refine fun (_ : Nat) => ?_ | refine fun (_ : Option Addr) (_ : Nat) => ?_ | fail)
      conv => whnf
      refine .inl ⟨_, ok_named _ hk _, ?_⟩
      conv => whnf
      refine ⟨fun h4 => ?_, fun h4 => ?_⟩
      · conv => whnf
        intro g2 hg
        rw [hit (5, k) (by rw [routeF, if_pos h1, if_pos h2, if_pos h3, if_neg (by simp [nb1 h4])])]; rfl
      have h4 := nb0 h4
      repeat ((conv => whnf); first | refine ⟨Eq.refl _, ?_⟩ | refine ⟨⟨Eq.refl _, Eq.refl _⟩, ?_⟩ | refine ⟨⟨Eq.refl _, Eq.refl _, Eq.refl _⟩, ?_⟩ | refine ⟨⟨Eq.refl _, Eq.refl _, Eq.refl _, Eq.refl _⟩, ?_⟩ | refine ⟨⟨Eq.refl _, Eq.refl _, Eq.refl _, Eq.refl _, Eq.refl _⟩, ?_⟩ | refine fun (_ : Nat) => ?_ | refine fun (_ : Option Addr) (_ : Nat) => ?_ | fail)
      conv => whnf
      refine ⟨⟨by omega, by omega⟩, ?_⟩
      repeat ((conv => whnf); first | refine ⟨Eq.refl _, ?_⟩ | refine ⟨⟨Eq.refl _, Eq.refl _⟩, ?_⟩ | refine ⟨⟨Eq.refl _, Eq.refl _, Eq.refl _⟩, ?_⟩ | refine ⟨⟨Eq.refl _, Eq.refl _, Eq.refl _, Eq.refl _⟩, ?_⟩ | refine ⟨⟨Eq.refl _, Eq.refl _, Eq.refl _, Eq.refl _, Eq.refl _⟩, ?_⟩ | refine fun (_ : Nat) => ?_ | refine fun (_ : Option Addr) (_ : Nat) => ?_ | fail)
      conv => whnf
      refine ⟨Nat, fun m => [.v (.int .i64 m)], fun m => ⟨g, [.blk 1 _ _ [.v (.string x.listen), .v (.string x.host), .v (.string x.path), .v (.string ⟨#[]⟩)], .blk 0 _ _ [.v (.slice oa c.listens.length ca), .v (.slice (some a) c.routes.length cb), .v (.slice od c.clusters.length cd)]], _, _⟩, fun m => m ≤ k ∧ (∀ j y, j < m → c.routes[j]? = some y → eqRt y x = false), fun m => k - m, loop_here 0 rfl ⟨Nat.zero_le _, fun j y hj => by omega⟩ rfl, ?_⟩
      rintro m ⟨hmk, hq⟩
      conv => whnf
      refine ⟨fun hml => ?_, fun hml => ?_⟩
      · have hm' : m < k := by have := of_decide_eq_true hml; simp at this; omega
        obtain ⟨y, hy⟩ := getL_of (show m < c.routes.length by omega)
        obtain ⟨a', ha', ecy, hecy, rfl, hcy⟩ := hr1 m y hy
        cases ha'
        conv => whnf
        refine ⟨a, rfl, ⟨by omega, by simp; omega⟩, ?_⟩
        conv => whnf
        refine ⟨_, ⟨rfl, hcy⟩, ?_⟩
        repeat ((conv => whnf); first | refine ⟨Eq.refl _, ?_⟩ | refine ⟨⟨Eq.refl _, Eq.refl _⟩, ?_⟩ | refine ⟨⟨Eq.refl _, Eq.refl _, Eq.refl _⟩, ?_⟩ | refine ⟨⟨Eq.refl _, Eq.refl _, Eq.refl _, Eq.refl _⟩, ?_⟩ | refine ⟨⟨Eq.refl _, Eq.refl _, Eq.refl _, Eq.refl _, Eq.refl _⟩, ?_⟩ | refine fun (_ : Nat) => ?_ | refine fun (_ : Option Addr) (_ : Nat) => ?_ | fail)
        conv => whnf
        refine ⟨fun he => ?_, fun he => ?_⟩
        · conv => whnf
          intro g2 hg
          have he : eqRt y x = true := by simpa [eqRt, Bool.and_assoc] using he
          rw [hit (4, k) (by rw [routeF, if_pos h1, if_pos h2, if_pos h3, if_pos h4, if_pos]; exact List.any_eq_true.2 ⟨y, List.mem_of_getElem? (show (c.routes.take k)[m]? = some y by rw [List.getElem?_take, if_pos hm']; exact hy), he⟩)]; rfl
        · conv => whnf
          refine fun fr w hw => ⟨m + 1, congrArg (fun z => [Value.int .i64 z]) (wr1 hm' (Nat.le_of_lt (Nat.lt_of_lt_of_le h' b1)) b2).symm, ⟨hm', ?_⟩, dec hm', ?_⟩
          · have he : eqRt y x = false := by simpa [eqRt, Bool.and_assoc] using he
            intro j z hj hz
            rcases Nat.lt_or_ge j m with c1 | c1
            · exact hq j z c1 hz
            · obtain rfl : j = m := by omega
              rw [hy] at hz; cases hz; exact he
          · exact hw.fit (by simp [fitL, Res.eqv, concL, conc])
      · conv => whnf
        refine fun fr w hw => ⟨k + 1, congrArg (fun z => [Value.int .i64 z]) (wr1 h' b1 b2).symm, ⟨h', hp.succ hx (by rw [routeF, if_pos h1, if_pos h2, if_pos h3, if_pos h4, if_neg]; have := of_decide_eq_false hml; rw [any_take.2 fun j y hj => hq j y (by omega)]; simp)⟩, dec h', ?_⟩
        exact hw.fit (by simp [fitL, Res.eqv, concL, conc])
    · conv => whnf
      intro g2 hg
      have := of_decide_eq_false hlt
      rw [show routesE c = none from hp.done (by omega)]; rfl)

theorem ei_val (o : Option EI) : (o = none ∧ eiT o = .tuple #[.int .i64 0, .int .i64 0]) ∨ ∃ e i, o = some (e, i) ∧ eiT o = .tuple #[.int .i64 e, .int .i64 i] := by
  cases o with
  | none => exact .inl ⟨rfl, rfl⟩
  | some x => exact .inr ⟨x.1, x.2, rfl, rfl⟩
theorem ok_Check (g : GW) {cs : List Value} {c : Config} (hc : rConfig g cs c) : OkV Try.prog n_config_Check [.agg ⟨cs⟩] g (eiT (checkE c)) := by
  have hc0 := hc
  obtain ⟨a, b, d, rfl, hl, hr, hk⟩ := hc
  obtain ⟨oa, ca, rfl, a1, a2, a0, hl1⟩ := id hl
  obtain ⟨ob, cb, rfl, b1, b2, b0, hr1⟩ := id hr
  obtain ⟨od, cd, rfl, d1, d2, d0, hk1⟩ := id hk
  exact Ok.of_fn hm noT 0 t_config_Check (args := [.v (.agg ⟨[.slice oa c.listens.length ca, .slice ob c.routes.length cb, .slice od c.clusters.length cd]⟩)]) (by
    repeat ((conv => whnf); first | refine ⟨Eq.refl _, ?_⟩ | refine ⟨⟨Eq.refl _, Eq.refl _⟩, ?_⟩ | refine ⟨⟨Eq.refl _, Eq.refl _, Eq.refl _⟩, ?_⟩ | refine ⟨⟨Eq.refl _, Eq.refl _, Eq.refl _, Eq.refl _⟩, ?_⟩ | refine ⟨⟨Eq.refl _, Eq.refl _, Eq.refl _, Eq.refl _, Eq.refl _⟩, ?_⟩ | refine fun (_ : Nat) => ?_ | refine fun (_ : Option Addr) (_ : Nat) => ?_ | fail)
    conv => whnf
    refine ⟨Nat, fun k => [.v (.int .i64 k)], fun _ => ⟨g, [.blk 2 _ _ [.fn (.func n_config_checker__size) [.agg [.v (.slice oa c.listens.length ca), .v (.slice ob c.routes.length cb), .v (.slice od c.clusters.length cd)]] [], .fn (.func n_config_checker__listens) [.agg [.v (.slice oa c.listens.length ca), .v (.slice ob c.routes.length cb), .v (.slice od c.clusters.length cd)]] [], .fn (.func n_config_checker__clusters) [.agg [.v (.slice oa c.listens.length ca), .v (.slice ob c.routes.length cb), .v (.slice od c.clusters.length cd)]] [], .fn (.func n_config_checker__routes) [.agg [.v (.slice oa c.listens.length ca), .v (.slice ob c.routes.length cb), .v (.slice od c.clusters.length cd)]] []], .blk 1 _ _ [.v (.slice oa c.listens.length ca), .v (.slice ob c.routes.length cb), .v (.slice od c.clusters.length cd)], .blk 0 _ _ [.v (.slice oa c.listens.length ca), .v (.slice ob c.routes.length cb), .v (.slice od c.clusters.length cd)]], _, _⟩, fun k => k ≤ 4 ∧ (1 ≤ k → sizeE c = none) ∧ (2 ≤ k → listensE c = none) ∧ (3 ≤ k → clustersE c = none) ∧ (4 ≤ k → routesE c = none), fun k => 4 - k, loop_here 0 rfl ⟨by omega, by omega, by omega, by omega, by omega⟩ rfl, ?_⟩
    rintro k ⟨hk4, j1, j2, j3, j4⟩
    obtain rfl | rfl | rfl | rfl | rfl : k = 0 ∨ k = 1 ∨ k = 2 ∨ k = 3 ∨ k = 4 := by omega
    · obtain ⟨h0, hv⟩ | ⟨e, i, h0, hv⟩ := ei_val (sizeE c)
      · conv => whnf
        refine ⟨fun _ => ?_, fun h => nomatch h⟩
        conv => whnf
        refine ⟨0, ⟨rfl, by decide⟩, ?_⟩
        repeat ((conv => whnf); first | refine ⟨Eq.refl _, ?_⟩ | refine ⟨⟨Eq.refl _, Eq.refl _⟩, ?_⟩ | refine ⟨⟨Eq.refl _, Eq.refl _, Eq.refl _⟩, ?_⟩ | refine ⟨⟨Eq.refl _, Eq.refl _, Eq.refl _, Eq.refl _⟩, ?_⟩ | refine ⟨⟨Eq.refl _, Eq.refl _, Eq.refl _, Eq.refl _, Eq.refl _⟩, ?_⟩ | refine fun (_ : Nat) => ?_ | refine fun (_ : Option Addr) (_ : Nat) => ?_ | fail)
        conv => whnf
        refine ⟨k_config_checker__size, ?_⟩
        conv => whnf
        refine .inl ⟨_, (ok_csize _ hc0).to hv, ?_⟩
        conv => whnf
        refine ⟨fun h => (nomatch h), fun _ => ?_⟩
        conv => whnf
        refine fun fr w hw => ⟨1, rfl, ⟨by omega, fun _ => h0, fun h => absurd h (by omega), fun h => absurd h (by omega), fun h => absurd h (by omega)⟩, by decide, ?_⟩
        exact hw.fit (by simp [fitL, Res.eqv, concL, conc])
      · have hck : checkE c = some (e, i) := by rw [checkE, h0]
        have hne := checkE_ne hck
        conv => whnf
        refine ⟨fun _ => ?_, fun h => nomatch h⟩
        conv => whnf
        refine ⟨0, ⟨rfl, by decide⟩, ?_⟩
        repeat ((conv => whnf); first | refine ⟨Eq.refl _, ?_⟩ | refine ⟨⟨Eq.refl _, Eq.refl _⟩, ?_⟩ | refine ⟨⟨Eq.refl _, Eq.refl _, Eq.refl _⟩, ?_⟩ | refine ⟨⟨Eq.refl _, Eq.refl _, Eq.refl _, Eq.refl _⟩, ?_⟩ | refine ⟨⟨Eq.refl _, Eq.refl _, Eq.refl _, Eq.refl _, Eq.refl _⟩, ?_⟩ | refine fun (_ : Nat) => ?_ | refine fun (_ : Option Addr) (_ : Nat) => ?_ | fail)
        conv => whnf
        refine ⟨k_config_checker__size, ?_⟩
        conv => whnf
        refine .inl ⟨_, (ok_csize _ hc0).to hv, ?_⟩
        conv => whnf
        refine ⟨fun _ => ?_, fun hx => absurd hx (by simp; omega)⟩
        conv => whnf
        intro g2 hg
        rw [hck]; rfl
    · obtain ⟨h0, hv⟩ | ⟨e, i, h0, hv⟩ := ei_val (listensE c)
      · conv => whnf
        refine ⟨fun _ => ?_, fun h => nomatch h⟩
        conv => whnf
        refine ⟨1, ⟨rfl, by decide⟩, ?_⟩
        repeat ((conv => whnf); first | refine ⟨Eq.refl _, ?_⟩ | refine ⟨⟨Eq.refl _, Eq.refl _⟩, ?_⟩ | refine ⟨⟨Eq.refl _, Eq.refl _, Eq.refl _⟩, ?_⟩ | refine ⟨⟨Eq.refl _, Eq.refl _, Eq.refl _, Eq.refl _⟩, ?_⟩ | refine ⟨⟨Eq.refl _, Eq.refl _, Eq.refl _, Eq.refl _, Eq.refl _⟩, ?_⟩ | refine fun (_ : Nat) => ?_ | refine fun (_ : Option Addr) (_ : Nat) => ?_ | fail)
        conv => whnf
        refine ⟨k_config_checker__listens, ?_⟩
        conv => whnf
        refine .inl ⟨_, (ok_clistens _ hc0).to hv, ?_⟩
        conv => whnf
        refine ⟨fun h => (nomatch h), fun _ => ?_⟩
        conv => whnf
        refine fun fr w hw => ⟨2, rfl, ⟨by omega, fun _ => j1 (by omega), fun _ => h0, fun h => absurd h (by omega), fun h => absurd h (by omega)⟩, by decide, ?_⟩
        exact hw.fit (by simp [fitL, Res.eqv, concL, conc])
      · have hck : checkE c = some (e, i) := by rw [checkE, j1 (by omega), h0]
        have hne := checkE_ne hck
        conv => whnf
        refine ⟨fun _ => ?_, fun h => nomatch h⟩
        conv => whnf
        refine ⟨1, ⟨rfl, by decide⟩, ?_⟩
        repeat ((conv => whnf); first | refine ⟨Eq.refl _, ?_⟩ | refine ⟨⟨Eq.refl _, Eq.refl _⟩, ?_⟩ | refine ⟨⟨Eq.refl _, Eq.refl _, Eq.refl _⟩, ?_⟩ | refine ⟨⟨Eq.refl _, Eq.refl _, Eq.refl _, Eq.refl _⟩, ?_⟩ | refine ⟨⟨Eq.refl _, Eq.refl _, Eq.refl _, Eq.refl _, Eq.refl _⟩, ?_⟩ | refine fun (_ : Nat) => ?_ | refine fun (_ : Option Addr) (_ : Nat) => ?_ | fail)
        conv => whnf
        refine ⟨k_config_checker__listens, ?_⟩
        conv => whnf
        refine .inl ⟨_, (ok_clistens _ hc0).to hv, ?_⟩
        conv => whnf
        refine ⟨fun _ => ?_, fun hx => absurd hx (by simp; omega)⟩
        conv => whnf
        intro g2 hg
        rw [hck]; rfl
    · obtain ⟨h0, hv⟩ | ⟨e, i, h0, hv⟩ := ei_val (clustersE c)
      · conv => whnf
        refine ⟨fun _ => ?_, fun h => nomatch h⟩
        conv => whnf
        refine ⟨2, ⟨rfl, by decide⟩, ?_⟩
        repeat ((conv => whnf); first | refine ⟨Eq.refl _, ?_⟩ | refine ⟨⟨Eq.refl _, Eq.refl _⟩, ?_⟩ | refine ⟨⟨Eq.refl _, Eq.refl _, Eq.refl _⟩, ?_⟩ | refine ⟨⟨Eq.refl _, Eq.refl _, Eq.refl _, Eq.refl _⟩, ?_⟩ | refine ⟨⟨Eq.refl _, Eq.refl _, Eq.refl _, Eq.refl _, Eq.refl _⟩, ?_⟩ | refine fun (_ : Nat) => ?_ | refine fun (_ : Option Addr) (_ : Nat) => ?_ | fail)
        conv => whnf
        refine ⟨k_config_checker__clusters, ?_⟩
        conv => whnf
        refine .inl ⟨_, (ok_cclusters _ hc0).to hv, ?_⟩
        conv => whnf
        refine ⟨fun h => (nomatch h), fun _ => ?_⟩
        conv => whnf
        refine fun fr w hw => ⟨3, rfl, ⟨by omega, fun _ => j1 (by omega), fun _ => j2 (by omega), fun _ => h0, fun h => absurd h (by omega)⟩, by decide, ?_⟩
        exact hw.fit (by simp [fitL, Res.eqv, concL, conc])
      · have hck : checkE c = some (e, i) := by rw [checkE, j1 (by omega), j2 (by omega), h0]
        have hne := checkE_ne hck
        conv => whnf
        refine ⟨fun _ => ?_, fun h => nomatch h⟩
        conv => whnf
        refine ⟨2, ⟨rfl, by decide⟩, ?_⟩
        repeat ((conv => whnf); first | refine ⟨Eq.refl _, ?_⟩ | refine ⟨⟨Eq.refl _, Eq.refl _⟩, ?_⟩ | refine ⟨⟨Eq.refl _, Eq.refl _, Eq.refl _⟩, ?_⟩ | refine ⟨⟨Eq.refl _, Eq.refl _, Eq.refl _, Eq.refl _⟩, ?_⟩ | refine ⟨⟨Eq.refl _, Eq.refl _, Eq.refl _, Eq.refl _, Eq.refl _⟩, ?_⟩ | refine fun (_ : Nat) => ?_ | refine fun (_ : Option Addr) (_ : Nat) => ?_ | fail)
        conv => whnf
        refine ⟨k_config_checker__clusters, ?_⟩
        conv => whnf
        refine .inl ⟨_, (ok_cclusters _ hc0).to hv, ?_⟩
        conv => whnf
        refine ⟨fun _ => ?_, fun hx => absurd hx (by simp; omega)⟩
        conv => whnf
        intro g2 hg
        rw [hck]; rfl
    · obtain ⟨h0, hv⟩ | ⟨e, i, h0, hv⟩ := ei_val (routesE c)
      · conv => whnf
        refine ⟨fun _ => ?_, fun h => nomatch h⟩
        conv => whnf
        refine ⟨3, ⟨rfl, by decide⟩, ?_⟩
        repeat ((conv => whnf); first | refine ⟨Eq.refl _, ?_⟩ | refine ⟨⟨Eq.refl _, Eq.refl _⟩, ?_⟩ | refine ⟨⟨Eq.refl _, Eq.refl _, Eq.refl _⟩, ?_⟩ | refine ⟨⟨Eq.refl _, Eq.refl _, Eq.refl _, Eq.refl _⟩, ?_⟩ | refine ⟨⟨Eq.refl _, Eq.refl _, Eq.refl _, Eq.refl _, Eq.refl _⟩, ?_⟩ | refine fun (_ : Nat) => ?_ | refine fun (_ : Option Addr) (_ : Nat) => ?_ | fail)
        conv => whnf
        refine ⟨k_config_checker__routes, ?_⟩
        conv => whnf
        refine .inl ⟨_, (ok_croutes _ hc0).to hv, ?_⟩
        conv => whnf
        refine ⟨fun h => (nomatch h), fun _ => ?_⟩
        conv => whnf
        refine fun fr w hw => ⟨4, rfl, ⟨by omega, fun _ => j1 (by omega), fun _ => j2 (by omega), fun _ => j3 (by omega), fun _ => h0⟩, by decide, ?_⟩
        exact hw.fit (by simp [fitL, Res.eqv, concL, conc])
      · have hck : checkE c = some (e, i) := by rw [checkE, j1 (by omega), j2 (by omega), j3 (by omega), h0]
        have hne := checkE_ne hck
        conv => whnf
        refine ⟨fun _ => ?_, fun h => nomatch h⟩
        conv => whnf
        refine ⟨3, ⟨rfl, by decide⟩, ?_⟩
        repeat ((conv => whnf); first | refine ⟨Eq.refl _, ?_⟩ | refine ⟨⟨Eq.refl _, Eq.refl _⟩, ?_⟩ | refine ⟨⟨Eq.refl _, Eq.refl _, Eq.refl _⟩, ?_⟩ | refine ⟨⟨Eq.refl _, Eq.refl _, Eq.refl _, Eq.refl _⟩, ?_⟩ | refine ⟨⟨Eq.refl _, Eq.refl _, Eq.refl _, Eq.refl _, Eq.refl _⟩, ?_⟩ | refine fun (_ : Nat) => ?_ | refine fun (_ : Option Addr) (_ : Nat) => ?_ | fail)
        conv => whnf
        refine ⟨k_config_checker__routes, ?_⟩
        conv => whnf
        refine .inl ⟨_, (ok_croutes _ hc0).to hv, ?_⟩
        conv => whnf
        refine ⟨fun _ => ?_, fun hx => absurd hx (by simp; omega)⟩
        conv => whnf
        intro g2 hg
        rw [hck]; rfl
    · conv => whnf
      refine ⟨fun h => (nomatch h), fun _ => ?_⟩
      conv => whnf
      intro g2 hg
      rw [show checkE c = none from by rw [checkE, j1 (by omega), j2 (by omega), j3 (by omega), j4 (by omega)]]; rfl)
end Go.Proofs.Ytedjbhpocedagaa
