/- The laws of layer 6: what each of them answers, whatever it is asked. -/
import Derived.Test.YtjbhkahjhohaeaaR6
namespace Go.Proofs.Ytjbhkahjhohaeaa
open Go.Proofs.Ytjbhkahjhohaeaa.Sx
theorem lw_Best (g : GW) {v : Value} {l : List Rule} (hl : rSl 4 rRule g v l) {n : Int} (_ : InR n) (h p : BA) : OkV Try.prog n_hydrantlaw06_RoutesBest [v, .int .i64 n, .string h, .string p] g (.bool true) :=
  Ok.of_fn hm noT 0 t_hydrantlaw06_RoutesBest (args := [.v v, .v (.int .i64 n), .v (.string h), .v (.string p)]) (by
    obtain ⟨oa, cap, rfl, _⟩ := id hl
    conv => whnf
    refine .inl ⟨_, ok_long _ hl _ _, ?_⟩
    conv => whnf
    refine ⟨fun hb => ?_, fun hb => ?_⟩
    · conv => whnf
      intro g2 hg
      rfl
    obtain ⟨s1, s2, s3, _⟩ := small_of hb
    obtain ⟨i, e, hv, _⟩ := best_val (fit := fitR n h p) l
    conv => whnf
    refine .inl ⟨_, (ok_Best _ hl _ _ _ ⟨s1, s2, s3⟩).to hv, ?_⟩
    conv => whnf
    refine .inl ⟨_, (ok_rBest _ hl _ _ _ ⟨s1, s2, s3⟩).to hv, ?_⟩
    conv => whnf
    refine .inl ⟨_, ok_chosen _, ?_⟩
    repeat' ((conv => whnf); first | refine ⟨Eq.refl _, ?_⟩ | refine ⟨⟨Eq.refl _, Eq.refl _⟩, ?_⟩ | refine ⟨⟨Eq.refl _, Eq.refl _, Eq.refl _⟩, ?_⟩ | refine ⟨⟨Eq.refl _, Eq.refl _, Eq.refl _, Eq.refl _⟩, ?_⟩ | refine ⟨⟨Eq.refl _, Eq.refl _, Eq.refl _, Eq.refl _, Eq.refl _⟩, ?_⟩ | refine fun (_ : Nat) => ?_ | refine fun (_ : Option Addr) (_ : Nat) => ?_ | refine .inl ⟨_, ok_chosen _, ?_⟩ | refine ⟨fun _ => ?_, fun _ => ?_⟩ | fail)
    all_goals (conv => whnf)
    all_goals (intro g2 hg)
    all_goals simp_all)
theorem lw_Fit (g : GW) {v : Value} {l : List Rule} (hl : rSl 4 rRule g v l) {n : Int} (_ : InR n) (h p : BA) {i : Int} (_ : InR i) : OkV Try.prog n_hydrantlaw06_RoutesFit [v, .int .i64 n, .string h, .string p, .int .i64 i] g (.bool true) :=
  Ok.of_fn hm noT 0 t_hydrantlaw06_RoutesFit (args := [.v v, .v (.int .i64 n), .v (.string h), .v (.string p), .v (.int .i64 i)]) (by
    obtain ⟨oa, cap, rfl, h1, h2, h0, hr⟩ := id hl
    conv => whnf
    refine .inl ⟨_, ok_long _ hl _ _, ?_⟩
    conv => whnf
    refine ⟨fun hb => ?_, fun hb => ?_⟩
    · conv => whnf
      intro g2 hg
      rfl
    obtain ⟨s1, s2, s3, s4⟩ := small_of hb
    obtain ⟨a, e, hv, ha⟩ := best_val (fit := fitR n h p) l
    conv => whnf
    refine .inl ⟨_, (ok_Best _ hl _ _ _ ⟨s1, s2, s3⟩).to hv, ?_⟩
    have out : (i < 0 ∨ (l.length : Int) ≤ i) → (e == 5) = false → ∃ (j : Nat) (r : Rule) (b : Addr), a = j ∧ j < l.length ∧ oa = some b ∧ SmR r ∧ Rcs g (b.add (j * 4)) (cRule r) ∧ fitR n h p r = true := fun _ he => by
      rcases ha with ⟨rfl, j, hj, rfl⟩ | ⟨rfl, _⟩
      · obtain ⟨r, k1, k2, k3, _⟩ := bestO_some.1 hj
        obtain ⟨b, rfl, ec, hec, ⟨rfl, _, _⟩, hc⟩ := hr j r k1
        exact ⟨j, r, b, rfl, k2, rfl, s1 r (List.mem_of_getElem? k1), hc, k3⟩
      · simp at he
    conv => whnf
    refine ⟨fun k1 => ?_, fun k1 => ?_⟩
    · conv => whnf
      refine .inl ⟨_, ok_chosen _, ?_⟩
      conv => whnf
      refine ⟨fun _ => ?_, fun h => nomatch h⟩
      conv => whnf
      refine ⟨fun k2 => ?_, fun k2 => ?_⟩
      · conv => whnf
        intro g2 hg
        rfl
      obtain ⟨j, r, b, rfl, hj, rfl, hsr, hc, hf⟩ := out (.inl (of_decide_eq_true k1)) k2
      conv => whnf
      refine ⟨fun _ => ?_, fun hx => absurd (of_decide_eq_false hx) (by omega)⟩
      conv => whnf
      refine ⟨fun _ => ?_, fun hx => absurd (of_decide_eq_false hx) (by omega)⟩
      conv => whnf
      refine ⟨b, rfl, ⟨by omega, by omega⟩, ?_⟩
      conv => whnf
      refine ⟨_, ⟨rfl, hc⟩, ?_⟩
      conv => whnf
      refine .inl ⟨_, ok_Fits _ r _ _ _ ⟨hsr, s2, s3⟩, ?_⟩
      conv => whnf
      intro g2 hg
      rw [hf]
    conv => whnf
    refine ⟨fun k2 => ?_, fun k2 => ?_⟩
    · conv => whnf
      refine .inl ⟨_, ok_chosen _, ?_⟩
      conv => whnf
      refine ⟨fun _ => ?_, fun h => nomatch h⟩
      conv => whnf
      refine ⟨fun k3 => ?_, fun k3 => ?_⟩
      · conv => whnf
        intro g2 hg
        rfl
      obtain ⟨j, r, b, rfl, hj, rfl, hsr, hc, hf⟩ := out (.inr (of_decide_eq_true k2)) k3
      conv => whnf
      refine ⟨fun _ => ?_, fun hx => absurd (of_decide_eq_false hx) (by omega)⟩
      conv => whnf
      refine ⟨fun _ => ?_, fun hx => absurd (of_decide_eq_false hx) (by omega)⟩
      conv => whnf
      refine ⟨b, rfl, ⟨by omega, by omega⟩, ?_⟩
      conv => whnf
      refine ⟨_, ⟨rfl, hc⟩, ?_⟩
      conv => whnf
      refine .inl ⟨_, ok_Fits _ r _ _ _ ⟨hsr, s2, s3⟩, ?_⟩
      conv => whnf
      intro g2 hg
      rw [hf]
    have k1 := of_decide_eq_false k1
    have k2 := of_decide_eq_false k2
    obtain ⟨m, rfl⟩ := Int.eq_ofNat_of_zero_le (show 0 ≤ i by omega)
    have hm : m < l.length := by simp at k2; omega
    obtain ⟨r, hri⟩ := getL_of hm
    obtain ⟨b, rfl, ec, hec, ⟨rfl, _, _⟩, hc⟩ := hr m r hri
    have hsr := s1 r (List.mem_of_getElem? hri)
    conv => whnf
    refine ⟨b, rfl, ⟨by omega, by simp; omega⟩, ?_⟩
    conv => whnf
    refine ⟨_, ⟨rfl, hc⟩, ?_⟩
    conv => whnf
    refine ⟨b, rfl, ⟨by omega, by simp; omega⟩, ?_⟩
    conv => whnf
    refine ⟨_, ⟨rfl, hc⟩, ?_⟩
    conv => whnf
    refine .inl ⟨_, ok_Fits _ r _ _ _ ⟨hsr, s2, s3⟩, ?_⟩
    conv => whnf
    refine .inl ⟨_, ok_rFits _ r _ _ _ ⟨hsr, s2, s3⟩, ?_⟩
    conv => whnf
    refine ⟨fun hx => absurd hx (by simp), fun _ => ?_⟩
    conv => whnf
    refine ⟨b, rfl, ⟨by omega, by simp; omega⟩, ?_⟩
    conv => whnf
    refine ⟨_, ⟨rfl, hc⟩, ?_⟩
    conv => whnf
    refine .inl ⟨_, ok_Fits _ r _ _ _ ⟨hsr, s2, s3⟩, ?_⟩
    conv => whnf
    refine ⟨fun k4 => ?_, fun k4 => ?_⟩
    · conv => whnf
      refine .inl ⟨_, ok_chosen _, ?_⟩
      conv => whnf
      refine ⟨fun _ => ?_, fun h => nomatch h⟩
      conv => whnf
      refine ⟨fun k5 => ?_, fun k5 => ?_⟩
      · conv => whnf
        intro g2 hg
        rfl
      conv => whnf
      intro g2 hg
      have he : e = 0 := by simpa using k5
      rcases ha with ⟨_, j, hj, rfl⟩ | ⟨h5, _⟩
      · obtain ⟨q, q1, q2, q3, _⟩ := bestO_some.1 hj
        have : j ≠ m := fun e => by
          subst e
          rw [hri] at q1; cases q1
          rw [nb1 k4] at q3; cases q3
        have : ((j : Int) != (m : Int)) = true := by simp; omega
        exact congrArg Value.bool this
      · omega
    rcases ha with ⟨rfl, j, hj, rfl⟩ | ⟨_, _, hno⟩
    · obtain ⟨q, q1, q2, q3, q4, _⟩ := bestO_some.1 hj
      obtain ⟨b', hb', ecq, hecq, ⟨rfl, _, _⟩, hcq⟩ := hr j q q1
      cases hb'
      conv => whnf
      refine .inl ⟨_, ok_chosen _, ?_⟩
      conv => whnf
      refine ⟨fun _ => ?_, fun h => nomatch h⟩
      conv => whnf
      refine ⟨fun _ => ?_, fun h => nomatch h⟩
      conv => whnf
      refine ⟨fun _ => ?_, fun hx => absurd (of_decide_eq_false hx) (by omega)⟩
      conv => whnf
      refine ⟨fun _ => ?_, fun hx => absurd (of_decide_eq_false hx) (by omega)⟩
      conv => whnf
      refine ⟨b, rfl, ⟨by omega, by simp; omega⟩, ?_⟩
      conv => whnf
      refine ⟨_, hc 1 _ rfl, ?_⟩
      conv => whnf
      refine ⟨b, rfl, ⟨by omega, by simp; omega⟩, ?_⟩
      conv => whnf
      refine ⟨_, hc 2 _ rfl, ?_⟩
      conv => whnf
      refine ⟨b, rfl, ⟨by omega, by omega⟩, ?_⟩
      conv => whnf
      refine ⟨_, hcq 1 _ rfl, ?_⟩
      conv => whnf
      refine ⟨b, rfl, ⟨by omega, by omega⟩, ?_⟩
      conv => whnf
      refine ⟨_, hcq 2 _ rfl, ?_⟩
      conv => whnf
      refine .inl ⟨_, ok_Better _ _ _ _ _, ?_⟩
      conv => whnf
      intro g2 hg
      rw [show betterB (bs r.host) (bs r.path) (bs q.host) (bs q.path) = false from q4 m r hm hri (nb0 k4)]; rfl
    · have := bestO_none.1 hno r (List.mem_of_getElem? hri)
      rw [nb0 k4] at this; cases this)
end Go.Proofs.Ytjbhkahjhohaeaa
