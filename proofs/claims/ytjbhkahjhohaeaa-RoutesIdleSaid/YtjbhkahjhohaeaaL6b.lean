/- The laws of layer 6 that add a rule: what each of them answers, whatever it is asked. -/
import Derived.Test.YtjbhkahjhohaeaaR6
namespace Go.Proofs.Ytjbhkahjhohaeaa
open Go.Proofs.Ytjbhkahjhohaeaa.Sx
theorem oneR (l : List Rule) : ∀ u ∈ (l.map cRule).flatten, u.oneCell' = true := by
  intro u hu
  obtain ⟨c, hc, hu⟩ := List.mem_flatten.1 hu
  obtain ⟨r, _, rfl⟩ := List.mem_map.1 hc
  simp only [cRule, List.mem_cons, List.not_mem_nil, or_false] at hu
  rcases hu with rfl | rfl | rfl | rfl <;> rfl
theorem rules_of {g : GW} {v : Value} {n : Nat} {cs : List Value} (h : RdSl g 4 v n cs) (l : List Rule) (hcs : cs = (l.map cRule).flatten) (hl : l.length = n) (hR : ∀ r ∈ l, InR r.listen ∧ InR r.cluster) : rSl 4 rRule g v l :=
  rSl_ofE h l cRule hcs hl (fun _ _ => rfl) fun r hr => ⟨rfl, hR r hr⟩
theorem inr_rules {g : GW} {oa : Option Addr} {n cap : Nat} {l : List Rule} (h : rSl 4 rRule g (.slice oa n cap) l) : ∀ r ∈ l, InR r.listen ∧ InR r.cluster := fun r hr => by
  obtain ⟨_, _, _, _, _, _, h5⟩ := h
  obtain ⟨i, hi⟩ := List.getElem?_of_mem hr
  obtain ⟨_, _, _, _, h6, _⟩ := h5 i r hi
  exact h6.2
theorem lw_More (g : GW) {v : Value} {l : List Rule} (hl : rSl 4 rRule g v l) {n : Int} (_ : InR n) (h p : BA) {c : List Value} {r : Rule} (hr : rRule g c r) : OkV Try.prog n_hydrantlaw06_RoutesMore [v, .int .i64 n, .string h, .string p, .agg ⟨c⟩] g (.bool true) :=
  Ok.of_fn hm noT 0 t_hydrantlaw06_RoutesMore (args := [.v v, .v (.int .i64 n), .v (.string h), .v (.string p), .v (.agg ⟨c⟩)]) (by
    obtain ⟨rfl, hr1⟩ := hr
    obtain ⟨oa, cap, rfl, h1, h2, h0, hel⟩ := id hl
    repeat ((conv => whnf); first | refine ⟨Eq.refl _, ?_⟩ | refine ⟨⟨Eq.refl _, Eq.refl _⟩, ?_⟩ | refine ⟨⟨Eq.refl _, Eq.refl _, Eq.refl _⟩, ?_⟩ | refine ⟨⟨Eq.refl _, Eq.refl _, Eq.refl _, Eq.refl _⟩, ?_⟩ | refine ⟨⟨Eq.refl _, Eq.refl _, Eq.refl _, Eq.refl _, Eq.refl _⟩, ?_⟩ | refine fun (_ : Nat) => ?_ | refine fun (_ : Option Addr) (_ : Nat) => ?_ | fail)
    conv => whnf
    refine .inl ⟨_, ok_long _ hl _ _, ?_⟩
    conv => whnf
    refine ⟨fun hb => ?_, fun hb => ?_⟩
    · conv => whnf
      intro g2 hg
      rfl
    obtain ⟨s1, s2, s3, s4⟩ := small_of hb
    repeat ((conv => whnf); first | refine ⟨Eq.refl _, ?_⟩ | refine ⟨⟨Eq.refl _, Eq.refl _⟩, ?_⟩ | refine ⟨⟨Eq.refl _, Eq.refl _, Eq.refl _⟩, ?_⟩ | refine ⟨⟨Eq.refl _, Eq.refl _, Eq.refl _, Eq.refl _⟩, ?_⟩ | refine ⟨⟨Eq.refl _, Eq.refl _, Eq.refl _, Eq.refl _, Eq.refl _⟩, ?_⟩ | refine fun (_ : Nat) => ?_ | refine fun (_ : Option Addr) (_ : Nat) => ?_ | fail)
    conv => whnf
    refine ⟨fun k1 => ?_, fun k1 => ?_⟩
    · conv => whnf
      intro g2 hg
      rfl
    repeat ((conv => whnf); first | refine ⟨Eq.refl _, ?_⟩ | refine ⟨⟨Eq.refl _, Eq.refl _⟩, ?_⟩ | refine ⟨⟨Eq.refl _, Eq.refl _, Eq.refl _⟩, ?_⟩ | refine ⟨⟨Eq.refl _, Eq.refl _, Eq.refl _, Eq.refl _⟩, ?_⟩ | refine ⟨⟨Eq.refl _, Eq.refl _, Eq.refl _, Eq.refl _, Eq.refl _⟩, ?_⟩ | refine fun (_ : Nat) => ?_ | refine fun (_ : Option Addr) (_ : Nat) => ?_ | fail)
    conv => whnf
    refine ⟨fun k2 => ?_, fun k2 => ?_⟩
    · conv => whnf
      intro g2 hg
      rfl
    have hsr : SmR r := by
      have := of_decide_eq_false k1; have := of_decide_eq_false k2
      unfold SmR Sm; omega
    have hsm : SmL (l ++ [r]) := fun q hq => by
      rcases List.mem_append.1 hq with hq | hq
      · exact s1 q hq
      · simp at hq; subst hq; exact hsr
    obtain ⟨a, e, hv, ha⟩ := best_val (fit := fitR n h p) l
    obtain ⟨b, f, hw, hbf⟩ := best_val (fit := fitR n h p) (l ++ [r])
    repeat ((conv => whnf); first | refine ⟨Eq.refl _, ?_⟩ | refine ⟨⟨Eq.refl _, Eq.refl _⟩, ?_⟩ | refine ⟨⟨Eq.refl _, Eq.refl _, Eq.refl _⟩, ?_⟩ | refine ⟨⟨Eq.refl _, Eq.refl _, Eq.refl _, Eq.refl _⟩, ?_⟩ | refine ⟨⟨Eq.refl _, Eq.refl _, Eq.refl _, Eq.refl _, Eq.refl _⟩, ?_⟩ | refine fun (_ : Nat) => ?_ | refine fun (_ : Option Addr) (_ : Nat) => ?_ | fail)
    conv => whnf
    refine ⟨⟨rfl, rfl, rfl, rfl, by unfold maxLen; omega⟩, ?_⟩
    conv => whnf
    refine ⟨_, ⟨rSl_rd hl cRule (fun _ _ h => h.1), oneR l⟩, ?_⟩
    repeat ((conv => whnf); first | refine ⟨Eq.refl _, ?_⟩ | refine ⟨⟨Eq.refl _, Eq.refl _⟩, ?_⟩ | refine ⟨⟨Eq.refl _, Eq.refl _, Eq.refl _⟩, ?_⟩ | refine ⟨⟨Eq.refl _, Eq.refl _, Eq.refl _, Eq.refl _⟩, ?_⟩ | refine ⟨⟨Eq.refl _, Eq.refl _, Eq.refl _, Eq.refl _, Eq.refl _⟩, ?_⟩ | refine fun (_ : Nat) => ?_ | refine fun (_ : Option Addr) (_ : Nat) => ?_ | fail)
    conv => whnf
    refine ⟨⟨by unfold maxLen; omega, by omega⟩, fun oa2 cap2 => ?_⟩
    repeat ((conv => whnf); first | refine ⟨Eq.refl _, ?_⟩ | refine ⟨⟨Eq.refl _, Eq.refl _⟩, ?_⟩ | refine ⟨⟨Eq.refl _, Eq.refl _, Eq.refl _⟩, ?_⟩ | refine ⟨⟨Eq.refl _, Eq.refl _, Eq.refl _, Eq.refl _⟩, ?_⟩ | refine ⟨⟨Eq.refl _, Eq.refl _, Eq.refl _, Eq.refl _, Eq.refl _⟩, ?_⟩ | refine fun (_ : Nat) => ?_ | refine fun (_ : Option Addr) (_ : Nat) => ?_ | fail)
    conv => whnf
    refine ⟨⟨by unfold maxLen; omega, by omega⟩, fun oa3 cap3 => ?_⟩
    conv => whnf
    refine .inl ⟨_, (ok_Best _ hl _ _ _ ⟨s1, s2, s3⟩).to hv, ?_⟩
    repeat ((conv => whnf); first | refine ⟨Eq.refl _, ?_⟩ | refine ⟨⟨Eq.refl _, Eq.refl _⟩, ?_⟩ | refine ⟨⟨Eq.refl _, Eq.refl _, Eq.refl _⟩, ?_⟩ | refine ⟨⟨Eq.refl _, Eq.refl _, Eq.refl _, Eq.refl _⟩, ?_⟩ | refine ⟨⟨Eq.refl _, Eq.refl _, Eq.refl _, Eq.refl _, Eq.refl _⟩, ?_⟩ | refine fun (_ : Nat) => ?_ | refine fun (_ : Option Addr) (_ : Nat) => ?_ | fail)
    conv => whnf
    refine fun g1 hg1 hn1 hp1 => ?_
    have hm2 : rSl 4 rRule g1 (.slice oa3 (0 + l.length + 1) cap3) (l ++ [r]) := rules_of hp1.rd (l ++ [r]) (by simp) (by simp) fun q hq => by
      rcases List.mem_append.1 hq with hq | hq
      · exact inr_rules hl q hq
      · simp at hq; subst hq; exact hr1
    conv => whnf
    refine .inl ⟨_, (ok_Best _ hm2 _ _ _ ⟨hsm, s2, s3⟩).to hw, ?_⟩
    have hmore := best_more (fit := fitR n h p) l r
    have key : (f == 0) = true → (b == (l.length : Int)) = true → fitR n h p r = true ∧ (e = 0 → ∃ (j : Nat) (q : Rule), a = j ∧ l[j]? = some q ∧ betR r q = true) := fun hf hb' => by
      have hf : f = 0 := by simpa using hf
      have hb' : b = l.length := by simpa using hb'
      rcases hbf with ⟨_, j, hj, rfl⟩ | ⟨h5, _⟩
      · have hjl : j = l.length := by omega
        subst hjl
        rw [hj] at hmore
        cases hf2 : fitR n h p r with
        | false =>
          rw [hf2] at hmore
          simp only [Bool.false_eq_true, if_false] at hmore
          have := bestO_lt hmore.symm; omega
        | true =>
          refine ⟨rfl, fun he => ?_⟩
          rw [hf2] at hmore
          simp only [if_true] at hmore
          rcases ha with ⟨_, j, hj2, rfl⟩ | ⟨h5, _⟩
          · rw [hj2] at hmore
            obtain ⟨q, q1, _⟩ := bestO_some.1 hj2
            simp only [q1] at hmore
            cases hbt : betR r q with
            | true => exact ⟨j, q, rfl, q1, hbt⟩
            | false =>
              rw [hbt] at hmore
              simp only [Bool.false_eq_true, if_false, Option.some.injEq] at hmore
              have := bestO_lt hj2; omega
          · omega
      · omega
    have key2 : ((f == 0) && (b == (l.length : Int))) = false → a = b ∧ e = f := fun hf => by
      rcases hbf with ⟨rfl, j, hj, rfl⟩ | ⟨rfl, rfl, hno⟩
      · have hjl : j ≠ l.length := fun e => by subst e; simp at hf
        have : bestO (fitR n h p) l = some j := by
          rw [hj] at hmore
          cases hf2 : fitR n h p r with
          | false => rw [hf2] at hmore; exact hmore.symm
          | true =>
            rw [hf2] at hmore
            simp only [if_true] at hmore
            cases hlb : bestO (fitR n h p) l with
            | none => rw [hlb] at hmore; simp at hmore; exact absurd hmore hjl
            | some i =>
              rw [hlb] at hmore
              obtain ⟨q, q1, _⟩ := bestO_some.1 hlb
              simp only [q1] at hmore
              split at hmore
              · simp at hmore; exact absurd hmore hjl
              · exact hmore.symm
        rcases ha with ⟨rfl, i, hi, rfl⟩ | ⟨_, _, hno⟩
        · rw [this] at hi; cases hi; exact ⟨rfl, rfl⟩
        · rw [this] at hno; cases hno
      · have : bestO (fitR n h p) l = none := bestO_none.2 fun q hq => bestO_none.1 hno q (by simp [hq])
        rcases ha with ⟨_, i, hi, _⟩ | ⟨rfl, rfl, _⟩
        · rw [this] at hi; cases hi
        · exact ⟨rfl, rfl⟩
    have same : ∀ {P : Prop}, a = b ∧ e = f → True := fun _ => trivial
    conv => whnf
    refine ⟨fun k3 => ?_, fun k3 => ?_⟩
    · conv => whnf
      refine ⟨fun k4 => ?_, fun k4 => ?_⟩
      · obtain ⟨hfr, hbt⟩ := key k3 k4
        conv => whnf
        refine .inl ⟨_, ok_chosen _, ?_⟩
        conv => whnf
        refine ⟨fun _ => ?_, fun h => nomatch h⟩
        repeat ((conv => whnf); first | refine ⟨Eq.refl _, ?_⟩ | refine ⟨⟨Eq.refl _, Eq.refl _⟩, ?_⟩ | refine ⟨⟨Eq.refl _, Eq.refl _, Eq.refl _⟩, ?_⟩ | refine ⟨⟨Eq.refl _, Eq.refl _, Eq.refl _, Eq.refl _⟩, ?_⟩ | refine ⟨⟨Eq.refl _, Eq.refl _, Eq.refl _, Eq.refl _, Eq.refl _⟩, ?_⟩ | refine fun (_ : Nat) => ?_ | refine fun (_ : Option Addr) (_ : Nat) => ?_ | fail)
        conv => whnf
        refine .inl ⟨_, ok_Fits _ r _ _ _ ⟨hsr, s2, s3⟩, ?_⟩
        conv => whnf
        refine ⟨fun _ => ?_, fun hx => absurd ((hfr).symm.trans hx) (by decide)⟩
        conv => whnf
        refine ⟨fun k5 => ?_, fun k5 => ?_⟩
        · conv => whnf
          intro g2 hg
          rfl
        have he : e = 0 := by
          rcases ha with ⟨h, _⟩ | ⟨h, _⟩
          · exact h
          · subst h; simp at k5
        obtain ⟨j, q, rfl, q1, q2⟩ := hbt he
        have hj := (List.getElem?_eq_some_iff.1 q1).1
        obtain ⟨a', rfl, ecq, hecq, ⟨rfl, _, _⟩, hcq⟩ := hel j q q1
        have hcq := hcq.mono hg1
        conv => whnf
        refine ⟨fun _ => ?_, fun hx => absurd (of_decide_eq_false hx) (by omega)⟩
        conv => whnf
        refine ⟨fun _ => ?_, fun hx => absurd (of_decide_eq_false hx) (by omega)⟩
        repeat ((conv => whnf); first | refine ⟨Eq.refl _, ?_⟩ | refine ⟨⟨Eq.refl _, Eq.refl _⟩, ?_⟩ | refine ⟨⟨Eq.refl _, Eq.refl _, Eq.refl _⟩, ?_⟩ | refine ⟨⟨Eq.refl _, Eq.refl _, Eq.refl _, Eq.refl _⟩, ?_⟩ | refine ⟨⟨Eq.refl _, Eq.refl _, Eq.refl _, Eq.refl _, Eq.refl _⟩, ?_⟩ | refine fun (_ : Nat) => ?_ | refine fun (_ : Option Addr) (_ : Nat) => ?_ | fail)
        conv => whnf
        refine ⟨a', rfl, ⟨by omega, by omega⟩, ?_⟩
        conv => whnf
        refine ⟨_, hcq 1 _ rfl, ?_⟩
        conv => whnf
        refine ⟨a', rfl, ⟨by omega, by omega⟩, ?_⟩
        conv => whnf
        refine ⟨_, hcq 2 _ rfl, ?_⟩
        conv => whnf
        refine .inl ⟨_, ok_Better _ _ _ _ _, ?_⟩
        conv => whnf
        intro g2 hg
        rw [show betterB (bs r.host) (bs r.path) (bs q.host) (bs q.path) = true from q2]
      · obtain ⟨rfl, rfl⟩ := key2 (by rw [k4]; simp)
        repeat' ((conv => whnf); first | refine ⟨Eq.refl _, ?_⟩ | refine ⟨⟨Eq.refl _, Eq.refl _⟩, ?_⟩ | refine ⟨⟨Eq.refl _, Eq.refl _, Eq.refl _⟩, ?_⟩ | refine ⟨⟨Eq.refl _, Eq.refl _, Eq.refl _, Eq.refl _⟩, ?_⟩ | refine ⟨⟨Eq.refl _, Eq.refl _, Eq.refl _, Eq.refl _, Eq.refl _⟩, ?_⟩ | refine fun (_ : Nat) => ?_ | refine fun (_ : Option Addr) (_ : Nat) => ?_ | refine .inl ⟨_, ok_chosen _, ?_⟩ | refine ⟨fun _ => ?_, fun _ => ?_⟩ | fail)
        all_goals (conv => whnf)
        all_goals (intro g2 hg)
        all_goals simp_all
    · obtain ⟨rfl, rfl⟩ := key2 (by rw [k3]; rfl)
      repeat' ((conv => whnf); first | refine ⟨Eq.refl _, ?_⟩ | refine ⟨⟨Eq.refl _, Eq.refl _⟩, ?_⟩ | refine ⟨⟨Eq.refl _, Eq.refl _, Eq.refl _⟩, ?_⟩ | refine ⟨⟨Eq.refl _, Eq.refl _, Eq.refl _, Eq.refl _⟩, ?_⟩ | refine ⟨⟨Eq.refl _, Eq.refl _, Eq.refl _, Eq.refl _, Eq.refl _⟩, ?_⟩ | refine fun (_ : Nat) => ?_ | refine fun (_ : Option Addr) (_ : Nat) => ?_ | refine .inl ⟨_, ok_chosen _, ?_⟩ | refine ⟨fun _ => ?_, fun _ => ?_⟩ | fail)
      all_goals (conv => whnf)
      all_goals (intro g2 hg)
      all_goals simp_all)
theorem same_ends {a b e f : Int} (h : a = b ∧ e = f) : ((a == b) = true) ∧ ((e == f) = true) := by simp [h.1, h.2]
theorem lw_Twice (g : GW) {v : Value} {l : List Rule} (hl : rSl 4 rRule g v l) {n : Int} (_ : InR n) (h p : BA) {i : Int} (_ : InR i) : OkV Try.prog n_hydrantlaw06_RoutesTwice [v, .int .i64 n, .string h, .string p, .int .i64 i] g (.bool true) :=
  Ok.of_fn hm noT 0 t_hydrantlaw06_RoutesTwice (args := [.v v, .v (.int .i64 n), .v (.string h), .v (.string p), .v (.int .i64 i)]) (by
    obtain ⟨oa, cap, rfl, h1, h2, h0, hel⟩ := id hl
    repeat ((conv => whnf); first | refine ⟨Eq.refl _, ?_⟩ | refine ⟨⟨Eq.refl _, Eq.refl _⟩, ?_⟩ | refine ⟨⟨Eq.refl _, Eq.refl _, Eq.refl _⟩, ?_⟩ | refine ⟨⟨Eq.refl _, Eq.refl _, Eq.refl _, Eq.refl _⟩, ?_⟩ | refine ⟨⟨Eq.refl _, Eq.refl _, Eq.refl _, Eq.refl _, Eq.refl _⟩, ?_⟩ | refine fun (_ : Nat) => ?_ | refine fun (_ : Option Addr) (_ : Nat) => ?_ | fail)
    conv => whnf
    refine .inl ⟨_, ok_long _ hl _ _, ?_⟩
    conv => whnf
    refine ⟨fun hb => ?_, fun hb => ?_⟩
    · conv => whnf
      refine .inl ⟨_, ok_chosen _, ?_⟩
      conv => whnf
      intro g2 hg
      rfl
    obtain ⟨s1, s2, s3, s4⟩ := small_of hb
    conv => whnf
    refine ⟨fun k1 => ?_, fun k1 => ?_⟩
    · conv => whnf
      refine .inl ⟨_, ok_chosen _, ?_⟩
      conv => whnf
      intro g2 hg
      rfl
    conv => whnf
    refine ⟨fun k2 => ?_, fun k2 => ?_⟩
    · conv => whnf
      refine .inl ⟨_, ok_chosen _, ?_⟩
      conv => whnf
      intro g2 hg
      rfl
    have k1 := of_decide_eq_false k1
    have k2 := of_decide_eq_false k2
    obtain ⟨m, rfl⟩ := Int.eq_ofNat_of_zero_le (show 0 ≤ i by omega)
    have hm' : m < l.length := by simp at k2; omega
    obtain ⟨r, hri⟩ := getL_of hm'
    obtain ⟨x, rfl, ec, hec, ⟨rfl, hr1⟩, hc⟩ := hel m r hri
    have hsm : SmL (l ++ [r]) := fun q hq => by
      rcases List.mem_append.1 hq with hq | hq
      · exact s1 q hq
      · simp at hq; subst hq; exact s1 q (List.mem_of_getElem? hri)
    obtain ⟨a, e, hv, ha⟩ := best_val (fit := fitR n h p) l
    have hw : bestT (bestO (fitR n h p) (l ++ [r])) = .tuple #[.int .i64 a, .int .i64 e] := by rw [best_twice (List.mem_of_getElem? hri), hv]
    repeat ((conv => whnf); first | refine ⟨Eq.refl _, ?_⟩ | refine ⟨⟨Eq.refl _, Eq.refl _⟩, ?_⟩ | refine ⟨⟨Eq.refl _, Eq.refl _, Eq.refl _⟩, ?_⟩ | refine ⟨⟨Eq.refl _, Eq.refl _, Eq.refl _, Eq.refl _⟩, ?_⟩ | refine ⟨⟨Eq.refl _, Eq.refl _, Eq.refl _, Eq.refl _, Eq.refl _⟩, ?_⟩ | refine fun (_ : Nat) => ?_ | refine fun (_ : Option Addr) (_ : Nat) => ?_ | fail)
    conv => whnf
    refine ⟨⟨rfl, rfl, rfl, rfl, by unfold maxLen; omega⟩, ?_⟩
    conv => whnf
    refine ⟨_, ⟨rSl_rd hl cRule (fun _ _ h => h.1), oneR l⟩, ?_⟩
    repeat ((conv => whnf); first | refine ⟨Eq.refl _, ?_⟩ | refine ⟨⟨Eq.refl _, Eq.refl _⟩, ?_⟩ | refine ⟨⟨Eq.refl _, Eq.refl _, Eq.refl _⟩, ?_⟩ | refine ⟨⟨Eq.refl _, Eq.refl _, Eq.refl _, Eq.refl _⟩, ?_⟩ | refine ⟨⟨Eq.refl _, Eq.refl _, Eq.refl _, Eq.refl _, Eq.refl _⟩, ?_⟩ | refine fun (_ : Nat) => ?_ | refine fun (_ : Option Addr) (_ : Nat) => ?_ | fail)
    conv => whnf
    refine ⟨⟨by unfold maxLen; omega, by omega⟩, fun oa2 cap2 => ?_⟩
    repeat ((conv => whnf); first | refine ⟨Eq.refl _, ?_⟩ | refine ⟨⟨Eq.refl _, Eq.refl _⟩, ?_⟩ | refine ⟨⟨Eq.refl _, Eq.refl _, Eq.refl _⟩, ?_⟩ | refine ⟨⟨Eq.refl _, Eq.refl _, Eq.refl _, Eq.refl _⟩, ?_⟩ | refine ⟨⟨Eq.refl _, Eq.refl _, Eq.refl _, Eq.refl _, Eq.refl _⟩, ?_⟩ | refine fun (_ : Nat) => ?_ | refine fun (_ : Option Addr) (_ : Nat) => ?_ | fail)
    conv => whnf
    refine ⟨x, rfl, ⟨by omega, by simp; omega⟩, ?_⟩
    conv => whnf
    refine ⟨_, ⟨rfl, hc⟩, ?_⟩
    repeat ((conv => whnf); first | refine ⟨Eq.refl _, ?_⟩ | refine ⟨⟨Eq.refl _, Eq.refl _⟩, ?_⟩ | refine ⟨⟨Eq.refl _, Eq.refl _, Eq.refl _⟩, ?_⟩ | refine ⟨⟨Eq.refl _, Eq.refl _, Eq.refl _, Eq.refl _⟩, ?_⟩ | refine ⟨⟨Eq.refl _, Eq.refl _, Eq.refl _, Eq.refl _, Eq.refl _⟩, ?_⟩ | refine fun (_ : Nat) => ?_ | refine fun (_ : Option Addr) (_ : Nat) => ?_ | fail)
    conv => whnf
    refine ⟨⟨by unfold maxLen; omega, by omega⟩, fun oa3 cap3 => ?_⟩
    conv => whnf
    refine .inl ⟨_, (ok_Best _ hl _ _ _ ⟨s1, s2, s3⟩).to hv, ?_⟩
    repeat ((conv => whnf); first | refine ⟨Eq.refl _, ?_⟩ | refine ⟨⟨Eq.refl _, Eq.refl _⟩, ?_⟩ | refine ⟨⟨Eq.refl _, Eq.refl _, Eq.refl _⟩, ?_⟩ | refine ⟨⟨Eq.refl _, Eq.refl _, Eq.refl _, Eq.refl _⟩, ?_⟩ | refine ⟨⟨Eq.refl _, Eq.refl _, Eq.refl _, Eq.refl _, Eq.refl _⟩, ?_⟩ | refine fun (_ : Nat) => ?_ | refine fun (_ : Option Addr) (_ : Nat) => ?_ | fail)
    conv => whnf
    refine fun g1 hg1 hn1 hp1 => ?_
    have hm2 : rSl 4 rRule g1 (.slice oa3 (0 + l.length + 1) cap3) (l ++ [r]) := rules_of hp1.rd (l ++ [r]) (by simp) (by simp) fun q hq => by
      rcases List.mem_append.1 hq with hq | hq
      · exact inr_rules hl q hq
      · simp at hq; subst hq; exact hr1
    conv => whnf
    refine .inl ⟨_, (ok_Best _ hm2 _ _ _ ⟨hsm, s2, s3⟩).to hw, ?_⟩
    repeat' ((conv => whnf); first | refine ⟨Eq.refl _, ?_⟩ | refine ⟨⟨Eq.refl _, Eq.refl _⟩, ?_⟩ | refine ⟨⟨Eq.refl _, Eq.refl _, Eq.refl _⟩, ?_⟩ | refine ⟨⟨Eq.refl _, Eq.refl _, Eq.refl _, Eq.refl _⟩, ?_⟩ | refine ⟨⟨Eq.refl _, Eq.refl _, Eq.refl _, Eq.refl _, Eq.refl _⟩, ?_⟩ | refine fun (_ : Nat) => ?_ | refine fun (_ : Option Addr) (_ : Nat) => ?_ | refine .inl ⟨_, ok_chosen _, ?_⟩ | refine ⟨fun _ => ?_, fun _ => ?_⟩ | fail)
    all_goals (conv => whnf)
    all_goals (intro g2 hg)
    all_goals simp_all)
theorem lw_Idle (g : GW) {v : Value} {l : List Rule} (hl : rSl 4 rRule g v l) {n : Int} (_ : InR n) (h p : BA) {c : List Value} {r : Rule} (hr : rRule g c r) {i : Int} (_ : InR i) : OkV Try.prog n_hydrantlaw06_RoutesIdle [v, .int .i64 n, .string h, .string p, .agg ⟨c⟩, .int .i64 i] g (.bool true) :=
  Ok.of_fn hm noT 0 t_hydrantlaw06_RoutesIdle (args := [.v v, .v (.int .i64 n), .v (.string h), .v (.string p), .v (.agg ⟨c⟩), .v (.int .i64 i)]) (by
    obtain ⟨rfl, hr1⟩ := hr
    obtain ⟨oa, cap, rfl, h1, h2, h0, hel⟩ := id hl
    repeat ((conv => whnf); first | refine ⟨Eq.refl _, ?_⟩ | refine ⟨⟨Eq.refl _, Eq.refl _⟩, ?_⟩ | refine ⟨⟨Eq.refl _, Eq.refl _, Eq.refl _⟩, ?_⟩ | refine ⟨⟨Eq.refl _, Eq.refl _, Eq.refl _, Eq.refl _⟩, ?_⟩ | refine ⟨⟨Eq.refl _, Eq.refl _, Eq.refl _, Eq.refl _, Eq.refl _⟩, ?_⟩ | refine fun (_ : Nat) => ?_ | refine fun (_ : Option Addr) (_ : Nat) => ?_ | fail)
    conv => whnf
    refine .inl ⟨_, ok_long _ hl _ _, ?_⟩
    conv => whnf
    refine ⟨fun hb => ?_, fun hb => ?_⟩
    · conv => whnf
      refine .inl ⟨_, ok_chosen _, ?_⟩
      conv => whnf
      intro g2 hg
      rfl
    obtain ⟨s1, s2, s3, s4⟩ := small_of hb
    repeat ((conv => whnf); first | refine ⟨Eq.refl _, ?_⟩ | refine ⟨⟨Eq.refl _, Eq.refl _⟩, ?_⟩ | refine ⟨⟨Eq.refl _, Eq.refl _, Eq.refl _⟩, ?_⟩ | refine ⟨⟨Eq.refl _, Eq.refl _, Eq.refl _, Eq.refl _⟩, ?_⟩ | refine ⟨⟨Eq.refl _, Eq.refl _, Eq.refl _, Eq.refl _, Eq.refl _⟩, ?_⟩ | refine fun (_ : Nat) => ?_ | refine fun (_ : Option Addr) (_ : Nat) => ?_ | fail)
    conv => whnf
    refine ⟨fun k1 => ?_, fun k1 => ?_⟩
    · conv => whnf
      refine .inl ⟨_, ok_chosen _, ?_⟩
      conv => whnf
      intro g2 hg
      rfl
    repeat ((conv => whnf); first | refine ⟨Eq.refl _, ?_⟩ | refine ⟨⟨Eq.refl _, Eq.refl _⟩, ?_⟩ | refine ⟨⟨Eq.refl _, Eq.refl _, Eq.refl _⟩, ?_⟩ | refine ⟨⟨Eq.refl _, Eq.refl _, Eq.refl _, Eq.refl _⟩, ?_⟩ | refine ⟨⟨Eq.refl _, Eq.refl _, Eq.refl _, Eq.refl _, Eq.refl _⟩, ?_⟩ | refine fun (_ : Nat) => ?_ | refine fun (_ : Option Addr) (_ : Nat) => ?_ | fail)
    conv => whnf
    refine ⟨fun k2 => ?_, fun k2 => ?_⟩
    · conv => whnf
      refine .inl ⟨_, ok_chosen _, ?_⟩
      conv => whnf
      intro g2 hg
      rfl
    have hsr : SmR r := by
      have := of_decide_eq_false k1; have := of_decide_eq_false k2
      unfold SmR Sm; omega
    conv => whnf
    refine ⟨fun k3 => ?_, fun k3 => ?_⟩
    · conv => whnf
      refine .inl ⟨_, ok_chosen _, ?_⟩
      conv => whnf
      intro g2 hg
      rfl
    conv => whnf
    refine ⟨fun k4 => ?_, fun k4 => ?_⟩
    · conv => whnf
      refine .inl ⟨_, ok_chosen _, ?_⟩
      conv => whnf
      intro g2 hg
      rfl
    have k3 := of_decide_eq_false k3
    have k4 := of_decide_eq_false k4
    obtain ⟨m, rfl⟩ := Int.eq_ofNat_of_zero_le (show 0 ≤ i by omega)
    have hm' : m ≤ l.length := by simp at k4; omega
    repeat ((conv => whnf); first | refine ⟨Eq.refl _, ?_⟩ | refine ⟨⟨Eq.refl _, Eq.refl _⟩, ?_⟩ | refine ⟨⟨Eq.refl _, Eq.refl _, Eq.refl _⟩, ?_⟩ | refine ⟨⟨Eq.refl _, Eq.refl _, Eq.refl _, Eq.refl _⟩, ?_⟩ | refine ⟨⟨Eq.refl _, Eq.refl _, Eq.refl _, Eq.refl _, Eq.refl _⟩, ?_⟩ | refine fun (_ : Nat) => ?_ | refine fun (_ : Option Addr) (_ : Nat) => ?_ | fail)
    conv => whnf
    refine .inl ⟨_, ok_Fits _ r _ _ _ ⟨hsr, s2, s3⟩, ?_⟩
    conv => whnf
    refine ⟨fun hf => ?_, fun hf => ?_⟩
    · conv => whnf
      refine .inl ⟨_, ok_chosen _, ?_⟩
      conv => whnf
      intro g2 hg
      rfl
    have hsm : SmL (l.take m ++ r :: l.drop m) := fun q hq => by
      rcases List.mem_append.1 hq with hq | hq
      · exact s1 q (List.mem_of_mem_take hq)
      · rcases List.mem_cons.1 hq with rfl | hq
        · exact hsr
        · exact s1 q (List.mem_of_mem_drop hq)
    obtain ⟨a, e, hv, ha⟩ := best_val (fit := fitR n h p) l
    have hidle := best_idle (fit := fitR n h p) (a := l.take m) (b := l.drop m) (r := r) hf
    rw [List.take_append_drop, List.length_take, Nat.min_eq_left hm'] at hidle
    obtain ⟨b, f, hw, hbf⟩ := best_val (fit := fitR n h p) (l.take m ++ r :: l.drop m)
    have hln : (l.take m).length = m := by rw [List.length_take]; omega
    have hT : RdSl g 4 (.slice oa m cap) m ((l.take m).map cRule).flatten := by
      have := rSl_rd (hl.take hm') cRule (fun _ _ h => h.1)
      rwa [hln] at this
    have hD : RdSl g 4 (.slice (if cap = m then oa else oa.map (·.add (m * 4))) (l.length - m) (cap - m)) (l.length - m) ((l.drop m).map cRule).flatten := by
      have := rSl_rd (hl.drop hm') cRule (fun _ _ h => h.1)
      rwa [List.length_drop] at this
    repeat ((conv => whnf); first | refine ⟨Eq.refl _, ?_⟩ | refine ⟨⟨Eq.refl _, Eq.refl _⟩, ?_⟩ | refine ⟨⟨Eq.refl _, Eq.refl _, Eq.refl _⟩, ?_⟩ | refine ⟨⟨Eq.refl _, Eq.refl _, Eq.refl _, Eq.refl _⟩, ?_⟩ | refine ⟨⟨Eq.refl _, Eq.refl _, Eq.refl _, Eq.refl _, Eq.refl _⟩, ?_⟩ | refine fun (_ : Nat) => ?_ | refine fun (_ : Option Addr) (_ : Nat) => ?_ | fail)
    conv => whnf
    refine ⟨⟨by omega, by omega⟩, ?_⟩
    conv => whnf
    refine ⟨⟨rfl, rfl, rfl, rfl, by unfold maxLen; omega⟩, ?_⟩
    conv => whnf
    refine ⟨_, ⟨hT, oneR _⟩, ?_⟩
    repeat ((conv => whnf); first | refine ⟨Eq.refl _, ?_⟩ | refine ⟨⟨Eq.refl _, Eq.refl _⟩, ?_⟩ | refine ⟨⟨Eq.refl _, Eq.refl _, Eq.refl _⟩, ?_⟩ | refine ⟨⟨Eq.refl _, Eq.refl _, Eq.refl _, Eq.refl _⟩, ?_⟩ | refine ⟨⟨Eq.refl _, Eq.refl _, Eq.refl _, Eq.refl _, Eq.refl _⟩, ?_⟩ | refine fun (_ : Nat) => ?_ | refine fun (_ : Option Addr) (_ : Nat) => ?_ | fail)
    conv => whnf
    refine ⟨⟨by unfold maxLen; omega, by omega⟩, fun oa2 cap2 => ?_⟩
    repeat ((conv => whnf); first | refine ⟨Eq.refl _, ?_⟩ | refine ⟨⟨Eq.refl _, Eq.refl _⟩, ?_⟩ | refine ⟨⟨Eq.refl _, Eq.refl _, Eq.refl _⟩, ?_⟩ | refine ⟨⟨Eq.refl _, Eq.refl _, Eq.refl _, Eq.refl _⟩, ?_⟩ | refine ⟨⟨Eq.refl _, Eq.refl _, Eq.refl _, Eq.refl _, Eq.refl _⟩, ?_⟩ | refine fun (_ : Nat) => ?_ | refine fun (_ : Option Addr) (_ : Nat) => ?_ | fail)
    conv => whnf
    refine ⟨⟨by unfold maxLen; omega, by omega⟩, fun oa3 cap3 => ?_⟩
    repeat ((conv => whnf); first | refine ⟨Eq.refl _, ?_⟩ | refine ⟨⟨Eq.refl _, Eq.refl _⟩, ?_⟩ | refine ⟨⟨Eq.refl _, Eq.refl _, Eq.refl _⟩, ?_⟩ | refine ⟨⟨Eq.refl _, Eq.refl _, Eq.refl _, Eq.refl _⟩, ?_⟩ | refine ⟨⟨Eq.refl _, Eq.refl _, Eq.refl _, Eq.refl _, Eq.refl _⟩, ?_⟩ | refine fun (_ : Nat) => ?_ | refine fun (_ : Option Addr) (_ : Nat) => ?_ | fail)
    conv => whnf
    refine ⟨⟨by omega, by omega⟩, ?_⟩
    conv => whnf
    refine ⟨_, ⟨hD, oneR _⟩, ?_⟩
    repeat ((conv => whnf); first | refine ⟨Eq.refl _, ?_⟩ | refine ⟨⟨Eq.refl _, Eq.refl _⟩, ?_⟩ | refine ⟨⟨Eq.refl _, Eq.refl _, Eq.refl _⟩, ?_⟩ | refine ⟨⟨Eq.refl _, Eq.refl _, Eq.refl _, Eq.refl _⟩, ?_⟩ | refine ⟨⟨Eq.refl _, Eq.refl _, Eq.refl _, Eq.refl _, Eq.refl _⟩, ?_⟩ | refine fun (_ : Nat) => ?_ | refine fun (_ : Option Addr) (_ : Nat) => ?_ | fail)
    conv => whnf
    refine ⟨⟨by unfold maxLen; omega, by omega⟩, fun oa4 cap4 => ?_⟩
    conv => whnf
    refine .inl ⟨_, (ok_Best _ hl _ _ _ ⟨s1, s2, s3⟩).to hv, ?_⟩
    repeat ((conv => whnf); first | refine ⟨Eq.refl _, ?_⟩ | refine ⟨⟨Eq.refl _, Eq.refl _⟩, ?_⟩ | refine ⟨⟨Eq.refl _, Eq.refl _, Eq.refl _⟩, ?_⟩ | refine ⟨⟨Eq.refl _, Eq.refl _, Eq.refl _, Eq.refl _⟩, ?_⟩ | refine ⟨⟨Eq.refl _, Eq.refl _, Eq.refl _, Eq.refl _, Eq.refl _⟩, ?_⟩ | refine fun (_ : Nat) => ?_ | refine fun (_ : Option Addr) (_ : Nat) => ?_ | fail)
    conv => whnf
    refine fun g1 hg1 hn1 hp1 => ?_
    have hm2 : rSl 4 rRule g1 (.slice oa4 (0 + m + 1 + (l.length - m)) cap4) (l.take m ++ r :: l.drop m) := rules_of hp1.rd _ (by simp) (by simp; omega) fun q hq => by
      rcases List.mem_append.1 hq with hq | hq
      · exact inr_rules hl q (List.mem_of_mem_take hq)
      · rcases List.mem_cons.1 hq with rfl | hq
        · exact hr1
        · exact inr_rules hl q (List.mem_of_mem_drop hq)
    conv => whnf
    refine .inl ⟨_, (ok_Best _ hm2 _ _ _ ⟨hsm, s2, s3⟩).to hw, ?_⟩
    have fin : ∀ a' : Int, (if (e == 0) = true then (if (m : Int) ≤ a then a + 1 else a) else a) = a' → a' = b ∧ e = f := fun a' h' => by
      rcases ha with ⟨rfl, j, hj, rfl⟩ | ⟨rfl, rfl, hno⟩
      · rw [hj] at hidle
        rcases hbf with ⟨rfl, k, hk, rfl⟩ | ⟨_, _, hno⟩
        · rw [hk] at hidle
          simp only [Option.map_some, Option.some.injEq] at hidle
          refine ⟨?_, rfl⟩
          rw [← h', hidle]
          simp only [beq_self_eq_true, if_true]
          split <;> split <;> omega
        · rw [hno] at hidle; cases hidle
      · rw [hno] at hidle
        rcases hbf with ⟨_, k, hk, _⟩ | ⟨rfl, rfl, _⟩
        · rw [hk] at hidle; cases hidle
        · exact ⟨by rw [← h']; rfl, rfl⟩
    have haR : e = 0 → a < 100 ∧ 0 ≤ a := fun he => by
      rcases ha with ⟨_, j, hj, rfl⟩ | ⟨h5, _⟩
      · have := bestO_lt hj; omega
      · omega
    conv => whnf
    refine ⟨fun k5 => ?_, fun k5 => ?_⟩
    · have he : e = 0 := by simpa using k5
      have := haR he
      conv => whnf
      refine ⟨fun k6 => ?_, fun k6 => ?_⟩
      · have hk := of_decide_eq_true k6
        obtain ⟨rfl, rfl⟩ := fin (a + 1) (by rw [k5]; simp only [if_true]; rw [if_pos hk])
        conv => whnf
        refine .inl ⟨_, ok_chosen _, ?_⟩
        conv => whnf
        refine ⟨fun _ => ?_, fun h => nomatch h⟩
        conv => whnf
        refine ⟨fun _ => ?_, fun hx => absurd hx (by rw [wr (by omega)]; simp)⟩
        conv => whnf
        intro g2 hg
        simp
      · have hk := of_decide_eq_false k6
        obtain ⟨rfl, rfl⟩ := fin a (by rw [k5]; simp only [if_true]; rw [if_neg hk])
        conv => whnf
        refine .inl ⟨_, ok_chosen _, ?_⟩
        conv => whnf
        refine ⟨fun _ => ?_, fun h => nomatch h⟩
        conv => whnf
        refine ⟨fun _ => ?_, fun hx => absurd hx (by simp)⟩
        conv => whnf
        intro g2 hg
        simp
    · obtain ⟨rfl, rfl⟩ := fin a (by rw [k5]; rfl)
      conv => whnf
      refine .inl ⟨_, ok_chosen _, ?_⟩
      conv => whnf
      refine ⟨fun _ => ?_, fun h => nomatch h⟩
      conv => whnf
      refine ⟨fun _ => ?_, fun hx => absurd hx (by simp)⟩
      conv => whnf
      intro g2 hg
      simp)
end Go.Proofs.Ytjbhkahjhohaeaa
