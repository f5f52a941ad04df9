/- The law EpochFree, by the contracts of the epochs. -/
import Derived.Test.YtddndeflnfogoaaEp
namespace Go.Proofs.Ytddndeflnfogoaa
open Go.Proofs.Ytddndeflnfogoaa.Sx
theorem lw_Free (g : GW) {x now : Int} (hx : InR x) (hn : InR now) {v : Value} {l : List Int} (hl : Ints g v l) : OkV Try.prog 5 [.int .i64 x, .int .i64 now, v] g (.bool true) :=
  Ok.of_fn hm noT 0 t_hydrantlaw15_EpochFree (args := [.v (.int .i64 x), .v (.int .i64 now), .v v]) (by
    obtain ⟨oa, cap, rfl, h1, h2, hr⟩ := hl.open
    conv => whnf
    refine ⟨fun k1 => ?_, fun k1 => ?_⟩
    · conv => whnf
      refine .inl ⟨_, ok_passed _, ?_⟩
      conv => whnf
      intro g2 hg
      rfl
    · conv => whnf
      refine ⟨fun k2 => ?_, fun k2 => ?_⟩
      · conv => whnf
        refine .inl ⟨_, ok_passed _, ?_⟩
        conv => whnf
        intro g2 hg
        rfl
      · conv => whnf
        refine ⟨fun k3 => ?_, fun k3 => ?_⟩
        · conv => whnf
          refine .inl ⟨_, ok_passed _, ?_⟩
          conv => whnf
          intro g2 hg
          rfl
        · conv => whnf
          refine ⟨fun k4 => ?_, fun k4 => ?_⟩
          · conv => whnf
            refine .inl ⟨_, ok_passed _, ?_⟩
            conv => whnf
            intro g2 hg
            rfl
          · conv => whnf
            refine ⟨fun k5 => ?_, fun k5 => ?_⟩
            · conv => whnf
              refine .inl ⟨_, ok_passed _, ?_⟩
              conv => whnf
              intro g2 hg
              rfl
            · have k2 := of_decide_eq_false k2
              have k3 := of_decide_eq_false k3
              have k4 := of_decide_eq_false k4
              have k5 := of_decide_eq_false k5
              have hnx : decide (now < 9223372036854775807) = true := decide_eq_true (by omega)
              conv => whnf
              refine .inl ⟨_, ok_Next _ hn hl, ?_⟩
              conv => whnf
              refine ⟨fun k6 => ?_, fun k6 => ?_⟩
              · have hc : canB now l = false := by
                  cases hc : canB now l with
                  | false => rfl
                  | true => rw [hnx, hc] at k6; simp at k6; omega
                conv => whnf
                refine .inl ⟨_, ok_passed _, ?_⟩
                conv => whnf
                refine ⟨fun _ => ?_, fun h => nomatch h⟩
                conv => whnf
                refine .inl ⟨.bool false, hc ▸ ok_Can _ hn hl, ?_⟩
                conv => whnf
                intro g2 hg
                rfl
              · have hc : canB now l = true := by
                  cases hc : canB now l with
                  | true => rfl
                  | false => rw [hc] at k6; simp at k6
                have hp : ∀ p ∈ l, p = 0 ∨ p = now + 1 := fun p hp => by
                  have := List.all_eq_true.1 hc p hp
                  simp [goodB] at this; omega
                conv => whnf
                refine ⟨Nat, fun i => [.v (.int .i64 i)], fun _ => ⟨g, [], 0⟩, fun i => i ≤ l.length, fun i => l.length - i, ⟨0, Imp.refl _ _, Nat.zero_le _⟩, ?_⟩
                intro i hi
                conv => whnf
                refine ⟨fun h => ?_, fun h => ?_⟩
                · have h' : i < l.length := by have := of_decide_eq_true h; omega
                  obtain ⟨a, ha, hc⟩ := hr i h'
                  conv => whnf
                  refine ⟨a, ha, ⟨by omega, by omega⟩, ?_⟩
                  conv => whnf
                  refine ⟨_, hc, ?_⟩
                  conv => whnf
                  refine ⟨fun hz => ?_, fun hz => ?_⟩
                  · have := of_decide_eq_true hz
                    have := hp _ (List.getElem_mem h')
                    exfalso; omega
                  · conv => whnf
                    refine ⟨i + 1, Imp.eqv _ (congrArg (fun z => [Value.int .i64 z]) (wr1 h' h1 h2).symm), h', dec h'⟩
                · conv => whnf
                  refine .inl ⟨_, ok_passed _, ?_⟩
                  conv => whnf
                  refine ⟨fun _ => ?_, fun h => nomatch h⟩
                  conv => whnf
                  refine ⟨fun _ => ?_, fun h => absurd h (by rw [hnx, hc, wr (by omega)]; simp)⟩
                  have hh : holdsB x l = false := by
                    unfold holdsB
                    rw [Bool.not_eq_false']
                    refine List.all_eq_true.2 fun p hp' => ?_
                    have := hp p hp'
                    simp [heldB]; omega
                  conv => whnf
                  refine .inl ⟨.bool false, hh ▸ ok_Holds _ hl, ?_⟩
                  conv => whnf
                  intro g2 hg
                  rfl)
end Go.Proofs.Ytddndeflnfogoaa
