/- The law EpochWaits, by the contracts of the epochs. -/
import Derived.Test.YtddndeflnfogoaaEp
namespace Go.Proofs.Ytddndeflnfogoaa
open Go.Proofs.Ytddndeflnfogoaa.Sx
theorem all_cons_false {l : List Int} {f : Int → Bool} {x : Int} (h : f x = false) : (x :: l).all f = false := by simp [h]
theorem lw_Waits (g : GW) {now n x : Int} (hn : InR now) (hx : InR x) {v : Value} {l : List Int} (hl : Ints g v l) : OkV Try.prog 4 [.int .i64 now, .int .i64 n, .int .i64 x, v] g (.bool true) :=
  Ok.of_fn hm noT 0 t_hydrantlaw15_EpochWaits (args := [.v (.int .i64 now), .v (.int .i64 n), .v (.int .i64 x), .v v]) (by
    obtain ⟨oa, cap, rfl, h1, h2, hr⟩ := hl.open
    have out : ∀ {K : SV → Prop}, True := trivial
    conv => whnf
    refine ⟨fun k1 => ?_, fun k1 => ?_⟩
    · conv => whnf
      refine .inl ⟨_, ok_passed _, ?_⟩
      conv => whnf
      intro g2 hg
      rfl
    conv => whnf
    refine ⟨fun k2 => ?_, fun k2 => ?_⟩
    · conv => whnf
      refine .inl ⟨_, ok_passed _, ?_⟩
      conv => whnf
      intro g2 hg
      rfl
    conv => whnf
    refine ⟨fun k3 => ?_, fun k3 => ?_⟩
    · conv => whnf
      refine .inl ⟨_, ok_passed _, ?_⟩
      conv => whnf
      intro g2 hg
      rfl
    conv => whnf
    refine ⟨fun k4 => ?_, fun k4 => ?_⟩
    · conv => whnf
      refine .inl ⟨_, ok_passed _, ?_⟩
      conv => whnf
      intro g2 hg
      rfl
    conv => whnf
    refine ⟨fun k5 => ?_, fun k5 => ?_⟩
    · conv => whnf
      refine .inl ⟨_, ok_passed _, ?_⟩
      conv => whnf
      intro g2 hg
      rfl
    conv => whnf
    refine ⟨fun k6 => ?_, fun k6 => ?_⟩
    · conv => whnf
      refine .inl ⟨_, ok_passed _, ?_⟩
      conv => whnf
      intro g2 hg
      rfl
    conv => whnf
    refine ⟨fun k7 => ?_, fun k7 => ?_⟩
    · conv => whnf
      refine .inl ⟨_, ok_passed _, ?_⟩
      conv => whnf
      intro g2 hg
      rfl
    have k1 := of_decide_eq_false k1
    have k2 := of_decide_eq_false k2
    have k3 := of_decide_eq_false k3
    have k4 := of_decide_eq_false k4
    have k5 := of_decide_eq_false k5
    have k6 := of_decide_eq_false k6
    have k7 := of_decide_eq_false k7
    have hw1 : IntKind.i64.wrap (now + 1) = now + 1 := wr (by omega)
    conv => whnf
    intro b
    conv => whnf
    refine ⟨⟨rfl, rfl, rfl, rfl, by unfold maxLen; omega⟩, ?_⟩
    conv => whnf
    refine ⟨_, ⟨hl.1, by simp [Value.oneCell']⟩, ?_⟩
    conv => whnf
    refine ⟨⟨rfl, rfl, rfl, rfl, rfl⟩, ⟨by unfold maxLen; omega, by omega⟩, fun oa2 cap2 => ?_⟩
    have hI : InR (now + 1) := by omega
    conv => whnf
    refine ⟨Nat × Int × GW, fun x => [.v (.int .i64 x.2.1), .v (.int .i64 x.1)], fun x => ⟨x.2.2, [], 2⟩, fun y => g ≤ y.2.2 ∧ Ints y.2.2 (.slice oa2 (1 + l.length) cap2) ((now + 1) :: l) ∧ (y.1 : Int) ≤ n ∧ (y.2.1 = now ∨ y.2.1 = now + 1), fun x => n.toNat - x.1, ?_, ?_⟩
    · intro fr w hw
      obtain ⟨g', hg', hrd, hw'⟩ := hw.row_pub
      refine ⟨(0, now, g'), rfl, ⟨hg', ⟨?_, ?_⟩, by show ((0 : Nat) : Int) ≤ n; omega, .inl rfl⟩, hw'⟩
      · rw [hw1] at hrd
        simpa [Nat.add_comm] using hrd
      · intro p hp
        rcases List.mem_cons.1 hp with rfl | hp
        · exact hI
        · exact hl.2 p hp
    · intro ⟨i, e, g1⟩ ⟨hg1, hL, hi, he⟩
      have he' : InR e := by rcases he with rfl | rfl; exact hn; exact hI
      conv => whnf
      refine ⟨fun h => ?_, fun h => ?_⟩
      · have hlt : (i : Int) < n := of_decide_eq_true h
        obtain ⟨e2, he2, hok⟩ : ∃ e2, (e2 = now ∨ e2 = now + 1) ∧ OkV Try.prog 14 [.int .i64 e, .slice oa2 (1 + l.length) cap2] g1 (.int .i64 e2) := by
          refine ⟨_, ?_, ok_Next g1 he' hL⟩
          rcases he with rfl | rfl
          · split
            · exact .inr rfl
            · exact .inl rfl
          · have : canB (now + 1) ((now + 1) :: l) = false := all_cons_false (by simp [goodB]; omega)
            rw [this]; simp
        conv => whnf
        refine .inl ⟨_, hok, ?_⟩
        conv => whnf
        refine ⟨fun h3 => ?_, fun h3 => ?_⟩
        · have := of_decide_eq_true h3
          exfalso; omega
        have he2' : InR e2 := by rcases he2 with rfl | rfl; exact hn; exact hI
        have hs : (decide (x ≤ 9223372036854775805) && decide (x + 2 ≤ e2)) = false := by
          rw [decide_eq_false (p := x + 2 ≤ e2) (by omega)]; simp
        conv => whnf
        refine .inl ⟨.bool false, hs ▸ ok_Safe _ hx, ?_⟩
        conv => whnf
        refine ⟨fun h => (nomatch h), fun _ => ?_⟩
        have hh : holdsB x ((now + 1) :: l) = true := by
          unfold holdsB
          rw [all_cons_false (by simp [heldB]; omega)]; rfl
        conv => whnf
        refine .inl ⟨.bool true, hh ▸ ok_Holds _ hL, ?_⟩
        conv => whnf
        refine ⟨fun h => (nomatch h), fun _ => ?_⟩
        have hw2 : IntKind.i64.wrap ((i : Int) + 1) = ((i + 1 : Nat) : Int) := by rw [wr (by omega)]; simp
        conv => whnf
        refine fun _ _ hw => ⟨(i + 1, e2, g1), congrArg (fun z => [Value.int .i64 e2, Value.int .i64 z]) hw2.symm, ⟨hg1, hL, by show ((i + 1 : Nat) : Int) ≤ n; omega, he2⟩, by show n.toNat - (i + 1) < n.toNat - i; omega, hw⟩
      · conv => whnf
        refine .inl ⟨_, ok_passed _, ?_⟩
        conv => whnf
        intro g2 hg
        rfl)
end Go.Proofs.Ytddndeflnfogoaa
