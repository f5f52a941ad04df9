/- Scripts: bytes as numbers, the document's way; what is the same. -/
import Derived.Test.YtedjbhpocedagaaLK5d
import Derived.Test.YtedjbhpocedagaaLB1
import Derived.Test.YtedjbhpocedagaaPl
namespace Go.Proofs.Ytedjbhpocedagaa
open Go.Proofs.Ytedjbhpocedagaa.Sx Go.RowKit
theorem ok_rPicks (g : GW) {v : Value} {b : List Nat} (hl : rSl 1 rByt g v b) (hsz : b.length ≤ 1000000) : Ok Try.prog n_hydrantref08_Picks [v] g (PicksP b) := by
  obtain ⟨oa, ca, rfl, a1, a2, a0, hr1⟩ := id hl
  exact Ok.of_fn hm noT 0 t_hydrantref08_Picks (args := [.v (.slice oa b.length ca)]) (by
    repeat ((conv => whnf); first | refine ⟨Eq.refl _, ?_⟩ | refine ⟨⟨Eq.refl _, Eq.refl _⟩, ?_⟩ | refine ⟨⟨Eq.refl _, Eq.refl _, Eq.refl _⟩, ?_⟩ | refine ⟨⟨Eq.refl _, Eq.refl _, Eq.refl _, Eq.refl _⟩, ?_⟩ | refine ⟨⟨Eq.refl _, Eq.refl _, Eq.refl _, Eq.refl _, Eq.refl _⟩, ?_⟩ | refine fun (_ : Nat) => ?_ | refine fun (_ : Option Addr) (_ : Nat) => ?_ | fail)
    conv => whnf
    refine ⟨Nat × List Nat × Option Addr × Nat, fun (j, out, oR, cR) => [.row 0 oR out.length cR, .v (.int .i64 j)], fun (_, out, oR, cR) => ⟨g, [.row 0 oR out.length cR ty_int 1 (cI out)], 40, g.w.heap.size⟩, fun (j, out, _, _) => j ≤ b.length ∧ picksL (b.drop j).length out (b.drop j) = picksL b.length [] b ∧ out.length ≤ 4000, fun (j, _, _, _) => b.length - j, ?_, ?_⟩
    · intro fr w hw
      exact ⟨(0, [], some ⟨_, 0, none⟩, 0), rfl, ⟨Nat.zero_le _, rfl, Nat.zero_le _⟩, hw.blk_row 0 1 rfl (Nat.zero_le _)⟩
    rintro ⟨j, out, oR, cR⟩ ⟨hj, hp, ho⟩
    repeat ((conv => whnf); first | refine ⟨Eq.refl _, ?_⟩ | refine ⟨⟨Eq.refl _, Eq.refl _⟩, ?_⟩ | refine ⟨⟨Eq.refl _, Eq.refl _, Eq.refl _⟩, ?_⟩ | refine ⟨⟨Eq.refl _, Eq.refl _, Eq.refl _, Eq.refl _⟩, ?_⟩ | refine ⟨⟨Eq.refl _, Eq.refl _, Eq.refl _, Eq.refl _, Eq.refl _⟩, ?_⟩ | refine fun (_ : Nat) => ?_ | refine fun (_ : Option Addr) (_ : Nat) => ?_ | fail)
    conv => whnf
    refine ⟨fun hlt => ?_, fun hlt => ?_⟩
    rotate_left
    · repeat ((conv => whnf); first | refine ⟨Eq.refl _, ?_⟩ | refine ⟨⟨Eq.refl _, Eq.refl _⟩, ?_⟩ | refine ⟨⟨Eq.refl _, Eq.refl _, Eq.refl _⟩, ?_⟩ | refine ⟨⟨Eq.refl _, Eq.refl _, Eq.refl _, Eq.refl _⟩, ?_⟩ | refine ⟨⟨Eq.refl _, Eq.refl _, Eq.refl _, Eq.refl _, Eq.refl _⟩, ?_⟩ | refine fun (_ : Nat) => ?_ | refine fun (_ : Option Addr) (_ : Nat) => ?_ | fail)
      conv => whnf
      refine fun g1 hg1 hn1 hp1 => ?_
      conv => whnf
      intro g2 hg
      have : j = b.length := by have := of_decide_eq_false hlt; omega
      subst this
      refine .inr ⟨out, oR, cR, by rw [← hp]; simp [picksL], rfl, hp1.rd.mono hg⟩
    have hj' : j < b.length := by have := of_decide_eq_true hlt; omega
    have hlenR : (b.drop j).length = b.length - j := List.length_drop
    have h9 : (128 : Nat) ^ 9 = 9223372036854775808 := by decide
    have h8 : (128 : Nat) ^ 8 = 72057594037927936 := by decide
    repeat ((conv => whnf); first | refine ⟨Eq.refl _, ?_⟩ | refine ⟨⟨Eq.refl _, Eq.refl _⟩, ?_⟩ | refine ⟨⟨Eq.refl _, Eq.refl _, Eq.refl _⟩, ?_⟩ | refine ⟨⟨Eq.refl _, Eq.refl _, Eq.refl _, Eq.refl _⟩, ?_⟩ | refine ⟨⟨Eq.refl _, Eq.refl _, Eq.refl _, Eq.refl _, Eq.refl _⟩, ?_⟩ | refine fun (_ : Nat) => ?_ | refine fun (_ : Option Addr) (_ : Nat) => ?_ | fail)
    conv => whnf
    refine ⟨Nat, fun k => [.v (.int .i64 (accN ((b.drop j).take k) : Nat)), .v (.int .i64 ((128 ^ min k 8 : Nat) : Int)), .v (.int .i64 k)], fun _ => ⟨g, [.row 0 oR out.length cR ty_int 1 (cI out)], 40, g.w.heap.size⟩, fun k => k ≤ 9 ∧ j + k ≤ b.length ∧ ∀ x ∈ (b.drop j).take k, 128 ≤ x, fun k => 9 - k, loop_here 0 rfl ⟨Nat.zero_le _, by omega, by simp⟩ rfl, ?_⟩
    rintro k ⟨hk9, hjk, hge⟩
    have hjw : IntKind.i64.wrap ((j : Int) + (k : Int)) = ((j + k : Nat) : Int) := by rw [wr (show InR _ by unfold InR; omega)]; simp
    have hdec := dec_go (p := (b.drop j).take k) (r := (b.drop j).drop k) (fuel := 9) (i := 0) hge (by rw [List.length_take]; omega)
    rw [List.take_append_drop] at hdec
    have bad : decN 9 0 (b.drop j) = none → picksL b.length [] b = .error 11 := fun h => by
      rw [← hp]
      exact picks_bad (fun e => by rw [e] at hlenR; simp at hlenR; omega) h
    have hlk : ((b.drop j).take k).length = k := by rw [List.length_take, hlenR]; omega
    conv => whnf
    rw [hjw]
    conv => whnf
    refine ⟨fun hc1 => ?_, fun hc1 => ?_⟩
    · have hc1 : j + k < b.length := by have := of_decide_eq_true hc1; omega
      obtain ⟨y, hy⟩ := getL_of hc1
      obtain ⟨a, rfl, ec, hec, ⟨rfl, hy2⟩, hc⟩ := hr1 (j + k) y hy
      have hyd : (b.drop j)[k]? = some y := by rw [List.getElem?_drop]; exact hy
      have hb256 : ∀ x ∈ (b.drop j).take k, x < 256 := fun x hx => by
        obtain ⟨i, hi⟩ := List.getElem?_of_mem (List.mem_of_mem_drop (List.mem_of_mem_take hx))
        obtain ⟨_, _, _, _, ⟨_, h2⟩, _⟩ := hr1 i x hi
        exact h2
      have hacc := accN_lt hb256
      rw [hlk] at hacc
      conv => whnf
      rw [hjw]
      conv => whnf
      refine ⟨a, rfl, ⟨by omega, by omega⟩, ?_⟩
      conv => whnf
      refine ⟨_, hc 0 _ rfl, ?_⟩
      repeat ((conv => whnf); first | refine ⟨Eq.refl _, ?_⟩ | refine ⟨⟨Eq.refl _, Eq.refl _⟩, ?_⟩ | refine ⟨⟨Eq.refl _, Eq.refl _, Eq.refl _⟩, ?_⟩ | refine ⟨⟨Eq.refl _, Eq.refl _, Eq.refl _, Eq.refl _⟩, ?_⟩ | refine ⟨⟨Eq.refl _, Eq.refl _, Eq.refl _, Eq.refl _, Eq.refl _⟩, ?_⟩ | refine fun (_ : Nat) => ?_ | refine fun (_ : Option Addr) (_ : Nat) => ?_ | fail)
      conv => whnf
      refine ⟨fun hc2 => ?_, fun hc2 => ?_⟩
      · have hy1 : 128 ≤ y := by have := of_decide_eq_true hc2; omega
        repeat ((conv => whnf); first | refine ⟨Eq.refl _, ?_⟩ | refine ⟨⟨Eq.refl _, Eq.refl _⟩, ?_⟩ | refine ⟨⟨Eq.refl _, Eq.refl _, Eq.refl _⟩, ?_⟩ | refine ⟨⟨Eq.refl _, Eq.refl _, Eq.refl _, Eq.refl _⟩, ?_⟩ | refine ⟨⟨Eq.refl _, Eq.refl _, Eq.refl _, Eq.refl _, Eq.refl _⟩, ?_⟩ | refine fun (_ : Nat) => ?_ | refine fun (_ : Option Addr) (_ : Nat) => ?_ | fail)
        conv => whnf
        refine ⟨fun hc3 => ?_, fun hc3 => ?_⟩
        · have hk : k < 9 := by have := of_decide_eq_true hc3; omega
          conv => whnf
          rw [hjw]
          conv => whnf
          refine ⟨a, rfl, ⟨by omega, by omega⟩, ?_⟩
          conv => whnf
          refine ⟨_, hc 0 _ rfl, ?_⟩
          repeat ((conv => whnf); first | refine ⟨Eq.refl _, ?_⟩ | refine ⟨⟨Eq.refl _, Eq.refl _⟩, ?_⟩ | refine ⟨⟨Eq.refl _, Eq.refl _, Eq.refl _⟩, ?_⟩ | refine ⟨⟨Eq.refl _, Eq.refl _, Eq.refl _, Eq.refl _⟩, ?_⟩ | refine ⟨⟨Eq.refl _, Eq.refl _, Eq.refl _, Eq.refl _, Eq.refl _⟩, ?_⟩ | refine fun (_ : Nat) => ?_ | refine fun (_ : Option Addr) (_ : Nat) => ?_ | fail)
          have hT : accN ((b.drop j).take (k + 1)) = accN ((b.drop j).take k) + (y - 128) * 128 ^ k := by
            have := accN_snoc ((b.drop j).take k) y
            rw [hlk] at this
            rw [List.take_succ_eq_append_getElem (by omega), (List.getElem?_eq_some_iff.1 hyd).2, this]
          have hge' : ∀ x ∈ (b.drop j).take (k + 1), 128 ≤ x := by
            rw [List.take_succ_eq_append_getElem (by omega), (List.getElem?_eq_some_iff.1 hyd).2]
            intro x hx
            rcases List.mem_append.1 hx with hx | hx
            · exact hge x hx
            · simp at hx; omega
          have hk1 : IntKind.i64.wrap ((k : Int) + 1) = ((k + 1 : Nat) : Int) := by rw [wr (show InR _ by unfold InR; omega)]; simp
          conv => whnf
          refine ⟨fun hc4 => ?_, fun hc4 => ?_⟩
          · have hk8 : k < 8 := by have := of_decide_eq_true hc4; omega
            repeat ((conv => whnf); first | refine ⟨Eq.refl _, ?_⟩ | refine ⟨⟨Eq.refl _, Eq.refl _⟩, ?_⟩ | refine ⟨⟨Eq.refl _, Eq.refl _, Eq.refl _⟩, ?_⟩ | refine ⟨⟨Eq.refl _, Eq.refl _, Eq.refl _, Eq.refl _⟩, ?_⟩ | refine ⟨⟨Eq.refl _, Eq.refl _, Eq.refl _, Eq.refl _, Eq.refl _⟩, ?_⟩ | refine fun (_ : Nat) => ?_ | refine fun (_ : Option Addr) (_ : Nat) => ?_ | fail)
            conv => whnf
            refine fun fr w hw => ⟨k + 1, ?_, ⟨by omega, by omega, hge'⟩, by show 9 - (k + 1) < 9 - k; omega, hw⟩
            show concL [SV.v (Value.int .i64 (accN ((b.drop j).take (k + 1)) : Nat)), SV.v (Value.int .i64 ((128 ^ min (k + 1) 8 : Nat) : Int)), SV.v (Value.int .i64 ((k + 1 : Nat) : Int))] = _
            rw [hT, ← refN hacc hy1 hy2 hk, ← byN hk8, ← hk1]
          · have hk8 : k = 8 := by have := of_decide_eq_false hc4; omega
            conv => whnf
            refine fun fr w hw => ⟨k + 1, ?_, ⟨by omega, by omega, hge'⟩, by show 9 - (k + 1) < 9 - k; omega, hw⟩
            show concL [SV.v (Value.int .i64 (accN ((b.drop j).take (k + 1)) : Nat)), SV.v (Value.int .i64 ((128 ^ min (k + 1) 8 : Nat) : Int)), SV.v (Value.int .i64 ((k + 1 : Nat) : Int))] = _
            rw [hT, ← refN hacc hy1 hy2 hk, ← hk1, show min (k + 1) 8 = min k 8 by omega]
        · have hk : k = 9 := by have := of_decide_eq_false hc3; omega
          conv => whnf
          rw [hjw]
          conv => whnf
          refine ⟨fun hx => absurd (hx.symm.trans ((decide_eq_false (by omega)))) (by decide), fun _ => ?_⟩
          repeat ((conv => whnf); first | refine ⟨Eq.refl _, ?_⟩ | refine ⟨⟨Eq.refl _, Eq.refl _⟩, ?_⟩ | refine ⟨⟨Eq.refl _, Eq.refl _, Eq.refl _⟩, ?_⟩ | refine ⟨⟨Eq.refl _, Eq.refl _, Eq.refl _, Eq.refl _⟩, ?_⟩ | refine ⟨⟨Eq.refl _, Eq.refl _, Eq.refl _, Eq.refl _, Eq.refl _⟩, ?_⟩ | refine fun (_ : Nat) => ?_ | refine fun (_ : Option Addr) (_ : Nat) => ?_ | fail)
          conv => whnf
          refine ⟨fun _ => ?_, fun hx => absurd (((decide_eq_true (by omega))).symm.trans hx) (by decide)⟩
          conv => whnf
          intro g2 hg
          exact .inl ⟨11, bad (by rw [hdec, hlk, hk]; rfl), rfl⟩
      · have hy1 : y < 128 := by have := of_decide_eq_false hc2; omega
        have hdr : (b.drop j).drop k = y :: (b.drop j).drop (k + 1) := by
          obtain ⟨h3, h4⟩ := List.getElem?_eq_some_iff.1 hyd
          rw [← h4, List.getElem_cons_drop]
        rw [hdr, hlk, Nat.zero_add] at hdec
        conv => whnf
        rw [hjw]
        conv => whnf
        refine ⟨fun hx => absurd (hx.symm.trans ((decide_eq_false (by omega)))) (by decide), fun _ => ?_⟩
        repeat ((conv => whnf); first | refine ⟨Eq.refl _, ?_⟩ | refine ⟨⟨Eq.refl _, Eq.refl _⟩, ?_⟩ | refine ⟨⟨Eq.refl _, Eq.refl _, Eq.refl _⟩, ?_⟩ | refine ⟨⟨Eq.refl _, Eq.refl _, Eq.refl _, Eq.refl _⟩, ?_⟩ | refine ⟨⟨Eq.refl _, Eq.refl _, Eq.refl _, Eq.refl _, Eq.refl _⟩, ?_⟩ | refine fun (_ : Nat) => ?_ | refine fun (_ : Option Addr) (_ : Nat) => ?_ | fail)
        by_cases hk : k = 9
        · conv => whnf
          refine ⟨fun _ => ?_, fun hx => absurd (((decide_eq_true (by omega))).symm.trans hx) (by decide)⟩
          conv => whnf
          intro g2 hg
          exact .inl ⟨11, bad (by rw [hdec, hk]; rfl), rfl⟩
        have hdy : decN (9 - k) k (y :: (b.drop j).drop (k + 1)) = if 0 < k ∧ y = 0 then none else some (y, 1) := by
          obtain ⟨f, hf⟩ : ∃ f, 9 - k = f + 1 := ⟨8 - k, by omega⟩
          rw [hf]; simp only [decN]; rw [if_neg (by omega)]
        rw [hdy] at hdec
        conv => whnf
        refine ⟨fun hx => absurd (hx.symm.trans ((decide_eq_false (by omega)))) (by decide), fun _ => ?_⟩
        repeat ((conv => whnf); first | refine ⟨Eq.refl _, ?_⟩ | refine ⟨⟨Eq.refl _, Eq.refl _⟩, ?_⟩ | refine ⟨⟨Eq.refl _, Eq.refl _, Eq.refl _⟩, ?_⟩ | refine ⟨⟨Eq.refl _, Eq.refl _, Eq.refl _, Eq.refl _⟩, ?_⟩ | refine ⟨⟨Eq.refl _, Eq.refl _, Eq.refl _, Eq.refl _, Eq.refl _⟩, ?_⟩ | refine fun (_ : Nat) => ?_ | refine fun (_ : Option Addr) (_ : Nat) => ?_ | fail)
        by_cases hbad : 0 < k ∧ y = 0
        · rw [if_pos hbad] at hdec
          conv => whnf
          refine ⟨fun _ => ?_, fun hx => absurd (((decide_eq_true (by omega))).symm.trans hx) (by decide)⟩
          conv => whnf
          rw [hjw]
          conv => whnf
          refine ⟨a, rfl, ⟨by omega, by omega⟩, ?_⟩
          conv => whnf
          refine ⟨_, hc 0 _ rfl, ?_⟩
          repeat ((conv => whnf); first | refine ⟨Eq.refl _, ?_⟩ | refine ⟨⟨Eq.refl _, Eq.refl _⟩, ?_⟩ | refine ⟨⟨Eq.refl _, Eq.refl _, Eq.refl _⟩, ?_⟩ | refine ⟨⟨Eq.refl _, Eq.refl _, Eq.refl _, Eq.refl _⟩, ?_⟩ | refine ⟨⟨Eq.refl _, Eq.refl _, Eq.refl _, Eq.refl _, Eq.refl _⟩, ?_⟩ | refine fun (_ : Nat) => ?_ | refine fun (_ : Option Addr) (_ : Nat) => ?_ | fail)
          conv => whnf
          refine ⟨fun _ => ?_, fun hx => absurd (((show (((y : Nat) : Int) == 0) = true by simp; omega)).symm.trans hx) (by decide)⟩
          conv => whnf
          intro g2 hg
          exact .inl ⟨11, bad hdec, rfl⟩
        rw [if_neg hbad] at hdec
        simp only at hdec
        by_cases hk0 : 0 < k
        · conv => whnf
          refine ⟨fun _ => ?_, fun hx => absurd (((decide_eq_true (by omega))).symm.trans hx) (by decide)⟩
          conv => whnf
          rw [hjw]
          conv => whnf
          refine ⟨a, rfl, ⟨by omega, by omega⟩, ?_⟩
          conv => whnf
          refine ⟨_, hc 0 _ rfl, ?_⟩
          repeat ((conv => whnf); first | refine ⟨Eq.refl _, ?_⟩ | refine ⟨⟨Eq.refl _, Eq.refl _⟩, ?_⟩ | refine ⟨⟨Eq.refl _, Eq.refl _, Eq.refl _⟩, ?_⟩ | refine ⟨⟨Eq.refl _, Eq.refl _, Eq.refl _, Eq.refl _⟩, ?_⟩ | refine ⟨⟨Eq.refl _, Eq.refl _, Eq.refl _, Eq.refl _, Eq.refl _⟩, ?_⟩ | refine fun (_ : Nat) => ?_ | refine fun (_ : Option Addr) (_ : Nat) => ?_ | fail)
          conv => whnf
          refine ⟨fun hx => absurd (hx.symm.trans ((show (((y : Nat) : Int) == 0) = false by simp; omega))) (by decide), fun _ => ?_⟩
          conv => whnf
          rw [hjw]
          conv => whnf
          refine ⟨a, rfl, ⟨by omega, by omega⟩, ?_⟩
          conv => whnf
          refine ⟨_, hc 0 _ rfl, ?_⟩
          repeat ((conv => whnf); first | refine ⟨Eq.refl _, ?_⟩ | refine ⟨⟨Eq.refl _, Eq.refl _⟩, ?_⟩ | refine ⟨⟨Eq.refl _, Eq.refl _, Eq.refl _⟩, ?_⟩ | refine ⟨⟨Eq.refl _, Eq.refl _, Eq.refl _, Eq.refl _⟩, ?_⟩ | refine ⟨⟨Eq.refl _, Eq.refl _, Eq.refl _, Eq.refl _, Eq.refl _⟩, ?_⟩ | refine fun (_ : Nat) => ?_ | refine fun (_ : Option Addr) (_ : Nat) => ?_ | fail)
          conv => whnf
          refine ⟨⟨by unfold maxLen; omega, by omega⟩, fun oa3 cap3 => ?_⟩
          repeat ((conv => whnf); first | refine ⟨Eq.refl _, ?_⟩ | refine ⟨⟨Eq.refl _, Eq.refl _⟩, ?_⟩ | refine ⟨⟨Eq.refl _, Eq.refl _, Eq.refl _⟩, ?_⟩ | refine ⟨⟨Eq.refl _, Eq.refl _, Eq.refl _, Eq.refl _⟩, ?_⟩ | refine ⟨⟨Eq.refl _, Eq.refl _, Eq.refl _, Eq.refl _, Eq.refl _⟩, ?_⟩ | refine fun (_ : Nat) => ?_ | refine fun (_ : Option Addr) (_ : Nat) => ?_ | fail)
          conv => whnf
          refine ⟨fun hc5 => ?_, fun hc5 => ?_⟩
          · conv => whnf
            intro g2 hg
            exact .inl ⟨6, by rw [← hp]; exact picks_many hdec (by have := of_decide_eq_true hc5; omega), rfl⟩
          have ho4 : out.length ≠ 4000 := by have := of_decide_eq_false hc5; omega
          have hj2 : IntKind.i64.wrap (IntKind.i64.wrap ((j : Int) + (k : Int)) + 1) = ((j + k + 1 : Nat) : Int) := by rw [hjw, wr (show InR _ by unfold InR; omega)]; simp
          have hm := refM hacc hy1 (show k < 9 by omega)
          conv => whnf
          refine fun fr w hw => ⟨(j + k + 1, out ++ [accN ((b.drop j).take k) + 128 ^ k * y], oa3, cap3), ?_, ⟨by omega, ?_, by simp; omega⟩, by show b.length - (j + k + 1) < b.length - j; omega, hw.fit ?_⟩
          · show concL [SV.row 0 oa3 (out ++ [accN ((b.drop j).take k) + 128 ^ k * y]).length cap3, SV.v (Value.int .i64 ((j + k + 1 : Nat) : Int))] = _
            rw [← hj2]; simp [concL, conc]
          · have hst := picks_step hdec ho4
            rw [List.drop_drop, show j + (1 + k) = j + k + 1 by omega] at hst
            rw [← hst]; exact hp
          · rw [hm]; simp [fitL, Res.eqv]
        · conv => whnf
          refine ⟨fun hx => absurd (hx.symm.trans ((decide_eq_false (by omega)))) (by decide), fun _ => ?_⟩
          conv => whnf
          rw [hjw]
          conv => whnf
          refine ⟨a, rfl, ⟨by omega, by omega⟩, ?_⟩
          conv => whnf
          refine ⟨_, hc 0 _ rfl, ?_⟩
          repeat ((conv => whnf); first | refine ⟨Eq.refl _, ?_⟩ | refine ⟨⟨Eq.refl _, Eq.refl _⟩, ?_⟩ | refine ⟨⟨Eq.refl _, Eq.refl _, Eq.refl _⟩, ?_⟩ | refine ⟨⟨Eq.refl _, Eq.refl _, Eq.refl _, Eq.refl _⟩, ?_⟩ | refine ⟨⟨Eq.refl _, Eq.refl _, Eq.refl _, Eq.refl _, Eq.refl _⟩, ?_⟩ | refine fun (_ : Nat) => ?_ | refine fun (_ : Option Addr) (_ : Nat) => ?_ | fail)
          conv => whnf
          refine ⟨⟨by unfold maxLen; omega, by omega⟩, fun oa3 cap3 => ?_⟩
          repeat ((conv => whnf); first | refine ⟨Eq.refl _, ?_⟩ | refine ⟨⟨Eq.refl _, Eq.refl _⟩, ?_⟩ | refine ⟨⟨Eq.refl _, Eq.refl _, Eq.refl _⟩, ?_⟩ | refine ⟨⟨Eq.refl _, Eq.refl _, Eq.refl _, Eq.refl _⟩, ?_⟩ | refine ⟨⟨Eq.refl _, Eq.refl _, Eq.refl _, Eq.refl _, Eq.refl _⟩, ?_⟩ | refine fun (_ : Nat) => ?_ | refine fun (_ : Option Addr) (_ : Nat) => ?_ | fail)
          conv => whnf
          refine ⟨fun hc5 => ?_, fun hc5 => ?_⟩
          · conv => whnf
            intro g2 hg
            exact .inl ⟨6, by rw [← hp]; exact picks_many hdec (by have := of_decide_eq_true hc5; omega), rfl⟩
          have ho4 : out.length ≠ 4000 := by have := of_decide_eq_false hc5; omega
          have hj2 : IntKind.i64.wrap (IntKind.i64.wrap ((j : Int) + (k : Int)) + 1) = ((j + k + 1 : Nat) : Int) := by rw [hjw, wr (show InR _ by unfold InR; omega)]; simp
          have hm := refM hacc hy1 (show k < 9 by omega)
          conv => whnf
          refine fun fr w hw => ⟨(j + k + 1, out ++ [accN ((b.drop j).take k) + 128 ^ k * y], oa3, cap3), ?_, ⟨by omega, ?_, by simp; omega⟩, by show b.length - (j + k + 1) < b.length - j; omega, hw.fit ?_⟩
          · show concL [SV.row 0 oa3 (out ++ [accN ((b.drop j).take k) + 128 ^ k * y]).length cap3, SV.v (Value.int .i64 ((j + k + 1 : Nat) : Int))] = _
            rw [← hj2]; simp [concL, conc]
          · have hst := picks_step hdec ho4
            rw [List.drop_drop, show j + (1 + k) = j + k + 1 by omega] at hst
            rw [← hst]; exact hp
          · rw [hm]; simp [fitL, Res.eqv]
    · have hc1 : b.length ≤ j + k := by have := of_decide_eq_false hc1; omega
      conv => whnf
      rw [hjw]
      conv => whnf
      refine ⟨fun _ => ?_, fun hx => absurd (((decide_eq_true (by omega))).symm.trans hx) (by decide)⟩
      conv => whnf
      intro g2 hg
      exact .inl ⟨11, bad (by rw [hdec, hlk, List.drop_of_length_le (by omega)]; cases 9 - k <;> rfl), rfl⟩)
end Go.Proofs.Ytedjbhpocedagaa

/- Which hosts and paths are meant: the program's and the document's answers. -/
namespace Go.Proofs.Ytedjbhpocedagaa
open Go.Proofs.Ytedjbhpocedagaa.Sx
abbrev Sm (s : BA) : Prop := s.size ≤ 1000000
theorem beq_comm' {a b : List UInt8} : (a == b) = (b == a) := by
  rw [Bool.eq_iff_iff]; simp only [beq_iff_eq]; exact ⟨Eq.symm, Eq.symm⟩
theorem cut_le {s p : BA} : (cutP s p).size ≤ s.size := by
  unfold cutP
  split
  · rw [bs_size, bs_extract, bs_size s]; simp
  · exact Nat.le_refl _
theorem ok_Match (g : GW) (p h : BA) (hs : Sm p ∧ Sm h) : OkV Try.prog n_hosts_Match [.string p, .string h] g (.bool (matchB (bs p) (bs h))) :=
  Ok.of_fn hm noT 0 t_hosts_Match (args := [.v (.string p), .v (.string h)]) (by
    conv => whnf
    refine .inl ⟨_, ok_Pattern _ _, ?_⟩
    conv => whnf
    refine ⟨fun h1 => ?_, fun h1 => ?_⟩
    · conv => whnf
      intro g2 hg
      have h1' : patternB (bs p) = false := by simpa using h1
      rw [matchB, h1']; rfl
    have h1' : patternB (bs p) = true := by simpa using h1
    conv => whnf
    refine .inl ⟨_, ok_Host _ _, ?_⟩
    conv => whnf
    refine ⟨fun h2 => ?_, fun h2 => ?_⟩
    · conv => whnf
      intro g2 hg
      have h2' : hostB (bs h) = false := by simpa using h2
      rw [matchB, h2']; simp
    have h2' : hostB (bs h) = true := by simpa using h2
    conv => whnf
    refine .inl ⟨_, ok_CutPrefix _ _ _, ?_⟩
    conv => whnf
    refine ⟨fun h3 => ?_, fun h3 => ?_⟩
    · conv => whnf
      intro g2 hg
      have h3' : (bs p == bs h) = true := h3
      rw [matchB, h1', h2', h3']; rfl
    have h3' : (bs p == bs h) = false := h3
    conv => whnf
    refine ⟨fun h4 => ?_, fun h4 => ?_⟩
    · have h4' : preL [42] (bs p) = true := h4
      have hcut : bs (cutP p ⟨#[42]⟩) = (bs p).drop 1 := cutP_bs h4
      conv => whnf
      refine ⟨fun h5 => ?_, fun h5 => ?_⟩
      · conv => whnf
        intro g2 hg
        have h5' : ((bs p).drop 1 == []) = true := by rw [← hcut]; exact h5
        rw [matchB, h1', h2', h3', h4', tailB, h5']; rfl
      have h5' : ((bs p).drop 1 == []) = false := by rw [← hcut]; exact h5
      have hl : (cutP p ⟨#[42]⟩).size = ((bs p).drop 1).length := by rw [bs_size, hcut]
      have hh := bs_size h
      conv => whnf
      refine ⟨fun _ => ?_, fun hx => absurd ((h4).symm.trans hx) (by decide)⟩
      conv => whnf
      refine ⟨fun h6 => ?_, fun h6 => ?_⟩
      · have h6' : decide (((bs p).drop 1).length < (bs h).length) = true := by
          have := of_decide_eq_true h6
          exact decide_eq_true (by omega)
        conv => whnf
        refine .inl ⟨_, ok_HasSuffix _ _ _ ⟨by have := hs.2; unfold Sm at this; omega, by have := hs.1; unfold Sm at this; have := @cut_le p ⟨#[42]⟩; omega⟩, ?_⟩
        conv => whnf
        intro g2 hg
        rw [hcut, matchB, h1', h2', h3', h4', tailB, h5', h6']; rfl
      · conv => whnf
        intro g2 hg
        have h6' : decide (((bs p).drop 1).length < (bs h).length) = false := by
          have := of_decide_eq_false h6
          exact decide_eq_false (by omega)
        rw [matchB, h1', h2', h3', h4', tailB, h5', h6']; rfl
    · conv => whnf
      refine ⟨fun hx => absurd (hx.symm.trans (h4)) (by decide), fun _ => ?_⟩
      conv => whnf
      intro g2 hg
      have h4' : preL [42] (bs p) = false := h4
      rw [matchB, h1', h2', h3', h4']; rfl)
theorem ok_Under (g : GW) (a b : BA) (hs : Sm a ∧ Sm b) : OkV Try.prog n_hosts_Under [.string a, .string b] g (.bool (underB (bs a) (bs b))) :=
  Ok.of_fn hm noT 0 t_hosts_Under (args := [.v (.string a), .v (.string b)]) (by
    have hs1 := hs.1; have hs2 := hs.2
    unfold Sm at hs1 hs2
    conv => whnf
    refine .inl ⟨_, ok_Path _ _, ?_⟩
    conv => whnf
    refine ⟨fun h1 => ?_, fun h1 => ?_⟩
    · conv => whnf
      intro g2 hg
      have h1' : pathB (bs a) = false := by simpa using h1
      rw [underB, h1']; rfl
    have h1' : pathB (bs a) = true := by simpa using h1
    conv => whnf
    refine .inl ⟨_, ok_Path _ _, ?_⟩
    conv => whnf
    refine ⟨fun h2 => ?_, fun h2 => ?_⟩
    · conv => whnf
      intro g2 hg
      have h2' : pathB (bs b) = false := by simpa using h2
      rw [underB, h2']; simp
    have h2' : pathB (bs b) = true := by simpa using h2
    conv => whnf
    refine .inl ⟨_, ok_CutPrefix _ _ _, ?_⟩
    conv => whnf
    refine ⟨fun h3 => ?_, fun h3 => ?_⟩
    · have h3' : preL (bs b) (bs a) = true := h3
      have hcut := cutP_bs h3
      conv => whnf
      refine ⟨fun h4 => ?_, fun h4 => ?_⟩
      · conv => whnf
        intro g2 hg
        have h4' : ((bs a).drop (bs b).length == []) = true := by rw [← hcut]; exact h4
        rw [underB, h1', h2', h3', h4']; rfl
      have h4' : ((bs a).drop (bs b).length == []) = false := by rw [← hcut]; exact h4
      conv => whnf
      refine .inl ⟨_, ok_HasSuffix _ _ _ ⟨by omega, by decide⟩, ?_⟩
      conv => whnf
      refine ⟨fun h5 => ?_, fun h5 => ?_⟩
      · conv => whnf
        intro g2 hg
        have h5' : sufL [47] (bs b) = true := h5
        rw [underB, h1', h2', h3', h4', h5']; rfl
      have h5' : sufL [47] (bs b) = false := h5
      have hne : (bs a).drop (bs b).length ≠ [] := by simpa using h4'
      obtain ⟨c, hc⟩ : ∃ c, ((bs a).drop (bs b).length)[0]? = some c := getL_of (List.length_pos_iff.2 hne)
      conv => whnf
      refine ⟨c, ⟨by omega, by show (bs (cutP a b))[0]? = _; rw [hcut]; exact hc⟩, ?_⟩
      conv => whnf
      intro g2 hg
      rw [underB, h1', h2', h3', h4', h5', List.head?_eq_getElem?, hc]
      simp only [Bool.true_and, Bool.false_or]
      refine congrArg Value.bool ?_
      rw [Bool.eq_iff_iff]
      simp only [beq_iff_eq, Option.some.injEq]
      exact ⟨fun h => UInt8.toNat_inj.1 (by show c.toNat = 47; omega), fun h => by rw [h]; rfl⟩
    · conv => whnf
      intro g2 hg
      have h3' : preL (bs b) (bs a) = false := h3
      rw [underB, h1', h2', h3']; rfl)
theorem ok_Weight (g : GW) (p : BA) : OkV Try.prog n_hosts_Weight [.string p] g (.int .i64 (weightB (bs p))) :=
  Ok.of_fn hm noT 0 t_hosts_Weight (args := [.v (.string p)]) (by
    conv => whnf
    refine .inl ⟨_, ok_Pattern _ _, ?_⟩
    conv => whnf
    refine ⟨fun h1 => ?_, fun h1 => ?_⟩
    · conv => whnf
      intro g2 hg
      have h1' : patternB (bs p) = false := by simpa using h1
      rw [weightB, h1']; rfl
    have h1' : patternB (bs p) = true := by simpa using h1
    conv => whnf
    refine .inl ⟨_, ok_CutPrefix _ _ _, ?_⟩
    conv => whnf
    refine ⟨fun h2 => ?_, fun h2 => ?_⟩
    · conv => whnf
      intro g2 hg
      have h2' : preL [42, 46] (bs p) = true := h2
      rw [weightB, h1', h2', bs_size, cutP_bs h2]; rfl
    have h2' : preL [42, 46] (bs p) = false := h2
    conv => whnf
    refine ⟨fun h3 => ?_, fun h3 => ?_⟩
    · conv => whnf
      intro g2 hg
      have h3' : (bs p == [42]) = true := h3
      rw [weightB, h1', h2', h3']; rfl
    · conv => whnf
      intro g2 hg
      have h3' : (bs p == [42]) = false := h3
      rw [weightB, h1', h2', h3']; rfl)
theorem ok_Better (g : GW) (a p b q : BA) : OkV Try.prog n_hosts_Better [.string a, .string p, .string b, .string q] g (.bool (betterB (bs a) (bs p) (bs b) (bs q))) :=
  Ok.of_fn hm noT 0 t_hosts_Better (args := [.v (.string a), .v (.string p), .v (.string b), .v (.string q)]) (by
    conv => whnf
    refine .inl ⟨_, ok_Weight _ _, ?_⟩
    conv => whnf
    refine .inl ⟨_, ok_Weight _ _, ?_⟩
    conv => whnf
    refine ⟨fun h1 => ?_, fun h1 => ?_⟩
    · conv => whnf
      intro g2 hg
      rw [betterB, h1]; rfl
    · conv => whnf
      intro g2 hg
      rw [betterB, h1, bs_size p, bs_size q]
      simp)
end Go.Proofs.Ytedjbhpocedagaa

/- Which rule a request goes by: the program's and the document's answers. -/
namespace Go.Proofs.Ytedjbhpocedagaa
open Go.Proofs.Ytedjbhpocedagaa.Sx
abbrev cRule (r : Rule) : List Value := [.int .i64 r.listen, .string r.host, .string r.path, .int .i64 r.cluster]
abbrev SmR (r : Rule) : Prop := Sm r.host ∧ Sm r.path
theorem ok_Fits (g : GW) (r : Rule) (n : Int) (h p : BA) (hs : SmR r ∧ Sm h ∧ Sm p) : OkV Try.prog n_routes_Fits [.agg ⟨cRule r⟩, .int .i64 n, .string h, .string p] g (.bool (fitR n h p r)) :=
  Ok.of_fn hm noT 0 t_routes_Fits (args := [.v (.agg ⟨cRule r⟩), .v (.int .i64 n), .v (.string h), .v (.string p)]) (by
    repeat' ((conv => whnf); first | refine ⟨Eq.refl _, ?_⟩ | refine ⟨⟨Eq.refl _, Eq.refl _⟩, ?_⟩ | refine ⟨⟨Eq.refl _, Eq.refl _, Eq.refl _⟩, ?_⟩ | refine ⟨⟨Eq.refl _, Eq.refl _, Eq.refl _, Eq.refl _⟩, ?_⟩ | refine ⟨⟨Eq.refl _, Eq.refl _, Eq.refl _, Eq.refl _, Eq.refl _⟩, ?_⟩ | refine fun (_ : Nat) => ?_ | refine fun (_ : Option Addr) (_ : Nat) => ?_ | refine .inl ⟨_, ok_Match _ _ _ ⟨hs.1.1, hs.2.1⟩, ?_⟩ | refine .inl ⟨_, ok_Under _ _ _ ⟨hs.2.2, hs.1.2⟩, ?_⟩ | refine ⟨fun _ => ?_, fun _ => ?_⟩ | fail)
    all_goals (conv => whnf)
    all_goals (intro g2 hg)
    all_goals (rename_i h1; simp only [fitR]; simp_all))
def tR : List (Nat × FnI) := [(n_routes_fitting, f_routes_fitting), (n_routes_fitting_1, f_routes_fitting_1)]
theorem tR_ok : TblOk Try.prog tR := by
  intro x hx
  simp only [tR, List.mem_cons, List.not_mem_nil, or_false] at hx
  rcases hx with rfl | rfl
  · exact ⟨_, _, t_routes_fitting⟩
  · exact ⟨_, _, t_routes_fitting_1⟩
/-- What is answered. -/
def bestT : Option Nat → Value
  | some i => .tuple #[.int .i64 i, .int .i64 0]
  | none => .tuple #[.int .i64 0, .int .i64 5]
theorem best_val {fit : Rule → Bool} (l : List Rule) : ∃ i e : Int, bestT (bestO fit l) = .tuple #[.int .i64 i, .int .i64 e] ∧ ((e = 0 ∧ ∃ j : Nat, bestO fit l = some j ∧ i = j) ∨ (e = 5 ∧ i = 0 ∧ bestO fit l = none)) := by
  cases h : bestO fit l with
  | some j => exact ⟨j, 0, rfl, .inl ⟨rfl, j, rfl, rfl⟩⟩
  | none => exact ⟨0, 5, rfl, .inr ⟨rfl, rfl, rfl⟩⟩
def bestV : Option Nat → Int
  | none => -1
  | some j => j
abbrev SmL (l : List Rule) : Prop := ∀ r ∈ l, SmR r
theorem ok_Best (g : GW) {v : Value} {l : List Rule} (hl : rSl 4 rRule g v l) (n : Int) (h p : BA) (hs : SmL l ∧ Sm h ∧ Sm p) :
    OkV Try.prog n_routes_Best [v, .int .i64 n, .string h, .string p] g (bestT (bestO (fitR n h p) l)) :=
  Ok.of_fn hm tR_ok 2 t_routes_Best (args := [.v v, .v (.int .i64 n), .v (.string h), .v (.string p)]) (by
    obtain ⟨oa, cap, rfl, h1, h2, h0, hr⟩ := hl
    repeat ((conv => whnf); first | refine ⟨Eq.refl _, ?_⟩ | refine ⟨⟨Eq.refl _, Eq.refl _⟩, ?_⟩ | refine ⟨⟨Eq.refl _, Eq.refl _, Eq.refl _⟩, ?_⟩ | refine ⟨⟨Eq.refl _, Eq.refl _, Eq.refl _, Eq.refl _⟩, ?_⟩ | refine ⟨⟨Eq.refl _, Eq.refl _, Eq.refl _, Eq.refl _, Eq.refl _⟩, ?_⟩ | refine fun (_ : Nat) => ?_ | refine fun (_ : Option Addr) (_ : Nat) => ?_ | fail)
    conv => whnf
    refine ⟨k_routes_fitting_1, fun lp rr => ?_⟩
    repeat ((conv => whnf); first | refine ⟨Eq.refl _, ?_⟩ | refine ⟨⟨Eq.refl _, Eq.refl _⟩, ?_⟩ | refine ⟨⟨Eq.refl _, Eq.refl _, Eq.refl _⟩, ?_⟩ | refine ⟨⟨Eq.refl _, Eq.refl _, Eq.refl _, Eq.refl _⟩, ?_⟩ | refine ⟨⟨Eq.refl _, Eq.refl _, Eq.refl _, Eq.refl _, Eq.refl _⟩, ?_⟩ | refine fun (_ : Nat) => ?_ | refine fun (_ : Option Addr) (_ : Nat) => ?_ | fail)
    conv => whnf
    refine ⟨Nat, fun i => [.v (.int .i64 i)], fun i => ⟨g, [.lp 6 lp rr .ready, .blk 5 _ _ [.v (.string p)], .blk 4 _ _ [.v (.string h)], .blk 3 _ _ [.v (.int .i64 n)], .blk 2 _ _ [.v (.slice oa l.length cap)], .blk 1 _ _ [.v (.int .i64 (bestV (bestP (fitR n h p) l i)))], .blk 0 _ _ [.v (.slice oa l.length cap)]], _, _⟩, fun i => i ≤ l.length, fun i => l.length - i, loop_here 0 rfl (Nat.zero_le _) rfl, ?_⟩
    intro i hi
    conv => whnf
    refine ⟨fun hlt => ?_, fun hlt => ?_⟩
    · have h' : i < l.length := by have := of_decide_eq_true hlt; omega
      obtain ⟨r, hri⟩ := getL_of h'
      obtain ⟨a, rfl, ec, hec, ⟨rfl, hI1, hI2⟩, hc⟩ := hr i r hri
      have hsr := hs.1 r (List.mem_of_getElem? hri)
      have hbp : ∀ b, (match bestP (fitR n h p) l i with | none => some i | some j => match l[j]? with | some q => if betR r q then some i else some j | none => some i) = b → fitR n h p r = true → bestP (fitR n h p) l (i + 1) = b := fun b hb hf => by
        simp only [bestP, hri, hf, if_true]; exact hb
      conv => whnf
      refine ⟨a, rfl, ⟨by omega, by omega⟩, ?_⟩
      conv => whnf
      refine ⟨cRule r, ⟨rfl, hc⟩, ?_⟩
      repeat ((conv => whnf); first | refine ⟨Eq.refl _, ?_⟩ | refine ⟨⟨Eq.refl _, Eq.refl _⟩, ?_⟩ | refine ⟨⟨Eq.refl _, Eq.refl _, Eq.refl _⟩, ?_⟩ | refine ⟨⟨Eq.refl _, Eq.refl _, Eq.refl _, Eq.refl _⟩, ?_⟩ | refine ⟨⟨Eq.refl _, Eq.refl _, Eq.refl _, Eq.refl _, Eq.refl _⟩, ?_⟩ | refine fun (_ : Nat) => ?_ | refine fun (_ : Option Addr) (_ : Nat) => ?_ | fail)
      conv => whnf
      refine .inl ⟨_, ok_Fits _ _ _ _ _ ⟨hsr, hs.2⟩, ?_⟩
      have next : ∀ (b : Option Nat), bestP (fitR n h p) l (i + 1) = b → [Value.int .i64 (IntKind.i64.wrap ((i : Int) + 1))] = [Value.int .i64 ((i + 1 : Nat) : Int)] := fun _ _ => congrArg (fun z => [Value.int .i64 z]) (wr1 h' h1 h2)
      conv => whnf
      refine ⟨fun hf => ?_, fun hf => ?_⟩
      · repeat ((conv => whnf); first | refine ⟨Eq.refl _, ?_⟩ | refine ⟨⟨Eq.refl _, Eq.refl _⟩, ?_⟩ | refine ⟨⟨Eq.refl _, Eq.refl _, Eq.refl _⟩, ?_⟩ | refine ⟨⟨Eq.refl _, Eq.refl _, Eq.refl _, Eq.refl _⟩, ?_⟩ | refine ⟨⟨Eq.refl _, Eq.refl _, Eq.refl _, Eq.refl _, Eq.refl _⟩, ?_⟩ | refine fun (_ : Nat) => ?_ | refine fun (_ : Option Addr) (_ : Nat) => ?_ | fail)
        cases hb : bestP (fitR n h p) l i with
        | none =>
          have hb1 := hbp (some i) (by rw [hb]) hf
          conv => whnf
          refine ⟨fun _ => ?_, fun h => nomatch h⟩
          repeat ((conv => whnf); first | refine ⟨Eq.refl _, ?_⟩ | refine ⟨⟨Eq.refl _, Eq.refl _⟩, ?_⟩ | refine ⟨⟨Eq.refl _, Eq.refl _, Eq.refl _⟩, ?_⟩ | refine ⟨⟨Eq.refl _, Eq.refl _, Eq.refl _, Eq.refl _⟩, ?_⟩ | refine ⟨⟨Eq.refl _, Eq.refl _, Eq.refl _, Eq.refl _, Eq.refl _⟩, ?_⟩ | refine fun (_ : Nat) => ?_ | refine fun (_ : Option Addr) (_ : Nat) => ?_ | fail)
          conv => whnf
          refine fun fr w hw => ⟨i + 1, (next _ hb1).symm, h', dec h', ?_⟩
          exact hw.fit (by simp [fitL, Res.eqv, concL, conc, hb1, bestV])
        | some j =>
          obtain ⟨q, hq, _, hfq, _⟩ := (bestP_spec (fit := fitR n h p) l i hi).1 j hb
          obtain ⟨a', ha', ecq, hecq, ⟨rfl, _, _⟩, hcq⟩ := hr j q hq
          cases ha'
          have hjl := (List.getElem?_eq_some_iff.1 hq).1
          conv => whnf
          refine ⟨fun hx => absurd (of_decide_eq_true hx) (by simp only [bestV]; omega), fun _ => ?_⟩
          repeat ((conv => whnf); first | refine ⟨Eq.refl _, ?_⟩ | refine ⟨⟨Eq.refl _, Eq.refl _⟩, ?_⟩ | refine ⟨⟨Eq.refl _, Eq.refl _, Eq.refl _⟩, ?_⟩ | refine ⟨⟨Eq.refl _, Eq.refl _, Eq.refl _, Eq.refl _⟩, ?_⟩ | refine ⟨⟨Eq.refl _, Eq.refl _, Eq.refl _, Eq.refl _, Eq.refl _⟩, ?_⟩ | refine fun (_ : Nat) => ?_ | refine fun (_ : Option Addr) (_ : Nat) => ?_ | fail)
          conv => whnf
          refine ⟨a, rfl, ⟨by simp only [bestV]; omega, by simp only [bestV]; omega⟩, ?_⟩
          repeat ((conv => whnf); first | refine ⟨Eq.refl _, ?_⟩ | refine ⟨⟨Eq.refl _, Eq.refl _⟩, ?_⟩ | refine ⟨⟨Eq.refl _, Eq.refl _, Eq.refl _⟩, ?_⟩ | refine ⟨⟨Eq.refl _, Eq.refl _, Eq.refl _, Eq.refl _⟩, ?_⟩ | refine ⟨⟨Eq.refl _, Eq.refl _, Eq.refl _, Eq.refl _, Eq.refl _⟩, ?_⟩ | refine fun (_ : Nat) => ?_ | refine fun (_ : Option Addr) (_ : Nat) => ?_ | fail)
          conv => whnf
          refine ⟨_, hcq 1 _ rfl, ?_⟩
          repeat ((conv => whnf); first | refine ⟨Eq.refl _, ?_⟩ | refine ⟨⟨Eq.refl _, Eq.refl _⟩, ?_⟩ | refine ⟨⟨Eq.refl _, Eq.refl _, Eq.refl _⟩, ?_⟩ | refine ⟨⟨Eq.refl _, Eq.refl _, Eq.refl _, Eq.refl _⟩, ?_⟩ | refine ⟨⟨Eq.refl _, Eq.refl _, Eq.refl _, Eq.refl _, Eq.refl _⟩, ?_⟩ | refine fun (_ : Nat) => ?_ | refine fun (_ : Option Addr) (_ : Nat) => ?_ | fail)
          conv => whnf
          refine ⟨a, rfl, ⟨by simp only [bestV]; omega, by simp only [bestV]; omega⟩, ?_⟩
          repeat ((conv => whnf); first | refine ⟨Eq.refl _, ?_⟩ | refine ⟨⟨Eq.refl _, Eq.refl _⟩, ?_⟩ | refine ⟨⟨Eq.refl _, Eq.refl _, Eq.refl _⟩, ?_⟩ | refine ⟨⟨Eq.refl _, Eq.refl _, Eq.refl _, Eq.refl _⟩, ?_⟩ | refine ⟨⟨Eq.refl _, Eq.refl _, Eq.refl _, Eq.refl _, Eq.refl _⟩, ?_⟩ | refine fun (_ : Nat) => ?_ | refine fun (_ : Option Addr) (_ : Nat) => ?_ | fail)
          conv => whnf
          refine ⟨_, hcq 2 _ rfl, ?_⟩
          repeat ((conv => whnf); first | refine ⟨Eq.refl _, ?_⟩ | refine ⟨⟨Eq.refl _, Eq.refl _⟩, ?_⟩ | refine ⟨⟨Eq.refl _, Eq.refl _, Eq.refl _⟩, ?_⟩ | refine ⟨⟨Eq.refl _, Eq.refl _, Eq.refl _, Eq.refl _⟩, ?_⟩ | refine ⟨⟨Eq.refl _, Eq.refl _, Eq.refl _, Eq.refl _, Eq.refl _⟩, ?_⟩ | refine fun (_ : Nat) => ?_ | refine fun (_ : Option Addr) (_ : Nat) => ?_ | fail)
          conv => whnf
          refine .inl ⟨_, ok_Better _ _ _ _ _, ?_⟩
          conv => whnf
          refine ⟨fun hbt => ?_, fun hbt => ?_⟩
          · have hb1 := hbp (some i) (by rw [hb]; simp only [hq]; rw [show betR r q = true from hbt]; rfl) hf
            repeat ((conv => whnf); first | refine ⟨Eq.refl _, ?_⟩ | refine ⟨⟨Eq.refl _, Eq.refl _⟩, ?_⟩ | refine ⟨⟨Eq.refl _, Eq.refl _, Eq.refl _⟩, ?_⟩ | refine ⟨⟨Eq.refl _, Eq.refl _, Eq.refl _, Eq.refl _⟩, ?_⟩ | refine ⟨⟨Eq.refl _, Eq.refl _, Eq.refl _, Eq.refl _, Eq.refl _⟩, ?_⟩ | refine fun (_ : Nat) => ?_ | refine fun (_ : Option Addr) (_ : Nat) => ?_ | fail)
            conv => whnf
            refine fun fr w hw => ⟨i + 1, (next _ hb1).symm, h', dec h', ?_⟩
            exact hw.fit (by simp [fitL, Res.eqv, concL, conc, hb1, bestV])
          · have hb1 := hbp (some j) (by rw [hb]; simp only [hq]; rw [show betR r q = false from hbt]; rfl) hf
            repeat ((conv => whnf); first | refine ⟨Eq.refl _, ?_⟩ | refine ⟨⟨Eq.refl _, Eq.refl _⟩, ?_⟩ | refine ⟨⟨Eq.refl _, Eq.refl _, Eq.refl _⟩, ?_⟩ | refine ⟨⟨Eq.refl _, Eq.refl _, Eq.refl _, Eq.refl _⟩, ?_⟩ | refine ⟨⟨Eq.refl _, Eq.refl _, Eq.refl _, Eq.refl _, Eq.refl _⟩, ?_⟩ | refine fun (_ : Nat) => ?_ | refine fun (_ : Option Addr) (_ : Nat) => ?_ | fail)
            conv => whnf
            refine fun fr w hw => ⟨i + 1, (next _ hb1).symm, h', dec h', ?_⟩
            exact hw.fit (by simp [fitL, Res.eqv, concL, conc, hb1, bestV])
      · conv => whnf
        refine fun fr w hw => ⟨i + 1, ?_, h', dec h', ?_⟩
        · exact congrArg (fun z => [Value.int .i64 z]) (wr1 h' h1 h2).symm
        · have : bestP (fitR n h p) l (i + 1) = bestP (fitR n h p) l i := by simp [bestP, hri, hf]
          exact hw.fit (by simp [fitL, Res.eqv, concL, conc, this])
    · have hi' : i = l.length := by have := of_decide_eq_false hlt; omega
      subst hi'
      repeat ((conv => whnf); first | refine ⟨Eq.refl _, ?_⟩ | refine ⟨⟨Eq.refl _, Eq.refl _⟩, ?_⟩ | refine ⟨⟨Eq.refl _, Eq.refl _, Eq.refl _⟩, ?_⟩ | refine ⟨⟨Eq.refl _, Eq.refl _, Eq.refl _, Eq.refl _⟩, ?_⟩ | refine ⟨⟨Eq.refl _, Eq.refl _, Eq.refl _, Eq.refl _, Eq.refl _⟩, ?_⟩ | refine fun (_ : Nat) => ?_ | refine fun (_ : Option Addr) (_ : Nat) => ?_ | fail)
      cases hb : bestP (fitR n h p) l l.length with
      | none =>
        conv => whnf
        refine ⟨fun _ => ?_, fun h => nomatch h⟩
        conv => whnf
        intro g2 hg
        rw [show bestO (fitR n h p) l = none from hb]; rfl
      | some j =>
        conv => whnf
        refine ⟨fun hx => absurd (of_decide_eq_true hx) (by simp only [bestV]; omega), fun _ => ?_⟩
        repeat ((conv => whnf); first | refine ⟨Eq.refl _, ?_⟩ | refine ⟨⟨Eq.refl _, Eq.refl _⟩, ?_⟩ | refine ⟨⟨Eq.refl _, Eq.refl _, Eq.refl _⟩, ?_⟩ | refine ⟨⟨Eq.refl _, Eq.refl _, Eq.refl _, Eq.refl _⟩, ?_⟩ | refine ⟨⟨Eq.refl _, Eq.refl _, Eq.refl _, Eq.refl _, Eq.refl _⟩, ?_⟩ | refine fun (_ : Nat) => ?_ | refine fun (_ : Option Addr) (_ : Nat) => ?_ | fail)
        conv => whnf
        intro g2 hg
        rw [show bestO (fitR n h p) l = some j from hb]; rfl)
/-- Is there too much to be looked at? -/
def longR (r : Rule) : Bool := decide (100 < r.host.size) || decide (100 < r.path.size)
def bigR (l : List Rule) : Bool := decide (50 < l.length) || l.any longR
theorem ok_rBig (g : GW) {v : Value} {l : List Rule} (hl : rSl 4 rRule g v l) : OkV Try.prog n_hydrantref06_Big [v] g (.bool (bigR l)) :=
  Ok.of_fn hm noT 0 t_hydrantref06_Big (args := [.v v]) (by
    obtain ⟨oa, cap, rfl, h1, h2, h0, hr⟩ := hl
    repeat ((conv => whnf); first | refine ⟨Eq.refl _, ?_⟩ | refine ⟨⟨Eq.refl _, Eq.refl _⟩, ?_⟩ | refine ⟨⟨Eq.refl _, Eq.refl _, Eq.refl _⟩, ?_⟩ | refine ⟨⟨Eq.refl _, Eq.refl _, Eq.refl _, Eq.refl _⟩, ?_⟩ | refine ⟨⟨Eq.refl _, Eq.refl _, Eq.refl _, Eq.refl _, Eq.refl _⟩, ?_⟩ | refine fun (_ : Nat) => ?_ | refine fun (_ : Option Addr) (_ : Nat) => ?_ | fail)
    conv => whnf
    refine ⟨Nat, fun k => [.v (.int .i64 k)], fun k => ⟨g, [], _, _⟩, fun k => k ≤ l.length ∧ (l.take k).any longR = false, fun k => l.length - k, loop_here 0 rfl ⟨Nat.zero_le _, rfl⟩ rfl, ?_⟩
    rintro k ⟨hk, hall⟩
    conv => whnf
    refine ⟨fun hlt => ?_, fun hlt => ?_⟩
    · have h' : k < l.length := by have := of_decide_eq_true hlt; omega
      conv => whnf
      refine ⟨fun h50 => ?_, fun h50 => ?_⟩
      · obtain ⟨q, hq⟩ := getL_of h'
        obtain ⟨a, rfl, ecq, hecq, ⟨rfl, _, _⟩, hcq⟩ := hr k q hq
        have hg : ∀ b, longR q = b → (l.take (k + 1)).any longR = b := fun b hb => by
          obtain ⟨_, hge⟩ := List.getElem?_eq_some_iff.1 hq
          rw [List.take_succ_eq_append_getElem h', List.any_append, hall, hge]
          simp [hb]
        have hbe : longR q = true → bigR l = true := fun hb => by
          rw [bigR, List.any_eq_true.2 ⟨q, List.mem_of_getElem? hq, hb⟩, Bool.or_true]
        conv => whnf
        refine ⟨a, rfl, ⟨by omega, by omega⟩, ?_⟩
        conv => whnf
        refine ⟨_, hcq 1 _ rfl, ?_⟩
        conv => whnf
        refine ⟨fun ha => ?_, fun ha => ?_⟩
        · conv => whnf
          intro g2 hg
          rw [hbe (by simp at ha; simp [longR]; omega)]
        · conv => whnf
          refine ⟨a, rfl, ⟨by omega, by omega⟩, ?_⟩
          conv => whnf
          refine ⟨_, hcq 2 _ rfl, ?_⟩
          conv => whnf
          refine ⟨fun hb => ?_, fun hb => ?_⟩
          · conv => whnf
            intro g2 hg
            rw [hbe (by simp at hb; simp [longR]; omega)]
          · conv => whnf
            refine fun fr w hw => ⟨k + 1, congrArg (fun z => [Value.int .i64 z]) (wr1 h' h1 h2).symm, ⟨h', hg _ (by simp at ha hb; simp [longR]; omega)⟩, dec h', hw⟩
      · conv => whnf
        intro g2 hg
        have := of_decide_eq_false h50
        rw [bigR, decide_eq_true (show 50 < l.length by omega), decide_eq_true (show (50 : Int) < l.length by omega)]; rfl
    · conv => whnf
      intro g2 hg
      have : k = l.length := by have := of_decide_eq_false hlt; omega
      rw [this, List.take_length] at hall
      rw [bigR, hall, Bool.or_false]
      exact congrArg Value.bool (decide_eq_decide.2 (by omega)))
theorem small_of {l : List Rule} {h p : BA} (hb : (bigR l || decide (100 < (h.size : Int)) || decide (100 < (p.size : Int))) = false) : SmL l ∧ Sm h ∧ Sm p ∧ l.length ≤ 50 := by
  simp only [bigR, Bool.or_eq_false_iff, decide_eq_false_iff_not] at hb
  obtain ⟨⟨⟨h1, h2⟩, h3⟩, h4⟩ := hb
  refine ⟨fun r hr => ?_, by unfold Sm; omega, by unfold Sm; omega, by omega⟩
  have := List.any_eq_false.1 h2 r hr
  simp only [longR, Bool.or_eq_true, decide_eq_true_eq] at this
  unfold SmR Sm
  omega
def plainR : List Rule := [⟨0, ⟨#[42]⟩, ⟨#[47]⟩, 0⟩, ⟨0, ⟨#[42, 46, 98]⟩, ⟨#[47]⟩, 0⟩, ⟨0, ⟨#[42]⟩, ⟨#[47, 97]⟩, 1⟩, ⟨1, ⟨#[97, 46, 98]⟩, ⟨#[47]⟩, 0⟩]
end Go.Proofs.Ytedjbhpocedagaa

/- Snapshots: what is built, and their configurations: the program's and the document's answers. -/
namespace Go.Proofs.Ytedjbhpocedagaa
open Go.Proofs.Ytedjbhpocedagaa.Sx Go.RowKit
def tS : List (Nat × FnI) := [(n_snap_place_string, f_snap_place_string), (n_snap_listener_1, f_snap_listener_1)]
theorem tS_ok : TblOk Try.prog tS := by
  intro x hx
  simp only [tS, List.mem_cons, List.not_mem_nil, or_false] at hx
  rcases hx with rfl | rfl
  · exact ⟨_, _, t_snap_place_string⟩
  · exact ⟨_, _, t_snap_listener_1⟩
def tK : List (Nat × FnI) := [(n_snap_place_api_Cluster, f_snap_place_api_Cluster), (n_snap_cluster_1, f_snap_cluster_1)]
theorem tK_ok : TblOk Try.prog tK := by
  intro x hx
  simp only [tK, List.mem_cons, List.not_mem_nil, or_false] at hx
  rcases hx with rfl | rfl
  · exact ⟨_, _, t_snap_place_api_Cluster⟩
  · exact ⟨_, _, t_snap_cluster_1⟩
theorem ok_listener (g : GW) {v : Value} {l : List BA} (hl : rSl 1 rStr g v l) (s : BA) : OkV Try.prog n_snap_listener [v, .string s] g (.int .i64 (idxI (idxO (fun x => bs x == bs s) l))) :=
  Ok.of_fn hm tS_ok 2 t_snap_listener (args := [.v v, .v (.string s)]) (by
    obtain ⟨oa, cap, rfl, h1, h2, h0, hr⟩ := hl
    repeat ((conv => whnf); first | refine ⟨Eq.refl _, ?_⟩ | refine ⟨⟨Eq.refl _, Eq.refl _⟩, ?_⟩ | refine ⟨⟨Eq.refl _, Eq.refl _, Eq.refl _⟩, ?_⟩ | refine ⟨⟨Eq.refl _, Eq.refl _, Eq.refl _, Eq.refl _⟩, ?_⟩ | refine ⟨⟨Eq.refl _, Eq.refl _, Eq.refl _, Eq.refl _, Eq.refl _⟩, ?_⟩ | refine fun (_ : Nat) => ?_ | refine fun (_ : Option Addr) (_ : Nat) => ?_ | fail)
    conv => whnf
    refine ⟨Nat, fun k => [.v (.int .i64 k)], fun k => ⟨g, [.blk 0 _ _ [.v (.string s)]], _, _⟩, fun k => k ≤ l.length ∧ Pass (idxF fun x => bs x == bs s) l k, fun k => l.length - k, loop_here 0 rfl ⟨Nat.zero_le _, Pass.zero _ _⟩ rfl, ?_⟩
    rintro k ⟨hk, hp⟩
    conv => whnf
    refine ⟨fun hlt => ?_, fun hlt => ?_⟩
    · have h' : k < l.length := by have := of_decide_eq_true hlt; omega
      obtain ⟨x, hx⟩ := getL_of h'
      obtain ⟨a, rfl, ec, hec, rfl, hc⟩ := hr k x hx
      conv => whnf
      refine ⟨a, rfl, ⟨by omega, by omega⟩, ?_⟩
      conv => whnf
      refine ⟨_, hc 0 _ rfl, ?_⟩
      conv => whnf
      refine ⟨k_snap_listener_1, ?_⟩
      repeat ((conv => whnf); first | refine ⟨Eq.refl _, ?_⟩ | refine ⟨⟨Eq.refl _, Eq.refl _⟩, ?_⟩ | refine ⟨⟨Eq.refl _, Eq.refl _, Eq.refl _⟩, ?_⟩ | refine ⟨⟨Eq.refl _, Eq.refl _, Eq.refl _, Eq.refl _⟩, ?_⟩ | refine ⟨⟨Eq.refl _, Eq.refl _, Eq.refl _, Eq.refl _, Eq.refl _⟩, ?_⟩ | refine fun (_ : Nat) => ?_ | refine fun (_ : Option Addr) (_ : Nat) => ?_ | fail)
      conv => whnf
      refine ⟨fun he => ?_, fun he => ?_⟩
      · conv => whnf
        intro g2 hg
        rw [idxO_hit hp hx he]
      · conv => whnf
        refine fun fr w hw => ⟨k + 1, congrArg (fun z => [Value.int .i64 z]) (wr1 h' h1 h2).symm, ⟨h', idx_next hp hx he⟩, dec h', ?_⟩
        exact hw.fit (by simp [fitL, Res.eqv, concL, conc])
    · conv => whnf
      intro g2 hg
      have := of_decide_eq_false hlt
      rw [idxO_miss hp (by omega)])
theorem ok_scluster (g : GW) {v : Value} {l : List Cluster} (hl : rSl 4 rCluster g v l) (s : BA) : OkV Try.prog n_snap_cluster [v, .string s] g (.int .i64 (idxI (idxO (fun (x : Cluster) => bs x.name == bs s) l))) :=
  Ok.of_fn hm tK_ok 2 t_snap_cluster (args := [.v v, .v (.string s)]) (by
    obtain ⟨oa, cap, rfl, h1, h2, h0, hr⟩ := hl
    repeat ((conv => whnf); first | refine ⟨Eq.refl _, ?_⟩ | refine ⟨⟨Eq.refl _, Eq.refl _⟩, ?_⟩ | refine ⟨⟨Eq.refl _, Eq.refl _, Eq.refl _⟩, ?_⟩ | refine ⟨⟨Eq.refl _, Eq.refl _, Eq.refl _, Eq.refl _⟩, ?_⟩ | refine ⟨⟨Eq.refl _, Eq.refl _, Eq.refl _, Eq.refl _, Eq.refl _⟩, ?_⟩ | refine fun (_ : Nat) => ?_ | refine fun (_ : Option Addr) (_ : Nat) => ?_ | fail)
    conv => whnf
    refine ⟨Nat, fun k => [.v (.int .i64 k)], fun k => ⟨g, [.blk 0 _ _ [.v (.string s)]], _, _⟩, fun k => k ≤ l.length ∧ Pass (idxF fun (x : Cluster) => bs x.name == bs s) l k, fun k => l.length - k, loop_here 0 rfl ⟨Nat.zero_le _, Pass.zero _ _⟩ rfl, ?_⟩
    rintro k ⟨hk, hp⟩
    conv => whnf
    refine ⟨fun hlt => ?_, fun hlt => ?_⟩
    · have h' : k < l.length := by have := of_decide_eq_true hlt; omega
      obtain ⟨x, hx⟩ := getL_of h'
      obtain ⟨a, rfl, ec, hec, ⟨hv, rfl, _, _, _, _, rfl, _⟩, hc⟩ := hr k x hx
      conv => whnf
      refine ⟨a, rfl, ⟨by omega, by omega⟩, ?_⟩
      conv => whnf
      refine ⟨_, ⟨rfl, hc⟩, ?_⟩
      repeat ((conv => whnf); first | refine ⟨Eq.refl _, ?_⟩ | refine ⟨⟨Eq.refl _, Eq.refl _⟩, ?_⟩ | refine ⟨⟨Eq.refl _, Eq.refl _, Eq.refl _⟩, ?_⟩ | refine ⟨⟨Eq.refl _, Eq.refl _, Eq.refl _, Eq.refl _⟩, ?_⟩ | refine ⟨⟨Eq.refl _, Eq.refl _, Eq.refl _, Eq.refl _, Eq.refl _⟩, ?_⟩ | refine fun (_ : Nat) => ?_ | refine fun (_ : Option Addr) (_ : Nat) => ?_ | fail)
      conv => whnf
      refine ⟨k_snap_cluster_1, ?_⟩
      repeat ((conv => whnf); first | refine ⟨Eq.refl _, ?_⟩ | refine ⟨⟨Eq.refl _, Eq.refl _⟩, ?_⟩ | refine ⟨⟨Eq.refl _, Eq.refl _, Eq.refl _⟩, ?_⟩ | refine ⟨⟨Eq.refl _, Eq.refl _, Eq.refl _, Eq.refl _⟩, ?_⟩ | refine ⟨⟨Eq.refl _, Eq.refl _, Eq.refl _, Eq.refl _, Eq.refl _⟩, ?_⟩ | refine fun (_ : Nat) => ?_ | refine fun (_ : Option Addr) (_ : Nat) => ?_ | fail)
      conv => whnf
      refine ⟨fun he => ?_, fun he => ?_⟩
      · conv => whnf
        intro g2 hg
        rw [idxO_hit hp hx he]
      · conv => whnf
        refine fun fr w hw => ⟨k + 1, congrArg (fun z => [Value.int .i64 z]) (wr1 h' h1 h2).symm, ⟨h', idx_next hp hx he⟩, dec h', ?_⟩
        exact hw.fit (by simp [fitL, Res.eqv, concL, conc])
    · conv => whnf
      intro g2 hg
      have := of_decide_eq_false hlt
      rw [idxO_miss hp (by omega)])
theorem idx_inr {α : Type} {f : α → Bool} {l : List α} (h : l.length ≤ maxLen) : InR (idxI (idxO f l)) := by
  unfold maxLen at h
  cases hi : idxO f l with
  | none => exact ⟨by decide, by decide⟩
  | some i => have := idxO_lt hi; exact ⟨by simp only [idxI]; omega, by simp only [idxI]; omega⟩
theorem take_map {α β : Type} {l : List α} {f : α → List β} {k : Nat} {x : α} (hx : l[k]? = some x) : ((l.take (k + 1)).map f).flatten = ((l.take k).map f).flatten ++ f x := by
  obtain ⟨h1, h2⟩ := List.getElem?_eq_some_iff.1 hx
  rw [List.take_succ_eq_append_getElem h1, h2]; simp
def BuildP (g : GW) (c : Config) (a d v : Value) (g' : GW) : Prop :=
  (checkE c = none ∧ ∃ oa n cap, v = .tuple #[.agg ⟨[a, .slice oa n cap, d]⟩, .int .i64 0, .int .i64 0] ∧ rSl 4 rRule g' (.slice oa n cap) (builtS c).rules ∧ ∀ x, oa = some x → ¬ g.g x.block) ∨
  ∃ e i, checkE c = some (e, i) ∧ v = .tuple #[.agg ⟨[.slice none 0 0, .slice none 0 0, .slice none 0 0]⟩, .int .i64 e, .int .i64 i]
abbrev cRul (c : Config) (r : Route) : List Value := cRule (ruleOf c r)
theorem ok_Build (g : GW) {a b d : Value} {c : Config} (hc : rConfig g [a, b, d] c) : Ok Try.prog n_snap_Build [.agg ⟨[a, b, d]⟩] g (BuildP g c a d) := by
  have hc0 := hc
  obtain ⟨_, _, _, he, hl, hr, hk⟩ := hc
  cases he
  obtain ⟨oa, ca, rfl, a1, a2, a0, hl1⟩ := id hl
  obtain ⟨ob, cb, rfl, b1, b2, b0, hr1⟩ := id hr
  obtain ⟨od, cd, rfl, d1, d2, d0, hk1⟩ := id hk
  exact Ok.of_fn hm noT 0 t_snap_Build (args := [.v (.agg ⟨[.slice oa c.listens.length ca, .slice ob c.routes.length cb, .slice od c.clusters.length cd]⟩)]) (by
    rcases ei_val (checkE c) with ⟨hz, hv⟩ | ⟨e, i, hz, hv⟩
    rotate_left
    · have hne := checkE_ne hz
      repeat ((conv => whnf); first | refine ⟨Eq.refl _, ?_⟩ | refine ⟨⟨Eq.refl _, Eq.refl _⟩, ?_⟩ | refine ⟨⟨Eq.refl _, Eq.refl _, Eq.refl _⟩, ?_⟩ | refine ⟨⟨Eq.refl _, Eq.refl _, Eq.refl _, Eq.refl _⟩, ?_⟩ | refine ⟨⟨Eq.refl _, Eq.refl _, Eq.refl _, Eq.refl _, Eq.refl _⟩, ?_⟩ | refine fun (_ : Nat) => ?_ | refine fun (_ : Option Addr) (_ : Nat) => ?_ | fail)
      conv => whnf
      refine .inl ⟨_, (ok_Check _ hc0).to hv, ?_⟩
      conv => whnf
      refine ⟨fun _ => ?_, fun hx => absurd hx (by simp; omega)⟩
      repeat ((conv => whnf); first | refine ⟨Eq.refl _, ?_⟩ | refine ⟨⟨Eq.refl _, Eq.refl _⟩, ?_⟩ | refine ⟨⟨Eq.refl _, Eq.refl _, Eq.refl _⟩, ?_⟩ | refine ⟨⟨Eq.refl _, Eq.refl _, Eq.refl _, Eq.refl _⟩, ?_⟩ | refine ⟨⟨Eq.refl _, Eq.refl _, Eq.refl _, Eq.refl _, Eq.refl _⟩, ?_⟩ | refine fun (_ : Nat) => ?_ | refine fun (_ : Option Addr) (_ : Nat) => ?_ | fail)
      conv => whnf
      intro g2 hg
      exact .inr ⟨e, i, hz, rfl⟩
    have G := good_iff.1 hz
    have hsz := G.size
    repeat ((conv => whnf); first | refine ⟨Eq.refl _, ?_⟩ | refine ⟨⟨Eq.refl _, Eq.refl _⟩, ?_⟩ | refine ⟨⟨Eq.refl _, Eq.refl _, Eq.refl _⟩, ?_⟩ | refine ⟨⟨Eq.refl _, Eq.refl _, Eq.refl _, Eq.refl _⟩, ?_⟩ | refine ⟨⟨Eq.refl _, Eq.refl _, Eq.refl _, Eq.refl _, Eq.refl _⟩, ?_⟩ | refine fun (_ : Nat) => ?_ | refine fun (_ : Option Addr) (_ : Nat) => ?_ | fail)
    conv => whnf
    refine .inl ⟨_, (ok_Check _ hc0).to hv, ?_⟩
    conv => whnf
    refine ⟨fun h => (nomatch h), fun _ => ?_⟩
    repeat ((conv => whnf); first | refine ⟨Eq.refl _, ?_⟩ | refine ⟨⟨Eq.refl _, Eq.refl _⟩, ?_⟩ | refine ⟨⟨Eq.refl _, Eq.refl _, Eq.refl _⟩, ?_⟩ | refine ⟨⟨Eq.refl _, Eq.refl _, Eq.refl _, Eq.refl _⟩, ?_⟩ | refine ⟨⟨Eq.refl _, Eq.refl _, Eq.refl _, Eq.refl _, Eq.refl _⟩, ?_⟩ | refine fun (_ : Nat) => ?_ | refine fun (_ : Option Addr) (_ : Nat) => ?_ | fail)
    rename_i p0 p1 _ p2
    conv => whnf
    refine ⟨Nat × Option Addr × Nat, fun (k, _, _) => [.v (.int .i64 k)], fun (k, oR, cR) => ⟨g, [.row 10 oR k cR ty_api_Rule 4 ((c.routes.take k).map (cRul c)).flatten, .blk 2 p2 ty_api_Snap [.v (.slice oa c.listens.length ca), .row 10 oR k cR, .v (.slice od c.clusters.length cd)], .blk 1 p1 ty_api_Snap [.v (.slice none 0 0), .v (.slice none 0 0), .v (.slice none 0 0)], .blk 0 p0 ty_api_Config [.v (.slice oa c.listens.length ca), .v (.slice ob c.routes.length cb), .v (.slice od c.clusters.length cd)]], 40, g.w.heap.size⟩, fun (k, _, _) => k ≤ c.routes.length, fun (k, _, _) => c.routes.length - k, ?_, ?_⟩
    · intro fr w hw
      exact ⟨(0, none, 0), rfl, Nat.zero_le _, (hw.nil_row (nx' := 40) 10 ty_api_Rule 4).fit (by simp [fitL, Res.eqv, concL, conc])⟩
    rintro ⟨k, oR, cR⟩ hkk
    have hkk : k ≤ c.routes.length := hkk
    repeat ((conv => whnf); first | refine ⟨Eq.refl _, ?_⟩ | refine ⟨⟨Eq.refl _, Eq.refl _⟩, ?_⟩ | refine ⟨⟨Eq.refl _, Eq.refl _, Eq.refl _⟩, ?_⟩ | refine ⟨⟨Eq.refl _, Eq.refl _, Eq.refl _, Eq.refl _⟩, ?_⟩ | refine ⟨⟨Eq.refl _, Eq.refl _, Eq.refl _, Eq.refl _, Eq.refl _⟩, ?_⟩ | refine fun (_ : Nat) => ?_ | refine fun (_ : Option Addr) (_ : Nat) => ?_ | fail)
    conv => whnf
    refine ⟨fun hlt => ?_, fun hlt => ?_⟩
    · have h' : k < c.routes.length := by have := of_decide_eq_true hlt; omega
      obtain ⟨x, hx⟩ := getL_of h'
      obtain ⟨a, rfl, ec, hec, rfl, hc⟩ := hr1 k x hx
      have hT := take_map (f := cRul c) hx
      repeat ((conv => whnf); first | refine ⟨Eq.refl _, ?_⟩ | refine ⟨⟨Eq.refl _, Eq.refl _⟩, ?_⟩ | refine ⟨⟨Eq.refl _, Eq.refl _, Eq.refl _⟩, ?_⟩ | refine ⟨⟨Eq.refl _, Eq.refl _, Eq.refl _, Eq.refl _⟩, ?_⟩ | refine ⟨⟨Eq.refl _, Eq.refl _, Eq.refl _, Eq.refl _, Eq.refl _⟩, ?_⟩ | refine fun (_ : Nat) => ?_ | refine fun (_ : Option Addr) (_ : Nat) => ?_ | fail)
      conv => whnf
      refine ⟨a, rfl, ⟨by omega, by omega⟩, ?_⟩
      conv => whnf
      refine ⟨_, ⟨rfl, hc⟩, ?_⟩
      repeat ((conv => whnf); first | refine ⟨Eq.refl _, ?_⟩ | refine ⟨⟨Eq.refl _, Eq.refl _⟩, ?_⟩ | refine ⟨⟨Eq.refl _, Eq.refl _, Eq.refl _⟩, ?_⟩ | refine ⟨⟨Eq.refl _, Eq.refl _, Eq.refl _, Eq.refl _⟩, ?_⟩ | refine ⟨⟨Eq.refl _, Eq.refl _, Eq.refl _, Eq.refl _, Eq.refl _⟩, ?_⟩ | refine fun (_ : Nat) => ?_ | refine fun (_ : Option Addr) (_ : Nat) => ?_ | fail)
      conv => whnf
      refine .inl ⟨_, ok_listener _ hl _, ?_⟩
      repeat ((conv => whnf); first | refine ⟨Eq.refl _, ?_⟩ | refine ⟨⟨Eq.refl _, Eq.refl _⟩, ?_⟩ | refine ⟨⟨Eq.refl _, Eq.refl _, Eq.refl _⟩, ?_⟩ | refine ⟨⟨Eq.refl _, Eq.refl _, Eq.refl _, Eq.refl _⟩, ?_⟩ | refine ⟨⟨Eq.refl _, Eq.refl _, Eq.refl _, Eq.refl _, Eq.refl _⟩, ?_⟩ | refine fun (_ : Nat) => ?_ | refine fun (_ : Option Addr) (_ : Nat) => ?_ | fail)
      conv => whnf
      refine .inl ⟨_, ok_scluster _ hk _, ?_⟩
      repeat ((conv => whnf); first | refine ⟨Eq.refl _, ?_⟩ | refine ⟨⟨Eq.refl _, Eq.refl _⟩, ?_⟩ | refine ⟨⟨Eq.refl _, Eq.refl _, Eq.refl _⟩, ?_⟩ | refine ⟨⟨Eq.refl _, Eq.refl _, Eq.refl _, Eq.refl _⟩, ?_⟩ | refine ⟨⟨Eq.refl _, Eq.refl _, Eq.refl _, Eq.refl _, Eq.refl _⟩, ?_⟩ | refine fun (_ : Nat) => ?_ | refine fun (_ : Option Addr) (_ : Nat) => ?_ | fail)
      conv => whnf
      refine ⟨⟨by unfold maxLen; omega, by omega⟩, fun oa2 cap2 => ?_⟩
      repeat ((conv => whnf); first | refine ⟨Eq.refl _, ?_⟩ | refine ⟨⟨Eq.refl _, Eq.refl _⟩, ?_⟩ | refine ⟨⟨Eq.refl _, Eq.refl _, Eq.refl _⟩, ?_⟩ | refine ⟨⟨Eq.refl _, Eq.refl _, Eq.refl _, Eq.refl _⟩, ?_⟩ | refine ⟨⟨Eq.refl _, Eq.refl _, Eq.refl _, Eq.refl _, Eq.refl _⟩, ?_⟩ | refine fun (_ : Nat) => ?_ | refine fun (_ : Option Addr) (_ : Nat) => ?_ | fail)
      conv => whnf
      refine fun fr w hw => ⟨(k + 1, oa2, cap2), congrArg (fun z => [Value.int .i64 z]) (wr1 h' b1 b2).symm, h', dec h', hw.fit ?_⟩
      simp only [hT]
      simp [fitL, Res.eqv, concL, conc, ruleOf]
    have hz1 : k = c.routes.length := by have := of_decide_eq_false hlt; omega
    subst hz1
    repeat ((conv => whnf); first | refine ⟨Eq.refl _, ?_⟩ | refine ⟨⟨Eq.refl _, Eq.refl _⟩, ?_⟩ | refine ⟨⟨Eq.refl _, Eq.refl _, Eq.refl _⟩, ?_⟩ | refine ⟨⟨Eq.refl _, Eq.refl _, Eq.refl _, Eq.refl _⟩, ?_⟩ | refine ⟨⟨Eq.refl _, Eq.refl _, Eq.refl _, Eq.refl _, Eq.refl _⟩, ?_⟩ | refine fun (_ : Nat) => ?_ | refine fun (_ : Option Addr) (_ : Nat) => ?_ | fail)
    conv => whnf
    refine fun g1 hg1 hn1 hp1 => ?_
    conv => whnf
    intro g2 hg
    refine .inl ⟨hz, _, _, _, rfl, ?_, fun x hx hg => hn1 x hx hg⟩
    refine ((rSl_ofE hp1.rd (builtS c).rules cRule ?_ (by simp [builtS]) (fun _ _ => rfl) fun r hr => ?_).mono rRule_mono hg)
    · rw [List.take_of_length_le (Nat.le_refl _)]; simp [builtS, List.map_map, Function.comp_def]
    · obtain ⟨q, _, rfl⟩ := List.mem_map.1 hr
      exact ⟨rfl, idx_inr (by omega), idx_inr (by omega)⟩)
end Go.Proofs.Ytedjbhpocedagaa
