/- What each function of the epochs answers (contracts), and the law EpochTells. -/
import Derived.Test.YtddndeflnfogoaaEpF
namespace Go.Proofs.Ytddndeflnfogoaa
open Go.Proofs.Ytddndeflnfogoaa.Sx
theorem hm : Try.prog.follows .mixedOrders = true := by kernel_rfl
theorem noT : TblOk Try.prog [] := fun _ h => nomatch h
abbrev InR (x : Int) : Prop := -9223372036854775808 ≤ x ∧ x ≤ 9223372036854775807
theorem wr {x : Int} (h : InR x) : IntKind.i64.wrap x = x := IntWalk.i64_in x h
/-- A slice of ints that is only read. -/
def Ints (g : GW) (v : Value) (l : List Int) : Prop := RdSl g 1 v l.length (l.map (.int .i64)) ∧ ∀ x ∈ l, InR x
theorem Ints.mono {g g' : GW} {v : Value} {l : List Int} (h : Ints g v l) (k : g ≤ g') : Ints g' v l := ⟨h.1.mono k, h.2⟩
theorem Ints.open {g : GW} {v : Value} {l : List Int} (h : Ints g v l) : ∃ oa cap, v = .slice oa l.length cap ∧ l.length ≤ cap ∧ cap ≤ maxLen ∧ ∀ i (h : i < l.length), ∃ a, oa = some a ∧ Rc g (a.add (i * 1)) (.int .i64 l[i]) := by
  obtain ⟨⟨_, oa, cap, rfl, h1, h2, _, h3⟩, _⟩ := h
  refine ⟨oa, cap, rfl, h1, h2, fun i hi => ?_⟩
  rw [Nat.mul_one]
  exact h3 i _ (by simp [hi])
theorem Ints.nil (g : GW) : Ints g (.slice none 0 0) [] := ⟨⟨rfl, none, 0, rfl, Nat.le_refl _, Nat.zero_le _, fun _ => ⟨rfl, rfl⟩, fun i u h => by simp at h⟩, fun x h => nomatch h⟩

theorem ok_Safe (g : GW) {x n : Int} (hx : InR x) : OkV Try.prog 16 [.int .i64 x, .int .i64 n] g (.bool (decide (x ≤ 9223372036854775805) && decide (x + 2 ≤ n))) :=
  Ok.of_fn hm noT 0 t_epoch_Safe (args := [.v (.int .i64 x), .v (.int .i64 n)]) (by
    conv => whnf
    refine ⟨fun h => ?_, fun h => ?_⟩
    · conv => whnf
      intro g2 hg
      have := of_decide_eq_true h
      rw [wr (by omega), h]; rfl
    · conv => whnf
      intro g2 hg
      rw [h]; rfl)
theorem ok_top (g : GW) : OkV Try.prog 33 [] g (.int .i64 9223372036854775807) :=
  Ok.of_fn hm noT 0 t_hydrantref15_top (args := []) (by conv => whnf
                                                        exact fun _ _ => rfl)
theorem ok_rSafe (g : GW) {x n : Int} (hx : InR x) : OkV Try.prog 17 [.int .i64 x, .int .i64 n] g (.bool (decide (x ≤ 9223372036854775805) && decide (x + 2 ≤ n))) :=
  Ok.of_fn hm noT 0 t_hydrantref15_Safe (args := [.v (.int .i64 x), .v (.int .i64 n)]) (by
    conv => whnf
    refine .inl ⟨_, ok_top _, ?_⟩
    conv => whnf
    refine ⟨fun h => ?_, fun h => ?_⟩
    · conv => whnf
      intro g2 hg
      have h' : x ≤ 9223372036854775805 := of_decide_eq_true h
      rw [wr (by omega), decide_eq_true h']; rfl
    · conv => whnf
      intro g2 hg
      have h' : ¬ x ≤ 9223372036854775805 := of_decide_eq_false h
      rw [decide_eq_false h']; rfl)
def goodB (now p : Int) : Bool := p == 0 || (decide (now < 9223372036854775807) && p == now + 1)
def canB (now : Int) (l : List Int) : Bool := l.all (goodB now)
theorem all_take {α : Type} {f : α → Bool} {l : List α} {i : Nat} (h : i < l.length) : (l.take (i + 1)).all f = ((l.take i).all f && f l[i]) := by
  rw [List.take_succ_eq_append_getElem h, List.all_append]; simp only [List.all_cons, List.all_nil, Bool.and_true]
theorem all_false {α : Type} {f : α → Bool} {l : List α} {i : Nat} (h : i < l.length) (k : f l[i] = false) : l.all f = false := by
  rw [List.all_eq_false]; exact ⟨l[i], List.getElem_mem h, by simp [k]⟩
theorem wr1 {i n cap : Nat} (h : i < n) (h1 : n ≤ cap) (h2 : cap ≤ maxLen) : IntKind.i64.wrap ((i : Int) + 1) = ((i + 1 : Nat) : Int) := by
  rw [wr]
  · simp
  · unfold maxLen at h2; exact ⟨by omega, by omega⟩
theorem dec {i n : Nat} (h : i < n) : n - (i + 1) < n - i := by omega
theorem ok_rCan (g : GW) {now : Int} (hx : InR now) {v : Value} {l : List Int} (hl : Ints g v l) : OkV Try.prog 13 [.int .i64 now, v] g (.bool (canB now l)) :=
  Ok.of_fn hm noT 0 t_hydrantref15_Can (args := [.v (.int .i64 now), .v v]) (by
    obtain ⟨oa, cap, rfl, h1, h2, hr⟩ := hl.open
    conv => whnf
    refine ⟨Nat, fun i => [.v (.int .i64 i)], fun _ => ⟨g, [], 0⟩, fun i => i ≤ l.length ∧ (l.take i).all (goodB now) = true, fun i => l.length - i, fun _ _ hw => ⟨0, rfl, ⟨Nat.zero_le _, rfl⟩, hw⟩, ?_⟩
    intro i hJ
    have hi := hJ.1
    have hall := hJ.2
    conv => whnf
    refine ⟨fun h => ?_, fun h => ?_⟩
    · have h' : i < l.length := by have := of_decide_eq_true h; omega
      obtain ⟨a, ha, hc⟩ := hr i h'
      have hgood : ∀ b, goodB now l[i] = b → (l.take (i + 1)).all (goodB now) = b := fun b hb => by rw [all_take h', hall, hb]; rfl
      conv => whnf
      refine ⟨a, ha, ⟨by omega, by omega⟩, ?_⟩
      conv => whnf
      refine ⟨_, hc, ?_⟩
      conv => whnf
      refine ⟨fun hz => ?_, fun hz => ?_⟩
      · conv => whnf
        refine .inl ⟨_, ok_top _, ?_⟩
        conv => whnf
        refine ⟨fun ht => ?_, fun ht => ?_⟩
        · conv => whnf
          intro g2 hg
          rw [show canB now l = false from all_false h' (by simp at ht hz; simp [goodB, ht, hz])]
        · conv => whnf
          refine ⟨a, ha, ⟨by omega, by omega⟩, ?_⟩
          conv => whnf
          refine ⟨_, hc, ?_⟩
          have hn : now ≠ 9223372036854775807 := by simpa using ht
          conv => whnf
          refine ⟨fun hn1 => ?_, fun hn1 => ?_⟩
          · conv => whnf
            intro g2 hg
            rw [wr (by omega)] at hn1
            rw [show canB now l = false from all_false h' (by simp at hn1 hz; simp [goodB, hn1, hz])]
          · conv => whnf
            refine fun _ _ hw => ⟨i + 1, congrArg (fun z => [Value.int .i64 z]) (wr1 h' h1 h2).symm, ⟨h', hgood _ ?_⟩, dec h', hw⟩
            · rw [wr (by omega)] at hn1
              simp at hn1; simp [goodB, hn1]; omega
      · conv => whnf
        refine fun _ _ hw => ⟨i + 1, congrArg (fun z => [Value.int .i64 z]) (wr1 h' h1 h2).symm, ⟨h', hgood _ ?_⟩, dec h', hw⟩
        · simp at hz; simp [goodB, hz]
    · conv => whnf
      intro g2 hg
      have : i = l.length := by have := of_decide_eq_false h; omega
      rw [this, List.take_length] at hall
      rw [show canB now l = true from hall])
theorem ok32 : FnOk Try.prog 32 := FnOk.of (by kernel_rfl)
theorem ok34 : FnOk Try.prog 34 := FnOk.of (by kernel_rfl)
def tE : List (Nat × FnI) := [(31, f_epoch_all), (32, f_epoch_Can_1), (34, f_epoch_Holds_1)]
theorem tE_ok : TblOk Try.prog tE := by
  intro x hx
  simp only [tE, List.mem_cons, List.not_mem_nil, or_false] at hx
  rcases hx with rfl | rfl | rfl
  · exact ⟨_, _, t_epoch_all⟩
  · exact ⟨_, _, t_epoch_Can_1⟩
  · exact ⟨_, _, t_epoch_Holds_1⟩
theorem ok_Can (g : GW) {now : Int} (hx : InR now) {v : Value} {l : List Int} (hl : Ints g v l) : OkV Try.prog 12 [.int .i64 now, v] g (.bool (canB now l)) :=
  Ok.of_fn hm tE_ok 2 t_epoch_Can (args := [.v (.int .i64 now), .v v]) (by
    obtain ⟨oa, cap, rfl, h1, h2, hr⟩ := hl.open
    conv => whnf
    intro b
    conv => whnf
    refine ⟨Nat, fun i => [.v (.int .i64 i)], fun _ => ⟨g, [.blk 0 b 3 [.v (.int .i64 now)]], 1⟩, fun i => i ≤ l.length ∧ (l.take i).all (goodB now) = true, fun i => l.length - i, fun _ _ hw => ⟨0, rfl, ⟨Nat.zero_le _, rfl⟩, hw⟩, ?_⟩
    intro i hJ
    have hi := hJ.1
    have hall := hJ.2
    conv => whnf
    refine ⟨fun h => ?_, fun h => ?_⟩
    · have h' : i < l.length := by have := of_decide_eq_true h; omega
      obtain ⟨a, ha, hc⟩ := hr i h'
      have hgood : ∀ b, goodB now l[i] = b → (l.take (i + 1)).all (goodB now) = b := fun b hb => by rw [all_take h', hall, hb]; rfl
      conv => whnf
      refine ⟨a, ha, ⟨by omega, by omega⟩, ?_⟩
      conv => whnf
      refine ⟨_, hc, ?_⟩
      conv => whnf
      refine ⟨ok32, ?_⟩
      conv => whnf
      refine ⟨fun hz => ?_, fun hz => ?_⟩
      · conv => whnf
        refine fun _ _ hw => ⟨i + 1, congrArg (fun z => [Value.int .i64 z]) (wr1 h' h1 h2).symm, ⟨h', hgood _ ?_⟩, dec h', hw⟩
        · simp at hz; simp [goodB, hz]
      · conv => whnf
        refine ⟨rfl, ?_⟩
        conv => whnf
        refine ⟨fun ht => ?_, fun ht => ?_⟩
        · have hn : now < 9223372036854775807 := of_decide_eq_true ht
          conv => whnf
          refine ⟨rfl, ?_⟩
          conv => whnf
          refine ⟨fun hn1 => ?_, fun hn1 => ?_⟩
          · conv => whnf
            intro g2 hg
            rw [wr (by omega)] at hn1
            rw [show canB now l = false from all_false h' (by simp at hn1 hz; simp [goodB, hn1, hz])]
          · conv => whnf
            refine fun _ _ hw => ⟨i + 1, congrArg (fun z => [Value.int .i64 z]) (wr1 h' h1 h2).symm, ⟨h', hgood _ ?_⟩, dec h', hw⟩
            rw [wr (by omega)] at hn1
            simp at hn1; simp [goodB, hn1]; omega
        · have hn : ¬ now < 9223372036854775807 := of_decide_eq_false ht
          conv => whnf
          intro g2 hg
          rw [show canB now l = false from all_false h' (by simp at hz; simp [goodB, hn, hz])]
    · conv => whnf
      intro g2 hg
      have : i = l.length := by have := of_decide_eq_false h; omega
      rw [this, List.take_length] at hall
      rw [show canB now l = true from hall])
theorem ok_Next (g : GW) {now : Int} (hx : InR now) {v : Value} {l : List Int} (hl : Ints g v l) : OkV Try.prog 14 [.int .i64 now, v] g (.int .i64 (if decide (now < 9223372036854775807) && canB now l then now + 1 else now)) :=
  Ok.of_fn hm noT 0 t_epoch_Next (args := [.v (.int .i64 now), .v v]) (by
    conv => whnf
    refine ⟨fun h => ?_, fun h => ?_⟩
    · conv => whnf
      refine .inl ⟨_, ok_Can _ hx hl, ?_⟩
      conv => whnf
      refine ⟨fun k => ?_, fun k => ?_⟩
      · conv => whnf
        intro g2 hg
        have h' : now < 9223372036854775807 := of_decide_eq_true h
        rw [wr (by omega), h, k]; rfl
      · conv => whnf
        intro g2 hg
        rw [k]; simp
    · conv => whnf
      intro g2 hg
      rw [h]; rfl)
theorem ok_rNext (g : GW) {now : Int} (hx : InR now) {v : Value} {l : List Int} (hl : Ints g v l) : OkV Try.prog 15 [.int .i64 now, v] g (.int .i64 (if decide (now < 9223372036854775807) && canB now l then now + 1 else now)) :=
  Ok.of_fn hm noT 0 t_hydrantref15_Next (args := [.v (.int .i64 now), .v v]) (by
    conv => whnf
    refine .inl ⟨_, ok_rCan _ hx hl, ?_⟩
    conv => whnf
    refine ⟨fun k => ?_, fun k => ?_⟩
    · conv => whnf
      intro g2 hg
      have k' : canB now l = false := by simpa using k
      rw [k']; simp
    · have k' : canB now l = true := by simpa using k
      conv => whnf
      refine .inl ⟨_, ok_top _, ?_⟩
      conv => whnf
      refine ⟨fun h => ?_, fun h => ?_⟩
      · conv => whnf
        intro g2 hg
        have h' : now = 9223372036854775807 := by simpa using h
        rw [h']; rfl
      · conv => whnf
        intro g2 hg
        have h' : now ≠ 9223372036854775807 := by simpa using h
        have h2 : now < 9223372036854775807 := by omega
        rw [wr (by omega), k', decide_eq_true h2]; rfl)
def heldB (at_ p : Int) : Bool := decide (1 ≤ p) && decide (p - 1 ≤ at_)
def holdsB (at_ : Int) (l : List Int) : Bool := !l.all (fun p => !heldB at_ p)
theorem ok_Holds (g : GW) {x : Int} {v : Value} {l : List Int} (hl : Ints g v l) : OkV Try.prog 18 [.int .i64 x, v] g (.bool (holdsB x l)) :=
  Ok.of_fn hm tE_ok 2 t_epoch_Holds (args := [.v (.int .i64 x), .v v]) (by
    obtain ⟨oa, cap, rfl, h1, h2, hr⟩ := hl.open
    conv => whnf
    intro b
    conv => whnf
    refine ⟨Nat, fun i => [.v (.int .i64 i)], fun _ => ⟨g, [.blk 0 b 3 [.v (.int .i64 x)]], 1⟩, fun i => i ≤ l.length ∧ (l.take i).all (fun p => !heldB x p) = true, fun i => l.length - i, fun _ _ hw => ⟨0, rfl, ⟨Nat.zero_le _, rfl⟩, hw⟩, ?_⟩
    intro i hJ
    have hi := hJ.1
    have hall := hJ.2
    conv => whnf
    refine ⟨fun h => ?_, fun h => ?_⟩
    · have h' : i < l.length := by have := of_decide_eq_true h; omega
      obtain ⟨a, ha, hc⟩ := hr i h'
      have hin := hl.2 _ (List.getElem_mem h')
      have hgood : ∀ b, (!heldB x l[i]) = b → (l.take (i + 1)).all (fun p => !heldB x p) = b := fun b hb => by rw [all_take h', hall, hb]; rfl
      conv => whnf
      refine ⟨a, ha, ⟨by omega, by omega⟩, ?_⟩
      conv => whnf
      refine ⟨_, hc, ?_⟩
      conv => whnf
      refine ⟨ok34, ?_⟩
      conv => whnf
      refine ⟨fun hz => ?_, fun hz => ?_⟩
      · conv => whnf
        refine fun _ _ hw => ⟨i + 1, congrArg (fun z => [Value.int .i64 z]) (wr1 h' h1 h2).symm, ⟨h', hgood _ ?_⟩, dec h', hw⟩
        · have := of_decide_eq_true hz
          simp [heldB]; omega
      · conv => whnf
        refine ⟨rfl, ?_⟩
        have hz' := of_decide_eq_false hz
        conv => whnf
        refine ⟨fun hn1 => ?_, fun hn1 => ?_⟩
        · conv => whnf
          intro g2 hg
          rw [wr (by omega)] at hn1
          simp at hn1
          rw [show holdsB x l = true from by unfold holdsB; rw [all_false h' (by simp [heldB]; omega)]; rfl]
        · conv => whnf
          refine fun _ _ hw => ⟨i + 1, congrArg (fun z => [Value.int .i64 z]) (wr1 h' h1 h2).symm, ⟨h', hgood _ ?_⟩, dec h', hw⟩
          rw [wr (by omega)] at hn1
          simp at hn1
          simp [heldB]; omega
    · conv => whnf
      intro g2 hg
      have : i = l.length := by have := of_decide_eq_false h; omega
      rw [this, List.take_length] at hall
      rw [show holdsB x l = false from by unfold holdsB; rw [hall]; rfl])
theorem ok_rHolds (g : GW) {x : Int} {v : Value} {l : List Int} (hl : Ints g v l) : OkV Try.prog 19 [.int .i64 x, v] g (.bool (holdsB x l)) :=
  Ok.of_fn hm noT 0 t_hydrantref15_Holds (args := [.v (.int .i64 x), .v v]) (by
    obtain ⟨oa, cap, rfl, h1, h2, hr⟩ := hl.open
    conv => whnf
    refine ⟨Nat, fun i => [.v (.int .i64 i)], fun _ => ⟨g, [], 0⟩, fun i => i ≤ l.length ∧ (l.take i).all (fun p => !heldB x p) = true, fun i => l.length - i, fun _ _ hw => ⟨0, rfl, ⟨Nat.zero_le _, rfl⟩, hw⟩, ?_⟩
    intro i hJ
    have hi := hJ.1
    have hall := hJ.2
    conv => whnf
    refine ⟨fun h => ?_, fun h => ?_⟩
    · have h' : i < l.length := by have := of_decide_eq_true h; omega
      obtain ⟨a, ha, hc⟩ := hr i h'
      have hin := hl.2 _ (List.getElem_mem h')
      have hgood : ∀ b, (!heldB x l[i]) = b → (l.take (i + 1)).all (fun p => !heldB x p) = b := fun b hb => by rw [all_take h', hall, hb]; rfl
      conv => whnf
      refine ⟨a, ha, ⟨by omega, by omega⟩, ?_⟩
      conv => whnf
      refine ⟨_, hc, ?_⟩
      conv => whnf
      refine ⟨fun hz => ?_, fun hz => ?_⟩
      · have hz' := of_decide_eq_true hz
        conv => whnf
        refine ⟨a, ha, ⟨by omega, by omega⟩, ?_⟩
        conv => whnf
        refine ⟨_, hc, ?_⟩
        conv => whnf
        refine ⟨fun hn1 => ?_, fun hn1 => ?_⟩
        · conv => whnf
          intro g2 hg
          rw [wr (by omega)] at hn1
          have := of_decide_eq_true hn1
          rw [show holdsB x l = true from by unfold holdsB; rw [all_false h' (by simp [heldB]; omega)]; rfl]
        · conv => whnf
          refine fun _ _ hw => ⟨i + 1, congrArg (fun z => [Value.int .i64 z]) (wr1 h' h1 h2).symm, ⟨h', hgood _ ?_⟩, dec h', hw⟩
          · rw [wr (by omega)] at hn1
            have := of_decide_eq_false hn1
            simp [heldB]; omega
      · have hz' := of_decide_eq_false hz
        conv => whnf
        refine fun _ _ hw => ⟨i + 1, congrArg (fun z => [Value.int .i64 z]) (wr1 h' h1 h2).symm, ⟨h', hgood _ ?_⟩, dec h', hw⟩
        · simp [heldB]; omega
    · conv => whnf
      intro g2 hg
      have : i = l.length := by have := of_decide_eq_false h; omega
      rw [this, List.take_length] at hall
      rw [show holdsB x l = false from by unfold holdsB; rw [hall]; rfl])
theorem Ints.of {g : GW} {v : Value} {l : List Int} {n : Nat} {cs : List Value} (h : RdSl g 1 v n cs) (hn : n = l.length) (hc : cs = l.map (.int .i64)) (hr : ∀ x ∈ l, InR x) : Ints g v l := ⟨hn ▸ hc ▸ h, hr⟩
theorem ok_passed (g : GW) : OkV Try.prog 11 [] g (.bool true) :=
  Ok.of_fn hm noT 0 t_hydrantlaw15_passed (args := []) (by
    conv => whnf
    intro b1
    conv => whnf
    refine ⟨⟨rfl, rfl, rfl⟩, ?_⟩
    conv => whnf
    refine ⟨1, rfl, by unfold maxLen; omega, fun g1 hg1 hr1 => ?_⟩
    conv => whnf
    refine .inl ⟨.bool true, ok_Can _ (by decide) (Ints.of (l := [0, 5, 0]) hr1 rfl rfl (by decide)), ?_⟩
    conv => whnf
    refine ⟨fun _ => ?_, fun h => nomatch h⟩
    conv => whnf
    intro b2
    conv => whnf
    refine ⟨⟨rfl, rfl, rfl⟩, ?_⟩
    conv => whnf
    refine ⟨1, rfl, by unfold maxLen; omega, fun g2 hg2 hr2 => ?_⟩
    conv => whnf
    refine .inl ⟨.bool false, ok_Can _ (by decide) (Ints.of (l := [4]) hr2 rfl rfl (by decide)), ?_⟩
    conv => whnf
    refine ⟨fun _ => ?_, fun h => nomatch h⟩
    conv => whnf
    refine .inl ⟨.int .i64 5, ok_Next _ (by decide) (Ints.nil _), ?_⟩
    conv => whnf
    refine ⟨fun _ => ?_, fun h => nomatch h⟩
    conv => whnf
    intro b3
    conv => whnf
    refine ⟨⟨rfl, rfl, rfl⟩, ?_⟩
    conv => whnf
    refine ⟨1, rfl, by unfold maxLen; omega, fun g3 hg3 hr3 => ?_⟩
    conv => whnf
    refine .inl ⟨.int .i64 4, ok_Next _ (by decide) (Ints.of (l := [4]) hr3 rfl rfl (by decide)), ?_⟩
    conv => whnf
    refine ⟨fun _ => ?_, fun h => nomatch h⟩
    conv => whnf
    refine .inl ⟨.bool true, ok_Safe _ (by decide), ?_⟩
    conv => whnf
    refine ⟨fun _ => ?_, fun h => nomatch h⟩
    conv => whnf
    refine .inl ⟨.bool false, ok_Safe _ (by decide), ?_⟩
    conv => whnf
    refine ⟨fun _ => ?_, fun h => nomatch h⟩
    conv => whnf
    intro b4
    conv => whnf
    refine ⟨⟨rfl, rfl, rfl⟩, ?_⟩
    conv => whnf
    refine ⟨1, rfl, by unfold maxLen; omega, fun g4 hg4 hr4 => ?_⟩
    conv => whnf
    refine .inl ⟨.bool true, ok_Holds _ (Ints.of (l := [0, 5]) hr4 rfl rfl (by decide)), ?_⟩
    conv => whnf
    refine ⟨fun _ => ?_, fun h => nomatch h⟩
    conv => whnf
    intro b5
    conv => whnf
    refine ⟨⟨rfl, rfl, rfl⟩, ?_⟩
    conv => whnf
    refine ⟨1, rfl, by unfold maxLen; omega, fun g5 hg5 hr5 => ?_⟩
    conv => whnf
    refine .inl ⟨.bool false, ok_Holds _ (Ints.of (l := [0, 5]) hr5 rfl rfl (by decide)), ?_⟩
    conv => whnf
    refine ⟨fun _ => ?_, fun h => nomatch h⟩
    conv => whnf
    refine .inl ⟨.bool false, ok_Holds _ (Ints.nil _), ?_⟩
    conv => whnf
    intro g2 hg
    rfl)
theorem lw_Tells (g : GW) {x now : Int} (hx : InR x) (hn : InR now) {v : Value} {l : List Int} (hl : Ints g v l) : OkV Try.prog 3 [.int .i64 x, .int .i64 now, v] g (.bool true) :=
  Ok.of_fn hm noT 0 t_hydrantlaw15_EpochTells (args := [.v (.int .i64 x), .v (.int .i64 now), .v v]) (by
    obtain ⟨oa, cap, rfl, h1, h2, hr⟩ := hl.open
    conv => whnf
    refine ⟨fun h => ?_, fun h => ?_⟩
    · conv => whnf
      intro g2 hg
      rfl
    · conv => whnf
      refine .inl ⟨_, ok_passed _, ?_⟩
      conv => whnf
      refine ⟨fun _ => ?_, fun h => nomatch h⟩
      conv => whnf
      refine .inl ⟨_, ok_Can _ hn hl, ?_⟩
      conv => whnf
      refine .inl ⟨_, ok_rCan _ hn hl, ?_⟩
      conv => whnf
      refine ⟨fun _ => ?_, fun h => absurd h (by simp)⟩
      conv => whnf
      refine .inl ⟨_, ok_Next _ hn hl, ?_⟩
      conv => whnf
      refine .inl ⟨_, ok_rNext _ hn hl, ?_⟩
      conv => whnf
      refine ⟨fun _ => ?_, fun h => absurd h (by simp)⟩
      conv => whnf
      refine .inl ⟨_, ok_Safe _ hx, ?_⟩
      conv => whnf
      refine .inl ⟨_, ok_rSafe _ hx, ?_⟩
      conv => whnf
      refine ⟨fun _ => ?_, fun h => absurd h (by simp)⟩
      conv => whnf
      refine .inl ⟨_, ok_Holds _ hl, ?_⟩
      conv => whnf
      refine .inl ⟨_, ok_rHolds _ hl, ?_⟩
      conv => whnf
      intro g2 hg
      simp)
/-- All that is there is frozen. -/
def allG (w : World) : GW := ⟨w, (· < w.heap.size), fun _ h => h⟩
theorem ints_row {w : World} {a : Option Addr} {len cap : Nat} {zs : List Int} (h : (a = none ∧ len = 0 ∧ cap = 0 ∧ zs = []) ∨
  ∃ x, a = some x ∧ len ≤ cap ∧ cap ≤ maxLen ∧ zs.length = cap ∧ (∀ i, i < zs.length → w.cell? (x.add i) = some (.int .i64 (zs.getD i 0))) ∧ ∀ n ∈ zs, (Lit.int .i64 n).wf = true) : ∃ l, Ints (allG w) (.slice a len cap) l := by
  rcases h with ⟨rfl, rfl, rfl, rfl⟩ | ⟨x, rfl, hl, hm, hz, hc, hw⟩
  · exact ⟨[], Ints.nil _⟩
  · have hlen : (zs.take len).length = len := by rw [List.length_take]; omega
    refine ⟨zs.take len, ⟨?_, some x, cap, by rw [hlen], by rw [hlen]; exact hl, hm, fun h => (by cases h), fun i u hu => ⟨x, rfl, ?_⟩⟩, fun n hn => ?_⟩
    · simp
    · rw [List.getElem?_map, List.getElem?_take] at hu
      split at hu
      · rename_i hi
        have hi2 : i < zs.length := by omega
        have hcell := hc i hi2
        rw [List.getD_eq_getElem?_getD] at hcell
        rw [List.getElem?_eq_getElem hi2] at hu hcell
        simp at hu hcell
        rw [hu] at hcell
        refine ⟨?_, hcell⟩
        have : (x.add i).block < w.heap.size := by
          unfold World.cell? at hcell
          cases hh : w.heap[(x.add i).block]? with
          | none => rw [hh] at hcell; cases hcell
          | some o => exact (Array.getElem?_eq_some_iff.1 hh).1
        exact this
      · cases hu
    · have := hw n (List.mem_of_mem_take hn)
      simpa [Lit.wf, IntKind.min, IntKind.max, IntKind.bits, IntKind.signed] using this
theorem inr_of {x : Int} (h : (Lit.int .i64 x).wf = true) : InR x := by
  simpa [Lit.wf, IntKind.min, IntKind.max, IntKind.bits, IntKind.signed] using h
theorem walk_of {f : FuncId} {args : List Value} {w : World} {v : Value} (h : OkV Try.prog f args (allG w) v) : Calls Try.prog f args.toArray w fun e w' => e = .returned v ∧ RowKit.Below w.heap.size w w' :=
  (h w (Good.refl _)).mono fun _ _ ⟨_, he, hb, hv⟩ => ⟨hv ▸ he, hb⟩
end Go.Proofs.Ytddndeflnfogoaa
