import Derived.Test.YtedjbhpocedagaaB1
import Derived.Test.YtedjbhpocedagaaP4
namespace Go.Proofs.Ytedjbhpocedagaa
open Go.Proofs.Ytedjbhpocedagaa.Sx
theorem ok_low (g : GW) (c : Int) : OkV Try.prog n_names_low [.int .u8 c] g (.bool (lowB c)) :=
  Ok.of_fn hm noT 0 t_names_low (args := [.v (.int .u8 c)]) (by
    repeat' ((conv => whnf); apply And.intro <;> intro _)
    all_goals ((conv => whnf); intro g2 hg; simp_all [lowB] <;> omega))
theorem ok_rlow (g : GW) (c : Int) : OkV Try.prog n_hydrantref03_low [.int .u8 c] g (.bool (lowB c)) :=
  Ok.of_fn hm noT 0 t_hydrantref03_low (args := [.v (.int .u8 c)]) (by
    repeat' ((conv => whnf); apply And.intro <;> intro _)
    all_goals ((conv => whnf); intro g2 hg; simp_all [lowB] <;> omega))
theorem ok_rword (g : GW) (c : Int) : OkV Try.prog n_hydrantref03_word [.int .u8 c] g (.bool (wordB c)) :=
  Ok.of_fn hm noT 0 t_hydrantref03_word (args := [.v (.int .u8 c)]) (by
    conv => whnf
    refine .inl ⟨_, ok_rlow _ _, ?_⟩
    repeat' ((conv => whnf); apply And.intro <;> intro _)
    all_goals ((conv => whnf); intro g2 hg; simp_all [wordB] <;> omega))
theorem ok_word1 (g : GW) (c : Int) : OkV Try.prog n_names_word_1 [.int .u8 c] g (.bool (wordB c)) :=
  Ok.of_fn hm noT 0 t_names_word_1 (args := [.v (.int .u8 c)]) (by
    conv => whnf
    refine .inl ⟨_, ok_low _ _, ?_⟩
    repeat' ((conv => whnf); apply And.intro <;> intro _)
    all_goals ((conv => whnf); intro g2 hg; simp_all [wordB] <;> omega))
def tN : List (Nat × FnI) := [(n_names_word, f_names_word), (n_names_alphabet__all, f_names_alphabet__all)]
theorem tN_ok : TblOk Try.prog tN := by
  intro x hx
  simp only [tN, List.mem_cons, List.not_mem_nil, or_false] at hx
  rcases hx with rfl | rfl
  · exact ⟨_, _, t_names_word⟩
  · exact ⟨_, _, t_names_alphabet__all⟩
theorem ok_Name (g : GW) (s : ByteArray) : OkV Try.prog n_names_Name [.string s] g (.bool (nameB (bs s))) :=
  Ok.of_fn hm tN_ok 1 t_names_Name (args := [.v (.string s)]) (by
    conv => whnf
    refine ⟨fun h1 => ?_, fun h1 => ?_⟩
    · conv => whnf
      refine ⟨fun h2 => ?_, fun h2 => ?_⟩
      · have k1 := of_decide_eq_true h1
        have k2 := of_decide_eq_true h2
        rw [bs_size] at k1 k2
        obtain ⟨c0, hc0⟩ : ∃ c0, (bs s)[0]? = some c0 := ⟨(bs s)[0]'(by omega), List.getElem?_eq_getElem (by omega)⟩
        have hlow : (bs s).head?.any (fun c => lowB c.toNat) = lowB c0.toNat := by rw [List.head?_eq_getElem?, hc0]; rfl
        conv => whnf
        refine ⟨c0, ⟨by omega, hc0⟩, ?_⟩
        conv => whnf
        refine .inl ⟨_, ok_low _ _, ?_⟩
        conv => whnf
        refine ⟨fun h3 => ?_, fun h3 => ?_⟩
        · conv => whnf
          intro b1
          conv => whnf
          refine ⟨rfl, ?_⟩
          conv => whnf
          refine ⟨rfl, ?_⟩
          conv => whnf
          intro b2
          conv => whnf
          refine ⟨Nat, fun i => [.v (.int .i64 i)], fun _ => ⟨g, [.blk 1 b2 _ [.v (.func (.func n_names_word_1) #[] #[])], .blk 0 b1 _ [.v (.func (.func n_names_word_1) #[] #[])]], _, _⟩, fun i => i ≤ (bs s).length ∧ ((bs s).take i).all (fun c => wordB c.toNat) = true, fun i => (bs s).length - i, fun _ _ hw => ⟨0, rfl, ⟨Nat.zero_le _, rfl⟩, hw⟩, ?_⟩
          intro i hJ
          have hi := hJ.1
          have hall := hJ.2
          conv => whnf
          refine ⟨fun h => ?_, fun h => ?_⟩
          · have h' : i < (bs s).length := by have := of_decide_eq_true h; rw [bs_size] at this; omega
            obtain ⟨c, hcc, hc⟩ : ∃ c, (bs s)[i] = c ∧ (bs s)[i]? = some c := ⟨_, rfl, List.getElem?_eq_getElem h'⟩
            have hgood : ∀ b, wordB c.toNat = b → ((bs s).take (i + 1)).all (fun c => wordB c.toNat) = b := fun b hb => by rw [all_take h', hall, hcc, hb]; rfl
            have hw2 : IntKind.i64.wrap ((i : Int) + 1) = ((i + 1 : Nat) : Int) := by rw [wr (by omega)]; simp
            conv => whnf
            refine ⟨c, ⟨by omega, hc⟩, ?_⟩
            conv => whnf
            refine ⟨fun hz => ?_, fun hz => ?_⟩
            · conv => whnf
              refine ⟨rfl, ?_⟩
              conv => whnf
              refine ⟨c, ⟨by omega, hc⟩, ?_⟩
              conv => whnf
              refine ⟨k_names_word_1, ?_⟩
              conv => whnf
              refine .inl ⟨_, ok_word1 _ _, ?_⟩
              conv => whnf
              refine ⟨fun hb => ?_, fun hb => ?_⟩
              · conv => whnf
                intro g2 hg
                rw [nameB, all_false h' (by rw [hcc]; simpa using hb)]; simp
              · conv => whnf
                refine fun _ _ hw => ⟨i + 1, congrArg (fun z => [Value.int .i64 z]) hw2.symm, ⟨h', hgood _ (by simpa using hb)⟩, dec h', hw⟩
            · conv => whnf
              refine fun _ _ hw => ⟨i + 1, congrArg (fun z => [Value.int .i64 z]) hw2.symm, ⟨h', hgood _ (by simp at hz; simp [wordB, hz])⟩, dec h', hw⟩
          · conv => whnf
            intro g2 hg
            have : i = (bs s).length := by have := of_decide_eq_false h; rw [bs_size] at this; omega
            rw [this, List.take_length] at hall
            rw [nameB, hall, hlow, h3, decide_eq_true (p := 0 < (bs s).length) (by omega), decide_eq_true (p := (bs s).length ≤ 16) (by omega)]; rfl
        · conv => whnf
          intro g2 hg
          simp [nameB, hlow, h3]
      · conv => whnf
        intro g2 hg
        have := of_decide_eq_false h2
        rw [bs_size] at this
        rw [nameB, decide_eq_false (p := (bs s).length ≤ 16) (by omega)]; simp
    · conv => whnf
      intro g2 hg
      have := of_decide_eq_false h1
      rw [bs_size] at this
      rw [nameB, decide_eq_false (p := 0 < (bs s).length) (by omega)]; simp)
theorem ok_rName (g : GW) (s : ByteArray) : OkV Try.prog n_hydrantref03_Name [.string s] g (.bool (nameB (bs s))) :=
  Ok.of_fn hm noT 0 t_hydrantref03_Name (args := [.v (.string s)]) (by
    conv => whnf
    refine ⟨fun h1 => ?_, fun h1 => ?_⟩
    · conv => whnf
      intro g2 hg
      have := of_decide_eq_true h1
      rw [bs_size] at this
      rw [nameB, decide_eq_false (p := 0 < (bs s).length) (by omega)]; rfl
    · conv => whnf
      refine ⟨fun h2 => ?_, fun h2 => ?_⟩
      · conv => whnf
        intro g2 hg
        have := of_decide_eq_true h2
        rw [bs_size] at this
        rw [nameB, decide_eq_false (p := (bs s).length ≤ 16) (by omega)]; simp
      · have k1 := of_decide_eq_false h1
        have k2 := of_decide_eq_false h2
        rw [bs_size] at k1 k2
        obtain ⟨c0, hc0⟩ : ∃ c0, (bs s)[0]? = some c0 := ⟨(bs s)[0]'(by omega), List.getElem?_eq_getElem (by omega)⟩
        have hlow : (bs s).head?.any (fun c => lowB c.toNat) = lowB c0.toNat := by rw [List.head?_eq_getElem?, hc0]; rfl
        conv => whnf
        refine ⟨c0, ⟨by omega, hc0⟩, ?_⟩
        conv => whnf
        refine .inl ⟨_, ok_rlow _ _, ?_⟩
        conv => whnf
        refine ⟨fun h3 => ?_, fun h3 => ?_⟩
        · conv => whnf
          intro g2 hg
          have h3' : lowB c0.toNat = false := by simpa using h3
          rw [nameB, hlow, h3']; simp
        · have h3' : lowB c0.toNat = true := by simpa using h3
          conv => whnf
          refine ⟨Nat, fun i => [.v (.int .i64 i)], fun _ => ⟨g, [], _, _⟩, fun i => i ≤ (bs s).length ∧ ((bs s).take i).all (fun c => wordB c.toNat) = true, fun i => (bs s).length - i, fun _ _ hw => ⟨0, rfl, ⟨Nat.zero_le _, rfl⟩, hw⟩, ?_⟩
          intro i hJ
          have hi := hJ.1
          have hall := hJ.2
          conv => whnf
          refine ⟨fun h => ?_, fun h => ?_⟩
          · have h' : i < (bs s).length := by have := of_decide_eq_true h; rw [bs_size] at this; omega
            obtain ⟨c, hcc, hc⟩ : ∃ c, (bs s)[i] = c ∧ (bs s)[i]? = some c := ⟨_, rfl, List.getElem?_eq_getElem h'⟩
            have hgood : ∀ b, wordB c.toNat = b → ((bs s).take (i + 1)).all (fun c => wordB c.toNat) = b := fun b hb => by rw [all_take h', hall, hcc, hb]; rfl
            have hw2 : IntKind.i64.wrap ((i : Int) + 1) = ((i + 1 : Nat) : Int) := by rw [wr (by omega)]; simp
            conv => whnf
            refine ⟨c, ⟨by omega, hc⟩, ?_⟩
            conv => whnf
            refine .inl ⟨_, ok_rword _ _, ?_⟩
            conv => whnf
            refine ⟨fun hb => ?_, fun hb => ?_⟩
            · conv => whnf
              intro g2 hg
              rw [nameB, all_false h' (by rw [hcc]; simpa using hb)]; simp
            · conv => whnf
              refine fun _ _ hw => ⟨i + 1, congrArg (fun z => [Value.int .i64 z]) hw2.symm, ⟨h', hgood _ (by simpa using hb)⟩, dec h', hw⟩
          · conv => whnf
            intro g2 hg
            have : i = (bs s).length := by have := of_decide_eq_false h; rw [bs_size] at this; omega
            rw [this, List.take_length] at hall
            rw [nameB, hall, hlow, h3', decide_eq_true (p := 0 < (bs s).length) (by omega), decide_eq_true (p := (bs s).length ≤ 16) (by omega)]; rfl)
end Go.Proofs.Ytedjbhpocedagaa
