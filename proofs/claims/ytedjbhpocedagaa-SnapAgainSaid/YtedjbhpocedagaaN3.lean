/- Prefixes and suffixes of texts; patterns and paths; the document's parts, hosts, patterns and paths. -/
import Derived.Test.YtedjbhpocedagaaN2
namespace Go.Proofs.Ytedjbhpocedagaa
open Go.Proofs.Ytedjbhpocedagaa.Sx
theorem ok_HasPrefix (g : GW) (s p : BA) : OkV Try.prog n_stringslite_HasPrefix [.string s, .string p] g (.bool (preL (bs p) (bs s))) :=
  Ok.of_fn hm noT 0 t_stringslite_HasPrefix (args := [.v (.string s), .v (.string p)]) (by
    conv => whnf
    refine ⟨fun h => ?_, fun h => ?_⟩
    · have h' := of_decide_eq_true h
      conv => whnf
      refine ⟨⟨by omega, by omega⟩, ?_⟩
      conv => whnf
      intro g2 hg
      rw [preL_eq]
      have e1 : bs (s.extract 0 (p.size : Int).toNat) = (bs s).take (bs p).length := by rw [bs_extract, bs_size]; simp
      have := bs_size s; have := bs_size p
      rw [decide_eq_true (show (bs p).length ≤ (bs s).length by omega), ← e1]; rfl
    · conv => whnf
      intro g2 hg
      have h' := of_decide_eq_false h
      have := bs_size s; have := bs_size p
      rw [preL_eq, decide_eq_false (show ¬ (bs p).length ≤ (bs s).length by omega)]; rfl)
theorem ok_HasSuffix1 (g : GW) (s t : BA) (hs : s.size ≤ 1000000000 ∧ t.size ≤ 1000000000) : OkV Try.prog n_stringslite_HasSuffix [.string s, .string t] g (.bool (sufL (bs t) (bs s))) :=
  Ok.of_fn hm noT 0 t_stringslite_HasSuffix (args := [.v (.string s), .v (.string t)]) (by
    conv => whnf
    refine ⟨fun h => ?_, fun h => ?_⟩
    · have h' := of_decide_eq_true h
      have hw : IntKind.i64.wrap ((s.size : Int) - (t.size : Int)) = ((s.size - t.size : Nat) : Int) := by rw [wr (by omega)]; omega
      conv => whnf
      refine ⟨⟨by rw [hw]; omega, by rw [hw]; omega⟩, ?_⟩
      conv => whnf
      intro g2 hg
      rw [sufL_eq]
      have := bs_size s; have := bs_size t
      have e1 : bs (s.extract (IntKind.i64.wrap ((s.size : Int) - (t.size : Int))).toNat s.size) = (bs s).drop ((bs s).length - (bs t).length) := by
        rw [bs_extract, hw, Int.toNat_natCast, bs_size s, bs_size t]
        exact List.take_of_length_le (by simp)
      rw [decide_eq_true (show (bs t).length ≤ (bs s).length by omega), ← e1]; rfl
    · conv => whnf
      intro g2 hg
      have h' := of_decide_eq_false h
      have := bs_size s; have := bs_size t
      rw [sufL_eq, decide_eq_false (show ¬ (bs t).length ≤ (bs s).length by omega)]; rfl)
theorem ok_HasSuffix (g : GW) (s t : BA) (hs : s.size ≤ 1000000000 ∧ t.size ≤ 1000000000) : OkV Try.prog n_strings_HasSuffix [.string s, .string t] g (.bool (sufL (bs t) (bs s))) :=
  Ok.of_fn hm noT 0 t_strings_HasSuffix (args := [.v (.string s), .v (.string t)]) (by
    conv => whnf
    refine .inl ⟨_, ok_HasSuffix1 _ _ _ hs, ?_⟩
    conv => whnf
    intro g2 hg
    rfl)
/-- What is left of a text behind a prefix. -/
def cutP (s p : BA) : BA := if preL (bs p) (bs s) then s.extract p.size s.size else s
theorem cutP_bs {s p : BA} (h : preL (bs p) (bs s) = true) : bs (cutP s p) = (bs s).drop (bs p).length := by
  unfold cutP
  rw [if_pos h, bs_extract, bs_size s, bs_size p]
  exact List.take_of_length_le (by simp)
theorem ok_CutPrefix1 (g : GW) (s p : BA) : OkV Try.prog n_stringslite_CutPrefix [.string s, .string p] g (.tuple #[.string (cutP s p), .bool (preL (bs p) (bs s))]) :=
  Ok.of_fn hm noT 0 t_stringslite_CutPrefix (args := [.v (.string s), .v (.string p)]) (by
    conv => whnf
    refine .inl ⟨_, ok_HasPrefix _ _ _, ?_⟩
    conv => whnf
    refine ⟨fun h => ?_, fun h => ?_⟩
    · have h' : preL (bs p) (bs s) = false := by simpa using h
      conv => whnf
      intro g2 hg
      unfold cutP
      rw [h']; rfl
    · have h' : preL (bs p) (bs s) = true := by simpa using h
      have hl : p.size ≤ s.size := by
        rw [preL_eq] at h'
        simp only [Bool.and_eq_true, decide_eq_true_eq] at h'
        have := bs_size s; have := bs_size p; omega
      conv => whnf
      refine ⟨⟨by omega, by omega⟩, ?_⟩
      conv => whnf
      intro g2 hg
      unfold cutP
      rw [h']; rfl)
theorem ok_CutPrefix (g : GW) (s p : BA) : OkV Try.prog n_strings_CutPrefix [.string s, .string p] g (.tuple #[.string (cutP s p), .bool (preL (bs p) (bs s))]) :=
  Ok.of_fn hm noT 0 t_strings_CutPrefix (args := [.v (.string s), .v (.string p)]) (by
    conv => whnf
    refine .inl ⟨_, ok_CutPrefix1 _ _ _, ?_⟩
    conv => whnf
    intro g2 hg
    rfl)
theorem ok_Pattern (g : GW) (s : BA) : OkV Try.prog n_names_Pattern [.string s] g (.bool (patternB (bs s))) :=
  Ok.of_fn hm noT 0 t_names_Pattern (args := [.v (.string s)]) (by
    conv => whnf
    refine .inl ⟨_, ok_CutPrefix _ _ _, ?_⟩
    conv => whnf
    refine ⟨fun h => ?_, fun h => ?_⟩
    · have h' : preL [42, 46] (bs s) = true := h
      conv => whnf
      refine .inl ⟨_, ok_Host _ _, ?_⟩
      conv => whnf
      intro g2 hg
      rw [patternB, h', cutP_bs h]; rfl
    · have h' : preL [42, 46] (bs s) = false := h
      conv => whnf
      refine ⟨fun k => ?_, fun k => ?_⟩
      · conv => whnf
        intro g2 hg
        rw [patternB, h']
        have k' : (bs s == [42]) = true := k
        rw [k']; rfl
      · conv => whnf
        refine .inl ⟨_, ok_Host _ _, ?_⟩
        conv => whnf
        intro g2 hg
        rw [patternB, h']
        have k' : (bs s == [42]) = false := k
        rw [k']; rfl)
theorem ok_Path (g : GW) (s : BA) : OkV Try.prog n_names_Path [.string s] g (.bool (pathB (bs s))) :=
  Ok.of_fn hm tN_ok 1 t_names_Path (args := [.v (.string s)]) (by
    have hsz := bs_size s
    conv => whnf
    refine ⟨fun h1 => ?_, fun h1 => ?_⟩
    · conv => whnf
      refine ⟨fun h2 => ?_, fun h2 => ?_⟩
      · have k1 := of_decide_eq_true h1
        have k2 := of_decide_eq_true h2
        obtain ⟨c0, hc0⟩ : ∃ c0, (bs s)[0]? = some c0 := getL_of (by omega)
        have hh : (bs s).head?.any (fun c => (c.toNat : Int) == 47) = ((c0.toNat : Int) == 47) := by rw [List.head?_eq_getElem?, hc0]; rfl
        conv => whnf
        refine ⟨c0, ⟨by omega, hc0⟩, ?_⟩
        conv => whnf
        refine ⟨fun h3 => ?_, fun h3 => ?_⟩
        · conv => whnf
          intro b1
          conv => whnf
          refine ⟨rfl, ?_⟩
          conv => whnf
          refine ⟨rfl, ?_⟩
          conv => whnf
          intro b2
          conv => whnf
          refine ⟨Nat, fun i => [.v (.int .i64 i)], fun _ => ⟨g, [.blk 1 b2 _ [.v (.func (.func n_names_word_1) #[] #[])], .blk 0 b1 _ [.v (.func (.func n_names_word_1) #[] #[])]], _, _⟩, fun i => i ≤ (bs s).length ∧ ((bs s).take i).all (fun c => (c.toNat : Int) == 47 || wordB c.toNat) = true, fun i => (bs s).length - i, fun _ _ hw => ⟨0, rfl, ⟨Nat.zero_le _, rfl⟩, hw⟩, ?_⟩
          intro i hJ
          have hi := hJ.1
          have hall := hJ.2
          conv => whnf
          refine ⟨fun h => ?_, fun h => ?_⟩
          · have h' : i < (bs s).length := by have := of_decide_eq_true h; omega
            obtain ⟨c, hcc, hc⟩ : ∃ c, (bs s)[i] = c ∧ (bs s)[i]? = some c := ⟨_, rfl, List.getElem?_eq_getElem h'⟩
            have hgood : ∀ b, ((c.toNat : Int) == 47 || wordB c.toNat) = b → ((bs s).take (i + 1)).all (fun c => (c.toNat : Int) == 47 || wordB c.toNat) = b := fun b hb => by rw [all_take h', hall, hcc, hb]; rfl
            have hw2 : IntKind.i64.wrap ((i : Int) + 1) = ((i + 1 : Nat) : Int) := by rw [wr (by omega)]; simp
            conv => whnf
            refine ⟨c, ⟨by omega, hc⟩, ?_⟩
            conv => whnf
            refine ⟨fun hz => ?_, fun hz => ?_⟩
            · conv => whnf
              refine ⟨rfl, ?_⟩
              conv => whnf
              refine ⟨c, ⟨by omega, hc⟩, ?_⟩
              conv => whnf
              refine ⟨k_names_word_1, ?_⟩
              conv => whnf
              refine .inl ⟨_, ok_word1 _ _, ?_⟩
              conv => whnf
              refine ⟨fun hb => ?_, fun hb => ?_⟩
              · conv => whnf
                intro g2 hg
                simp at hz hb
                rw [pathB, all_false h' (by rw [hcc]; simp [hz, hb])]; simp
              · conv => whnf
                refine fun _ _ hw => ⟨i + 1, congrArg (fun z => [Value.int .i64 z]) hw2.symm, ⟨h', hgood _ (by simp at hb; simp [hb])⟩, dec h', hw⟩
            · conv => whnf
              refine fun _ _ hw => ⟨i + 1, congrArg (fun z => [Value.int .i64 z]) hw2.symm, ⟨h', hgood _ (by simp at hz; simp [hz])⟩, dec h', hw⟩
          · conv => whnf
            intro g2 hg
            have : i = (bs s).length := by have := of_decide_eq_false h; omega
            rw [this, List.take_length] at hall
            rw [pathB, hall, hh, h3, decide_eq_true (p := 0 < (bs s).length) (by omega), decide_eq_true (p := (bs s).length ≤ 32) (by omega)]; rfl
        · conv => whnf
          intro g2 hg
          simp [pathB, hh, h3]
      · conv => whnf
        intro g2 hg
        have := of_decide_eq_false h2
        rw [pathB, decide_eq_false (p := (bs s).length ≤ 32) (by omega)]; simp
    · conv => whnf
      intro g2 hg
      have := of_decide_eq_false h1
      rw [pathB, decide_eq_false (p := 0 < (bs s).length) (by omega)]; simp)
theorem ok_rPath (g : GW) (s : BA) : OkV Try.prog n_hydrantref03_Path [.string s] g (.bool (pathB (bs s))) :=
  Ok.of_fn hm noT 0 t_hydrantref03_Path (args := [.v (.string s)]) (by
    have hsz := bs_size s
    conv => whnf
    refine ⟨fun h1 => ?_, fun h1 => ?_⟩
    · conv => whnf
      intro g2 hg
      have := of_decide_eq_true h1
      rw [pathB, decide_eq_false (p := 0 < (bs s).length) (by omega)]; simp
    · conv => whnf
      refine ⟨fun h2 => ?_, fun h2 => ?_⟩
      · conv => whnf
        intro g2 hg
        have := of_decide_eq_true h2
        rw [pathB, decide_eq_false (p := (bs s).length ≤ 32) (by omega)]; simp
      · have k1 := of_decide_eq_false h1
        have k2 := of_decide_eq_false h2
        obtain ⟨c0, hc0⟩ : ∃ c0, (bs s)[0]? = some c0 := getL_of (by omega)
        have hh : (bs s).head?.any (fun c => (c.toNat : Int) == 47) = ((c0.toNat : Int) == 47) := by rw [List.head?_eq_getElem?, hc0]; rfl
        conv => whnf
        refine ⟨c0, ⟨by omega, hc0⟩, ?_⟩
        conv => whnf
        refine ⟨fun h3 => ?_, fun h3 => ?_⟩
        · conv => whnf
          intro g2 hg
          simp at h3
          simp [pathB, hh, h3]
        · have h3' : ((c0.toNat : Int) == 47) = true := by simpa using h3
          conv => whnf
          refine ⟨Nat, fun i => [.v (.int .i64 i)], fun _ => ⟨g, [], _, _⟩, fun i => i ≤ (bs s).length ∧ ((bs s).take i).all (fun c => (c.toNat : Int) == 47 || wordB c.toNat) = true, fun i => (bs s).length - i, fun _ _ hw => ⟨0, rfl, ⟨Nat.zero_le _, rfl⟩, hw⟩, ?_⟩
          intro i hJ
          have hi := hJ.1
          have hall := hJ.2
          conv => whnf
          refine ⟨fun h => ?_, fun h => ?_⟩
          · have h' : i < (bs s).length := by have := of_decide_eq_true h; omega
            obtain ⟨c, hcc, hc⟩ : ∃ c, (bs s)[i] = c ∧ (bs s)[i]? = some c := ⟨_, rfl, List.getElem?_eq_getElem h'⟩
            have hgood : ∀ b, ((c.toNat : Int) == 47 || wordB c.toNat) = b → ((bs s).take (i + 1)).all (fun c => (c.toNat : Int) == 47 || wordB c.toNat) = b := fun b hb => by rw [all_take h', hall, hcc, hb]; rfl
            have hw2 : IntKind.i64.wrap ((i : Int) + 1) = ((i + 1 : Nat) : Int) := by rw [wr (by omega)]; simp
            conv => whnf
            refine ⟨c, ⟨by omega, hc⟩, ?_⟩
            conv => whnf
            refine .inl ⟨_, ok_rword _ _, ?_⟩
            conv => whnf
            refine ⟨fun hz => ?_, fun hz => ?_⟩
            · conv => whnf
              refine ⟨c, ⟨by omega, hc⟩, ?_⟩
              conv => whnf
              refine ⟨fun hb => ?_, fun hb => ?_⟩
              · conv => whnf
                intro g2 hg
                simp at hz hb
                rw [pathB, all_false h' (by rw [hcc]; simp [hz, hb])]; simp
              · conv => whnf
                refine fun _ _ hw => ⟨i + 1, congrArg (fun z => [Value.int .i64 z]) hw2.symm, ⟨h', hgood _ (by simp at hb; simp [hb])⟩, dec h', hw⟩
            · conv => whnf
              refine fun _ _ hw => ⟨i + 1, congrArg (fun z => [Value.int .i64 z]) hw2.symm, ⟨h', hgood _ (by simp at hz; simp [hz])⟩, dec h', hw⟩
          · conv => whnf
            intro g2 hg
            have : i = (bs s).length := by have := of_decide_eq_false h; omega
            rw [this, List.take_length] at hall
            rw [pathB, hall, hh, h3', decide_eq_true (p := 0 < (bs s).length) (by omega), decide_eq_true (p := (bs s).length ≤ 32) (by omega)]; rfl)
theorem ok_rParts (g : GW) (s : BA) (b : UInt8) (hs : s.size ≤ 1000000000) : Ok Try.prog n_hydrantref03_Parts [.string s, .int .u8 b.toNat] g fun v g' => ∃ L : List BA, L.map bs = partsL b (bs s) ∧ rSl 1 rStr g' v L :=
  Ok.of_fn hm noT 0 t_hydrantref03_Parts (args := [.v (.string s), .v (.int .u8 b.toNat)]) (by
    have hsz := bs_size s
    repeat ((conv => whnf); first | refine ⟨Eq.refl _, ?_⟩ | refine ⟨⟨Eq.refl _, Eq.refl _⟩, ?_⟩ | refine ⟨⟨Eq.refl _, Eq.refl _, Eq.refl _⟩, ?_⟩ | refine ⟨⟨Eq.refl _, Eq.refl _, Eq.refl _, Eq.refl _⟩, ?_⟩ | refine ⟨⟨Eq.refl _, Eq.refl _, Eq.refl _, Eq.refl _, Eq.refl _⟩, ?_⟩ | refine fun (_ : Nat) => ?_ | refine fun (_ : Option Addr) (_ : Nat) => ?_ | fail)
    conv => whnf
    refine ⟨Nat × Nat × List BA × Option Addr × Nat, fun (i, at_, L, oa, cap) => [.row 0 oa L.length cap, .v (.int .i64 at_), .v (.int .i64 i)], fun (_, _, L, oa, cap) => ⟨g, [.row 0 oa L.length cap ty_string 1 (L.map .string)], 1, g.w.heap.size⟩,
      fun (i, at_, L, _, _) => (at_ ≤ i ∧ i ≤ (bs s).length ∧ L.length ≤ at_) ∧ L.map bs ++ partsL b ((bs s).drop at_) = partsL b (bs s) ∧ ∀ j : Nat, at_ ≤ j → j < i → (bs s)[j]? ≠ some b, fun (i, _, _, _, _) => (bs s).length - i, ?_, ?_⟩
    · intro fr w hw
      exact ⟨(0, 0, [], some ⟨_, 0, none⟩, 0), rfl, ⟨⟨Nat.le_refl _, Nat.zero_le _, Nat.le_refl _⟩, rfl, fun j _ h => by omega⟩, hw.blk_row 0 1 rfl (Nat.zero_le _)⟩
    · rintro ⟨i, at_, L, oa, cap⟩ ⟨⟨h1, h2, h3⟩, h4, h5⟩
      have hw2 : i < (bs s).length → IntKind.i64.wrap ((i : Int) + 1) = ((i + 1 : Nat) : Int) := fun h => by rw [wr (by omega)]; simp
      conv => whnf
      refine ⟨fun h => ?_, fun h => ?_⟩
      · have h' : i < (bs s).length := by have := of_decide_eq_true h; omega
        obtain ⟨c, hc⟩ : ∃ c, (bs s)[i]? = some c := getL_of h'
        conv => whnf
        refine ⟨c, ⟨by omega, hc⟩, ?_⟩
        conv => whnf
        refine ⟨fun hz => ?_, fun hz => ?_⟩
        · have hcb : c = b := by
            simp at hz
            exact UInt8.toNat_inj.1 (by omega)
          subst hcb
          conv => whnf
          refine ⟨⟨by omega, by omega, by omega⟩, ?_⟩
          repeat ((conv => whnf); first | refine ⟨Eq.refl _, ?_⟩ | refine ⟨⟨Eq.refl _, Eq.refl _⟩, ?_⟩ | refine ⟨⟨Eq.refl _, Eq.refl _, Eq.refl _⟩, ?_⟩ | refine ⟨⟨Eq.refl _, Eq.refl _, Eq.refl _, Eq.refl _⟩, ?_⟩ | refine ⟨⟨Eq.refl _, Eq.refl _, Eq.refl _, Eq.refl _, Eq.refl _⟩, ?_⟩ | refine fun (_ : Nat) => ?_ | refine fun (_ : Option Addr) (_ : Nat) => ?_ | fail)
          conv => whnf
          refine ⟨⟨by unfold maxLen; omega, by omega⟩, fun oa2 cap2 => ?_⟩
          conv => whnf
          refine fun fr w hw => ⟨(i + 1, i + 1, L ++ [s.extract at_ i], oa2, cap2), ?_, ⟨⟨Nat.le_refl _, h', by simp; omega⟩, ?_, fun j hj hj' => by omega⟩, dec h', ?_⟩
          · simp [concL, conc, conc_norm, hw2 h']
          · have := parts_at (b := c) (l := (bs s).drop at_) (k := i - at_) (fun j hj => by
              rw [List.getElem?_drop]; exact h5 _ (by omega) (by omega)) (by rw [List.getElem?_drop, show at_ + (i - at_) = i by omega]; exact hc)
            rw [this] at h4
            rw [← h4]
            simp [bs_extract, show at_ + (i - at_ + 1) = i + 1 by omega]
          · refine hw.fit ?_
            simp [fitL, Res.eqv]
        · conv => whnf
          refine fun fr w hw => ⟨(i + 1, at_, L, oa, cap), ?_, ⟨⟨by omega, h', h3⟩, h4, fun j hj hj' => ?_⟩, dec h', hw⟩
          · simp [concL, conc, conc_norm, hw2 h']
          · rcases Nat.lt_or_ge j i with k | k
            · exact h5 j hj k
            · obtain rfl : j = i := by omega
              rw [hc]
              simp at hz
              intro e
              simp at e; subst e; exact hz rfl
      · have h' : i = (bs s).length := by have := of_decide_eq_false h; omega
        conv => whnf
        refine ⟨⟨by omega, by omega⟩, ?_⟩
        repeat ((conv => whnf); first | refine ⟨Eq.refl _, ?_⟩ | refine ⟨⟨Eq.refl _, Eq.refl _⟩, ?_⟩ | refine ⟨⟨Eq.refl _, Eq.refl _, Eq.refl _⟩, ?_⟩ | refine ⟨⟨Eq.refl _, Eq.refl _, Eq.refl _, Eq.refl _⟩, ?_⟩ | refine ⟨⟨Eq.refl _, Eq.refl _, Eq.refl _, Eq.refl _, Eq.refl _⟩, ?_⟩ | refine fun (_ : Nat) => ?_ | refine fun (_ : Option Addr) (_ : Nat) => ?_ | fail)
        conv => whnf
        refine ⟨⟨by unfold maxLen; omega, by omega⟩, fun oa2 cap2 => ?_⟩
        repeat ((conv => whnf); first | refine ⟨Eq.refl _, ?_⟩ | refine ⟨⟨Eq.refl _, Eq.refl _⟩, ?_⟩ | refine ⟨⟨Eq.refl _, Eq.refl _, Eq.refl _⟩, ?_⟩ | refine ⟨⟨Eq.refl _, Eq.refl _, Eq.refl _, Eq.refl _⟩, ?_⟩ | refine ⟨⟨Eq.refl _, Eq.refl _, Eq.refl _, Eq.refl _, Eq.refl _⟩, ?_⟩ | refine fun (_ : Nat) => ?_ | refine fun (_ : Option Addr) (_ : Nat) => ?_ | fail)
        conv => whnf
        refine fun g1 hg1 hnew hp => ?_
        conv => whnf
        intro g2 hg
        refine ⟨L ++ [s.extract at_ s.size], ?_, ?_⟩
        · have := parts_none (b := b) (l := (bs s).drop at_) (fun j => by
            rw [List.getElem?_drop]
            by_cases k : at_ + j < i
            · exact h5 _ (by omega) k
            · rw [List.getElem?_eq_none (by omega)]; simp)
          rw [this] at h4
          rw [← h4, List.map_append, List.map_cons, List.map_nil, bs_extract, List.take_of_length_le (by rw [List.length_drop, hsz]; exact Nat.le_refl _)]
        · exact (rSl_of1 hp.rd (L ++ [s.extract at_ s.size]) .string (by simp) fun _ _ => rfl).mono rStr_mono hg)
theorem ok_rHost (g : GW) (s : BA) (hs : s.size ≤ 1000000000) : OkV Try.prog n_hydrantref03_Host [.string s] g (.bool (hostB (bs s))) :=
  Ok.of_fn hm noT 0 t_hydrantref03_Host (args := [.v (.string s)]) (by
    have hsz := bs_size s
    conv => whnf
    refine .inr ((ok_rParts g s 46 hs).mono fun v g1 hg1 hP => ?_)
    obtain ⟨L, hL, oa, cap, rfl, h1, h2, h0, hr⟩ := hP
    have hall : ((partsL 46 (bs s)).all nameB) = L.all fun p => nameB (bs p) := by rw [← hL, List.all_map]; rfl
    conv => whnf
    refine ⟨Nat, fun i => [.v (.int .i64 i)], fun _ => ⟨g1, [], _, _⟩, fun i => i ≤ L.length ∧ (L.take i).all (fun p => nameB (bs p)) = true, fun i => L.length - i, fun _ _ hw => ⟨0, rfl, ⟨Nat.zero_le _, rfl⟩, hw⟩, ?_⟩
    intro i hJ
    have hi := hJ.1
    have hal := hJ.2
    conv => whnf
    refine ⟨fun h => ?_, fun h => ?_⟩
    · have h' : i < L.length := by have := of_decide_eq_true h; omega
      obtain ⟨a, ha, ec, hec, he, hc⟩ := hr i L[i] (List.getElem?_eq_getElem h')
      cases he
      have hgood : ∀ b, nameB (bs L[i]) = b → (L.take (i + 1)).all (fun p => nameB (bs p)) = b := fun b hb => by rw [all_take h', hal, hb]; rfl
      conv => whnf
      refine ⟨a, ha, ⟨by omega, by omega⟩, ?_⟩
      conv => whnf
      refine ⟨_, hc 0 _ rfl, ?_⟩
      conv => whnf
      refine .inl ⟨_, ok_rName _ _, ?_⟩
      conv => whnf
      refine ⟨fun hb => ?_, fun hb => ?_⟩
      · conv => whnf
        intro g2 hg
        rw [hostB, hall, all_false h' (by simpa using hb)]; simp
      · conv => whnf
        refine fun _ _ hw => ⟨i + 1, congrArg (fun z => [Value.int .i64 z]) (wr1 h' h1 h2).symm, ⟨h', hgood _ (by simpa using hb)⟩, dec h', hw⟩
    · conv => whnf
      intro g2 hg
      have : i = L.length := by have := of_decide_eq_false h; omega
      rw [this, List.take_length] at hal
      rw [hostB, hall, hal, ← hsz, Bool.and_true]
      exact congrArg Value.bool (decide_eq_decide.2 (by omega)))
theorem ok_rPattern (g : GW) (s : BA) (hs : s.size ≤ 1000000000) : OkV Try.prog n_hydrantref03_Pattern [.string s] g (.bool (patternB (bs s))) :=
  Ok.of_fn hm noT 0 t_hydrantref03_Pattern (args := [.v (.string s)]) (by
    have hsz := bs_size s
    have tail : ∀ (sl : GW), True := fun _ => trivial
    conv => whnf
    refine ⟨fun h => ?_, fun h => ?_⟩
    · have h2 := of_decide_eq_true h
      conv => whnf
      refine ⟨⟨by omega, by omega⟩, ?_⟩
      have e1 : bs (s.extract 0 (2 : Int).toNat) = (bs s).take 2 := by rw [bs_extract]; rfl
      conv => whnf
      refine ⟨fun k => ?_, fun k => ?_⟩
      · have k' : ((bs s).take 2 == [42, 46]) = true := by rw [← e1]; exact k
        conv => whnf
        refine ⟨⟨by omega, by omega⟩, ?_⟩
        conv => whnf
        refine .inl ⟨_, ok_rHost _ _ (by have := bs_extract s 2 s.size; have e := bs_size (s.extract (2 : Int).toNat s.size); rw [e]; simp; omega), ?_⟩
        conv => whnf
        intro g2 hg
        rw [pattern_ref, k', decide_eq_true (show 2 < (bs s).length by omega)]
        have e2 : bs (s.extract (2 : Int).toNat s.size) = (bs s).drop 2 := by
          rw [bs_extract, hsz]; exact List.take_of_length_le (by simp)
        rw [e2]; rfl
      · have k' : ((bs s).take 2 == [42, 46]) = false := by rw [← e1]; exact k
        conv => whnf
        refine ⟨fun j => ?_, fun j => ?_⟩
        · conv => whnf
          intro g2 hg
          have j' : (bs s == [42]) = true := j
          rw [pattern_ref, k', j']; simp
        · have j' : (bs s == [42]) = false := j
          conv => whnf
          refine .inl ⟨_, ok_rHost _ _ hs, ?_⟩
          conv => whnf
          intro g2 hg
          rw [pattern_ref, k', j']; simp
    · have h2 := of_decide_eq_false h
      have k' : (decide (2 < (bs s).length)) = false := decide_eq_false (by omega)
      conv => whnf
      refine ⟨fun j => ?_, fun j => ?_⟩
      · conv => whnf
        intro g2 hg
        have j' : (bs s == [42]) = true := j
        rw [pattern_ref, k', j']; simp
      · have j' : (bs s == [42]) = false := j
        conv => whnf
        refine .inl ⟨_, ok_rHost _ _ hs, ?_⟩
        conv => whnf
        intro g2 hg
        rw [pattern_ref, k', j']; simp)
end Go.Proofs.Ytedjbhpocedagaa
