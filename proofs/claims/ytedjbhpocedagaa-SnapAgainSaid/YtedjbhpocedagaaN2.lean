import Derived.Test.YtedjbhpocedagaaN1
import Derived.Test.YtedjbhpocedagaaI1
namespace Go.Proofs.Ytedjbhpocedagaa
open Go.Proofs.Ytedjbhpocedagaa.Sx
theorem ok_ib (g : GW) (s : ByteArray) (c : Int) : OkV Try.prog n_stringslite_IndexByte [.string s, .int .u8 c] g (.int .i64 (Lib.indexByte (bs s) c.toNat.toUInt8)) :=
  Ok.of_same fun w => (ib s c w).mono fun _ _ h => ⟨h.1, h.2.symm⟩
theorem ok_IndexByte (g : GW) (s : ByteArray) (c : Int) : OkV Try.prog n_strings_IndexByte [.string s, .int .u8 c] g (.int .i64 (Lib.indexByte (bs s) c.toNat.toUInt8)) :=
  Ok.of_fn hm noT 0 t_strings_IndexByte (args := [.v (.string s), .v (.int .u8 c)]) (by
    conv => whnf
    refine .inl ⟨_, ok_ib _ _ _, ?_⟩
    conv => whnf
    intro g2 hg
    rfl)
def tH : List (Nat × FnI) := [(n_names_parts, f_names_parts), (n_names_parts_1, f_names_parts_1)]
theorem tH_ok : TblOk Try.prog tH := by
  intro x hx
  simp only [tH, List.mem_cons, List.not_mem_nil, or_false] at hx
  rcases hx with rfl | rfl
  · exact ⟨_, _, t_names_parts⟩
  · exact ⟨_, _, t_names_parts_1⟩
theorem ok_Host (g : GW) (s : ByteArray) : OkV Try.prog n_names_Host [.string s] g (.bool (hostB (bs s))) :=
  Ok.of_fn hm tH_ok 2 t_names_Host (args := [.v (.string s)]) (by
    conv => whnf
    intro b0
    conv => whnf
    refine ⟨fun h1 => ?_, fun h1 => ?_⟩
    · conv => whnf
      refine ⟨rfl, ?_⟩
      conv => whnf
      refine ⟨rfl, ?_⟩
      conv => whnf
      intro g2 hg
      have := of_decide_eq_true h1
      rw [bs_size] at this
      rw [hostB, decide_eq_false (by omega)]; rfl
    · conv => whnf
      intro b1
      conv => whnf
      intro b2
      conv => whnf
      refine ⟨k_names_parts_1, fun l rr => ?_⟩
      conv => whnf
      refine ⟨ByteArray, fun _ => [], fun t => ⟨g, [.lp 3 l rr .ready, .blk 2 b2 _ [.v (.int .u8 46)], .blk 1 b1 _ [.v (.string t)], .blk 0 b0 _ [.v (.bool false)]], _, _⟩, fun t => t.size ≤ 32 ∧ (partsL 46 (bs t)).all nameB = (partsL 46 (bs s)).all nameB, fun t => t.size, fun _ _ hw => ⟨s, rfl, ⟨by have := of_decide_eq_false h1; omega, rfl⟩, hw⟩, ?_⟩
      intro t hJJ
      have hJ := hJJ.2
      have hJ1 := hJJ.1
      have hlast : Lib.indexByte (bs t) (46 : Int).toNat.toUInt8 < 0 → partsL 46 (bs t) = [bs t] := fun h => by
        rcases partsL_index 46 (bs t) with ⟨_, h2⟩ | ⟨i, _, h2, _⟩
        · exact h2
        · rw [show (46 : Int).toNat.toUInt8 = 46 from rfl, h2] at h; omega
      conv => whnf
      refine ⟨rfl, ?_⟩
      conv => whnf
      refine ⟨rfl, ?_⟩
      conv => whnf
      refine .inl ⟨_, ok_IndexByte _ _ _, ?_⟩
      conv => whnf
      refine ⟨fun h2 => ?_, fun h2 => ?_⟩
      · conv => whnf
        refine ⟨rfl, ?_⟩
        conv => whnf
        refine ⟨rfl, ?_⟩
        conv => whnf
        refine ⟨⟨rfl, rfl⟩, ?_⟩
        conv => whnf
        refine ⟨rfl, ?_⟩
        conv => whnf
        refine .inl ⟨_, ok_Name _ _, ?_⟩
        conv => whnf
        refine ⟨fun h3 => ?_, fun h3 => ?_⟩
        · conv => whnf
          refine ⟨rfl, ?_⟩
          conv => whnf
          refine ⟨rfl, ?_⟩
          conv => whnf
          refine ⟨rfl, ?_⟩
          conv => whnf
          refine ⟨rfl, ?_⟩
          conv => whnf
          intro g2 hg
          have hn : (partsL 46 (bs t)).all nameB = false := by rw [hlast (of_decide_eq_true h2)]; simp at h3; simp [h3]
          rw [hostB, ← hJ, hn]; simp
        · conv => whnf
          refine ⟨rfl, ?_⟩
          conv => whnf
          refine ⟨rfl, ?_⟩
          conv => whnf
          refine ⟨rfl, ?_⟩
          conv => whnf
          refine ⟨rfl, ?_⟩
          conv => whnf
          intro g2 hg
          have hn : (partsL 46 (bs t)).all nameB = true := by rw [hlast (of_decide_eq_true h2)]; simp at h3; simp [h3]
          have := of_decide_eq_false h1
          rw [bs_size] at this
          rw [hostB, ← hJ, hn, decide_eq_true (by omega)]; rfl
      · have k2 := of_decide_eq_false h2
        obtain ⟨i, hi, hidx, hpt⟩ : ∃ i : Nat, i < (bs t).length ∧ Lib.indexByte (bs t) (46 : Int).toNat.toUInt8 = i ∧ partsL 46 (bs t) = (bs t).take i :: partsL 46 ((bs t).drop (i + 1)) := by
          rcases partsL_index 46 (bs t) with ⟨h1, _⟩ | h
          · rw [show (46 : Int).toNat.toUInt8 = 46 from rfl, h1] at k2; omega
          · exact h
        have hts := bs_size t
        conv => whnf
        refine ⟨rfl, ?_⟩
        conv => whnf
        refine ⟨⟨by rw [hidx]; omega, by rw [hidx]; omega⟩, ?_⟩
        conv => whnf
        refine ⟨rfl, ?_⟩
        conv => whnf
        refine ⟨⟨rfl, rfl⟩, ?_⟩
        conv => whnf
        refine ⟨rfl, ?_⟩
        conv => whnf
        refine .inl ⟨_, ok_Name _ _, ?_⟩
        have hx1 : bs (t.extract 0 (Lib.indexByte (bs t) (46 : Int).toNat.toUInt8).toNat) = (bs t).take i := by rw [bs_extract, hidx]; simp
        conv => whnf
        refine ⟨fun h3 => ?_, fun h3 => ?_⟩
        · conv => whnf
          refine ⟨rfl, ?_⟩
          conv => whnf
          refine ⟨rfl, ?_⟩
          conv => whnf
          refine ⟨rfl, ?_⟩
          conv => whnf
          refine ⟨rfl, ?_⟩
          conv => whnf
          intro g2 hg
          rw [hx1] at h3
          have hn : (partsL 46 (bs t)).all nameB = false := by rw [hpt]; simp at h3; simp [h3]
          rw [hostB, ← hJ, hn]; simp
        · conv => whnf
          refine ⟨rfl, ?_⟩
          conv => whnf
          refine ⟨rfl, ?_⟩
          have hw2 : IntKind.i64.wrap (Lib.indexByte (bs t) (46 : Int).toNat.toUInt8 + 1) = ((i + 1 : Nat) : Int) := by rw [hidx, wr (by omega)]; simp
          have hx2 : bs (t.extract (IntKind.i64.wrap (Lib.indexByte (bs t) (46 : Int).toNat.toUInt8 + 1)).toNat t.size) = (bs t).drop (i + 1) := by
            rw [bs_extract, hw2, Int.toNat_natCast, hts]
            exact List.take_of_length_le (by simp)
          conv => whnf
          refine ⟨⟨by rw [hw2]; omega, by rw [hw2]; omega⟩, ?_⟩
          conv => whnf
          refine ⟨rfl, ?_⟩
          conv => whnf
          refine fun _ _ hw => ⟨_, rfl, ⟨?_, ?_⟩, ?_, hw⟩
          · rw [bs_size, hx2, List.length_drop]; omega
          · rw [hx1] at h3
            rw [← hJ, hpt, hx2]; simp at h3; simp [h3]
          · show ByteArray.size _ < t.size
            rw [bs_size, hx2, hts, List.length_drop]; omega)
end Go.Proofs.Ytedjbhpocedagaa
