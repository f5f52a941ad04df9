/- What all contracts lean on: the program follows the model's reading; how a contract becomes a walk. -/
import Derived.Test.YtjaeeadfmnokeaaGreatF
import Derived.Test.YtjaeeadfmnokeaaGreatPl
import Derived.WalkKit
import Derived.Lib.Walk
import Derived.Lib.Strings
import Derived.Lib.Bytealg
namespace Go.Proofs.YtjaeeadfmnokeaaGreat
open Go.Proofs.YtjaeeadfmnokeaaGreat.Sx
theorem hm : Tryz.prog.follows .mixedOrders = true := by kernel_rfl
theorem noT : TblOk Tryz.prog [] := fun _ h => nomatch h
theorem walk_of {f : FuncId} {args : List Value} {w : World} {v : Value} (h : OkV Tryz.prog f args (allG w) v) : Calls Tryz.prog f args.toArray w fun e w' => e = .returned v ∧ RowKit.Below w.heap.size w w' :=
  (h w (Good.refl _)).mono fun _ _ ⟨_, he, hb, hv⟩ => ⟨hv ▸ he, hb⟩
end Go.Proofs.YtjaeeadfmnokeaaGreat


namespace Go.Proofs.YtjaeeadfmnokeaaGreat
open Go.Proofs.YtjaeeadfmnokeaaGreat.Sx
theorem ok_low (g : GW) (c : Int) : OkV Tryz.prog n_names_low [.int .u8 c] g (.bool (lowB c)) :=
  Ok.of_fn hm noT 0 t_names_low (args := [.v (.int .u8 c)]) (by
    repeat' ((conv => whnf); apply And.intro <;> intro _)
    all_goals ((conv => whnf); intro g2 hg; simp_all [lowB] <;> omega))
theorem ok_rlow (g : GW) (c : Int) : OkV Tryz.prog n_hydrantref03_low [.int .u8 c] g (.bool (lowB c)) :=
  Ok.of_fn hm noT 0 t_hydrantref03_low (args := [.v (.int .u8 c)]) (by
    repeat' ((conv => whnf); apply And.intro <;> intro _)
    all_goals ((conv => whnf); intro g2 hg; simp_all [lowB] <;> omega))
theorem ok_rword (g : GW) (c : Int) : OkV Tryz.prog n_hydrantref03_word [.int .u8 c] g (.bool (wordB c)) :=
  Ok.of_fn hm noT 0 t_hydrantref03_word (args := [.v (.int .u8 c)]) (by
    conv => whnf
    refine .inl ⟨_, ok_rlow _ _, ?_⟩
    repeat' ((conv => whnf); apply And.intro <;> intro _)
    all_goals ((conv => whnf); intro g2 hg; simp_all [wordB] <;> omega))
theorem ok_word1 (g : GW) (c : Int) : OkV Tryz.prog n_names_word_1 [.int .u8 c] g (.bool (wordB c)) :=
  Ok.of_fn hm noT 0 t_names_word_1 (args := [.v (.int .u8 c)]) (by
    conv => whnf
    refine .inl ⟨_, ok_low _ _, ?_⟩
    repeat' ((conv => whnf); apply And.intro <;> intro _)
    all_goals ((conv => whnf); intro g2 hg; simp_all [wordB] <;> omega))
def tN : List (Nat × FnI) := [(n_names_word, f_names_word), (n_names_alphabet__all, f_names_alphabet__all)]
theorem tN_ok : TblOk Tryz.prog tN := by
  intro x hx
  simp only [tN, List.mem_cons, List.not_mem_nil, or_false] at hx
  rcases hx with rfl | rfl
  · exact ⟨_, _, t_names_word⟩
  · exact ⟨_, _, t_names_alphabet__all⟩
theorem ok_Name (g : GW) (s : ByteArray) : OkV Tryz.prog n_names_Name [.string s] g (.bool (nameB (bs s))) :=
  Ok.of_fn hm tN_ok 1 t_names_Name (args := [.v (.string s)]) (by
    conv => whnf
    refine ⟨fun h1 => ?_, fun h1 => ?_⟩
    · conv => whnf
      refine ⟨fun h2 => ?_, fun h2 => ?_⟩
      · have k1 := of_decide_eq_true h1
        have k2 := of_decide_eq_true h2
        rw [bs_size] at k1 k2
        obtain ⟨c0, hc0⟩ : ∃ c0, (bs s)[0]? = some c0 := ⟨(bs s)[0]'(by omega), List.getElem?_eq_getElem (by omega)⟩
        have hlow : (bs s).head?.any (fun c => lowB c.toNat) = lowB c0.toNat := by rw [List.head?_eq_getElem?, hc0]; rfl
        conv => whnf
        refine ⟨c0, ⟨by omega, hc0⟩, ?_⟩
        conv => whnf
        refine .inl ⟨_, ok_low _ _, ?_⟩
        conv => whnf
        refine ⟨fun h3 => ?_, fun h3 => ?_⟩
        · conv => whnf
          intro b1
          conv => whnf
          refine ⟨rfl, ?_⟩
          conv => whnf
          refine ⟨rfl, ?_⟩
          conv => whnf
          intro b2
          conv => whnf
          refine ⟨Nat, fun i => [.v (.int .i64 i)], fun _ => ⟨g, [.blk 1 b2 _ [.v (.func (.func n_names_word_1) #[] #[])], .blk 0 b1 _ [.v (.func (.func n_names_word_1) #[] #[])]], _, _⟩, fun i => i ≤ (bs s).length ∧ ((bs s).take i).all (fun c => wordB c.toNat) = true, fun i => (bs s).length - i, fun _ _ hw => ⟨0, rfl, ⟨Nat.zero_le _, rfl⟩, hw⟩, ?_⟩
          intro i hJ
          have hi := hJ.1
          have hall := hJ.2
          conv => whnf
          refine ⟨fun h => ?_, fun h => ?_⟩
          · have h' : i < (bs s).length := by have := of_decide_eq_true h; rw [bs_size] at this; omega
            obtain ⟨c, hcc, hc⟩ : ∃ c, (bs s)[i] = c ∧ (bs s)[i]? = some c := ⟨_, rfl, List.getElem?_eq_getElem h'⟩
            have hgood : ∀ b, wordB c.toNat = b → ((bs s).take (i + 1)).all (fun c => wordB c.toNat) = b := fun b hb => by rw [all_take h', hall, hcc, hb]; rfl
            have hw2 : IntKind.i64.wrap ((i : Int) + 1) = ((i + 1 : Nat) : Int) := by rw [wr (by omega)]; simp
            conv => whnf
            refine ⟨c, ⟨by omega, hc⟩, ?_⟩
            conv => whnf
            refine ⟨fun hz => ?_, fun hz => ?_⟩
            · conv => whnf
              refine ⟨rfl, ?_⟩
              conv => whnf
              refine ⟨c, ⟨by omega, hc⟩, ?_⟩
              conv => whnf
              refine ⟨k_names_word_1, ?_⟩
              conv => whnf
              refine .inl ⟨_, ok_word1 _ _, ?_⟩
              conv => whnf
              refine ⟨fun hb => ?_, fun hb => ?_⟩
              · conv => whnf
                intro g2 hg
                rw [nameB, all_false h' (by rw [hcc]; simpa using hb)]; simp
              · conv => whnf
                refine fun _ _ hw => ⟨i + 1, congrArg (fun z => [Value.int .i64 z]) hw2.symm, ⟨h', hgood _ (by simpa using hb)⟩, dec h', hw⟩
            · conv => whnf
              refine fun _ _ hw => ⟨i + 1, congrArg (fun z => [Value.int .i64 z]) hw2.symm, ⟨h', hgood _ (by simp at hz; simp [wordB, hz])⟩, dec h', hw⟩
          · conv => whnf
            intro g2 hg
            have : i = (bs s).length := by have := of_decide_eq_false h; rw [bs_size] at this; omega
            rw [this, List.take_length] at hall
            rw [nameB, hall, hlow, h3, decide_eq_true (p := 0 < (bs s).length) (by omega), decide_eq_true (p := (bs s).length ≤ 16) (by omega)]; rfl
        · conv => whnf
          intro g2 hg
          simp [nameB, hlow, h3]
      · conv => whnf
        intro g2 hg
        have := of_decide_eq_false h2
        rw [bs_size] at this
        rw [nameB, decide_eq_false (p := (bs s).length ≤ 16) (by omega)]; simp
    · conv => whnf
      intro g2 hg
      have := of_decide_eq_false h1
      rw [bs_size] at this
      rw [nameB, decide_eq_false (p := 0 < (bs s).length) (by omega)]; simp)
theorem ok_rName (g : GW) (s : ByteArray) : OkV Tryz.prog n_hydrantref03_Name [.string s] g (.bool (nameB (bs s))) :=
  Ok.of_fn hm noT 0 t_hydrantref03_Name (args := [.v (.string s)]) (by
    conv => whnf
    refine ⟨fun h1 => ?_, fun h1 => ?_⟩
    · conv => whnf
      intro g2 hg
      have := of_decide_eq_true h1
      rw [bs_size] at this
      rw [nameB, decide_eq_false (p := 0 < (bs s).length) (by omega)]; rfl
    · conv => whnf
      refine ⟨fun h2 => ?_, fun h2 => ?_⟩
      · conv => whnf
        intro g2 hg
        have := of_decide_eq_true h2
        rw [bs_size] at this
        rw [nameB, decide_eq_false (p := (bs s).length ≤ 16) (by omega)]; simp
      · have k1 := of_decide_eq_false h1
        have k2 := of_decide_eq_false h2
        rw [bs_size] at k1 k2
        obtain ⟨c0, hc0⟩ : ∃ c0, (bs s)[0]? = some c0 := ⟨(bs s)[0]'(by omega), List.getElem?_eq_getElem (by omega)⟩
        have hlow : (bs s).head?.any (fun c => lowB c.toNat) = lowB c0.toNat := by rw [List.head?_eq_getElem?, hc0]; rfl
        conv => whnf
        refine ⟨c0, ⟨by omega, hc0⟩, ?_⟩
        conv => whnf
        refine .inl ⟨_, ok_rlow _ _, ?_⟩
        conv => whnf
        refine ⟨fun h3 => ?_, fun h3 => ?_⟩
        · conv => whnf
          intro g2 hg
          have h3' : lowB c0.toNat = false := by simpa using h3
          rw [nameB, hlow, h3']; simp
        · have h3' : lowB c0.toNat = true := by simpa using h3
          conv => whnf
          refine ⟨Nat, fun i => [.v (.int .i64 i)], fun _ => ⟨g, [], _, _⟩, fun i => i ≤ (bs s).length ∧ ((bs s).take i).all (fun c => wordB c.toNat) = true, fun i => (bs s).length - i, fun _ _ hw => ⟨0, rfl, ⟨Nat.zero_le _, rfl⟩, hw⟩, ?_⟩
          intro i hJ
          have hi := hJ.1
          have hall := hJ.2
          conv => whnf
          refine ⟨fun h => ?_, fun h => ?_⟩
          · have h' : i < (bs s).length := by have := of_decide_eq_true h; rw [bs_size] at this; omega
            obtain ⟨c, hcc, hc⟩ : ∃ c, (bs s)[i] = c ∧ (bs s)[i]? = some c := ⟨_, rfl, List.getElem?_eq_getElem h'⟩
            have hgood : ∀ b, wordB c.toNat = b → ((bs s).take (i + 1)).all (fun c => wordB c.toNat) = b := fun b hb => by rw [all_take h', hall, hcc, hb]; rfl
            have hw2 : IntKind.i64.wrap ((i : Int) + 1) = ((i + 1 : Nat) : Int) := by rw [wr (by omega)]; simp
            conv => whnf
            refine ⟨c, ⟨by omega, hc⟩, ?_⟩
            conv => whnf
            refine .inl ⟨_, ok_rword _ _, ?_⟩
            conv => whnf
            refine ⟨fun hb => ?_, fun hb => ?_⟩
            · conv => whnf
              intro g2 hg
              rw [nameB, all_false h' (by rw [hcc]; simpa using hb)]; simp
            · conv => whnf
              refine fun _ _ hw => ⟨i + 1, congrArg (fun z => [Value.int .i64 z]) hw2.symm, ⟨h', hgood _ (by simpa using hb)⟩, dec h', hw⟩
          · conv => whnf
            intro g2 hg
            have : i = (bs s).length := by have := of_decide_eq_false h; rw [bs_size] at this; omega
            rw [this, List.take_length] at hall
            rw [nameB, hall, hlow, h3', decide_eq_true (p := 0 < (bs s).length) (by omega), decide_eq_true (p := (bs s).length ≤ 16) (by omega)]; rfl)
end Go.Proofs.YtjaeeadfmnokeaaGreat


/- What IndexByte of Go's library tells: the model's own answer. -/
namespace Go.Proofs.YtjaeeadfmnokeaaGreat
open Go.RowKit Go.Lib
set_option maxRecDepth 100000 in
theorem ib (s : ByteArray) (c : Int) (w : World) : Calls Tryz.prog 130 #[.string s, .int .u8 c] w fun e w' => e = .returned (.int .i64 (Lib.indexByte s.data.toList c.toNat.toUInt8)) ∧ w' = w := by
  go_enter Tryz.func130, Tryz.ntmps130
  go_wp2
  rw [run_callFunc_extern Tryz.func131 (by kernel_rfl) (by kernel_rfl) (by kernel_rfl) (e := Extern.BytealgIndexByte.indexByte) (by kernel_rfl), Lib.run_indexByteString]
  simp only [Result.andThen]
  rw [Oper.upon_value]
  go_wp2
  go_ret
  exact ⟨rfl, rfl⟩
end Go.Proofs.YtjaeeadfmnokeaaGreat


namespace Go.Proofs.YtjaeeadfmnokeaaGreat
open Go.Proofs.YtjaeeadfmnokeaaGreat.Sx
theorem ok_ib (g : GW) (s : ByteArray) (c : Int) : OkV Tryz.prog n_stringslite_IndexByte [.string s, .int .u8 c] g (.int .i64 (Lib.indexByte (bs s) c.toNat.toUInt8)) :=
  Ok.of_same fun w => (ib s c w).mono fun _ _ h => ⟨h.1, h.2.symm⟩
theorem ok_IndexByte (g : GW) (s : ByteArray) (c : Int) : OkV Tryz.prog n_strings_IndexByte [.string s, .int .u8 c] g (.int .i64 (Lib.indexByte (bs s) c.toNat.toUInt8)) :=
  Ok.of_fn hm noT 0 t_strings_IndexByte (args := [.v (.string s), .v (.int .u8 c)]) (by
    conv => whnf
    refine .inl ⟨_, ok_ib _ _ _, ?_⟩
    conv => whnf
    intro g2 hg
    rfl)
def tH : List (Nat × FnI) := [(n_names_parts, f_names_parts), (n_names_parts_1, f_names_parts_1)]
theorem tH_ok : TblOk Tryz.prog tH := by
  intro x hx
  simp only [tH, List.mem_cons, List.not_mem_nil, or_false] at hx
  rcases hx with rfl | rfl
  · exact ⟨_, _, t_names_parts⟩
  · exact ⟨_, _, t_names_parts_1⟩
theorem ok_Host (g : GW) (s : ByteArray) : OkV Tryz.prog n_names_Host [.string s] g (.bool (hostB (bs s))) :=
  Ok.of_fn hm tH_ok 2 t_names_Host (args := [.v (.string s)]) (by
    conv => whnf
    intro b0
    conv => whnf
    refine ⟨fun h1 => ?_, fun h1 => ?_⟩
    · conv => whnf
      refine ⟨rfl, ?_⟩
      conv => whnf
      refine ⟨rfl, ?_⟩
      conv => whnf
      intro g2 hg
      have := of_decide_eq_true h1
      rw [bs_size] at this
      rw [hostB, decide_eq_false (by omega)]; rfl
    · conv => whnf
      intro b1
      conv => whnf
      intro b2
      conv => whnf
      refine ⟨k_names_parts_1, fun l rr => ?_⟩
      conv => whnf
      refine ⟨ByteArray, fun _ => [], fun t => ⟨g, [.lp 3 l rr .ready, .blk 2 b2 _ [.v (.int .u8 46)], .blk 1 b1 _ [.v (.string t)], .blk 0 b0 _ [.v (.bool false)]], _, _⟩, fun t => t.size ≤ 32 ∧ (partsL 46 (bs t)).all nameB = (partsL 46 (bs s)).all nameB, fun t => t.size, fun _ _ hw => ⟨s, rfl, ⟨by have := of_decide_eq_false h1; omega, rfl⟩, hw⟩, ?_⟩
      intro t hJJ
      have hJ := hJJ.2
      have hJ1 := hJJ.1
      have hlast : Lib.indexByte (bs t) (46 : Int).toNat.toUInt8 < 0 → partsL 46 (bs t) = [bs t] := fun h => by
        rcases partsL_index 46 (bs t) with ⟨_, h2⟩ | ⟨i, _, h2, _⟩
        · exact h2
        · rw [show (46 : Int).toNat.toUInt8 = 46 from rfl, h2] at h; omega
      conv => whnf
      refine ⟨rfl, ?_⟩
      conv => whnf
      refine ⟨rfl, ?_⟩
      conv => whnf
      refine .inl ⟨_, ok_IndexByte _ _ _, ?_⟩
      conv => whnf
      refine ⟨fun h2 => ?_, fun h2 => ?_⟩
      · conv => whnf
        refine ⟨rfl, ?_⟩
        conv => whnf
        refine ⟨rfl, ?_⟩
        conv => whnf
        refine ⟨⟨rfl, rfl⟩, ?_⟩
        conv => whnf
        refine ⟨rfl, ?_⟩
        conv => whnf
        refine .inl ⟨_, ok_Name _ _, ?_⟩
        conv => whnf
        refine ⟨fun h3 => ?_, fun h3 => ?_⟩
        · conv => whnf
          refine ⟨rfl, ?_⟩
          conv => whnf
          refine ⟨rfl, ?_⟩
          conv => whnf
          refine ⟨rfl, ?_⟩
          conv => whnf
          refine ⟨rfl, ?_⟩
          conv => whnf
          intro g2 hg
          have hn : (partsL 46 (bs t)).all nameB = false := by rw [hlast (of_decide_eq_true h2)]; simp at h3; simp [h3]
          rw [hostB, ← hJ, hn]; simp
        · conv => whnf
          refine ⟨rfl, ?_⟩
          conv => whnf
          refine ⟨rfl, ?_⟩
          conv => whnf
          refine ⟨rfl, ?_⟩
          conv => whnf
          refine ⟨rfl, ?_⟩
          conv => whnf
          intro g2 hg
          have hn : (partsL 46 (bs t)).all nameB = true := by rw [hlast (of_decide_eq_true h2)]; simp at h3; simp [h3]
          have := of_decide_eq_false h1
          rw [bs_size] at this
          rw [hostB, ← hJ, hn, decide_eq_true (by omega)]; rfl
      · have k2 := of_decide_eq_false h2
        obtain ⟨i, hi, hidx, hpt⟩ : ∃ i : Nat, i < (bs t).length ∧ Lib.indexByte (bs t) (46 : Int).toNat.toUInt8 = i ∧ partsL 46 (bs t) = (bs t).take i :: partsL 46 ((bs t).drop (i + 1)) := by
          rcases partsL_index 46 (bs t) with ⟨h1, _⟩ | h
          · rw [show (46 : Int).toNat.toUInt8 = 46 from rfl, h1] at k2; omega
          · exact h
        have hts := bs_size t
        conv => whnf
        refine ⟨rfl, ?_⟩
        conv => whnf
        refine ⟨⟨by rw [hidx]; omega, by rw [hidx]; omega⟩, ?_⟩
        conv => whnf
        refine ⟨rfl, ?_⟩
        conv => whnf
        refine ⟨⟨rfl, rfl⟩, ?_⟩
        conv => whnf
        refine ⟨rfl, ?_⟩
        conv => whnf
        refine .inl ⟨_, ok_Name _ _, ?_⟩
        have hx1 : bs (t.extract 0 (Lib.indexByte (bs t) (46 : Int).toNat.toUInt8).toNat) = (bs t).take i := by rw [bs_extract, hidx]; simp
        conv => whnf
        refine ⟨fun h3 => ?_, fun h3 => ?_⟩
        · conv => whnf
          refine ⟨rfl, ?_⟩
          conv => whnf
          refine ⟨rfl, ?_⟩
          conv => whnf
          refine ⟨rfl, ?_⟩
          conv => whnf
          refine ⟨rfl, ?_⟩
          conv => whnf
          intro g2 hg
          rw [hx1] at h3
          have hn : (partsL 46 (bs t)).all nameB = false := by rw [hpt]; simp at h3; simp [h3]
          rw [hostB, ← hJ, hn]; simp
        · conv => whnf
          refine ⟨rfl, ?_⟩
          conv => whnf
          refine ⟨rfl, ?_⟩
          have hw2 : IntKind.i64.wrap (Lib.indexByte (bs t) (46 : Int).toNat.toUInt8 + 1) = ((i + 1 : Nat) : Int) := by rw [hidx, wr (by omega)]; simp
          have hx2 : bs (t.extract (IntKind.i64.wrap (Lib.indexByte (bs t) (46 : Int).toNat.toUInt8 + 1)).toNat t.size) = (bs t).drop (i + 1) := by
            rw [bs_extract, hw2, Int.toNat_natCast, hts]
            exact List.take_of_length_le (by simp)
          conv => whnf
          refine ⟨⟨by rw [hw2]; omega, by rw [hw2]; omega⟩, ?_⟩
          conv => whnf
          refine ⟨rfl, ?_⟩
          conv => whnf
          refine fun _ _ hw => ⟨_, rfl, ⟨?_, ?_⟩, ?_, hw⟩
          · rw [bs_size, hx2, List.length_drop]; omega
          · rw [hx1] at h3
            rw [← hJ, hpt, hx2]; simp at h3; simp [h3]
          · show ByteArray.size _ < t.size
            rw [bs_size, hx2, hts, List.length_drop]; omega)
end Go.Proofs.YtjaeeadfmnokeaaGreat


/- Prefixes and suffixes of texts; patterns and paths; the document's parts, hosts, patterns and paths. -/
namespace Go.Proofs.YtjaeeadfmnokeaaGreat
open Go.Proofs.YtjaeeadfmnokeaaGreat.Sx
theorem ok_HasPrefix (g : GW) (s p : BA) : OkV Tryz.prog n_stringslite_HasPrefix [.string s, .string p] g (.bool (preL (bs p) (bs s))) :=
  Ok.of_fn hm noT 0 t_stringslite_HasPrefix (args := [.v (.string s), .v (.string p)]) (by
    conv => whnf
    refine ⟨fun h => ?_, fun h => ?_⟩
    · have h' := of_decide_eq_true h
      conv => whnf
      refine ⟨⟨by omega, by omega⟩, ?_⟩
      conv => whnf
      intro g2 hg
      rw [preL_eq]
      have e1 : bs (s.extract 0 (p.size : Int).toNat) = (bs s).take (bs p).length := by rw [bs_extract, bs_size]; simp
      have := bs_size s; have := bs_size p
      rw [decide_eq_true (show (bs p).length ≤ (bs s).length by omega), ← e1]; rfl
    · conv => whnf
      intro g2 hg
      have h' := of_decide_eq_false h
      have := bs_size s; have := bs_size p
      rw [preL_eq, decide_eq_false (show ¬ (bs p).length ≤ (bs s).length by omega)]; rfl)
/-- What is left of a text behind a prefix. -/
def cutP (s p : BA) : BA := if preL (bs p) (bs s) then s.extract p.size s.size else s
theorem cutP_bs {s p : BA} (h : preL (bs p) (bs s) = true) : bs (cutP s p) = (bs s).drop (bs p).length := by
  unfold cutP
  rw [if_pos h, bs_extract, bs_size s, bs_size p]
  exact List.take_of_length_le (by simp)
theorem ok_CutPrefix1 (g : GW) (s p : BA) : OkV Tryz.prog n_stringslite_CutPrefix [.string s, .string p] g (.tuple #[.string (cutP s p), .bool (preL (bs p) (bs s))]) :=
  Ok.of_fn hm noT 0 t_stringslite_CutPrefix (args := [.v (.string s), .v (.string p)]) (by
    conv => whnf
    refine .inl ⟨_, ok_HasPrefix _ _ _, ?_⟩
    conv => whnf
    refine ⟨fun h => ?_, fun h => ?_⟩
    · have h' : preL (bs p) (bs s) = false := by simpa using h
      conv => whnf
      intro g2 hg
      unfold cutP
      rw [h']; rfl
    · have h' : preL (bs p) (bs s) = true := by simpa using h
      have hl : p.size ≤ s.size := by
        rw [preL_eq] at h'
        simp only [Bool.and_eq_true, decide_eq_true_eq] at h'
        have := bs_size s; have := bs_size p; omega
      conv => whnf
      refine ⟨⟨by omega, by omega⟩, ?_⟩
      conv => whnf
      intro g2 hg
      unfold cutP
      rw [h']; rfl)
theorem ok_CutPrefix (g : GW) (s p : BA) : OkV Tryz.prog n_strings_CutPrefix [.string s, .string p] g (.tuple #[.string (cutP s p), .bool (preL (bs p) (bs s))]) :=
  Ok.of_fn hm noT 0 t_strings_CutPrefix (args := [.v (.string s), .v (.string p)]) (by
    conv => whnf
    refine .inl ⟨_, ok_CutPrefix1 _ _ _, ?_⟩
    conv => whnf
    intro g2 hg
    rfl)
theorem ok_Pattern (g : GW) (s : BA) : OkV Tryz.prog n_names_Pattern [.string s] g (.bool (patternB (bs s))) :=
  Ok.of_fn hm noT 0 t_names_Pattern (args := [.v (.string s)]) (by
    conv => whnf
    refine .inl ⟨_, ok_CutPrefix _ _ _, ?_⟩
    conv => whnf
    refine ⟨fun h => ?_, fun h => ?_⟩
    · have h' : preL [42, 46] (bs s) = true := h
      conv => whnf
      refine .inl ⟨_, ok_Host _ _, ?_⟩
      conv => whnf
      intro g2 hg
      rw [patternB, h', cutP_bs h]; rfl
    · have h' : preL [42, 46] (bs s) = false := h
      conv => whnf
      refine ⟨fun k => ?_, fun k => ?_⟩
      · conv => whnf
        intro g2 hg
        rw [patternB, h']
        have k' : (bs s == [42]) = true := k
        rw [k']; rfl
      · conv => whnf
        refine .inl ⟨_, ok_Host _ _, ?_⟩
        conv => whnf
        intro g2 hg
        rw [patternB, h']
        have k' : (bs s == [42]) = false := k
        rw [k']; rfl)
theorem ok_Path (g : GW) (s : BA) : OkV Tryz.prog n_names_Path [.string s] g (.bool (pathB (bs s))) :=
  Ok.of_fn hm tN_ok 1 t_names_Path (args := [.v (.string s)]) (by
    have hsz := bs_size s
    conv => whnf
    refine ⟨fun h1 => ?_, fun h1 => ?_⟩
    · conv => whnf
      refine ⟨fun h2 => ?_, fun h2 => ?_⟩
      · have k1 := of_decide_eq_true h1
        have k2 := of_decide_eq_true h2
        obtain ⟨c0, hc0⟩ : ∃ c0, (bs s)[0]? = some c0 := getL_of (by omega)
        have hh : (bs s).head?.any (fun c => (c.toNat : Int) == 47) = ((c0.toNat : Int) == 47) := by rw [List.head?_eq_getElem?, hc0]; rfl
        conv => whnf
        refine ⟨c0, ⟨by omega, hc0⟩, ?_⟩
        conv => whnf
        refine ⟨fun h3 => ?_, fun h3 => ?_⟩
        · conv => whnf
          intro b1
          conv => whnf
          refine ⟨rfl, ?_⟩
          conv => whnf
          refine ⟨rfl, ?_⟩
          conv => whnf
          intro b2
          conv => whnf
          refine ⟨Nat, fun i => [.v (.int .i64 i)], fun _ => ⟨g, [.blk 1 b2 _ [.v (.func (.func n_names_word_1) #[] #[])], .blk 0 b1 _ [.v (.func (.func n_names_word_1) #[] #[])]], _, _⟩, fun i => i ≤ (bs s).length ∧ ((bs s).take i).all (fun c => (c.toNat : Int) == 47 || wordB c.toNat) = true, fun i => (bs s).length - i, fun _ _ hw => ⟨0, rfl, ⟨Nat.zero_le _, rfl⟩, hw⟩, ?_⟩
          intro i hJ
          have hi := hJ.1
          have hall := hJ.2
          conv => whnf
          refine ⟨fun h => ?_, fun h => ?_⟩
          · have h' : i < (bs s).length := by have := of_decide_eq_true h; omega
            obtain ⟨c, hcc, hc⟩ : ∃ c, (bs s)[i] = c ∧ (bs s)[i]? = some c := ⟨_, rfl, List.getElem?_eq_getElem h'⟩
            have hgood : ∀ b, ((c.toNat : Int) == 47 || wordB c.toNat) = b → ((bs s).take (i + 1)).all (fun c => (c.toNat : Int) == 47 || wordB c.toNat) = b := fun b hb => by rw [all_take h', hall, hcc, hb]; rfl
            have hw2 : IntKind.i64.wrap ((i : Int) + 1) = ((i + 1 : Nat) : Int) := by rw [wr (by omega)]; simp
            conv => whnf
            refine ⟨c, ⟨by omega, hc⟩, ?_⟩
            conv => whnf
            refine ⟨fun hz => ?_, fun hz => ?_⟩
            · conv => whnf
              refine ⟨rfl, ?_⟩
              conv => whnf
              refine ⟨c, ⟨by omega, hc⟩, ?_⟩
              conv => whnf
              refine ⟨k_names_word_1, ?_⟩
              conv => whnf
              refine .inl ⟨_, ok_word1 _ _, ?_⟩
              conv => whnf
              refine ⟨fun hb => ?_, fun hb => ?_⟩
              · conv => whnf
                intro g2 hg
                simp at hz hb
                rw [pathB, all_false h' (by rw [hcc]; simp [hz, hb])]; simp
              · conv => whnf
                refine fun _ _ hw => ⟨i + 1, congrArg (fun z => [Value.int .i64 z]) hw2.symm, ⟨h', hgood _ (by simp at hb; simp [hb])⟩, dec h', hw⟩
            · conv => whnf
              refine fun _ _ hw => ⟨i + 1, congrArg (fun z => [Value.int .i64 z]) hw2.symm, ⟨h', hgood _ (by simp at hz; simp [hz])⟩, dec h', hw⟩
          · conv => whnf
            intro g2 hg
            have : i = (bs s).length := by have := of_decide_eq_false h; omega
            rw [this, List.take_length] at hall
            rw [pathB, hall, hh, h3, decide_eq_true (p := 0 < (bs s).length) (by omega), decide_eq_true (p := (bs s).length ≤ 32) (by omega)]; rfl
        · conv => whnf
          intro g2 hg
          simp [pathB, hh, h3]
      · conv => whnf
        intro g2 hg
        have := of_decide_eq_false h2
        rw [pathB, decide_eq_false (p := (bs s).length ≤ 32) (by omega)]; simp
    · conv => whnf
      intro g2 hg
      have := of_decide_eq_false h1
      rw [pathB, decide_eq_false (p := 0 < (bs s).length) (by omega)]; simp)
theorem ok_rPath (g : GW) (s : BA) : OkV Tryz.prog n_hydrantref03_Path [.string s] g (.bool (pathB (bs s))) :=
  Ok.of_fn hm noT 0 t_hydrantref03_Path (args := [.v (.string s)]) (by
    have hsz := bs_size s
    conv => whnf
    refine ⟨fun h1 => ?_, fun h1 => ?_⟩
    · conv => whnf
      intro g2 hg
      have := of_decide_eq_true h1
      rw [pathB, decide_eq_false (p := 0 < (bs s).length) (by omega)]; simp
    · conv => whnf
      refine ⟨fun h2 => ?_, fun h2 => ?_⟩
      · conv => whnf
        intro g2 hg
        have := of_decide_eq_true h2
        rw [pathB, decide_eq_false (p := (bs s).length ≤ 32) (by omega)]; simp
      · have k1 := of_decide_eq_false h1
        have k2 := of_decide_eq_false h2
        obtain ⟨c0, hc0⟩ : ∃ c0, (bs s)[0]? = some c0 := getL_of (by omega)
        have hh : (bs s).head?.any (fun c => (c.toNat : Int) == 47) = ((c0.toNat : Int) == 47) := by rw [List.head?_eq_getElem?, hc0]; rfl
        conv => whnf
        refine ⟨c0, ⟨by omega, hc0⟩, ?_⟩
        conv => whnf
        refine ⟨fun h3 => ?_, fun h3 => ?_⟩
        · conv => whnf
          intro g2 hg
          simp at h3
          simp [pathB, hh, h3]
        · have h3' : ((c0.toNat : Int) == 47) = true := by simpa using h3
          conv => whnf
          refine ⟨Nat, fun i => [.v (.int .i64 i)], fun _ => ⟨g, [], _, _⟩, fun i => i ≤ (bs s).length ∧ ((bs s).take i).all (fun c => (c.toNat : Int) == 47 || wordB c.toNat) = true, fun i => (bs s).length - i, fun _ _ hw => ⟨0, rfl, ⟨Nat.zero_le _, rfl⟩, hw⟩, ?_⟩
          intro i hJ
          have hi := hJ.1
          have hall := hJ.2
          conv => whnf
          refine ⟨fun h => ?_, fun h => ?_⟩
          · have h' : i < (bs s).length := by have := of_decide_eq_true h; omega
            obtain ⟨c, hcc, hc⟩ : ∃ c, (bs s)[i] = c ∧ (bs s)[i]? = some c := ⟨_, rfl, List.getElem?_eq_getElem h'⟩
            have hgood : ∀ b, ((c.toNat : Int) == 47 || wordB c.toNat) = b → ((bs s).take (i + 1)).all (fun c => (c.toNat : Int) == 47 || wordB c.toNat) = b := fun b hb => by rw [all_take h', hall, hcc, hb]; rfl
            have hw2 : IntKind.i64.wrap ((i : Int) + 1) = ((i + 1 : Nat) : Int) := by rw [wr (by omega)]; simp
            conv => whnf
            refine ⟨c, ⟨by omega, hc⟩, ?_⟩
            conv => whnf
            refine .inl ⟨_, ok_rword _ _, ?_⟩
            conv => whnf
            refine ⟨fun hz => ?_, fun hz => ?_⟩
            · conv => whnf
              refine ⟨c, ⟨by omega, hc⟩, ?_⟩
              conv => whnf
              refine ⟨fun hb => ?_, fun hb => ?_⟩
              · conv => whnf
                intro g2 hg
                simp at hz hb
                rw [pathB, all_false h' (by rw [hcc]; simp [hz, hb])]; simp
              · conv => whnf
                refine fun _ _ hw => ⟨i + 1, congrArg (fun z => [Value.int .i64 z]) hw2.symm, ⟨h', hgood _ (by simp at hb; simp [hb])⟩, dec h', hw⟩
            · conv => whnf
              refine fun _ _ hw => ⟨i + 1, congrArg (fun z => [Value.int .i64 z]) hw2.symm, ⟨h', hgood _ (by simp at hz; simp [hz])⟩, dec h', hw⟩
          · conv => whnf
            intro g2 hg
            have : i = (bs s).length := by have := of_decide_eq_false h; omega
            rw [this, List.take_length] at hall
            rw [pathB, hall, hh, h3', decide_eq_true (p := 0 < (bs s).length) (by omega), decide_eq_true (p := (bs s).length ≤ 32) (by omega)]; rfl)
theorem ok_rParts (g : GW) (s : BA) (b : UInt8) (hs : s.size ≤ 1000000000) : Ok Tryz.prog n_hydrantref03_Parts [.string s, .int .u8 b.toNat] g fun v g' => ∃ L : List BA, L.map bs = partsL b (bs s) ∧ rSl 1 rStr g' v L :=
  Ok.of_fn hm noT 0 t_hydrantref03_Parts (args := [.v (.string s), .v (.int .u8 b.toNat)]) (by
    have hsz := bs_size s
    repeat ((conv => whnf); first | apply qza | apply qzb | apply qzc | apply qzd | apply qze | intro (_ : Nat) | intro (_ : Option Addr) (_ : Nat))
    conv => whnf
    refine ⟨Nat × Nat × List BA × Option Addr × Nat, fun (i, at_, L, oa, cap) => [.row 0 oa L.length cap, .v (.int .i64 at_), .v (.int .i64 i)], fun (_, _, L, oa, cap) => ⟨g, [.row 0 oa L.length cap ty_string 1 (L.map .string)], 1, g.w.heap.size⟩,
      fun (i, at_, L, _, _) => (at_ ≤ i ∧ i ≤ (bs s).length ∧ L.length ≤ at_) ∧ L.map bs ++ partsL b ((bs s).drop at_) = partsL b (bs s) ∧ ∀ j : Nat, at_ ≤ j → j < i → (bs s)[j]? ≠ some b, fun (i, _, _, _, _) => (bs s).length - i, ?_, ?_⟩
    · intro fr w hw
      exact ⟨(0, 0, [], some ⟨_, 0, none⟩, 0), rfl, ⟨⟨Nat.le_refl _, Nat.zero_le _, Nat.le_refl _⟩, rfl, fun j _ h => by omega⟩, hw.blk_row 0 1 rfl (Nat.zero_le _)⟩
    · rintro ⟨i, at_, L, oa, cap⟩ ⟨⟨h1, h2, h3⟩, h4, h5⟩
      have hw2 : i < (bs s).length → IntKind.i64.wrap ((i : Int) + 1) = ((i + 1 : Nat) : Int) := fun h => by rw [wr (by omega)]; simp
      conv => whnf
      refine ⟨fun h => ?_, fun h => ?_⟩
      · have h' : i < (bs s).length := by have := of_decide_eq_true h; omega
        obtain ⟨c, hc⟩ : ∃ c, (bs s)[i]? = some c := getL_of h'
        conv => whnf
        refine ⟨c, ⟨by omega, hc⟩, ?_⟩
        conv => whnf
        refine ⟨fun hz => ?_, fun hz => ?_⟩
        · have hcb : c = b := by
            simp at hz
            exact UInt8.toNat_inj.1 (by omega)
          subst hcb
          conv => whnf
          refine ⟨⟨by omega, by omega, by omega⟩, ?_⟩
          repeat ((conv => whnf); first | apply qza | apply qzb | apply qzc | apply qzd | apply qze | intro (_ : Nat) | intro (_ : Option Addr) (_ : Nat))
          conv => whnf
          refine ⟨⟨by unfold maxLen; omega, by omega⟩, fun oa2 cap2 => ?_⟩
          conv => whnf
          refine fun fr w hw => ⟨(i + 1, i + 1, L ++ [s.extract at_ i], oa2, cap2), ?_, ⟨⟨Nat.le_refl _, h', by simp; omega⟩, ?_, fun j hj hj' => by omega⟩, dec h', ?_⟩
          · simp [concL, conc, conc_norm, hw2 h']
          · have := parts_at (b := c) (l := (bs s).drop at_) (k := i - at_) (fun j hj => by
              rw [List.getElem?_drop]; exact h5 _ (by omega) (by omega)) (by rw [List.getElem?_drop, show at_ + (i - at_) = i by omega]; exact hc)
            rw [this] at h4
            rw [← h4]
            simp [bs_extract, show at_ + (i - at_ + 1) = i + 1 by omega]
          · refine hw.fit ?_
            simp [fitL, Res.eqv]
        · conv => whnf
          refine fun fr w hw => ⟨(i + 1, at_, L, oa, cap), ?_, ⟨⟨by omega, h', h3⟩, h4, fun j hj hj' => ?_⟩, dec h', hw⟩
          · simp [concL, conc, conc_norm, hw2 h']
          · rcases Nat.lt_or_ge j i with k | k
            · exact h5 j hj k
            · obtain rfl : j = i := by omega
              rw [hc]
              simp at hz
              intro e
              simp at e; subst e; exact hz rfl
      · have h' : i = (bs s).length := by have := of_decide_eq_false h; omega
        conv => whnf
        refine ⟨⟨by omega, by omega⟩, ?_⟩
        repeat ((conv => whnf); first | apply qza | apply qzb | apply qzc | apply qzd | apply qze | intro (_ : Nat) | intro (_ : Option Addr) (_ : Nat))
        conv => whnf
        refine ⟨⟨by unfold maxLen; omega, by omega⟩, fun oa2 cap2 => ?_⟩
        repeat ((conv => whnf); first | apply qza | apply qzb | apply qzc | apply qzd | apply qze | intro (_ : Nat) | intro (_ : Option Addr) (_ : Nat))
        conv => whnf
        refine fun g1 hg1 hnew hp => ?_
        conv => whnf
        intro g2 hg
        refine ⟨L ++ [s.extract at_ s.size], ?_, ?_⟩
        · have := parts_none (b := b) (l := (bs s).drop at_) (fun j => by
            rw [List.getElem?_drop]
            by_cases k : at_ + j < i
            · exact h5 _ (by omega) k
            · rw [List.getElem?_eq_none (by omega)]; simp)
          rw [this] at h4
          rw [← h4, List.map_append, List.map_cons, List.map_nil, bs_extract, List.take_of_length_le (by rw [List.length_drop, hsz]; exact Nat.le_refl _)]
        · exact (rSl_of1 hp.rd (L ++ [s.extract at_ s.size]) .string (by simp) fun _ _ => rfl).mono rStr_mono hg)
theorem ok_rHost (g : GW) (s : BA) (hs : s.size ≤ 1000000000) : OkV Tryz.prog n_hydrantref03_Host [.string s] g (.bool (hostB (bs s))) :=
  Ok.of_fn hm noT 0 t_hydrantref03_Host (args := [.v (.string s)]) (by
    have hsz := bs_size s
    conv => whnf
    refine .inr ((ok_rParts g s 46 hs).mono fun v g1 hg1 hP => ?_)
    obtain ⟨L, hL, oa, cap, rfl, h1, h2, h0, hr⟩ := hP
    have hall : ((partsL 46 (bs s)).all nameB) = L.all fun p => nameB (bs p) := by rw [← hL, List.all_map]; rfl
    conv => whnf
    refine ⟨Nat, fun i => [.v (.int .i64 i)], fun _ => ⟨g1, [], _, _⟩, fun i => i ≤ L.length ∧ (L.take i).all (fun p => nameB (bs p)) = true, fun i => L.length - i, fun _ _ hw => ⟨0, rfl, ⟨Nat.zero_le _, rfl⟩, hw⟩, ?_⟩
    intro i hJ
    have hi := hJ.1
    have hal := hJ.2
    conv => whnf
    refine ⟨fun h => ?_, fun h => ?_⟩
    · have h' : i < L.length := by have := of_decide_eq_true h; omega
      obtain ⟨a, ha, ec, hec, he, hc⟩ := hr i L[i] (List.getElem?_eq_getElem h')
      cases he
      have hgood : ∀ b, nameB (bs L[i]) = b → (L.take (i + 1)).all (fun p => nameB (bs p)) = b := fun b hb => by rw [all_take h', hal, hb]; rfl
      conv => whnf
      refine ⟨a, ha, ⟨by omega, by omega⟩, ?_⟩
      conv => whnf
      refine ⟨_, hc 0 _ rfl, ?_⟩
      conv => whnf
      refine .inl ⟨_, ok_rName _ _, ?_⟩
      conv => whnf
      refine ⟨fun hb => ?_, fun hb => ?_⟩
      · conv => whnf
        intro g2 hg
        rw [hostB, hall, all_false h' (by simpa using hb)]; simp
      · conv => whnf
        refine fun _ _ hw => ⟨i + 1, congrArg (fun z => [Value.int .i64 z]) (wr1 h' h1 h2).symm, ⟨h', hgood _ (by simpa using hb)⟩, dec h', hw⟩
    · conv => whnf
      intro g2 hg
      have : i = L.length := by have := of_decide_eq_false h; omega
      rw [this, List.take_length] at hal
      rw [hostB, hall, hal, ← hsz, Bool.and_true]
      exact congrArg Value.bool (decide_eq_decide.2 (by omega)))
theorem ok_rPattern (g : GW) (s : BA) (hs : s.size ≤ 1000000000) : OkV Tryz.prog n_hydrantref03_Pattern [.string s] g (.bool (patternB (bs s))) :=
  Ok.of_fn hm noT 0 t_hydrantref03_Pattern (args := [.v (.string s)]) (by
    have hsz := bs_size s
    have tail : ∀ (sl : GW), True := fun _ => trivial
    conv => whnf
    refine ⟨fun h => ?_, fun h => ?_⟩
    · have h2 := of_decide_eq_true h
      conv => whnf
      refine ⟨⟨by omega, by omega⟩, ?_⟩
      have e1 : bs (s.extract 0 (2 : Int).toNat) = (bs s).take 2 := by rw [bs_extract]; rfl
      conv => whnf
      refine ⟨fun k => ?_, fun k => ?_⟩
      · have k' : ((bs s).take 2 == [42, 46]) = true := by rw [← e1]; exact k
        conv => whnf
        refine ⟨⟨by omega, by omega⟩, ?_⟩
        conv => whnf
        refine .inl ⟨_, ok_rHost _ _ (by have := bs_extract s 2 s.size; have e := bs_size (s.extract (2 : Int).toNat s.size); rw [e]; simp; omega), ?_⟩
        conv => whnf
        intro g2 hg
        rw [pattern_ref, k', decide_eq_true (show 2 < (bs s).length by omega)]
        have e2 : bs (s.extract (2 : Int).toNat s.size) = (bs s).drop 2 := by
          rw [bs_extract, hsz]; exact List.take_of_length_le (by simp)
        rw [e2]; rfl
      · have k' : ((bs s).take 2 == [42, 46]) = false := by rw [← e1]; exact k
        conv => whnf
        refine ⟨fun j => ?_, fun j => ?_⟩
        · conv => whnf
          intro g2 hg
          have j' : (bs s == [42]) = true := j
          rw [pattern_ref, k', j']; simp
        · have j' : (bs s == [42]) = false := j
          conv => whnf
          refine .inl ⟨_, ok_rHost _ _ hs, ?_⟩
          conv => whnf
          intro g2 hg
          rw [pattern_ref, k', j']; simp
    · have h2 := of_decide_eq_false h
      have k' : (decide (2 < (bs s).length)) = false := decide_eq_false (by omega)
      conv => whnf
      refine ⟨fun j => ?_, fun j => ?_⟩
      · conv => whnf
        intro g2 hg
        have j' : (bs s == [42]) = true := j
        rw [pattern_ref, k', j']; simp
      · have j' : (bs s == [42]) = false := j
        conv => whnf
        refine .inl ⟨_, ok_rHost _ _ hs, ?_⟩
        conv => whnf
        intro g2 hg
        rw [pattern_ref, k', j']; simp)
end Go.Proofs.YtjaeeadfmnokeaaGreat


/- Whether a configuration may be: the program's and the document's answers. -/
namespace Go.Proofs.YtjaeeadfmnokeaaGreat
open Go.Proofs.YtjaeeadfmnokeaaGreat.Sx
theorem ok_Index (g : GW) {v : Value} {l : List BA} (hl : rSl 1 rStr g v l) (s : BA) : OkV Tryz.prog n_slices_Index___string_string [v, .string s] g (.int .i64 (idxI (idxO (fun x => bs s == bs x) l))) :=
  Ok.of_fn hm noT 0 t_slices_Index___string_string (args := [.v v, .v (.string s)]) (by
    obtain ⟨oa, cap, rfl, h1, h2, h0, hr⟩ := hl
    repeat ((conv => whnf); first | apply qza | apply qzb | apply qzc | apply qzd | apply qze | intro (_ : Nat) | intro (_ : Option Addr) (_ : Nat))
    conv => whnf
    refine ⟨Nat, fun k => [.v (.int .i64 k)], fun k => ⟨g, [], _, _⟩, fun k => k ≤ l.length ∧ Pass (idxF fun x => bs s == bs x) l k, fun k => l.length - k, loop_here 0 rfl ⟨Nat.zero_le _, Pass.zero _ _⟩ rfl, ?_⟩
    rintro k ⟨hk, hp⟩
    conv => whnf
    refine ⟨fun hlt => ?_, fun hlt => ?_⟩
    · have h' : k < l.length := by have := of_decide_eq_true hlt; omega
      obtain ⟨x, hx⟩ := getL_of h'
      obtain ⟨a, rfl, ec, hec, rfl, hc⟩ := hr k x hx
      conv => whnf
      refine ⟨a, rfl, ⟨by omega, by omega⟩, ?_⟩
      conv => whnf
      refine ⟨_, hc 0 _ rfl, ?_⟩
      conv => whnf
      refine ⟨fun he => ?_, fun he => ?_⟩
      · conv => whnf
        intro g2 hg
        rw [idxO_hit hp hx he]
      · conv => whnf
        refine fun fr w hw => ⟨k + 1, congrArg (fun z => [Value.int .i64 z]) (wr1 h' h1 h2).symm, ⟨h', idx_next hp hx he⟩, dec h', hw⟩
    · conv => whnf
      intro g2 hg
      have := of_decide_eq_false hlt
      rw [idxO_miss hp (by omega)])
theorem ok_Contains (g : GW) {v : Value} {l : List BA} (hl : rSl 1 rStr g v l) (s : BA) : OkV Tryz.prog n_slices_Contains___string_string [v, .string s] g (.bool (hasS l s)) :=
  Ok.of_fn hm noT 0 t_slices_Contains___string_string (args := [.v v, .v (.string s)]) (by
    conv => whnf
    refine .inl ⟨_, ok_Index _ hl _, ?_⟩
    conv => whnf
    intro g2 hg
    rw [idx_any]
    have : (fun x => bs s == bs x) = fun x => bs x == bs s := by funext x; exact beqL_symm _ _
    rw [this]; rfl)
def tC : List (Nat × FnI) := [(n_slices_ContainsFunc___api_Cluster_api_Cluster, f_slices_ContainsFunc___api_Cluster_api_Cluster), (n_slices_IndexFunc___api_Cluster_api_Cluster, f_slices_IndexFunc___api_Cluster_api_Cluster), (n_config_named_1, f_config_named_1)]
theorem tC_ok : TblOk Tryz.prog tC := by
  intro x hx
  simp only [tC, List.mem_cons, List.not_mem_nil, or_false] at hx
  rcases hx with rfl | rfl | rfl
  · exact ⟨_, _, t_slices_ContainsFunc___api_Cluster_api_Cluster⟩
  · exact ⟨_, _, t_slices_IndexFunc___api_Cluster_api_Cluster⟩
  · exact ⟨_, _, t_config_named_1⟩
theorem ok_named (g : GW) {v : Value} {l : List Cluster} (hl : rSl 4 rCluster g v l) (s : BA) : OkV Tryz.prog n_config_named [v, .string s] g (.bool (hasC l s)) :=
  Ok.of_fn hm tC_ok 3 t_config_named (args := [.v v, .v (.string s)]) (by
    obtain ⟨oa, cap, rfl, h1, h2, h0, hr⟩ := hl
    repeat ((conv => whnf); first | apply qza | apply qzb | apply qzc | apply qzd | apply qze | intro (_ : Nat) | intro (_ : Option Addr) (_ : Nat))
    conv => whnf
    refine ⟨Nat, fun k => [.v (.int .i64 k)], fun k => ⟨g, [.blk 0 _ _ [.v (.string s)]], _, _⟩, fun k => k ≤ l.length ∧ Pass (idxF fun (x : Cluster) => bs x.name == bs s) l k, fun k => l.length - k, loop_here 0 rfl ⟨Nat.zero_le _, Pass.zero _ _⟩ rfl, ?_⟩
    rintro k ⟨hk, hp⟩
    conv => whnf
    refine ⟨fun hlt => ?_, fun hlt => ?_⟩
    · have h' : k < l.length := by have := of_decide_eq_true hlt; omega
      obtain ⟨x, hx⟩ := getL_of h'
      obtain ⟨a, rfl, ec, hec, ⟨hv, rfl, _, _, _, _, rfl, _⟩, hc⟩ := hr k x hx
      conv => whnf
      refine ⟨a, rfl, ⟨by omega, by omega⟩, ?_⟩
      conv => whnf
      refine ⟨_, ⟨rfl, hc⟩, ?_⟩
      conv => whnf
      refine ⟨k_config_named_1, ?_⟩
      repeat ((conv => whnf); first | apply qza | apply qzb | apply qzc | apply qzd | apply qze | intro (_ : Nat) | intro (_ : Option Addr) (_ : Nat))
      conv => whnf
      refine ⟨fun he => ?_, fun he => ?_⟩
      · conv => whnf
        intro g2 hg
        have : hasC l s = true := List.any_eq_true.2 ⟨x, List.mem_of_getElem? hx, he⟩
        rw [this]; simp
      · conv => whnf
        refine fun fr w hw => ⟨k + 1, congrArg (fun z => [Value.int .i64 z]) (wr1 h' h1 h2).symm, ⟨h', idx_next hp hx he⟩, dec h', ?_⟩
        exact hw.fit (by simp [fitL, Res.eqv, concL, conc])
    · conv => whnf
      intro g2 hg
      have := of_decide_eq_false hlt
      have h3 := idx_any (fun (x : Cluster) => bs x.name == bs s) l
      rw [idxO_miss hp (by omega)] at h3
      rw [show hasC l s = false from by rw [hasC, ← h3]; rfl]; rfl)

/-- Is a number within? -/
theorem ok_within (g : GW) (n a b : Int) : OkV Tryz.prog n_config_within [.int .i64 n, .int .i64 a, .int .i64 b] g (.bool (decide (a ≤ n) && decide (n ≤ b))) :=
  Ok.of_fn hm noT 0 t_config_within (args := [.v (.int .i64 n), .v (.int .i64 a), .v (.int .i64 b)]) (by
    repeat' ((conv => whnf); first | apply qza | apply qzb | apply qzc | apply qzd | apply qze | intro (_ : Nat) | intro (_ : Option Addr) (_ : Nat) | refine .inl ⟨_, rfl, ?_⟩ | refine ⟨fun _ => ?_, fun _ => ?_⟩ | fail)
    all_goals (conv => whnf)
    all_goals (intro g2 hg)
    all_goals (first | (simp_all; done) | (simp_all; omega)))
theorem ok_csize (g : GW) {cs : List Value} {c : Config} (hc : rConfig g cs c) : OkV Tryz.prog n_config_checker__size [.agg ⟨cs⟩] g (eiT (sizeE c)) := by
  obtain ⟨a, b, d, rfl, hl, hr, hk⟩ := hc
  obtain ⟨oa, ca, rfl, a1, a2, a0, hl1⟩ := id hl
  obtain ⟨ob, cb, rfl, b1, b2, b0, hr1⟩ := id hr
  obtain ⟨od, cd, rfl, d1, d2, d0, hk1⟩ := id hk
  exact Ok.of_fn hm noT 0 t_config_checker__size (args := [.v (.agg ⟨[.slice oa c.listens.length ca, .slice ob c.routes.length cb, .slice od c.clusters.length cd]⟩)]) (by
    repeat' ((conv => whnf); first | apply qza | apply qzb | apply qzc | apply qzd | apply qze | intro (_ : Nat) | intro (_ : Option Addr) (_ : Nat) | refine .inl ⟨_, ok_within _ _ _ _, ?_⟩ | refine ⟨fun _ => ?_, fun _ => ?_⟩ | fail)
    all_goals (conv => whnf)
    all_goals (intro g2 hg)
    all_goals first | (rw [show sizeE c = some (6, 0) from if_neg (by simp_all; try omega)]; rfl; done) | (rw [show sizeE c = none from if_pos (by simp_all; try omega)]; rfl))

theorem ok_clistens (g : GW) {cs : List Value} {c : Config} (hc : rConfig g cs c) : OkV Tryz.prog n_config_checker__listens [.agg ⟨cs⟩] g (eiT (listensE c)) := by
  obtain ⟨a, b, d, rfl, hl, hr, hk⟩ := hc
  obtain ⟨oa, ca, rfl, a1, a2, a0, hl1⟩ := id hl
  obtain ⟨ob, cb, rfl, b1, b2, b0, hr1⟩ := id hr
  obtain ⟨od, cd, rfl, d1, d2, d0, hk1⟩ := id hk
  exact Ok.of_fn hm noT 0 t_config_checker__listens (args := [.v (.agg ⟨[.slice oa c.listens.length ca, .slice ob c.routes.length cb, .slice od c.clusters.length cd]⟩)]) (by
    repeat ((conv => whnf); first | apply qza | apply qzb | apply qzc | apply qzd | apply qze | intro (_ : Nat) | intro (_ : Option Addr) (_ : Nat))
    conv => whnf
    refine ⟨Nat, fun k => [.v (.int .i64 k)], fun k => ⟨g, [.blk 0 _ _ [.v (.slice oa c.listens.length ca), .v (.slice ob c.routes.length cb), .v (.slice od c.clusters.length cd)]], _, _⟩, fun k => k ≤ c.listens.length ∧ Pass (listenF c.listens) c.listens k, fun k => c.listens.length - k, loop_here 0 rfl ⟨Nat.zero_le _, Pass.zero _ _⟩ rfl, ?_⟩
    rintro k ⟨hk, hp⟩
    conv => whnf
    refine ⟨fun hlt => ?_, fun hlt => ?_⟩
    · have h' : k < c.listens.length := by have := of_decide_eq_true hlt; omega
      obtain ⟨x, hx⟩ := getL_of h'
      obtain ⟨a, rfl, ec, hec, rfl, hc⟩ := hl1 k x hx
      conv => whnf
      refine ⟨a, rfl, ⟨by omega, by omega⟩, ?_⟩
      conv => whnf
      refine ⟨_, hc 0 _ rfl, ?_⟩
      repeat ((conv => whnf); first | apply qza | apply qzb | apply qzc | apply qzd | apply qze | intro (_ : Nat) | intro (_ : Option Addr) (_ : Nat))
      conv => whnf
      refine .inl ⟨_, ok_Name _ _, ?_⟩
      conv => whnf
      refine ⟨fun hn => ?_, fun hn => ?_⟩
      · conv => whnf
        intro g2 hg
        rw [show listensE c = some ((3, k) : EI) from hp.hit hx (by rw [listenF, if_neg (by simp [nb1 hn])])]; rfl
      · repeat ((conv => whnf); first | apply qza | apply qzb | apply qzc | apply qzd | apply qze | intro (_ : Nat) | intro (_ : Option Addr) (_ : Nat))
        conv => whnf
        refine ⟨⟨by omega, by omega⟩, ?_⟩
        repeat ((conv => whnf); first | apply qza | apply qzb | apply qzc | apply qzd | apply qze | intro (_ : Nat) | intro (_ : Option Addr) (_ : Nat))
        conv => whnf
        refine .inl ⟨_, ok_Contains _ (hl.take (Nat.le_of_lt h')) _, ?_⟩
        conv => whnf
        refine ⟨fun hs => ?_, fun hs => ?_⟩
        · conv => whnf
          intro g2 hg
          rw [show listensE c = some ((4, k) : EI) from hp.hit hx (by rw [listenF, if_pos (nb0 hn), if_pos hs])]; rfl
        · conv => whnf
          refine fun fr w hw => ⟨k + 1, congrArg (fun z => [Value.int .i64 z]) (wr1 h' a1 a2).symm, ⟨h', hp.succ hx (by rw [listenF, if_pos (nb0 hn), if_neg (by simp [hs])])⟩, dec h', ?_⟩
          exact hw.fit (by simp [fitL, Res.eqv, concL, conc])
    · conv => whnf
      intro g2 hg
      have := of_decide_eq_false hlt
      rw [show listensE c = none from hp.done (by omega)]; rfl)

theorem ok_cclusters (g : GW) {cs : List Value} {c : Config} (hc : rConfig g cs c) : OkV Tryz.prog n_config_checker__clusters [.agg ⟨cs⟩] g (eiT (clustersE c)) := by
  obtain ⟨a, b, d, rfl, hl, hr, hk⟩ := hc
  obtain ⟨oa, ca, rfl, a1, a2, a0, hl1⟩ := id hl
  obtain ⟨ob, cb, rfl, b1, b2, b0, hr1⟩ := id hr
  obtain ⟨od, cd, rfl, d1, d2, d0, hk1⟩ := id hk
  exact Ok.of_fn hm noT 0 t_config_checker__clusters (args := [.v (.agg ⟨[.slice oa c.listens.length ca, .slice ob c.routes.length cb, .slice od c.clusters.length cd]⟩)]) (by
    repeat ((conv => whnf); first | apply qza | apply qzb | apply qzc | apply qzd | apply qze | intro (_ : Nat) | intro (_ : Option Addr) (_ : Nat))
    conv => whnf
    refine ⟨Nat, fun k => [.v (.int .i64 k)], fun k => ⟨g, [.blk 0 _ _ [.v (.slice oa c.listens.length ca), .v (.slice ob c.routes.length cb), .v (.slice od c.clusters.length cd)]], _, _⟩, fun k => k ≤ c.clusters.length ∧ Pass (clusterF c.clusters) c.clusters k, fun k => c.clusters.length - k, loop_here 0 rfl ⟨Nat.zero_le _, Pass.zero _ _⟩ rfl, ?_⟩
    rintro k ⟨hkk, hp⟩
    conv => whnf
    refine ⟨fun hlt => ?_, fun hlt => ?_⟩
    · have h' : k < c.clusters.length := by have := of_decide_eq_true hlt; omega
      obtain ⟨x, hx⟩ := getL_of h'
      obtain ⟨a, rfl, ec, hec, ⟨hv, rfl, _, _, _, _, rfl, _⟩, hc⟩ := hk1 k x hx
      have hit : ∀ e : EI, clusterF c.clusters k x = some e → clustersE c = some e := fun e he => hp.hit hx he
      conv => whnf
      refine ⟨a, rfl, ⟨by omega, by omega⟩, ?_⟩
      conv => whnf
      refine ⟨_, ⟨rfl, hc⟩, ?_⟩
      repeat ((conv => whnf); first | apply qza | apply qzb | apply qzc | apply qzd | apply qze | intro (_ : Nat) | intro (_ : Option Addr) (_ : Nat))
      conv => whnf
      refine .inl ⟨_, ok_Name _ _, ?_⟩
      conv => whnf
      refine ⟨fun hn => ?_, fun hn => ?_⟩
      · conv => whnf
        intro g2 hg
        rw [hit (3, k) (by rw [clusterF, if_neg (by simp [nb1 hn])])]; rfl
      have hn := nb0 hn
      repeat ((conv => whnf); first | apply qza | apply qzb | apply qzc | apply qzd | apply qze | intro (_ : Nat) | intro (_ : Option Addr) (_ : Nat))
      conv => whnf
      refine ⟨⟨by omega, by omega⟩, ?_⟩
      repeat ((conv => whnf); first | apply qza | apply qzb | apply qzc | apply qzd | apply qze | intro (_ : Nat) | intro (_ : Option Addr) (_ : Nat))
      conv => whnf
      refine .inl ⟨_, ok_named _ (hk.take (Nat.le_of_lt h')) _, ?_⟩
      conv => whnf
      refine ⟨fun hs => ?_, fun hs => ?_⟩
      · conv => whnf
        intro g2 hg
        rw [hit (4, k) (by rw [clusterF, if_pos hn, if_pos hs])]; rfl
      have hp9 : ¬(x.policy = 1 ∨ x.policy = 2) → clusterF c.clusters k x = some (9, (k : Int)) := fun h => by rw [clusterF, if_pos hn, if_neg (by simp [hs]), if_neg h]
      have hp10 : (x.policy = 1 ∨ x.policy = 2) → ¬(1 ≤ x.slots ∧ x.slots ≤ 4) → clusterF c.clusters k x = some (10, (k : Int)) := fun h h2 => by rw [clusterF, if_pos hn, if_neg (by simp [hs]), if_pos h, if_neg h2]
      have hp6 : (x.policy = 1 ∨ x.policy = 2) → (1 ≤ x.slots ∧ x.slots ≤ 4) → ¬(1 ≤ x.health.length ∧ x.health.length ≤ 4) → clusterF c.clusters k x = some (6, (k : Int)) := fun h h2 h3 => by rw [clusterF, if_pos hn, if_neg (by simp [hs]), if_pos h, if_pos h2, if_neg h3]
      have hp0 : (x.policy = 1 ∨ x.policy = 2) → (1 ≤ x.slots ∧ x.slots ≤ 4) → (1 ≤ x.health.length ∧ x.health.length ≤ 4) → clusterF c.clusters k x = none := fun h h2 h3 => by rw [clusterF, if_pos hn, if_neg (by simp [hs]), if_pos h, if_pos h2, if_pos h3]
      have hpn := fun e => hp.succ hx e
      clear hlt hp
      repeat' ((conv => whnf); first | apply qza | apply qzb | apply qzc | apply qzd | apply qze | intro (_ : Nat) | intro (_ : Option Addr) (_ : Nat) | refine .inl ⟨_, ok_within _ _ _ _, ?_⟩ | refine ⟨fun _ => ?_, fun _ => ?_⟩ | fail)
      all_goals (conv => whnf)
      all_goals (try simp only [bne_iff_ne, ne_eq, bne_eq_false_iff_eq, Bool.not_eq_true', Bool.not_eq_false', Bool.and_eq_true, Bool.and_eq_false_iff, decide_eq_true_eq, decide_eq_false_iff_not] at *)
      all_goals first
        | (intro g2 hg; rw [hit (9, k) (hp9 (by omega))]; rfl; done)
        | (intro g2 hg; rw [hit (10, k) (hp10 (by omega) (by omega))]; rfl; done)
        | (intro g2 hg; rw [hit (6, k) (hp6 (by omega) (by omega) (by omega))]; rfl; done)
        | refine fun fr w hw => ⟨k + 1, congrArg (fun z => [Value.int .i64 z]) (wr1 h' d1 d2).symm, ⟨h', hpn (hp0 (by omega) (by omega) (by omega))⟩, dec h', ?_⟩
      all_goals (exact hw.fit (by simp [fitL, Res.eqv, concL, conc]))
    · conv => whnf
      intro g2 hg
      have := of_decide_eq_false hlt
      rw [show clustersE c = none from hp.done (by omega)]; rfl)

end Go.Proofs.YtjaeeadfmnokeaaGreat

