/- Slots: words with tags; which ones are free. -/
import Derived.Test.YtkkhdnddplkobaaGreatLB1
import Derived.Test.YtkkhdnddplkobaaGreatPl
import Derived.Test.YtkkhdnddplkobaaGreatLS7b
namespace Go.Proofs.YtkkhdnddplkobaaGreat
open Go.Proofs.YtkkhdnddplkobaaGreat.Sx Go.RowKit
theorem wrap32 {w : Int} (hw : InU w) : IntKind.u32.wrap w = w % 4294967296 := by
  rw [IntKind.wrap_u32]
theorem idx_wr {w : Int} : InR (w % 4294967296) ∧ InR (w % 4294967296 - 1) := by
  have h1 := Int.emod_nonneg w (show (4294967296 : Int) ≠ 0 by decide)
  have h2 := Int.emod_lt_of_pos w (show (0 : Int) < 4294967296 by decide)
  unfold InR; omega
theorem ok_tIdx (g : GW) {w : Int} (hw : InU w) : OkV Tryz.prog n_tag_Index [.int .u64 w] g (.int .i64 (idxT w)) :=
  Ok.of_fn hm noT 0 t_tag_Index (args := [.v (.int .u64 w)]) (by
    repeat ((conv => whnf); first | apply qza | apply qzb | apply qzc | apply qzd | apply qze | intro (_ : Nat) | intro (_ : Option Addr) (_ : Nat))
    conv => whnf
    intro g2 hg
    rw [wrap32 hw, wr idx_wr.1, show w % 4294967296 + -1 = w % 4294967296 - 1 from rfl, wr idx_wr.2]; rfl)
theorem or_u64 {t i : Int} (ht : 0 ≤ t ∧ t < 4294967296) (hi : 0 ≤ i ∧ i < 4294967296) : bitsI .or .u64 (t * 4294967296) i = t * 4294967296 + i := by
  obtain ⟨a, rfl⟩ := Int.eq_ofNat_of_zero_le ht.1
  obtain ⟨b, rfl⟩ := Int.eq_ofNat_of_zero_le hi.1
  have h := Nat.shiftLeft_add_eq_or_of_lt (i := 32) (b := b) (by omega) a
  rw [Nat.shiftLeft_eq, show (2 : Nat) ^ 32 = 4294967296 by decide] at h
  rw [show (a : Int) * 4294967296 = ((a * 4294967296 : Nat) : Int) by omega]
  have e1 : (BitVec.ofInt 64 ((a * 4294967296 : Nat) : Int)).toNat = a * 4294967296 := by
    rw [BitVec.ofInt_natCast, BitVec.toNat_ofNat]; omega
  have e2 : (BitVec.ofInt 64 (b : Int)).toNat = b := by
    rw [BitVec.ofInt_natCast, BitVec.toNat_ofNat]; omega
  show IntKind.u64.wrap ((BitVec.ofInt 64 ((a * 4294967296 : Nat) : Int) ||| BitVec.ofInt 64 (b : Int)).toNat : Int) = _
  rw [BitVec.toNat_or, e1, e2, ← h, IntWalk.u64_in _ (by omega)]; omega
theorem ok_tMake (g : GW) {t i : Int} (ht : 0 ≤ t ∧ t < 4294967296) (hi : InR i) : OkV Tryz.prog n_tag_Make [.int .u32 t, .int .i64 i] g (.tuple #[.int .u64 (if placeB i then t * 4294967296 + (i + 1) else 0), .int .i64 (if placeB i then 0 else 1)]) :=
  Ok.of_fn hm noT 0 t_tag_Make (args := [.v (.int .u32 t), .v (.int .i64 i)]) (by
    repeat ((conv => whnf); first | apply qza | apply qzb | apply qzc | apply qzd | apply qze | intro (_ : Nat) | intro (_ : Option Addr) (_ : Nat))
    conv => whnf
    refine ⟨fun h => ?_, fun h => ?_⟩
    · repeat ((conv => whnf); first | apply qza | apply qzb | apply qzc | apply qzd | apply qze | intro (_ : Nat) | intro (_ : Option Addr) (_ : Nat))
      conv => whnf
      intro g2 hg
      have : placeB i = false := by unfold placeB; have := of_decide_eq_true h; simp; omega
      rw [this]; rfl
    · repeat ((conv => whnf); first | apply qza | apply qzb | apply qzc | apply qzd | apply qze | intro (_ : Nat) | intro (_ : Option Addr) (_ : Nat))
      conv => whnf
      refine ⟨fun h2 => ?_, fun h2 => ?_⟩
      · repeat ((conv => whnf); first | apply qza | apply qzb | apply qzc | apply qzd | apply qze | intro (_ : Nat) | intro (_ : Option Addr) (_ : Nat))
        conv => whnf
        intro g2 hg
        have : placeB i = false := by unfold placeB; have := of_decide_eq_true h2; simp; omega
        rw [this]; rfl
      · repeat ((conv => whnf); first | apply qza | apply qzb | apply qzc | apply qzd | apply qze | intro (_ : Nat) | intro (_ : Option Addr) (_ : Nat))
        conv => whnf
        refine ⟨by decide, ?_⟩
        repeat ((conv => whnf); first | apply qza | apply qzb | apply qzc | apply qzd | apply qze | intro (_ : Nat) | intro (_ : Option Addr) (_ : Nat))
        conv => whnf
        intro g2 hg
        have h1 := of_decide_eq_false h
        have h2 := of_decide_eq_false h2
        have : placeB i = true := by unfold placeB; simp; omega
        rw [this]
        have e1 : IntKind.u64.wrap t = t := IntWalk.u64_in t (by omega)
        have e2 : IntKind.u64.wrap (t * 2 ^ min (Int.toNat 32) IntKind.u64.bits) = t * 4294967296 := by
          rw [show (2 : Int) ^ min (Int.toNat 32) IntKind.u64.bits = 4294967296 by decide]; exact IntWalk.u64_in _ (by omega)
        have e3 : IntKind.u64.wrap (IntKind.i64.wrap (i - -1)) = i + 1 := by rw [wr (by unfold InR; omega)]; exact IntWalk.u64_in _ (by omega)
        rw [e1, e2, e3, or_u64 ht (by omega)]; rfl)
def tCh : List (Nat × FnI) := [(n_slots_chain, f_slots_chain), (n_slots_chain_1, f_slots_chain_1)]
theorem tCh_ok : TblOk Tryz.prog tCh := by
  intro x hx
  simp only [tCh, List.mem_cons, List.not_mem_nil, or_false] at hx
  rcases hx with rfl | rfl
  · exact ⟨_, _, t_slots_chain⟩
  · exact ⟨_, _, t_slots_chain_1⟩
def FreeP (e : EndC) (v : Value) (g' : GW) : Prop := match freeL e with
  | none => v = .tuple #[.slice none 0 0, .int .i64 11]
  | some l => ∃ oa cap, v = .tuple #[.slice oa l.length cap, .int .i64 0] ∧ rSl 1 rInt g' (.slice oa l.length cap) l
abbrev cInt (l : List Int) : List Value := l.map fun x => Value.int .i64 x
theorem ok_sFree (g : GW) {cs : List Value} {e : EndC} (he : rEn g cs e) : Ok Tryz.prog n_slots_Free [.agg ⟨cs⟩] g (FreeP e) := by
  obtain ⟨⟨n, rfl, hH, hA, hN⟩, hsz⟩ := he
  obtain ⟨oa, ca, rfl, a1, a2, a0, hr⟩ := id hN
  exact Ok.of_fn hm tCh_ok 2 t_slots_Free (args := [.v (.agg ⟨[.int .u64 e.head, .slice oa e.next.length ca, .int .i64 e.active]⟩)]) (by
    repeat ((conv => whnf); first | apply qza | apply qzb | apply qzc | apply qzd | apply qze | intro (_ : Nat) | intro (_ : Option Addr) (_ : Nat))
    conv => whnf
    refine ⟨k_slots_chain_1, fun lp rr => ?_⟩
    repeat ((conv => whnf); first | apply qza | apply qzb | apply qzc | apply qzd | apply qze | intro (_ : Nat) | intro (_ : Option Addr) (_ : Nat))
    conv => whnf
    refine ⟨⟨by omega, by omega, by omega, by omega⟩, fun _ => ?_⟩
    repeat ((conv => whnf); first | apply qza | apply qzb | apply qzc | apply qzd | apply qze | intro (_ : Nat) | intro (_ : Option Addr) (_ : Nat))
    conv => whnf
    refine .inl ⟨_, ok_tIdx _ hH, ?_⟩
    rename_i q0 q1 q2 q3 q4 q5
    repeat ((conv => whnf); first | apply qza | apply qzb | apply qzc | apply qzd | apply qze | intro (_ : Nat) | intro (_ : Option Addr) (_ : Nat))
    conv => whnf
    refine ⟨Int × List Int × Option Addr × Nat, fun (i, _, _, _) => [.v (.int .i64 i)], fun (_, out, oX, cX) => ⟨g, [.row 7 oX out.length cX ty_int 1 (cInt out), .row 6 (some ⟨q5, 0, none⟩) e.next.length e.next.length ty_bool 1 (seenL e.next.length out), .lp 5 lp rr .ready, .blk 4 q4 ty_api_End [.v (.int .u64 e.head), .v (.slice oa e.next.length ca), .v (.int .i64 e.active)], .blk 3 q3 ty_sl_int [.row 7 oX out.length cX], .blk 2 q2 ty_api_Errno [.v (.int .i64 0)], .blk 1 q1 ty_sl_int [.v (.slice none 0 0)], .blk 0 q0 ty_api_End [.v (.int .u64 e.head), .v (.slice oa e.next.length ca), .v (.int .i64 e.active)]], 40, g.w.heap.size⟩, fun (i, out, _, _) => InR i ∧ out.Nodup ∧ (∀ x ∈ out, 0 ≤ x ∧ x < e.next.length) ∧ chainL e.next (e.next.length + 1 - out.length) out i = freeL e, fun (_, out, _, _) => e.next.length - out.length, ?_, ?_⟩
    · intro fr w hw
      exact ⟨(idxT e.head, [], none, 0), rfl, ⟨by have := idxT_rng e.head; unfold InR; omega, List.nodup_nil, by simp, rfl⟩, (hw.nil_row (nx' := 40) 7 ty_int 1).fit (by simp [fitL, Res.eqv, concL, conc, seenL_nil])⟩
    rintro ⟨i, out, oX, cX⟩ ⟨hi, hnd, hin, hch⟩
    repeat ((conv => whnf); first | apply qza | apply qzb | apply qzc | apply qzd | apply qze | intro (_ : Nat) | intro (_ : Option Addr) (_ : Nat))
    conv => whnf
    refine ⟨fun h1 => ?_, fun h1 => ?_⟩
    · have hne : i ≠ -1 := by simpa using h1
      have hbad : (i < 0 ∨ (e.next.length : Int) ≤ i ∨ i ∈ out) → freeL e = none := fun hb => by
        have hlen := nodup_len hnd hin
        rw [show e.next.length + 1 - out.length = (e.next.length - out.length) + 1 by omega] at hch
        simp only [chainL, if_neg hne, if_pos hb] at hch
        exact hch.symm
      repeat ((conv => whnf); first | apply qza | apply qzb | apply qzc | apply qzd | apply qze | intro (_ : Nat) | intro (_ : Option Addr) (_ : Nat))
      conv => whnf
      refine ⟨fun h2 => ?_, fun h2 => ?_⟩
      · repeat ((conv => whnf); first | apply qza | apply qzb | apply qzc | apply qzd | apply qze | intro (_ : Nat) | intro (_ : Option Addr) (_ : Nat))
        conv => whnf
        refine ⟨fun _ => ?_, fun h => nomatch h⟩
        repeat ((conv => whnf); first | apply qza | apply qzb | apply qzc | apply qzd | apply qze | intro (_ : Nat) | intro (_ : Option Addr) (_ : Nat))
        conv => whnf
        intro g2 hg
        unfold FreeP
        rw [hbad (.inl (by simpa using h2))]
      · repeat ((conv => whnf); first | apply qza | apply qzb | apply qzc | apply qzd | apply qze | intro (_ : Nat) | intro (_ : Option Addr) (_ : Nat))
        conv => whnf
        refine ⟨fun h3 => ?_, fun h3 => ?_⟩
        · repeat ((conv => whnf); first | apply qza | apply qzb | apply qzc | apply qzd | apply qze | intro (_ : Nat) | intro (_ : Option Addr) (_ : Nat))
          conv => whnf
          refine ⟨fun _ => ?_, fun h => nomatch h⟩
          repeat ((conv => whnf); first | apply qza | apply qzb | apply qzc | apply qzd | apply qze | intro (_ : Nat) | intro (_ : Option Addr) (_ : Nat))
          conv => whnf
          intro g2 hg
          unfold FreeP
          rw [hbad (.inr (.inl (by simpa using h3)))]
        · have hi0 : 0 ≤ i ∧ i < e.next.length := by simp at h2 h3; omega
          have hsg := seenL_get (n := e.next.length) (out := out) hi0
          obtain ⟨y, hy⟩ := getL_of (l := e.next) (i := i.toNat) (by omega)
          obtain ⟨a, rfl, ec, hec, ⟨rfl, hyr⟩, hc⟩ := hr i.toNat y hy
          repeat ((conv => whnf); first | apply qza | apply qzb | apply qzc | apply qzd | apply qze | intro (_ : Nat) | intro (_ : Option Addr) (_ : Nat))
          conv => whnf
          refine ⟨hi0, ?_⟩
          repeat ((conv => whnf); first | apply qza | apply qzb | apply qzc | apply qzd | apply qze | intro (_ : Nat) | intro (_ : Option Addr) (_ : Nat))
          conv => whnf
          refine ⟨_, by simpa using hsg, ?_⟩
          repeat ((conv => whnf); first | apply qza | apply qzb | apply qzc | apply qzd | apply qze | intro (_ : Nat) | intro (_ : Option Addr) (_ : Nat))
          conv => whnf
          refine ⟨fun h4 => ?_, fun h4 => ?_⟩
          · repeat ((conv => whnf); first | apply qza | apply qzb | apply qzc | apply qzd | apply qze | intro (_ : Nat) | intro (_ : Option Addr) (_ : Nat))
            conv => whnf
            refine ⟨fun _ => ?_, fun h => nomatch h⟩
            repeat ((conv => whnf); first | apply qza | apply qzb | apply qzc | apply qzd | apply qze | intro (_ : Nat) | intro (_ : Option Addr) (_ : Nat))
            conv => whnf
            intro g2 hg
            unfold FreeP
            rw [hbad (.inr (.inr (by simpa using h4)))]
          · have h4' : i ∉ out := by simpa using h4
            have hnd2 : (out ++ [i]).Nodup := List.nodup_append.2 ⟨hnd, by simp, fun a ha b hb hab => h4' (by simp at hb; rw [← hb, ← hab]; exact ha)⟩
            have hin2 : ∀ x ∈ out ++ [i], 0 ≤ x ∧ x < e.next.length := fun x hx => by
              rcases List.mem_append.1 hx with hx | hx
              · exact hin x hx
              · simp at hx; subst hx; exact hi0
            have hlen2 := nodup_len hnd2 hin2
            have hset := seenL_set (out := out) hi0
            simp only [List.length_append, List.length_cons, List.length_nil] at hlen2
            repeat ((conv => whnf); first | apply qza | apply qzb | apply qzc | apply qzd | apply qze | intro (_ : Nat) | intro (_ : Option Addr) (_ : Nat))
            conv => whnf
            refine ⟨hi0, ?_⟩
            repeat ((conv => whnf); first | apply qza | apply qzb | apply qzc | apply qzd | apply qze | intro (_ : Nat) | intro (_ : Option Addr) (_ : Nat))
            conv => whnf
            refine ⟨⟨by rw [seenL_len]; omega, by decide⟩, ?_⟩
            repeat ((conv => whnf); first | apply qza | apply qzb | apply qzc | apply qzd | apply qze | intro (_ : Nat) | intro (_ : Option Addr) (_ : Nat))
            conv => whnf
            refine ⟨fun hx => absurd hx (by simp; omega), fun _ => ?_⟩
            repeat ((conv => whnf); first | apply qza | apply qzb | apply qzc | apply qzd | apply qze | intro (_ : Nat) | intro (_ : Option Addr) (_ : Nat))
            conv => whnf
            refine ⟨fun hx => absurd hx (by simp; omega), fun _ => ?_⟩
            repeat ((conv => whnf); first | apply qza | apply qzb | apply qzc | apply qzd | apply qze | intro (_ : Nat) | intro (_ : Option Addr) (_ : Nat))
            conv => whnf
            refine ⟨⟨by unfold maxLen; omega, by omega⟩, fun oa2 cap2 => ?_⟩
            repeat ((conv => whnf); first | apply qza | apply qzb | apply qzc | apply qzd | apply qze | intro (_ : Nat) | intro (_ : Option Addr) (_ : Nat))
            conv => whnf
            refine ⟨a, rfl, hi0, ?_⟩
            conv => whnf
            refine ⟨_, hc 0 _ rfl, ?_⟩
            repeat ((conv => whnf); first | apply qza | apply qzb | apply qzc | apply qzd | apply qze | intro (_ : Nat) | intro (_ : Option Addr) (_ : Nat))
            conv => whnf
            refine fun fr w hw => ⟨(y, out ++ [i], oa2, cap2), rfl, ⟨hyr, hnd2, hin2, ?_⟩, by simp only [List.length_append, List.length_cons, List.length_nil]; omega, ?_⟩
            · rw [show e.next.length + 1 - out.length = (e.next.length + 1 - (out ++ [i]).length) + 1 by simp; omega] at hch
              simp only [chainL, if_neg hne, if_neg (show ¬ (i < 0 ∨ (e.next.length : Int) ≤ i ∨ i ∈ out) by rintro (h | h | h); omega; omega; exact h4' h)] at hch
              rw [← hch]
              unfold nxtL
              rw [hy]; rfl
            · have hset2 : List.take i.toNat (seenL e.next.length out) ++ Value.bool true :: List.drop (i.toNat + 1) (seenL e.next.length out) = seenL e.next.length (out ++ [i]) := by rw [← hset]; simp
              exact hw.fit (by simp [fitL, Res.eqv, concL, conc, hset2])
    · have hi1 : i = -1 := by simpa using h1
      subst hi1
      have hlen := nodup_len hnd hin
      rw [show e.next.length + 1 - out.length = (e.next.length - out.length) + 1 by omega] at hch
      simp only [chainL, if_true] at hch
      repeat ((conv => whnf); first | apply qza | apply qzb | apply qzc | apply qzd | apply qze | intro (_ : Nat) | intro (_ : Option Addr) (_ : Nat))
      conv => whnf
      refine ⟨fun h => (nomatch h), fun _ => ?_⟩
      conv => whnf
      refine ⟨fun _ => ?_, fun h => nomatch h⟩
      repeat ((conv => whnf); first | apply qza | apply qzb | apply qzc | apply qzd | apply qze | intro (_ : Nat) | intro (_ : Option Addr) (_ : Nat))
      conv => whnf
      refine fun g1 hg1 hn1 hp1 => ?_
      repeat ((conv => whnf); first | apply qza | apply qzb | apply qzc | apply qzd | apply qze | intro (_ : Nat) | intro (_ : Option Addr) (_ : Nat))
      conv => whnf
      intro g2 hg
      unfold FreeP
      rw [← hch]
      exact ⟨oX, cX, rfl, (rSl_of1 hp1.rd out (fun x => .int .i64 x) rfl fun x hx => ⟨rfl, by have := hin x hx; unfold InR; omega⟩).mono rInt_mono hg⟩)
theorem ok_sIsE (g : GW) {cs : List Value} {e : EndC} (he : rEn g cs e) : OkV Tryz.prog n_slots_Is [.agg ⟨cs⟩] g (.bool (endB e)) := by
  have he0 := he
  obtain ⟨⟨n, rfl, hH, hA, hN⟩, hsz⟩ := he
  obtain ⟨oa, ca, rfl, a1, a2, a0, hr⟩ := id hN
  exact Ok.of_fn hm noT 0 t_slots_Is (args := [.v (.agg ⟨[.int .u64 e.head, .slice oa e.next.length ca, .int .i64 e.active]⟩)]) (by
    repeat ((conv => whnf); first | apply qza | apply qzb | apply qzc | apply qzd | apply qze | intro (_ : Nat) | intro (_ : Option Addr) (_ : Nat))
    refine .inr ((ok_sFree _ he0).mono fun v g1 hg1 hF => ?_)
    unfold FreeP at hF
    unfold endB
    cases hf : freeL e with
    | none =>
      rw [hf] at hF
      subst hF
      repeat ((conv => whnf); first | apply qza | apply qzb | apply qzc | apply qzd | apply qze | intro (_ : Nat) | intro (_ : Option Addr) (_ : Nat))
      conv => whnf
      refine ⟨fun h => (nomatch h), fun _ => ?_⟩
      repeat ((conv => whnf); first | apply qza | apply qzb | apply qzc | apply qzd | apply qze | intro (_ : Nat) | intro (_ : Option Addr) (_ : Nat))
      conv => whnf
      intro g2 hg
      rfl
    | some l =>
      rw [hf] at hF
      obtain ⟨oX, cX, rfl, _⟩ := hF
      repeat ((conv => whnf); first | apply qza | apply qzb | apply qzc | apply qzd | apply qze | intro (_ : Nat) | intro (_ : Option Addr) (_ : Nat))
      conv => whnf
      refine ⟨fun _ => ?_, fun h => nomatch h⟩
      repeat ((conv => whnf); first | apply qza | apply qzb | apply qzc | apply qzd | apply qze | intro (_ : Nat) | intro (_ : Option Addr) (_ : Nat))
      conv => whnf
      refine ⟨fun h1 => ?_, fun h1 => ?_⟩
      · repeat ((conv => whnf); first | apply qza | apply qzb | apply qzc | apply qzd | apply qze | intro (_ : Nat) | intro (_ : Option Addr) (_ : Nat))
        conv => whnf
        refine ⟨fun h2 => ?_, fun h2 => ?_⟩
        · repeat ((conv => whnf); first | apply qza | apply qzb | apply qzc | apply qzd | apply qze | intro (_ : Nat) | intro (_ : Option Addr) (_ : Nat))
          conv => whnf
          intro g2 hg
          have k1 := of_decide_eq_true h1
          have k2 := of_decide_eq_true h2
          rw [decide_eq_true (show 1 ≤ e.next.length by omega), decide_eq_true (show e.next.length ≤ 4 by omega)]; rfl
        · repeat ((conv => whnf); first | apply qza | apply qzb | apply qzc | apply qzd | apply qze | intro (_ : Nat) | intro (_ : Option Addr) (_ : Nat))
          conv => whnf
          intro g2 hg
          have k2 := of_decide_eq_false h2
          rw [decide_eq_false (show ¬ e.next.length ≤ 4 by omega)]; simp
      · repeat ((conv => whnf); first | apply qza | apply qzb | apply qzc | apply qzd | apply qze | intro (_ : Nat) | intro (_ : Option Addr) (_ : Nat))
        conv => whnf
        intro g2 hg
        have k1 := of_decide_eq_false h1
        rw [decide_eq_false (show ¬ 1 ≤ e.next.length by omega)]; simp)
end Go.Proofs.YtkkhdnddplkobaaGreat


/- Worlds: limbo, listeners, counts: are they right? -/
namespace Go.Proofs.YtkkhdnddplkobaaGreat
open Go.Proofs.YtkkhdnddplkobaaGreat.Sx Go.RowKit
def tPl : List (Nat × FnI) := [(n_slices_IndexFunc___api_Listen_api_Listen, f_slices_IndexFunc___api_Listen_api_Listen), (n_gates_Place_1, f_gates_Place_1)]
theorem tPl_ok : TblOk Tryz.prog tPl := by
  intro x hx
  simp only [tPl, List.mem_cons, List.not_mem_nil, or_false] at hx
  rcases hx with rfl | rfl
  · exact ⟨_, _, t_slices_IndexFunc___api_Listen_api_Listen⟩
  · exact ⟨_, _, t_gates_Place_1⟩
theorem ok_gPlace (g : GW) {v : Value} {l : List Listen} (hl : rSl 4 rListen g v l) (s : BA) : OkV Tryz.prog n_gates_Place [v, .string s] g (.int .i64 (placeL l s)) :=
  Ok.of_fn hm tPl_ok 2 t_gates_Place (args := [.v v, .v (.string s)]) (by
    obtain ⟨oa, cap, rfl, h1, h2, h0, hr⟩ := hl
    repeat ((conv => whnf); first | apply qza | apply qzb | apply qzc | apply qzd | apply qze | intro (_ : Nat) | intro (_ : Option Addr) (_ : Nat))
    conv => whnf
    refine ⟨Nat, fun k => [.v (.int .i64 k)], fun k => ⟨g, [.blk 0 _ _ [.v (.string s)]], _, _⟩, fun k => k ≤ l.length ∧ Pass (idxF fun (x : Listen) => bs x.name == bs s) l k, fun k => l.length - k, loop_here 0 rfl ⟨Nat.zero_le _, Pass.zero _ _⟩ rfl, ?_⟩
    rintro k ⟨hk, hp⟩
    conv => whnf
    refine ⟨fun hlt => ?_, fun hlt => ?_⟩
    · have h' : k < l.length := by have := of_decide_eq_true hlt; omega
      obtain ⟨x, hx⟩ := getL_of h'
      obtain ⟨a, rfl, ec, hec, ⟨rfl, _⟩, hc⟩ := hr k x hx
      conv => whnf
      refine ⟨a, rfl, ⟨by omega, by omega⟩, ?_⟩
      conv => whnf
      refine ⟨_, ⟨rfl, hc⟩, ?_⟩
      conv => whnf
      refine ⟨k_gates_Place_1, ?_⟩
      repeat ((conv => whnf); first | apply qza | apply qzb | apply qzc | apply qzd | apply qze | intro (_ : Nat) | intro (_ : Option Addr) (_ : Nat))
      conv => whnf
      refine ⟨fun he => ?_, fun he => ?_⟩
      · conv => whnf
        intro g2 hg
        rw [placeL, idxO_hit hp hx he]
      · conv => whnf
        refine fun fr w hw => ⟨k + 1, congrArg (fun z => [Value.int .i64 z]) (wr1 h' h1 h2).symm, ⟨h', idx_next hp hx he⟩, dec h', ?_⟩
        exact hw.fit (by simp [fitL, Res.eqv, concL, conc])
    · conv => whnf
      intro g2 hg
      have := of_decide_eq_false hlt
      rw [placeL, idxO_miss hp (by omega)])
theorem ok_rPlace (g : GW) {v : Value} {l : List Listen} (hl : rSl 4 rListen g v l) (s : BA) : OkV Tryz.prog n_hydrantref17_Place [v, .string s] g (.int .i64 (placeL l s)) :=
  Ok.of_fn hm noT 0 t_hydrantref17_Place (args := [.v v, .v (.string s)]) (by
    obtain ⟨oa, cap, rfl, h1, h2, h0, hr⟩ := hl
    repeat ((conv => whnf); first | apply qza | apply qzb | apply qzc | apply qzd | apply qze | intro (_ : Nat) | intro (_ : Option Addr) (_ : Nat))
    conv => whnf
    refine ⟨Nat, fun k => [.v (.int .i64 k)], fun k => ⟨g, [], _, _⟩, fun k => k ≤ l.length ∧ Pass (idxF fun (x : Listen) => bs x.name == bs s) l k, fun k => l.length - k, loop_here 0 rfl ⟨Nat.zero_le _, Pass.zero _ _⟩ rfl, ?_⟩
    rintro k ⟨hk, hp⟩
    repeat ((conv => whnf); first | apply qza | apply qzb | apply qzc | apply qzd | apply qze | intro (_ : Nat) | intro (_ : Option Addr) (_ : Nat))
    conv => whnf
    refine ⟨fun hlt => ?_, fun hlt => ?_⟩
    · have h' : k < l.length := by have := of_decide_eq_true hlt; omega
      obtain ⟨x, hx⟩ := getL_of h'
      obtain ⟨a, rfl, ec, hec, ⟨rfl, _⟩, hc⟩ := hr k x hx
      repeat ((conv => whnf); first | apply qza | apply qzb | apply qzc | apply qzd | apply qze | intro (_ : Nat) | intro (_ : Option Addr) (_ : Nat))
      conv => whnf
      refine ⟨a, rfl, ⟨by omega, by omega⟩, ?_⟩
      conv => whnf
      refine ⟨_, hc 0 _ rfl, ?_⟩
      repeat ((conv => whnf); first | apply qza | apply qzb | apply qzc | apply qzd | apply qze | intro (_ : Nat) | intro (_ : Option Addr) (_ : Nat))
      conv => whnf
      refine ⟨fun he => ?_, fun he => ?_⟩
      · repeat ((conv => whnf); first | apply qza | apply qzb | apply qzc | apply qzd | apply qze | intro (_ : Nat) | intro (_ : Option Addr) (_ : Nat))
        conv => whnf
        intro g2 hg
        rw [placeL, idxO_hit hp hx he]
      · repeat ((conv => whnf); first | apply qza | apply qzb | apply qzc | apply qzd | apply qze | intro (_ : Nat) | intro (_ : Option Addr) (_ : Nat))
        conv => whnf
        refine fun fr w hw => ⟨k + 1, congrArg (fun z => [Value.int .i64 z]) (wr1 h' h1 h2).symm, ⟨h', idx_next hp hx he⟩, dec h', ?_⟩
        exact hw.fit (by simp [fitL, Res.eqv, concL, conc])
    · repeat ((conv => whnf); first | apply qza | apply qzb | apply qzc | apply qzd | apply qze | intro (_ : Nat) | intro (_ : Option Addr) (_ : Nat))
      conv => whnf
      intro g2 hg
      have := of_decide_eq_false hlt
      rw [placeL, idxO_miss hp (by omega)])
theorem ok_gIs (g : GW) {cs : List Value} {x : Listen} (hx : rListen g cs x) : OkV Tryz.prog n_gates_Is [.agg ⟨cs⟩] g (.bool (gateB x)) := by
  obtain ⟨rfl, hA⟩ := hx
  exact Ok.of_fn hm noT 0 t_gates_Is (args := [.v (.agg ⟨[.string x.name, .bool x.drain, .int .i64 x.active, .bool x.closed]⟩)]) (by
    repeat ((conv => whnf); first | apply qza | apply qzb | apply qzc | apply qzd | apply qze | intro (_ : Nat) | intro (_ : Option Addr) (_ : Nat))
    repeat' ((conv => whnf); first | apply qza | apply qzb | apply qzc | apply qzd | apply qze | intro (_ : Nat) | intro (_ : Option Addr) (_ : Nat) | refine .inl ⟨_, ok_Name _ _, ?_⟩ | refine ⟨fun _ => ?_, fun _ => ?_⟩ | fail)
    all_goals (conv => whnf)
    all_goals (intro g2 hg)
    all_goals (unfold gateB; simp_all; try (intros; omega)))
theorem shardB_bad {c : List (List Int)} {r : List Int} (hr : r ∈ c) (h : r.length ≠ 6) : shardB c = false := by
  unfold shardB
  rw [show (c.all fun r => decide (r.length = 6)) = false from List.all_eq_false.2 ⟨r, hr, by simpa using h⟩]; rfl
theorem ok_hIs (g : GW) {v : Value} {l : List (List Int)} (hl : rSl 1 rRow g v l) : OkV Tryz.prog n_shard_Is [v] g (.bool (shardB l)) :=
  Ok.of_fn hm noT 0 t_shard_Is (args := [.v v]) (by
    obtain ⟨oa, cap, rfl, h1, h2, h0, hr⟩ := hl
    repeat ((conv => whnf); first | apply qza | apply qzb | apply qzc | apply qzd | apply qze | intro (_ : Nat) | intro (_ : Option Addr) (_ : Nat))
    conv => whnf
    refine ⟨Nat, fun k => [.v (.int .i64 k)], fun k => ⟨g, [], _, _⟩, fun k => k ≤ l.length ∧ (l.take k).all (fun r => decide (r.length = 6)) = true, fun k => l.length - k, loop_here 0 rfl ⟨Nat.zero_le _, by simp⟩ rfl, ?_⟩
    rintro k ⟨hk, hp⟩
    repeat ((conv => whnf); first | apply qza | apply qzb | apply qzc | apply qzd | apply qze | intro (_ : Nat) | intro (_ : Option Addr) (_ : Nat))
    conv => whnf
    refine ⟨fun hlt => ?_, fun hlt => ?_⟩
    · have h' : k < l.length := by have := of_decide_eq_true hlt; omega
      obtain ⟨x, hx⟩ := getL_of h'
      obtain ⟨a, rfl, ec, hec, ⟨n, rfl, hn⟩, hc⟩ := hr k x hx
      obtain ⟨ox, cx, rfl, x1, x2, x0, hx1⟩ := id hn
      repeat ((conv => whnf); first | apply qza | apply qzb | apply qzc | apply qzd | apply qze | intro (_ : Nat) | intro (_ : Option Addr) (_ : Nat))
      conv => whnf
      refine ⟨a, rfl, ⟨by omega, by omega⟩, ?_⟩
      conv => whnf
      refine ⟨_, hc 0 _ rfl, ?_⟩
      repeat ((conv => whnf); first | apply qza | apply qzb | apply qzc | apply qzd | apply qze | intro (_ : Nat) | intro (_ : Option Addr) (_ : Nat))
      conv => whnf
      refine ⟨fun he => ?_, fun he => ?_⟩
      · repeat ((conv => whnf); first | apply qza | apply qzb | apply qzc | apply qzd | apply qze | intro (_ : Nat) | intro (_ : Option Addr) (_ : Nat))
        conv => whnf
        intro g2 hg
        rw [shardB_bad (List.mem_of_getElem? hx) (by have : ((x.length : Int) ≠ 6) := by simpa using he
                                                     omega)]
      · repeat ((conv => whnf); first | apply qza | apply qzb | apply qzc | apply qzd | apply qze | intro (_ : Nat) | intro (_ : Option Addr) (_ : Nat))
        conv => whnf
        refine fun fr w hw => ⟨k + 1, congrArg (fun z => [Value.int .i64 z]) (wr1 h' h1 h2).symm, ⟨h', ?_⟩, dec h', hw⟩
        obtain ⟨c1, c2⟩ := List.getElem?_eq_some_iff.1 hx
        rw [all_take c1, hp, c2]
        have : (x.length : Int) = 6 := by simpa using he
        simp; omega
    · have hkL := of_decide_eq_false hlt
      rw [List.take_of_length_le (by omega)] at hp
      repeat ((conv => whnf); first | apply qza | apply qzb | apply qzc | apply qzd | apply qze | intro (_ : Nat) | intro (_ : Option Addr) (_ : Nat))
      conv => whnf
      refine ⟨fun hz => ?_, fun hz => ?_⟩
      · repeat ((conv => whnf); first | apply qza | apply qzb | apply qzc | apply qzd | apply qze | intro (_ : Nat) | intro (_ : Option Addr) (_ : Nat))
        conv => whnf
        intro g2 hg
        have := of_decide_eq_true hz
        unfold shardB
        rw [hp, decide_eq_true (show 1 ≤ l.length by omega)]; simp; omega
      · repeat ((conv => whnf); first | apply qza | apply qzb | apply qzc | apply qzd | apply qze | intro (_ : Nat) | intro (_ : Option Addr) (_ : Nat))
        conv => whnf
        intro g2 hg
        have := of_decide_eq_false hz
        unfold shardB
        rw [hp, decide_eq_false (show ¬ 1 ≤ l.length by omega)]; rfl)
end Go.Proofs.YtkkhdnddplkobaaGreat


/- Worlds: limbo: is it right? -/
namespace Go.Proofs.YtkkhdnddplkobaaGreat
open Go.Proofs.YtkkhdnddplkobaaGreat.Sx Go.RowKit
def tLh : List (Nat × FnI) := [(n_slices_ContainsFunc___api_Retired_api_Retired, f_slices_ContainsFunc___api_Retired_api_Retired), (n_slices_IndexFunc___api_Retired_api_Retired, f_slices_IndexFunc___api_Retired_api_Retired), (n_limbo_has_1, f_limbo_has_1)]
theorem tLh_ok : TblOk Tryz.prog tLh := by
  intro x hx
  simp only [tLh, List.mem_cons, List.not_mem_nil, or_false] at hx
  rcases hx with rfl | rfl | rfl
  · exact ⟨_, _, t_slices_ContainsFunc___api_Retired_api_Retired⟩
  · exact ⟨_, _, t_slices_IndexFunc___api_Retired_api_Retired⟩
  · exact ⟨_, _, t_limbo_has_1⟩
theorem ok_lHas (g : GW) {v : Value} {l : List Retired} (hl : rSl 3 rRetired g v l) (n : Int) : OkV Tryz.prog n_limbo_has [v, .int .i64 n] g (.bool (l.any fun r => r.version == n)) :=
  Ok.of_fn hm tLh_ok 3 t_limbo_has (args := [.v v, .v (.int .i64 n)]) (by
    obtain ⟨oa, cap, rfl, h1, h2, h0, hr⟩ := hl
    repeat ((conv => whnf); first | apply qza | apply qzb | apply qzc | apply qzd | apply qze | intro (_ : Nat) | intro (_ : Option Addr) (_ : Nat))
    conv => whnf
    refine ⟨Nat, fun k => [.v (.int .i64 k)], fun k => ⟨g, [.blk 0 _ _ [.v (.int .i64 n)]], _, _⟩, fun k => k ≤ l.length ∧ Pass (idxF fun (x : Retired) => x.version == n) l k, fun k => l.length - k, loop_here 0 rfl ⟨Nat.zero_le _, Pass.zero _ _⟩ rfl, ?_⟩
    rintro k ⟨hk, hp⟩
    conv => whnf
    refine ⟨fun hlt => ?_, fun hlt => ?_⟩
    · have h' : k < l.length := by have := of_decide_eq_true hlt; omega
      obtain ⟨x, hx⟩ := getL_of h'
      obtain ⟨a, rfl, ec, hec, ⟨rfl, _⟩, hc⟩ := hr k x hx
      conv => whnf
      refine ⟨a, rfl, ⟨by omega, by omega⟩, ?_⟩
      conv => whnf
      refine ⟨_, ⟨rfl, hc⟩, ?_⟩
      conv => whnf
      refine ⟨k_limbo_has_1, ?_⟩
      repeat ((conv => whnf); first | apply qza | apply qzb | apply qzc | apply qzd | apply qze | intro (_ : Nat) | intro (_ : Option Addr) (_ : Nat))
      conv => whnf
      refine ⟨fun he => ?_, fun he => ?_⟩
      · conv => whnf
        intro g2 hg
        have : (l.any fun r => r.version == n) = true := List.any_eq_true.2 ⟨x, List.mem_of_getElem? hx, he⟩
        rw [this]; simp
      · conv => whnf
        refine fun fr w hw => ⟨k + 1, congrArg (fun z => [Value.int .i64 z]) (wr1 h' h1 h2).symm, ⟨h', idx_next hp hx he⟩, dec h', ?_⟩
        exact hw.fit (by simp [fitL, Res.eqv, concL, conc])
    · conv => whnf
      intro g2 hg
      have := of_decide_eq_false hlt
      have h3 := idx_any (fun (x : Retired) => x.version == n) l
      rw [idxO_miss hp (by omega)] at h3
      rw [← h3])
theorem ok_lIs (g : GW) {v : Value} {l : List Retired} (hl : rSl 3 rRetired g v l) : OkV Tryz.prog n_limbo_Is [v] g (.bool (limboB l)) :=
  Ok.of_fn hm noT 0 t_limbo_Is (args := [.v v]) (by
    obtain ⟨oa, cap, rfl, h1, h2, h0, hr⟩ := id hl
    repeat ((conv => whnf); first | apply qza | apply qzb | apply qzc | apply qzd | apply qze | intro (_ : Nat) | intro (_ : Option Addr) (_ : Nat))
    conv => whnf
    refine ⟨Nat, fun k => [.v (.int .i64 k)], fun k => ⟨g, [], _, _⟩, fun k => k ≤ l.length ∧ AllK (retB l) l k, fun k => l.length - k, loop_here 0 rfl ⟨Nat.zero_le _, AllK.zero _ _⟩ rfl, ?_⟩
    rintro k ⟨hk, hp⟩
    conv => whnf
    refine ⟨fun hlt => ?_, fun hlt => ?_⟩
    · have h' : k < l.length := by have := of_decide_eq_true hlt; omega
      obtain ⟨x, hx⟩ := getL_of h'
      obtain ⟨a, rfl, ec, hec, ⟨rfl, _⟩, hc⟩ := hr k x hx
      repeat ((conv => whnf); first | apply qza | apply qzb | apply qzc | apply qzd | apply qze | intro (_ : Nat) | intro (_ : Option Addr) (_ : Nat))
      conv => whnf
      refine ⟨a, rfl, ⟨by omega, by omega⟩, ?_⟩
      conv => whnf
      refine ⟨_, ⟨rfl, hc⟩, ?_⟩
      repeat ((conv => whnf); first | apply qza | apply qzb | apply qzc | apply qzd | apply qze | intro (_ : Nat) | intro (_ : Option Addr) (_ : Nat))
      conv => whnf
      refine ⟨fun b1 => ?_, fun b1 => ?_⟩
      · repeat ((conv => whnf); first | apply qza | apply qzb | apply qzc | apply qzd | apply qze | intro (_ : Nat) | intro (_ : Option Addr) (_ : Nat))
        conv => whnf
        intro g2 hg
        have b1' := of_decide_eq_true b1
        exact congrArg Value.bool (allI_false hx (by unfold retB; rw [decide_eq_false (by omega)]; rfl)).symm
      · have b1' := of_decide_eq_false b1
        repeat ((conv => whnf); first | apply qza | apply qzb | apply qzc | apply qzd | apply qze | intro (_ : Nat) | intro (_ : Option Addr) (_ : Nat))
        conv => whnf
        refine ⟨fun b2 => ?_, fun b2 => ?_⟩
        · repeat ((conv => whnf); first | apply qza | apply qzb | apply qzc | apply qzd | apply qze | intro (_ : Nat) | intro (_ : Option Addr) (_ : Nat))
          conv => whnf
          intro g2 hg
          have b2' := of_decide_eq_true b2
          exact congrArg Value.bool (allI_false hx (by unfold retB; rw [decide_eq_false (show ¬ 0 ≤ x.at_ by omega)]; simp)).symm
        · have b2' := of_decide_eq_false b2
          repeat ((conv => whnf); first | apply qza | apply qzb | apply qzc | apply qzd | apply qze | intro (_ : Nat) | intro (_ : Option Addr) (_ : Nat))
          conv => whnf
          refine ⟨⟨by omega, by omega⟩, ?_⟩
          repeat ((conv => whnf); first | apply qza | apply qzb | apply qzc | apply qzd | apply qze | intro (_ : Nat) | intro (_ : Option Addr) (_ : Nat))
          conv => whnf
          refine .inl ⟨_, ok_lHas _ (rSl.take hl hk) _, ?_⟩
          repeat ((conv => whnf); first | apply qza | apply qzb | apply qzc | apply qzd | apply qze | intro (_ : Nat) | intro (_ : Option Addr) (_ : Nat))
          conv => whnf
          refine ⟨fun b3 => ?_, fun b3 => ?_⟩
          · repeat ((conv => whnf); first | apply qza | apply qzb | apply qzc | apply qzd | apply qze | intro (_ : Nat) | intro (_ : Option Addr) (_ : Nat))
            conv => whnf
            intro g2 hg
            exact congrArg Value.bool (allI_false hx (by unfold retB; rw [b3]; simp)).symm
          · repeat ((conv => whnf); first | apply qza | apply qzb | apply qzc | apply qzd | apply qze | intro (_ : Nat) | intro (_ : Option Addr) (_ : Nat))
            conv => whnf
            refine fun fr w hw => ⟨k + 1, congrArg (fun z => [Value.int .i64 z]) (wr1 h' h1 h2).symm, ⟨h', hp.succ hx ?_⟩, dec h', ?_⟩
            · unfold retB
              rw [b3, decide_eq_true (show 0 ≤ x.version by omega), decide_eq_true (show 0 ≤ x.at_ by omega)]; rfl
            · exact hw.fit (by simp [fitL, Res.eqv, concL, conc])
    · repeat ((conv => whnf); first | apply qza | apply qzb | apply qzc | apply qzd | apply qze | intro (_ : Nat) | intro (_ : Option Addr) (_ : Nat))
      conv => whnf
      intro g2 hg
      have := of_decide_eq_false hlt
      exact congrArg Value.bool (hp.done (by omega)).symm)
end Go.Proofs.YtkkhdnddplkobaaGreat


/- Worlds: versions: are they right? -/
namespace Go.Proofs.YtkkhdnddplkobaaGreat
open Go.Proofs.YtkkhdnddplkobaaGreat.Sx Go.RowKit
def tV : List (Nat × FnI) := [(n_slices_ContainsFunc___api_End_api_End, f_slices_ContainsFunc___api_End_api_End), (n_slices_IndexFunc___api_End_api_End, f_slices_IndexFunc___api_End_api_End), (n_world_version_1, f_world_version_1)]
theorem tV_ok : TblOk Tryz.prog tV := by
  intro x hx
  simp only [tV, List.mem_cons, List.not_mem_nil, or_false] at hx
  rcases hx with rfl | rfl | rfl
  · exact ⟨_, _, t_slices_ContainsFunc___api_End_api_End⟩
  · exact ⟨_, _, t_slices_IndexFunc___api_End_api_End⟩
  · exact ⟨_, _, t_world_version_1⟩
theorem versionB_f1 {v : Version} (h : eqB (checkE (confS v.snap)) none = false) : versionB v = false := by unfold versionB; rw [h]; rfl
theorem versionB_f2 {v : Version} (h : v.groups.length ≠ v.snap.clusters.length) : versionB v = false := by unfold versionB; rw [decide_eq_false h]; simp
theorem versionB_f3 {v : Version} {k : Nat} {x : Group} (hx : v.groups[k]? = some x) (h : groupB v.snap.clusters k x = false) : versionB v = false := by unfold versionB; rw [allI_false hx h]; simp
theorem versionB_t {v : Version} {k : Nat} (h1 : eqB (checkE (confS v.snap)) none = true) (h2 : v.groups.length = v.snap.clusters.length) (h : AllK (groupB v.snap.clusters) v.groups k) (hk : v.groups.length ≤ k) : versionB v = true := by
  unfold versionB; rw [h1, decide_eq_true h2, h.done hk]; rfl
theorem endOk_i {c : Cluster} {e : EndC} : endOkB c e = (endB e && decide ((e.next.length : Int) = c.slots)) := rfl
theorem ok_wVersion (g : GW) {cs : List Value} {x : Version} (hx : rVe g cs x) (hsn : SnS x.snap) : OkV Tryz.prog n_world_version [.agg ⟨cs⟩] g (.bool (versionB x)) := by
  obtain ⟨a, b, d, n, rfl, hS, hG⟩ := hx
  have hS0 := hS
  obtain ⟨_, _, _, he, hl, hr, hk⟩ := hS
  cases he
  obtain ⟨oa, ca, rfl, a1, a2, a0, hl1⟩ := id hl
  obtain ⟨ob, cb, rfl, b1, b2, b0, hr1⟩ := id hr
  obtain ⟨od, cd, rfl, d1, d2, d0, hk1⟩ := id hk
  obtain ⟨og, cg, rfl, g1, g2, g0, hG1⟩ := id hG
  exact Ok.of_fn hm tV_ok 3 t_world_version (args := [.v (.agg ⟨[.slice oa x.snap.listens.length ca, .slice ob x.snap.rules.length cb, .slice od x.snap.clusters.length cd, .slice og x.groups.length cg, .bool x.freed]⟩)]) (by
    repeat ((conv => whnf); first | apply qza | apply qzb | apply qzc | apply qzd | apply qze | intro (_ : Nat) | intro (_ : Option Addr) (_ : Nat))
    conv => whnf
    refine .inl ⟨_, ok_sIs _ hS0 hsn.1, ?_⟩
    repeat ((conv => whnf); first | apply qza | apply qzb | apply qzc | apply qzd | apply qze | intro (_ : Nat) | intro (_ : Option Addr) (_ : Nat))
    conv => whnf
    refine ⟨fun z1 => ?_, fun z1 => ?_⟩
    · repeat ((conv => whnf); first | apply qza | apply qzb | apply qzc | apply qzd | apply qze | intro (_ : Nat) | intro (_ : Option Addr) (_ : Nat))
      conv => whnf
      intro g2 hg
      rw [versionB_f1 (nb1 z1)]
    · have z1' := nb0 z1
      repeat ((conv => whnf); first | apply qza | apply qzb | apply qzc | apply qzd | apply qze | intro (_ : Nat) | intro (_ : Option Addr) (_ : Nat))
      conv => whnf
      refine ⟨fun z2 => ?_, fun z2 => ?_⟩
      · repeat ((conv => whnf); first | apply qza | apply qzb | apply qzc | apply qzd | apply qze | intro (_ : Nat) | intro (_ : Option Addr) (_ : Nat))
        conv => whnf
        intro g2 hg
        rw [versionB_f2 (nneT z2)]
      · have z2' : x.groups.length = x.snap.clusters.length := nneF z2
        repeat ((conv => whnf); first | apply qza | apply qzb | apply qzc | apply qzd | apply qze | intro (_ : Nat) | intro (_ : Option Addr) (_ : Nat))
        rename_i q0
        conv => whnf
        refine ⟨Nat, fun k => [.v (.int .i64 k)], fun k => ⟨g, [.blk 0 q0 ty_api_Version [.v (.slice oa x.snap.listens.length ca), .v (.slice ob x.snap.rules.length cb), .v (.slice od x.snap.clusters.length cd), .v (.slice og x.groups.length cg), .v (.bool x.freed)]], 10, g.w.heap.size⟩, fun k => k ≤ x.groups.length ∧ AllK (groupB x.snap.clusters) x.groups k, fun k => x.groups.length - k, fun fr w hw => ⟨0, rfl, ⟨Nat.zero_le _, AllK.zero _ _⟩, hw.fit (by simp [fitL, Res.eqv, concL, conc])⟩, ?_⟩
        rintro k ⟨hkk, hp⟩
        repeat ((conv => whnf); first | apply qza | apply qzb | apply qzc | apply qzd | apply qze | intro (_ : Nat) | intro (_ : Option Addr) (_ : Nat))
        conv => whnf
        refine ⟨fun hlt => ?_, fun hlt => ?_⟩
        · have h' : k < x.groups.length := by have := of_decide_eq_true hlt; omega
          obtain ⟨y, hy⟩ := getL_of h'
          obtain ⟨aG, rfl, ecG, hecG, ⟨nE, rfl, htk, hE⟩, hcG⟩ := hG1 k y hy
          obtain ⟨oe, ce, rfl, e1, e2, e0, hE1⟩ := id hE
          obtain ⟨c, hcK⟩ := getL_of (l := x.snap.clusters) (i := k) (by omega)
          obtain ⟨aC, rfl, ecC, hecC, ⟨vH, rfl, c1, c2, hH⟩, hcC⟩ := hk1 k c hcK
          obtain ⟨oh, ch, rfl, h1, h2, h0, hH1⟩ := id hH
          have hgB : groupB x.snap.clusters k y = (decide (y.ends.length = c.health.length) && y.ends.all (endOkB c)) := by unfold groupB; rw [hcK]
          repeat ((conv => whnf); first | apply qza | apply qzb | apply qzc | apply qzd | apply qze | intro (_ : Nat) | intro (_ : Option Addr) (_ : Nat))
          conv => whnf
          refine ⟨aG, rfl, ⟨by omega, by omega⟩, ?_⟩
          conv => whnf
          refine ⟨_, ⟨rfl, hcG⟩, ?_⟩
          repeat ((conv => whnf); first | apply qza | apply qzb | apply qzc | apply qzd | apply qze | intro (_ : Nat) | intro (_ : Option Addr) (_ : Nat))
          conv => whnf
          refine ⟨aC, rfl, ⟨by omega, by omega⟩, ?_⟩
          conv => whnf
          refine ⟨_, ⟨rfl, hcC⟩, ?_⟩
          repeat ((conv => whnf); first | apply qza | apply qzb | apply qzc | apply qzd | apply qze | intro (_ : Nat) | intro (_ : Option Addr) (_ : Nat))
          conv => whnf
          refine ⟨fun z3 => ?_, fun z3 => ?_⟩
          · repeat ((conv => whnf); first | apply qza | apply qzb | apply qzc | apply qzd | apply qze | intro (_ : Nat) | intro (_ : Option Addr) (_ : Nat))
            conv => whnf
            intro g2 hg
            refine congrArg Value.bool (versionB_f3 hy ?_).symm
            rw [hgB, decide_eq_false (nneT z3)]; rfl
          · have z3' : y.ends.length = c.health.length := nneF z3
            repeat ((conv => whnf); first | apply qza | apply qzb | apply qzc | apply qzd | apply qze | intro (_ : Nat) | intro (_ : Option Addr) (_ : Nat))
            rename_i q1 q2
            conv => whnf
            refine ⟨Nat, fun n => [.v (.int .i64 n)], fun n => ⟨g, [.blk 11 q2 ty_api_Cluster [.v (.string c.name), .v (.int .i64 c.policy), .v (.int .i64 c.slots), .v (.slice oh c.health.length ch)], .blk 10 q1 ty_api_Group [.v (.int .u64 y.ticket), .v (.slice oe y.ends.length ce)], .blk 0 q0 ty_api_Version [.v (.slice oa x.snap.listens.length ca), .v (.slice ob x.snap.rules.length cb), .v (.slice (some aC) x.snap.clusters.length cd), .v (.slice (some aG) x.groups.length cg), .v (.bool x.freed)]], 20, g.w.heap.size⟩, fun n => n ≤ y.ends.length ∧ (y.ends.take n).all (endOkB c) = true, fun n => y.ends.length - n, fun fr w hw => ⟨0, rfl, ⟨Nat.zero_le _, by simp⟩, hw.fit (by simp [fitL, Res.eqv, concL, conc])⟩, ?_⟩
            rintro n ⟨hn, hpn⟩
            repeat ((conv => whnf); first | apply qza | apply qzb | apply qzc | apply qzd | apply qze | intro (_ : Nat) | intro (_ : Option Addr) (_ : Nat))
            conv => whnf
            refine ⟨fun hln => ?_, fun hln => ?_⟩
            · have hn' : n < y.ends.length := by have := of_decide_eq_true hln; omega
              obtain ⟨e, hee⟩ := getL_of hn'
              obtain ⟨aE, rfl, ecE, hecE, heR, hcE⟩ := hE1 n e hee
              have heR0 := heR
              obtain ⟨⟨nx, rfl, u1, u2, hN⟩, u3⟩ := heR
              obtain ⟨oN, cN, rfl, n1, n2, n0, hN1⟩ := id hN
              obtain ⟨cc1, cc2⟩ := List.getElem?_eq_some_iff.1 hee
              repeat ((conv => whnf); first | apply qza | apply qzb | apply qzc | apply qzd | apply qze | intro (_ : Nat) | intro (_ : Option Addr) (_ : Nat))
              conv => whnf
              refine ⟨aE, rfl, ⟨by omega, by omega⟩, ?_⟩
              conv => whnf
              refine ⟨_, ⟨rfl, hcE⟩, ?_⟩
              repeat ((conv => whnf); first | apply qza | apply qzb | apply qzc | apply qzd | apply qze | intro (_ : Nat) | intro (_ : Option Addr) (_ : Nat))
              conv => whnf
              refine ⟨k_world_version_1, ?_⟩
              repeat ((conv => whnf); first | apply qza | apply qzb | apply qzc | apply qzd | apply qze | intro (_ : Nat) | intro (_ : Option Addr) (_ : Nat))
              conv => whnf
              refine .inl ⟨_, ok_sIsE _ heR0, ?_⟩
              repeat ((conv => whnf); first | apply qza | apply qzb | apply qzc | apply qzd | apply qze | intro (_ : Nat) | intro (_ : Option Addr) (_ : Nat))
              conv => whnf
              refine ⟨fun z4 => ?_, fun z4 => ?_⟩
              · repeat ((conv => whnf); first | apply qza | apply qzb | apply qzc | apply qzd | apply qze | intro (_ : Nat) | intro (_ : Option Addr) (_ : Nat))
                conv => whnf
                refine ⟨fun _ => ?_, fun hx => absurd (((decide_eq_true (show (0 : Int) ≤ (n : Int) by omega))).symm.trans hx) (by decide)⟩
                repeat ((conv => whnf); first | apply qza | apply qzb | apply qzc | apply qzd | apply qze | intro (_ : Nat) | intro (_ : Option Addr) (_ : Nat))
                conv => whnf
                intro g2 hg
                refine congrArg Value.bool (versionB_f3 hy ?_).symm
                rw [hgB, all_false cc1 (by rw [cc2, endOk_i, nb1 z4]; rfl)]; simp
              · repeat ((conv => whnf); first | apply qza | apply qzb | apply qzc | apply qzd | apply qze | intro (_ : Nat) | intro (_ : Option Addr) (_ : Nat))
                conv => whnf
                refine ⟨fun z5 => ?_, fun z5 => ?_⟩
                · repeat ((conv => whnf); first | apply qza | apply qzb | apply qzc | apply qzd | apply qze | intro (_ : Nat) | intro (_ : Option Addr) (_ : Nat))
                  conv => whnf
                  refine ⟨fun _ => ?_, fun hx => absurd (((decide_eq_true (show (0 : Int) ≤ (n : Int) by omega))).symm.trans hx) (by decide)⟩
                  repeat ((conv => whnf); first | apply qza | apply qzb | apply qzc | apply qzd | apply qze | intro (_ : Nat) | intro (_ : Option Addr) (_ : Nat))
                  conv => whnf
                  intro g2 hg
                  refine congrArg Value.bool (versionB_f3 hy ?_).symm
                  rw [hgB, all_false cc1 (by rw [cc2, endOk_i, decide_eq_false (bneT z5)]; simp)]; simp
                · repeat ((conv => whnf); first | apply qza | apply qzb | apply qzc | apply qzd | apply qze | intro (_ : Nat) | intro (_ : Option Addr) (_ : Nat))
                  conv => whnf
                  refine fun fr w hw => ⟨n + 1, congrArg (fun z => [Value.int .i64 z]) (wr1 hn' e1 e2).symm, ⟨hn', by rw [all_take cc1, hpn, cc2, endOk_i, nb0 z4, decide_eq_true (bneF z5)]; rfl⟩, dec hn', ?_⟩
                  exact hw.fit (by simp [fitL, Res.eqv, concL, conc])
            · have hnL := of_decide_eq_false hln
              rw [List.take_of_length_le (by omega)] at hpn
              repeat ((conv => whnf); first | apply qza | apply qzb | apply qzc | apply qzd | apply qze | intro (_ : Nat) | intro (_ : Option Addr) (_ : Nat))
              conv => whnf
              refine ⟨fun h => (nomatch h), fun _ => ?_⟩
              repeat ((conv => whnf); first | apply qza | apply qzb | apply qzc | apply qzd | apply qze | intro (_ : Nat) | intro (_ : Option Addr) (_ : Nat))
              conv => whnf
              refine fun fr w hw => ⟨k + 1, congrArg (fun z => [Value.int .i64 z]) (wr1 h' g1 g2).symm, ⟨h', hp.succ hy (by rw [hgB, decide_eq_true z3', hpn]; rfl)⟩, dec h', ?_⟩
              exact hw.fit (by simp [fitL, Res.eqv, concL, conc])
        · repeat ((conv => whnf); first | apply qza | apply qzb | apply qzc | apply qzd | apply qze | intro (_ : Nat) | intro (_ : Option Addr) (_ : Nat))
          conv => whnf
          intro g2 hg
          have := of_decide_eq_false hlt
          rw [versionB_t z1' z2' hp (by omega)])
end Go.Proofs.YtkkhdnddplkobaaGreat


/- Worlds: versions: are they right? The document's answer. -/
namespace Go.Proofs.YtkkhdnddplkobaaGreat
open Go.Proofs.YtkkhdnddplkobaaGreat.Sx Go.RowKit
end Go.Proofs.YtkkhdnddplkobaaGreat


/- Worlds: is one right? The program's answer. -/
namespace Go.Proofs.YtkkhdnddplkobaaGreat
open Go.Proofs.YtkkhdnddplkobaaGreat.Sx Go.RowKit
def tGr : List (Nat × FnI) := [(n_slices_ContainsFunc___int_int, f_slices_ContainsFunc___int_int), (n_slices_IndexFunc___int_int, f_slices_IndexFunc___int_int), (n_world_ground_1, f_world_ground_1)]
theorem tGr_ok : TblOk Tryz.prog tGr := by
  intro x hx
  simp only [tGr, List.mem_cons, List.not_mem_nil, or_false] at hx
  rcases hx with rfl | rfl | rfl
  · exact ⟨_, _, t_slices_ContainsFunc___int_int⟩
  · exact ⟨_, _, t_slices_IndexFunc___int_int⟩
  · exact ⟨_, _, t_world_ground_1⟩
def GrP (w : Wd) : Prop := 1 ≤ w.pins.length ∧ w.pins.length ≤ 8 ∧ w.counts.length = w.pins.length ∧ shardB w.counts = true ∧ 0 ≤ w.epoch ∧ w.epoch ≤ 1000000000000 ∧ (w.lock = 0 ∨ w.lock = 1)
def pinOk (w : Wd) (p : Int) : Bool := decide (0 ≤ p) && decide (p ≤ w.epoch + 1)
theorem groundB_iff {w : Wd} : groundB w = true ↔ GrP w ∧ w.pins.all (pinOk w) = true := by
  unfold groundB GrP pinOk
  simp only [Bool.and_eq_true, decide_eq_true_eq]
  constructor
  · rintro ⟨⟨⟨⟨⟨⟨⟨h1, h2⟩, h3⟩, h4⟩, h5⟩, h6⟩, h7⟩, h8⟩
    exact ⟨⟨h1, h2, h3, h4, h5, h6, h7⟩, h8⟩
  · rintro ⟨⟨h1, h2, h3, h4, h5, h6, h7⟩, h8⟩
    exact ⟨⟨⟨⟨⟨⟨⟨h1, h2⟩, h3⟩, h4⟩, h5⟩, h6⟩, h7⟩, h8⟩
theorem groundB_f {w : Wd} (h : ¬ GrP w) : groundB w = false := by
  rw [Bool.eq_false_iff]; intro hh; exact h (groundB_iff.1 hh).1
theorem groundB_g {w : Wd} (h : w.pins.all (pinOk w) = false) : groundB w = false := by
  rw [Bool.eq_false_iff]; intro hh; rw [(groundB_iff.1 hh).2] at h; cases h
theorem ok_ground (g : GW) {cs : List Value} {w : Wd} (hw : rWo g cs w) : OkV Tryz.prog n_world_ground [.agg ⟨cs⟩] g (.bool (groundB w)) := by
  obtain ⟨a, b, c, d, e, rfl, ⟨i1, i2, i3⟩, hP, hV, hL, hC, hR⟩ := hw
  obtain ⟨oa, ca, rfl, a1, a2, a0, hP1⟩ := id hP
  obtain ⟨ob, cb, rfl, b1, b2, b0, hV1⟩ := id hV
  obtain ⟨oc, cc, rfl, c1, c2, c0, hL1⟩ := id hL
  obtain ⟨od, cd, rfl, d1, d2, d0, hC1⟩ := id hC
  obtain ⟨oe, ce, rfl, e1, e2, e0, hR1⟩ := id hR
  exact Ok.of_fn hm tGr_ok 3 t_world_ground (args := [.v (.agg ⟨[.int .i64 w.epoch, .int .i64 w.current, .int .i64 w.lock, .slice oa w.pins.length ca, .slice ob w.versions.length cb, .slice oc w.listens.length cc, .slice od w.counts.length cd, .slice oe w.limbo.length ce]⟩)]) (by
    repeat ((conv => whnf); first | apply qza | apply qzb | apply qzc | apply qzd | apply qze | intro (_ : Nat) | intro (_ : Option Addr) (_ : Nat))
    conv => whnf
    refine ⟨fun z1 => ?_, fun z1 => ?_⟩
    · repeat ((conv => whnf); first | apply qza | apply qzb | apply qzc | apply qzd | apply qze | intro (_ : Nat) | intro (_ : Option Addr) (_ : Nat))
      conv => whnf
      intro g2 hg
      rw [groundB_f fun h => by have := of_decide_eq_true z1; have := h.1; omega]
    repeat ((conv => whnf); first | apply qza | apply qzb | apply qzc | apply qzd | apply qze | intro (_ : Nat) | intro (_ : Option Addr) (_ : Nat))
    conv => whnf
    refine ⟨fun z2 => ?_, fun z2 => ?_⟩
    · repeat ((conv => whnf); first | apply qza | apply qzb | apply qzc | apply qzd | apply qze | intro (_ : Nat) | intro (_ : Option Addr) (_ : Nat))
      conv => whnf
      intro g2 hg
      rw [groundB_f fun h => by have := of_decide_eq_true z2; have := h.2.1; omega]
    repeat ((conv => whnf); first | apply qza | apply qzb | apply qzc | apply qzd | apply qze | intro (_ : Nat) | intro (_ : Option Addr) (_ : Nat))
    conv => whnf
    refine ⟨fun z3 => ?_, fun z3 => ?_⟩
    · repeat ((conv => whnf); first | apply qza | apply qzb | apply qzc | apply qzd | apply qze | intro (_ : Nat) | intro (_ : Option Addr) (_ : Nat))
      conv => whnf
      intro g2 hg
      rw [groundB_f fun h => nneT z3 h.2.2.1]
    repeat ((conv => whnf); first | apply qza | apply qzb | apply qzc | apply qzd | apply qze | intro (_ : Nat) | intro (_ : Option Addr) (_ : Nat))
    conv => whnf
    refine .inl ⟨_, ok_hIs _ hC, ?_⟩
    repeat ((conv => whnf); first | apply qza | apply qzb | apply qzc | apply qzd | apply qze | intro (_ : Nat) | intro (_ : Option Addr) (_ : Nat))
    conv => whnf
    refine ⟨fun z4 => ?_, fun z4 => ?_⟩
    · repeat ((conv => whnf); first | apply qza | apply qzb | apply qzc | apply qzd | apply qze | intro (_ : Nat) | intro (_ : Option Addr) (_ : Nat))
      conv => whnf
      intro g2 hg
      rw [groundB_f fun h => by rw [h.2.2.2.1] at z4; cases z4]
    repeat ((conv => whnf); first | apply qza | apply qzb | apply qzc | apply qzd | apply qze | intro (_ : Nat) | intro (_ : Option Addr) (_ : Nat))
    conv => whnf
    refine ⟨fun z5 => ?_, fun z5 => ?_⟩
    · repeat ((conv => whnf); first | apply qza | apply qzb | apply qzc | apply qzd | apply qze | intro (_ : Nat) | intro (_ : Option Addr) (_ : Nat))
      conv => whnf
      intro g2 hg
      rw [groundB_f fun h => by have := of_decide_eq_true z5; have := h.2.2.2.2.1; omega]
    repeat ((conv => whnf); first | apply qza | apply qzb | apply qzc | apply qzd | apply qze | intro (_ : Nat) | intro (_ : Option Addr) (_ : Nat))
    conv => whnf
    refine ⟨fun z6 => ?_, fun z6 => ?_⟩
    · repeat ((conv => whnf); first | apply qza | apply qzb | apply qzc | apply qzd | apply qze | intro (_ : Nat) | intro (_ : Option Addr) (_ : Nat))
      conv => whnf
      intro g2 hg
      rw [groundB_f fun h => by have := of_decide_eq_true z6; have := h.2.2.2.2.2.1; omega]
    repeat ((conv => whnf); first | apply qza | apply qzb | apply qzc | apply qzd | apply qze | intro (_ : Nat) | intro (_ : Option Addr) (_ : Nat))
    have k1 := of_decide_eq_false z1
    have k2 := of_decide_eq_false z2
    have k3 := nneF z3
    have k4 := nb0 z4
    have k5 := of_decide_eq_false z5
    have k6 := of_decide_eq_false z6
    clear z1 z2 z3 z4 z5 z6
    conv => whnf
    refine ⟨fun z7 => ?_, fun z7 => ?_⟩
    case' refine_1 =>
      have z7' := bneT z7
      repeat ((conv => whnf); first | apply qza | apply qzb | apply qzc | apply qzd | apply qze | intro (_ : Nat) | intro (_ : Option Addr) (_ : Nat))
      conv => whnf
      refine ⟨fun z8 => ?_, fun z8 => ?_⟩
      case' refine_1 =>
        have z8' := bneT z8
        repeat ((conv => whnf); first | apply qza | apply qzb | apply qzc | apply qzd | apply qze | intro (_ : Nat) | intro (_ : Option Addr) (_ : Nat))
        conv => whnf
        intro g2 hg
        rw [groundB_f fun h => by rcases h.2.2.2.2.2.2 with h | h; exact z7' h; exact z8' h]
      have hlk : w.lock = 0 ∨ w.lock = 1 := .inr (bneF z8)
      clear z7 z8 z7'
    case' refine_2 =>
      have hlk : w.lock = 0 ∨ w.lock = 1 := .inl (bneF z7)
      clear z7
    all_goals
      have hGr : GrP w := ⟨by omega, by omega, k3, k4, by omega, by omega, hlk⟩
      repeat ((conv => whnf); first | apply qza | apply qzb | apply qzc | apply qzd | apply qze | intro (_ : Nat) | intro (_ : Option Addr) (_ : Nat))
      conv => whnf
      refine ⟨Nat, fun k => [.v (.int .i64 k)], fun _ => ⟨g, _, _, _⟩, fun k => k ≤ w.pins.length ∧ (w.pins.take k).all (pinOk w) = true, fun k => w.pins.length - k, loop_here 0 rfl ⟨Nat.zero_le _, by simp⟩ rfl, ?_⟩
      rintro k ⟨hk, hp⟩
      repeat ((conv => whnf); first | apply qza | apply qzb | apply qzc | apply qzd | apply qze | intro (_ : Nat) | intro (_ : Option Addr) (_ : Nat))
      conv => whnf
      refine ⟨fun hlt => ?_, fun hlt => ?_⟩
      case' refine_1 =>
        have h' : k < w.pins.length := by have := of_decide_eq_true hlt; omega
        obtain ⟨x, hx⟩ := getL_of h'
        obtain ⟨a, rfl, ec, hec, ⟨rfl, hxr⟩, hc⟩ := hP1 k x hx
        obtain ⟨c1', c2'⟩ := List.getElem?_eq_some_iff.1 hx
        have hT : (w.pins.take (k + 1)).all (pinOk w) = pinOk w x := by rw [all_take c1', hp, c2']; rfl
        repeat ((conv => whnf); first | apply qza | apply qzb | apply qzc | apply qzd | apply qze | intro (_ : Nat) | intro (_ : Option Addr) (_ : Nat))
        conv => whnf
        refine ⟨a, rfl, ⟨by omega, by omega⟩, ?_⟩
        conv => whnf
        refine ⟨_, hc 0 _ rfl, ?_⟩
        repeat ((conv => whnf); first | apply qza | apply qzb | apply qzc | apply qzd | apply qze | intro (_ : Nat) | intro (_ : Option Addr) (_ : Nat))
        conv => whnf
        refine ⟨k_world_ground_1, ?_⟩
        repeat ((conv => whnf); first | apply qza | apply qzb | apply qzc | apply qzd | apply qze | intro (_ : Nat) | intro (_ : Option Addr) (_ : Nat))
        conv => whnf
        refine ⟨fun y1 => ?_, fun y1 => ?_⟩
        case' refine_1 =>
          repeat ((conv => whnf); first | apply qza | apply qzb | apply qzc | apply qzd | apply qze | intro (_ : Nat) | intro (_ : Option Addr) (_ : Nat))
          conv => whnf
          intro g2 hg
          rw [decide_eq_true (show (0 : Int) ≤ (k : Int) by omega)]
          have y1' := of_decide_eq_true y1
          rw [groundB_g (all_false c1' (by rw [c2']; unfold pinOk; rw [decide_eq_false (by omega)]; rfl))]; rfl
        have y1' := of_decide_eq_false y1
        repeat ((conv => whnf); first | apply qza | apply qzb | apply qzc | apply qzd | apply qze | intro (_ : Nat) | intro (_ : Option Addr) (_ : Nat))
        conv => whnf
        refine ⟨fun y2 => ?_, fun y2 => ?_⟩
        case' refine_1 =>
          repeat ((conv => whnf); first | apply qza | apply qzb | apply qzc | apply qzd | apply qze | intro (_ : Nat) | intro (_ : Option Addr) (_ : Nat))
          conv => whnf
          intro g2 hg
          rw [decide_eq_true (show (0 : Int) ≤ (k : Int) by omega)]
          have y2' := of_decide_eq_true y2
          rw [wr (by unfold InR; omega)] at y2'
          rw [groundB_g (all_false c1' (by rw [c2']; unfold pinOk; rw [decide_eq_false (show ¬ x ≤ w.epoch + 1 by omega)]; simp))]; rfl
        have y2' := of_decide_eq_false y2
        rw [wr (by unfold InR; omega)] at y2'
        repeat ((conv => whnf); first | apply qza | apply qzb | apply qzc | apply qzd | apply qze | intro (_ : Nat) | intro (_ : Option Addr) (_ : Nat))
        conv => whnf
        refine fun fr w' hw => ⟨k + 1, congrArg (fun z => [Value.int .i64 z]) (wr1 h' a1 a2).symm, ⟨h', by rw [hT]; unfold pinOk; rw [decide_eq_true (show 0 ≤ x by omega), decide_eq_true (show x ≤ w.epoch + 1 by omega)]; rfl⟩, dec h', ?_⟩
        exact hw.fit (by simp [fitL, Res.eqv, concL, conc])
      have := of_decide_eq_false hlt
      rw [List.take_of_length_le (by omega)] at hp
      repeat ((conv => whnf); first | apply qza | apply qzb | apply qzc | apply qzd | apply qze | intro (_ : Nat) | intro (_ : Option Addr) (_ : Nat))
      conv => whnf
      intro g2 hg
      rw [groundB_iff.2 ⟨hGr, hp⟩]; rfl)
end Go.Proofs.YtkkhdnddplkobaaGreat

