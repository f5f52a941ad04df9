/- Slots: words with tags; which ones are free. -/
import Derived.Test.YtjaeeadfmnokeaaGreatLB1
import Derived.Test.YtjaeeadfmnokeaaGreatPl
namespace Go.Proofs.YtjaeeadfmnokeaaGreat
open Go.Proofs.YtjaeeadfmnokeaaGreat.Sx Go.RowKit
theorem wrap32 {w : Int} (hw : InU w) : IntKind.u32.wrap w = w % 4294967296 := by
  rw [IntKind.wrap_u32]
theorem idx_wr {w : Int} : InR (w % 4294967296) ∧ InR (w % 4294967296 - 1) := by
  have h1 := Int.emod_nonneg w (show (4294967296 : Int) ≠ 0 by decide)
  have h2 := Int.emod_lt_of_pos w (show (0 : Int) < 4294967296 by decide)
  unfold InR; omega
theorem ok_tIdx (g : GW) {w : Int} (hw : InU w) : OkV Tryz.prog n_tag_Index [.int .u64 w] g (.int .i64 (idxT w)) :=
  Ok.of_fn hm noT 0 t_tag_Index (args := [.v (.int .u64 w)]) (by
    repeat ((conv => whnf); first | apply qza | apply qzb | apply qzc | apply qzd | apply qze | intro (_ : Nat) | intro (_ : Option Addr) (_ : Nat))
    conv => whnf
    intro g2 hg
    rw [wrap32 hw, wr idx_wr.1, show w % 4294967296 + -1 = w % 4294967296 - 1 from rfl, wr idx_wr.2]; rfl)
theorem ok_rIdx (g : GW) {w : Int} (hw : InU w) : OkV Tryz.prog n_hydrantref01_Index [.int .u64 w] g (.int .i64 (idxT w)) :=
  Ok.of_fn hm noT 0 t_hydrantref01_Index (args := [.v (.int .u64 w)]) (by
    repeat ((conv => whnf); first | apply qza | apply qzb | apply qzc | apply qzd | apply qze | intro (_ : Nat) | intro (_ : Option Addr) (_ : Nat))
    conv => whnf
    refine ⟨by decide, ?_⟩
    repeat ((conv => whnf); first | apply qza | apply qzb | apply qzc | apply qzd | apply qze | intro (_ : Nat) | intro (_ : Option Addr) (_ : Nat))
    conv => whnf
    intro g2 hg
    rw [Int.tmod_eq_emod_of_nonneg hw.1, wr idx_wr.1, wr idx_wr.2]; rfl)
theorem or_u64 {t i : Int} (ht : 0 ≤ t ∧ t < 4294967296) (hi : 0 ≤ i ∧ i < 4294967296) : bitsI .or .u64 (t * 4294967296) i = t * 4294967296 + i := by
  obtain ⟨a, rfl⟩ := Int.eq_ofNat_of_zero_le ht.1
  obtain ⟨b, rfl⟩ := Int.eq_ofNat_of_zero_le hi.1
  have h := Nat.shiftLeft_add_eq_or_of_lt (i := 32) (b := b) (by omega) a
  rw [Nat.shiftLeft_eq, show (2 : Nat) ^ 32 = 4294967296 by decide] at h
  rw [show (a : Int) * 4294967296 = ((a * 4294967296 : Nat) : Int) by omega]
  have e1 : (BitVec.ofInt 64 ((a * 4294967296 : Nat) : Int)).toNat = a * 4294967296 := by
    rw [BitVec.ofInt_natCast, BitVec.toNat_ofNat]; omega
  have e2 : (BitVec.ofInt 64 (b : Int)).toNat = b := by
    rw [BitVec.ofInt_natCast, BitVec.toNat_ofNat]; omega
  show IntKind.u64.wrap ((BitVec.ofInt 64 ((a * 4294967296 : Nat) : Int) ||| BitVec.ofInt 64 (b : Int)).toNat : Int) = _
  rw [BitVec.toNat_or, e1, e2, ← h, IntWalk.u64_in _ (by omega)]; omega
theorem ok_tMake (g : GW) {t i : Int} (ht : 0 ≤ t ∧ t < 4294967296) (hi : InR i) : OkV Tryz.prog n_tag_Make [.int .u32 t, .int .i64 i] g (.tuple #[.int .u64 (if placeB i then t * 4294967296 + (i + 1) else 0), .int .i64 (if placeB i then 0 else 1)]) :=
  Ok.of_fn hm noT 0 t_tag_Make (args := [.v (.int .u32 t), .v (.int .i64 i)]) (by
    repeat ((conv => whnf); first | apply qza | apply qzb | apply qzc | apply qzd | apply qze | intro (_ : Nat) | intro (_ : Option Addr) (_ : Nat))
    conv => whnf
    refine ⟨fun h => ?_, fun h => ?_⟩
    · repeat ((conv => whnf); first | apply qza | apply qzb | apply qzc | apply qzd | apply qze | intro (_ : Nat) | intro (_ : Option Addr) (_ : Nat))
      conv => whnf
      intro g2 hg
      have : placeB i = false := by unfold placeB; have := of_decide_eq_true h; simp; omega
      rw [this]; rfl
    · repeat ((conv => whnf); first | apply qza | apply qzb | apply qzc | apply qzd | apply qze | intro (_ : Nat) | intro (_ : Option Addr) (_ : Nat))
      conv => whnf
      refine ⟨fun h2 => ?_, fun h2 => ?_⟩
      · repeat ((conv => whnf); first | apply qza | apply qzb | apply qzc | apply qzd | apply qze | intro (_ : Nat) | intro (_ : Option Addr) (_ : Nat))
        conv => whnf
        intro g2 hg
        have : placeB i = false := by unfold placeB; have := of_decide_eq_true h2; simp; omega
        rw [this]; rfl
      · repeat ((conv => whnf); first | apply qza | apply qzb | apply qzc | apply qzd | apply qze | intro (_ : Nat) | intro (_ : Option Addr) (_ : Nat))
        conv => whnf
        refine ⟨by decide, ?_⟩
        repeat ((conv => whnf); first | apply qza | apply qzb | apply qzc | apply qzd | apply qze | intro (_ : Nat) | intro (_ : Option Addr) (_ : Nat))
        conv => whnf
        intro g2 hg
        have h1 := of_decide_eq_false h
        have h2 := of_decide_eq_false h2
        have : placeB i = true := by unfold placeB; simp; omega
        rw [this]
        have e1 : IntKind.u64.wrap t = t := IntWalk.u64_in t (by omega)
        have e2 : IntKind.u64.wrap (t * 2 ^ min (Int.toNat 32) IntKind.u64.bits) = t * 4294967296 := by
          rw [show (2 : Int) ^ min (Int.toNat 32) IntKind.u64.bits = 4294967296 by decide]; exact IntWalk.u64_in _ (by omega)
        have e3 : IntKind.u64.wrap (IntKind.i64.wrap (i - -1)) = i + 1 := by rw [wr (by unfold InR; omega)]; exact IntWalk.u64_in _ (by omega)
        rw [e1, e2, e3, or_u64 ht (by omega)]; rfl)
def tCh : List (Nat × FnI) := [(n_slots_chain, f_slots_chain), (n_slots_chain_1, f_slots_chain_1)]
theorem tCh_ok : TblOk Tryz.prog tCh := by
  intro x hx
  simp only [tCh, List.mem_cons, List.not_mem_nil, or_false] at hx
  rcases hx with rfl | rfl
  · exact ⟨_, _, t_slots_chain⟩
  · exact ⟨_, _, t_slots_chain_1⟩
def FreeP (e : EndC) (v : Value) (g' : GW) : Prop := match freeL e with
  | none => v = .tuple #[.slice none 0 0, .int .i64 11]
  | some l => ∃ oa cap, v = .tuple #[.slice oa l.length cap, .int .i64 0] ∧ rSl 1 rInt g' (.slice oa l.length cap) l
abbrev cInt (l : List Int) : List Value := l.map fun x => Value.int .i64 x
theorem ok_sFree (g : GW) {cs : List Value} {e : EndC} (he : rEn g cs e) : Ok Tryz.prog n_slots_Free [.agg ⟨cs⟩] g (FreeP e) := by
  obtain ⟨⟨n, rfl, hH, hA, hN⟩, hsz⟩ := he
  obtain ⟨oa, ca, rfl, a1, a2, a0, hr⟩ := id hN
  exact Ok.of_fn hm tCh_ok 2 t_slots_Free (args := [.v (.agg ⟨[.int .u64 e.head, .slice oa e.next.length ca, .int .i64 e.active]⟩)]) (by
    repeat ((conv => whnf); first | apply qza | apply qzb | apply qzc | apply qzd | apply qze | intro (_ : Nat) | intro (_ : Option Addr) (_ : Nat))
    conv => whnf
    refine ⟨k_slots_chain_1, fun lp rr => ?_⟩
    repeat ((conv => whnf); first | apply qza | apply qzb | apply qzc | apply qzd | apply qze | intro (_ : Nat) | intro (_ : Option Addr) (_ : Nat))
    conv => whnf
    refine ⟨⟨by omega, by omega, by omega, by omega⟩, fun _ => ?_⟩
    repeat ((conv => whnf); first | apply qza | apply qzb | apply qzc | apply qzd | apply qze | intro (_ : Nat) | intro (_ : Option Addr) (_ : Nat))
    conv => whnf
    refine .inl ⟨_, ok_tIdx _ hH, ?_⟩
    rename_i q0 q1 q2 q3 q4 q5
    repeat ((conv => whnf); first | apply qza | apply qzb | apply qzc | apply qzd | apply qze | intro (_ : Nat) | intro (_ : Option Addr) (_ : Nat))
    conv => whnf
    refine ⟨Int × List Int × Option Addr × Nat, fun (i, _, _, _) => [.v (.int .i64 i)], fun (_, out, oX, cX) => ⟨g, [.row 7 oX out.length cX ty_int 1 (cInt out), .row 6 (some ⟨q5, 0, none⟩) e.next.length e.next.length ty_bool 1 (seenL e.next.length out), .lp 5 lp rr .ready, .blk 4 q4 ty_api_End [.v (.int .u64 e.head), .v (.slice oa e.next.length ca), .v (.int .i64 e.active)], .blk 3 q3 ty_sl_int [.row 7 oX out.length cX], .blk 2 q2 ty_api_Errno [.v (.int .i64 0)], .blk 1 q1 ty_sl_int [.v (.slice none 0 0)], .blk 0 q0 ty_api_End [.v (.int .u64 e.head), .v (.slice oa e.next.length ca), .v (.int .i64 e.active)]], 40, g.w.heap.size⟩, fun (i, out, _, _) => InR i ∧ out.Nodup ∧ (∀ x ∈ out, 0 ≤ x ∧ x < e.next.length) ∧ chainL e.next (e.next.length + 1 - out.length) out i = freeL e, fun (_, out, _, _) => e.next.length - out.length, ?_, ?_⟩
    · intro fr w hw
      exact ⟨(idxT e.head, [], none, 0), rfl, ⟨by have := idxT_rng e.head; unfold InR; omega, List.nodup_nil, by simp, rfl⟩, (hw.nil_row (nx' := 40) 7 ty_int 1).fit (by simp [fitL, Res.eqv, concL, conc, seenL_nil])⟩
    rintro ⟨i, out, oX, cX⟩ ⟨hi, hnd, hin, hch⟩
    repeat ((conv => whnf); first | apply qza | apply qzb | apply qzc | apply qzd | apply qze | intro (_ : Nat) | intro (_ : Option Addr) (_ : Nat))
    conv => whnf
    refine ⟨fun h1 => ?_, fun h1 => ?_⟩
    · have hne : i ≠ -1 := by simpa using h1
      have hbad : (i < 0 ∨ (e.next.length : Int) ≤ i ∨ i ∈ out) → freeL e = none := fun hb => by
        have hlen := nodup_len hnd hin
        rw [show e.next.length + 1 - out.length = (e.next.length - out.length) + 1 by omega] at hch
        simp only [chainL, if_neg hne, if_pos hb] at hch
        exact hch.symm
      repeat ((conv => whnf); first | apply qza | apply qzb | apply qzc | apply qzd | apply qze | intro (_ : Nat) | intro (_ : Option Addr) (_ : Nat))
      conv => whnf
      refine ⟨fun h2 => ?_, fun h2 => ?_⟩
      · repeat ((conv => whnf); first | apply qza | apply qzb | apply qzc | apply qzd | apply qze | intro (_ : Nat) | intro (_ : Option Addr) (_ : Nat))
        conv => whnf
        refine ⟨fun _ => ?_, fun h => nomatch h⟩
        repeat ((conv => whnf); first | apply qza | apply qzb | apply qzc | apply qzd | apply qze | intro (_ : Nat) | intro (_ : Option Addr) (_ : Nat))
        conv => whnf
        intro g2 hg
        unfold FreeP
        rw [hbad (.inl (by simpa using h2))]
      · repeat ((conv => whnf); first | apply qza | apply qzb | apply qzc | apply qzd | apply qze | intro (_ : Nat) | intro (_ : Option Addr) (_ : Nat))
        conv => whnf
        refine ⟨fun h3 => ?_, fun h3 => ?_⟩
        · repeat ((conv => whnf); first | apply qza | apply qzb | apply qzc | apply qzd | apply qze | intro (_ : Nat) | intro (_ : Option Addr) (_ : Nat))
          conv => whnf
          refine ⟨fun _ => ?_, fun h => nomatch h⟩
          repeat ((conv => whnf); first | apply qza | apply qzb | apply qzc | apply qzd | apply qze | intro (_ : Nat) | intro (_ : Option Addr) (_ : Nat))
          conv => whnf
          intro g2 hg
          unfold FreeP
          rw [hbad (.inr (.inl (by simpa using h3)))]
        · have hi0 : 0 ≤ i ∧ i < e.next.length := by simp at h2 h3; omega
          have hsg := seenL_get (n := e.next.length) (out := out) hi0
          obtain ⟨y, hy⟩ := getL_of (l := e.next) (i := i.toNat) (by omega)
          obtain ⟨a, rfl, ec, hec, ⟨rfl, hyr⟩, hc⟩ := hr i.toNat y hy
          repeat ((conv => whnf); first | apply qza | apply qzb | apply qzc | apply qzd | apply qze | intro (_ : Nat) | intro (_ : Option Addr) (_ : Nat))
          conv => whnf
          refine ⟨hi0, ?_⟩
          repeat ((conv => whnf); first | apply qza | apply qzb | apply qzc | apply qzd | apply qze | intro (_ : Nat) | intro (_ : Option Addr) (_ : Nat))
          conv => whnf
          refine ⟨_, by simpa using hsg, ?_⟩
          repeat ((conv => whnf); first | apply qza | apply qzb | apply qzc | apply qzd | apply qze | intro (_ : Nat) | intro (_ : Option Addr) (_ : Nat))
          conv => whnf
          refine ⟨fun h4 => ?_, fun h4 => ?_⟩
          · repeat ((conv => whnf); first | apply qza | apply qzb | apply qzc | apply qzd | apply qze | intro (_ : Nat) | intro (_ : Option Addr) (_ : Nat))
            conv => whnf
            refine ⟨fun _ => ?_, fun h => nomatch h⟩
            repeat ((conv => whnf); first | apply qza | apply qzb | apply qzc | apply qzd | apply qze | intro (_ : Nat) | intro (_ : Option Addr) (_ : Nat))
            conv => whnf
            intro g2 hg
            unfold FreeP
            rw [hbad (.inr (.inr (by simpa using h4)))]
          · have h4' : i ∉ out := by simpa using h4
            have hnd2 : (out ++ [i]).Nodup := List.nodup_append.2 ⟨hnd, by simp, fun a ha b hb hab => h4' (by simp at hb; rw [← hb, ← hab]; exact ha)⟩
            have hin2 : ∀ x ∈ out ++ [i], 0 ≤ x ∧ x < e.next.length := fun x hx => by
              rcases List.mem_append.1 hx with hx | hx
              · exact hin x hx
              · simp at hx; subst hx; exact hi0
            have hlen2 := nodup_len hnd2 hin2
            have hset := seenL_set (out := out) hi0
            simp only [List.length_append, List.length_cons, List.length_nil] at hlen2
            repeat ((conv => whnf); first | apply qza | apply qzb | apply qzc | apply qzd | apply qze | intro (_ : Nat) | intro (_ : Option Addr) (_ : Nat))
            conv => whnf
            refine ⟨hi0, ?_⟩
            repeat ((conv => whnf); first | apply qza | apply qzb | apply qzc | apply qzd | apply qze | intro (_ : Nat) | intro (_ : Option Addr) (_ : Nat))
            conv => whnf
            refine ⟨⟨by rw [seenL_len]; omega, by decide⟩, ?_⟩
            repeat ((conv => whnf); first | apply qza | apply qzb | apply qzc | apply qzd | apply qze | intro (_ : Nat) | intro (_ : Option Addr) (_ : Nat))
            conv => whnf
            refine ⟨fun hx => absurd hx (by simp; omega), fun _ => ?_⟩
            repeat ((conv => whnf); first | apply qza | apply qzb | apply qzc | apply qzd | apply qze | intro (_ : Nat) | intro (_ : Option Addr) (_ : Nat))
            conv => whnf
            refine ⟨fun hx => absurd hx (by simp; omega), fun _ => ?_⟩
            repeat ((conv => whnf); first | apply qza | apply qzb | apply qzc | apply qzd | apply qze | intro (_ : Nat) | intro (_ : Option Addr) (_ : Nat))
            conv => whnf
            refine ⟨⟨by unfold maxLen; omega, by omega⟩, fun oa2 cap2 => ?_⟩
            repeat ((conv => whnf); first | apply qza | apply qzb | apply qzc | apply qzd | apply qze | intro (_ : Nat) | intro (_ : Option Addr) (_ : Nat))
            conv => whnf
            refine ⟨a, rfl, hi0, ?_⟩
            conv => whnf
            refine ⟨_, hc 0 _ rfl, ?_⟩
            repeat ((conv => whnf); first | apply qza | apply qzb | apply qzc | apply qzd | apply qze | intro (_ : Nat) | intro (_ : Option Addr) (_ : Nat))
            conv => whnf
            refine fun fr w hw => ⟨(y, out ++ [i], oa2, cap2), rfl, ⟨hyr, hnd2, hin2, ?_⟩, by simp only [List.length_append, List.length_cons, List.length_nil]; omega, ?_⟩
            · rw [show e.next.length + 1 - out.length = (e.next.length + 1 - (out ++ [i]).length) + 1 by simp; omega] at hch
              simp only [chainL, if_neg hne, if_neg (show ¬ (i < 0 ∨ (e.next.length : Int) ≤ i ∨ i ∈ out) by rintro (h | h | h); omega; omega; exact h4' h)] at hch
              rw [← hch]
              unfold nxtL
              rw [hy]; rfl
            · have hset2 : List.take i.toNat (seenL e.next.length out) ++ Value.bool true :: List.drop (i.toNat + 1) (seenL e.next.length out) = seenL e.next.length (out ++ [i]) := by rw [← hset]; simp
              exact hw.fit (by simp [fitL, Res.eqv, concL, conc, hset2])
    · have hi1 : i = -1 := by simpa using h1
      subst hi1
      have hlen := nodup_len hnd hin
      rw [show e.next.length + 1 - out.length = (e.next.length - out.length) + 1 by omega] at hch
      simp only [chainL, if_true] at hch
      repeat ((conv => whnf); first | apply qza | apply qzb | apply qzc | apply qzd | apply qze | intro (_ : Nat) | intro (_ : Option Addr) (_ : Nat))
      conv => whnf
      refine ⟨fun h => (nomatch h), fun _ => ?_⟩
      conv => whnf
      refine ⟨fun _ => ?_, fun h => nomatch h⟩
      repeat ((conv => whnf); first | apply qza | apply qzb | apply qzc | apply qzd | apply qze | intro (_ : Nat) | intro (_ : Option Addr) (_ : Nat))
      conv => whnf
      refine fun g1 hg1 hn1 hp1 => ?_
      repeat ((conv => whnf); first | apply qza | apply qzb | apply qzc | apply qzd | apply qze | intro (_ : Nat) | intro (_ : Option Addr) (_ : Nat))
      conv => whnf
      intro g2 hg
      unfold FreeP
      rw [← hch]
      exact ⟨oX, cX, rfl, (rSl_of1 hp1.rd out (fun x => .int .i64 x) rfl fun x hx => ⟨rfl, by have := hin x hx; unfold InR; omega⟩).mono rInt_mono hg⟩)
theorem ok_sIsE (g : GW) {cs : List Value} {e : EndC} (he : rEn g cs e) : OkV Tryz.prog n_slots_Is [.agg ⟨cs⟩] g (.bool (endB e)) := by
  have he0 := he
  obtain ⟨⟨n, rfl, hH, hA, hN⟩, hsz⟩ := he
  obtain ⟨oa, ca, rfl, a1, a2, a0, hr⟩ := id hN
  exact Ok.of_fn hm noT 0 t_slots_Is (args := [.v (.agg ⟨[.int .u64 e.head, .slice oa e.next.length ca, .int .i64 e.active]⟩)]) (by
    repeat ((conv => whnf); first | apply qza | apply qzb | apply qzc | apply qzd | apply qze | intro (_ : Nat) | intro (_ : Option Addr) (_ : Nat))
    refine .inr ((ok_sFree _ he0).mono fun v g1 hg1 hF => ?_)
    unfold FreeP at hF
    unfold endB
    cases hf : freeL e with
    | none =>
      rw [hf] at hF
      subst hF
      repeat ((conv => whnf); first | apply qza | apply qzb | apply qzc | apply qzd | apply qze | intro (_ : Nat) | intro (_ : Option Addr) (_ : Nat))
      conv => whnf
      refine ⟨fun h => (nomatch h), fun _ => ?_⟩
      repeat ((conv => whnf); first | apply qza | apply qzb | apply qzc | apply qzd | apply qze | intro (_ : Nat) | intro (_ : Option Addr) (_ : Nat))
      conv => whnf
      intro g2 hg
      rfl
    | some l =>
      rw [hf] at hF
      obtain ⟨oX, cX, rfl, _⟩ := hF
      repeat ((conv => whnf); first | apply qza | apply qzb | apply qzc | apply qzd | apply qze | intro (_ : Nat) | intro (_ : Option Addr) (_ : Nat))
      conv => whnf
      refine ⟨fun _ => ?_, fun h => nomatch h⟩
      repeat ((conv => whnf); first | apply qza | apply qzb | apply qzc | apply qzd | apply qze | intro (_ : Nat) | intro (_ : Option Addr) (_ : Nat))
      conv => whnf
      refine ⟨fun h1 => ?_, fun h1 => ?_⟩
      · repeat ((conv => whnf); first | apply qza | apply qzb | apply qzc | apply qzd | apply qze | intro (_ : Nat) | intro (_ : Option Addr) (_ : Nat))
        conv => whnf
        refine ⟨fun h2 => ?_, fun h2 => ?_⟩
        · repeat ((conv => whnf); first | apply qza | apply qzb | apply qzc | apply qzd | apply qze | intro (_ : Nat) | intro (_ : Option Addr) (_ : Nat))
          conv => whnf
          intro g2 hg
          have k1 := of_decide_eq_true h1
          have k2 := of_decide_eq_true h2
          rw [decide_eq_true (show 1 ≤ e.next.length by omega), decide_eq_true (show e.next.length ≤ 4 by omega)]; rfl
        · repeat ((conv => whnf); first | apply qza | apply qzb | apply qzc | apply qzd | apply qze | intro (_ : Nat) | intro (_ : Option Addr) (_ : Nat))
          conv => whnf
          intro g2 hg
          have k2 := of_decide_eq_false h2
          rw [decide_eq_false (show ¬ e.next.length ≤ 4 by omega)]; simp
      · repeat ((conv => whnf); first | apply qza | apply qzb | apply qzc | apply qzd | apply qze | intro (_ : Nat) | intro (_ : Option Addr) (_ : Nat))
        conv => whnf
        intro g2 hg
        have k1 := of_decide_eq_false h1
        rw [decide_eq_false (show ¬ 1 ≤ e.next.length by omega)]; simp)
def tA14 : List (Nat × FnI) := [(n_hydrantref14_has, f_hydrantref14_has)]
theorem tA14_ok : TblOk Tryz.prog tA14 := by
  intro x hx
  simp only [tA14, List.mem_cons, List.not_mem_nil, or_false] at hx
  rcases hx with rfl
  · exact ⟨_, _, t_hydrantref14_has⟩
theorem ok_rFree (g : GW) {cs : List Value} {e : EndC} (he : rEn g cs e) : Ok Tryz.prog n_hydrantref14_Free [.agg ⟨cs⟩] g (FreeP e) := by
  obtain ⟨⟨n, rfl, hH, hA, hN⟩, hsz⟩ := he
  obtain ⟨oa, ca, rfl, a1, a2, a0, hr⟩ := id hN
  exact Ok.of_fn hm tA14_ok 1 t_hydrantref14_Free (args := [.v (.agg ⟨[.int .u64 e.head, .slice oa e.next.length ca, .int .i64 e.active]⟩)]) (by
    repeat ((conv => whnf); first | apply qza | apply qzb | apply qzc | apply qzd | apply qze | intro (_ : Nat) | intro (_ : Option Addr) (_ : Nat))
    conv => whnf
    refine .inl ⟨_, ok_rIdx _ hH, ?_⟩
    rename_i q0 q1
    repeat ((conv => whnf); first | apply qza | apply qzb | apply qzc | apply qzd | apply qze | intro (_ : Nat) | intro (_ : Option Addr) (_ : Nat))
    conv => whnf
    refine ⟨Int × List Int × Option Addr × Nat, fun (i, out, oX, cX) => [.row 7 oX out.length cX, .v (.int .i64 i)], fun (_, out, oX, cX) => ⟨g, [.row 7 oX out.length cX ty_int 1 (cInt out), .blk 0 q0 ty_api_End [.v (.int .u64 e.head), .v (.slice oa e.next.length ca), .v (.int .i64 e.active)]], 40, g.w.heap.size⟩, fun (i, out, _, _) => InR i ∧ out.Nodup ∧ (∀ x ∈ out, 0 ≤ x ∧ x < e.next.length) ∧ chainL e.next (e.next.length + 1 - out.length) out i = freeL e, fun (_, out, _, _) => e.next.length - out.length, ?_, ?_⟩
    · intro fr w hw
      exact ⟨(idxT e.head, [], some ⟨q1, 0, none⟩, 0), rfl, ⟨by have := idxT_rng e.head; unfold InR; omega, List.nodup_nil, by simp, rfl⟩, (hw.blk_row (nx' := 40) (id' := 7) 0 1 rfl (by decide)).fit (by simp [fitL, Res.eqv, concL, conc])⟩
    rintro ⟨i, out, oX, cX⟩ ⟨hi, hnd, hin, hch⟩
    have hlen := nodup_len hnd hin
    repeat ((conv => whnf); first | apply qza | apply qzb | apply qzc | apply qzd | apply qze | intro (_ : Nat) | intro (_ : Option Addr) (_ : Nat))
    conv => whnf
    refine ⟨fun h1 => ?_, fun h1 => ?_⟩
    · have hne : i ≠ -1 := by simpa using h1
      have hbad : (i < 0 ∨ (e.next.length : Int) ≤ i ∨ i ∈ out) → freeL e = none := fun hb => by
        rw [show e.next.length + 1 - out.length = (e.next.length - out.length) + 1 by omega] at hch
        simp only [chainL, if_neg hne, if_pos hb] at hch
        exact hch.symm
      repeat ((conv => whnf); first | apply qza | apply qzb | apply qzc | apply qzd | apply qze | intro (_ : Nat) | intro (_ : Option Addr) (_ : Nat))
      conv => whnf
      refine ⟨fun h2 => ?_, fun h2 => ?_⟩
      · repeat ((conv => whnf); first | apply qza | apply qzb | apply qzc | apply qzd | apply qze | intro (_ : Nat) | intro (_ : Option Addr) (_ : Nat))
        conv => whnf
        intro g2 hg
        unfold FreeP
        rw [hbad (.inl (by simpa using h2))]
      · repeat ((conv => whnf); first | apply qza | apply qzb | apply qzc | apply qzd | apply qze | intro (_ : Nat) | intro (_ : Option Addr) (_ : Nat))
        conv => whnf
        refine ⟨fun h3 => ?_, fun h3 => ?_⟩
        · repeat ((conv => whnf); first | apply qza | apply qzb | apply qzc | apply qzd | apply qze | intro (_ : Nat) | intro (_ : Option Addr) (_ : Nat))
          conv => whnf
          intro g2 hg
          unfold FreeP
          rw [hbad (.inr (.inl (by simpa using h3)))]
        · have hi0 : 0 ≤ i ∧ i < e.next.length := by simp at h2 h3; omega
          obtain ⟨y, hy⟩ := getL_of (l := e.next) (i := i.toNat) (by omega)
          obtain ⟨a, rfl, ec, hec, ⟨rfl, hyr⟩, hc⟩ := hr i.toNat y hy
          repeat ((conv => whnf); first | apply qza | apply qzb | apply qzc | apply qzd | apply qze | intro (_ : Nat) | intro (_ : Option Addr) (_ : Nat))
          conv => whnf
          refine ⟨Nat, fun k => [.v (.int .i64 k)], fun k => ⟨g, [.row 7 oX out.length cX ty_int 1 (cInt out), .blk 0 q0 ty_api_End [.v (.int .u64 e.head), .v (.slice (some a) e.next.length ca), .v (.int .i64 e.active)]], 40, g.w.heap.size⟩, fun k => k ≤ out.length ∧ ∀ x ∈ out.take k, x ≠ i, fun k => out.length - k, loop_here 0 rfl ⟨Nat.zero_le _, by simp⟩ rfl, ?_⟩
          rintro k ⟨hk, hp⟩
          repeat ((conv => whnf); first | apply qza | apply qzb | apply qzc | apply qzd | apply qze | intro (_ : Nat) | intro (_ : Option Addr) (_ : Nat))
          conv => whnf
          refine ⟨fun hlt => ?_, fun hlt => ?_⟩
          · have h' : k < out.length := by have := of_decide_eq_true hlt; omega
            obtain ⟨x, hx⟩ := getL_of h'
            repeat ((conv => whnf); first | apply qza | apply qzb | apply qzc | apply qzd | apply qze | intro (_ : Nat) | intro (_ : Option Addr) (_ : Nat))
            conv => whnf
            refine ⟨⟨by omega, by omega⟩, ?_⟩
            repeat ((conv => whnf); first | apply qza | apply qzb | apply qzc | apply qzd | apply qze | intro (_ : Nat) | intro (_ : Option Addr) (_ : Nat))
            conv => whnf
            refine ⟨.int .i64 x, by simp [hx], ?_⟩
            repeat ((conv => whnf); first | apply qza | apply qzb | apply qzc | apply qzd | apply qze | intro (_ : Nat) | intro (_ : Option Addr) (_ : Nat))
            conv => whnf
            refine ⟨fun he => ?_, fun he => ?_⟩
            · repeat ((conv => whnf); first | apply qza | apply qzb | apply qzc | apply qzd | apply qze | intro (_ : Nat) | intro (_ : Option Addr) (_ : Nat))
              conv => whnf
              intro g2 hg
              unfold FreeP
              have : x = i := by simpa using he
              rw [hbad (.inr (.inr (this ▸ List.mem_of_getElem? hx)))]
            · repeat ((conv => whnf); first | apply qza | apply qzb | apply qzc | apply qzd | apply qze | intro (_ : Nat) | intro (_ : Option Addr) (_ : Nat))
              conv => whnf
              refine fun fr w hw => ⟨k + 1, ?_, ⟨h', fun y hy => ?_⟩, dec h', ?_⟩
              · show [Value.int .i64 _] = _
                rw [show ((k + 1 : Nat) : Int) = (k : Int) + 1 by omega]
                exact congrArg (fun z => [Value.int .i64 z]) (wr (show InR ((k : Int) + 1) by unfold InR; omega)).symm
              · obtain ⟨c1, c2⟩ := List.getElem?_eq_some_iff.1 hx
                rw [List.take_succ_eq_append_getElem c1, c2] at hy
                rcases List.mem_append.1 hy with hy | hy
                · exact hp y hy
                · simp at hy; subst hy; simpa using he
              · exact hw.fit (by simp [fitL, Res.eqv, concL, conc])
          · have hkL := of_decide_eq_false hlt
            rw [List.take_of_length_le (by omega)] at hp
            have h4' : i ∉ out := fun hm => hp i hm rfl
            have hnd2 : (out ++ [i]).Nodup := List.nodup_append.2 ⟨hnd, by simp, fun a ha b hb hab => h4' (by simp at hb; rw [← hb, ← hab]; exact ha)⟩
            have hin2 : ∀ x ∈ out ++ [i], 0 ≤ x ∧ x < e.next.length := fun x hx => by
              rcases List.mem_append.1 hx with hx | hx
              · exact hin x hx
              · simp at hx; subst hx; exact hi0
            have hlen2 := nodup_len hnd2 hin2
            simp only [List.length_append, List.length_cons, List.length_nil] at hlen2
            repeat ((conv => whnf); first | apply qza | apply qzb | apply qzc | apply qzd | apply qze | intro (_ : Nat) | intro (_ : Option Addr) (_ : Nat))
            conv => whnf
            refine ⟨⟨by unfold maxLen; omega, by omega⟩, fun oa2 cap2 => ?_⟩
            repeat ((conv => whnf); first | apply qza | apply qzb | apply qzc | apply qzd | apply qze | intro (_ : Nat) | intro (_ : Option Addr) (_ : Nat))
            conv => whnf
            refine ⟨a, rfl, hi0, ?_⟩
            conv => whnf
            refine ⟨_, hc 0 _ rfl, ?_⟩
            repeat ((conv => whnf); first | apply qza | apply qzb | apply qzc | apply qzd | apply qze | intro (_ : Nat) | intro (_ : Option Addr) (_ : Nat))
            conv => whnf
            refine fun fr w hw => ⟨(y, out ++ [i], oa2, cap2), by simp [concL, conc], ⟨hyr, hnd2, hin2, ?_⟩, by simp only [List.length_append, List.length_cons, List.length_nil]; omega, hw.fit (by simp [fitL, Res.eqv, concL, conc])⟩
            rw [show e.next.length + 1 - out.length = (e.next.length + 1 - (out ++ [i]).length) + 1 by simp; omega] at hch
            simp only [chainL, if_neg hne, if_neg (show ¬ (i < 0 ∨ (e.next.length : Int) ≤ i ∨ i ∈ out) by rintro (h | h | h); omega; omega; exact h4' h)] at hch
            rw [← hch]
            unfold nxtL
            rw [hy]; rfl
    · have hi1 : i = -1 := by simpa using h1
      subst hi1
      rw [show e.next.length + 1 - out.length = (e.next.length - out.length) + 1 by omega] at hch
      simp only [chainL, if_true] at hch
      repeat ((conv => whnf); first | apply qza | apply qzb | apply qzc | apply qzd | apply qze | intro (_ : Nat) | intro (_ : Option Addr) (_ : Nat))
      conv => whnf
      refine fun g1 hg1 hn1 hp1 => ?_
      conv => whnf
      intro g2 hg
      unfold FreeP
      rw [← hch]
      exact ⟨oX, cX, rfl, (rSl_of1 hp1.rd out (fun x => .int .i64 x) rfl fun x hx => ⟨rfl, by have := hin x hx; unfold InR; omega⟩).mono rInt_mono hg⟩)
theorem ok_rIsE (g : GW) {cs : List Value} {e : EndC} (he : rEn g cs e) : OkV Tryz.prog n_hydrantref14_Is [.agg ⟨cs⟩] g (.bool (endB e)) := by
  have he0 := he
  obtain ⟨⟨n, rfl, hH, hA, hN⟩, hsz⟩ := he
  obtain ⟨oa, ca, rfl, a1, a2, a0, hr⟩ := id hN
  exact Ok.of_fn hm noT 0 t_hydrantref14_Is (args := [.v (.agg ⟨[.int .u64 e.head, .slice oa e.next.length ca, .int .i64 e.active]⟩)]) (by
    repeat ((conv => whnf); first | apply qza | apply qzb | apply qzc | apply qzd | apply qze | intro (_ : Nat) | intro (_ : Option Addr) (_ : Nat))
    refine .inr ((ok_rFree _ he0).mono fun v g1 hg1 hF => ?_)
    unfold FreeP at hF
    unfold endB
    cases hf : freeL e with
    | none =>
      rw [hf] at hF
      subst hF
      repeat ((conv => whnf); first | apply qza | apply qzb | apply qzc | apply qzd | apply qze | intro (_ : Nat) | intro (_ : Option Addr) (_ : Nat))
      conv => whnf
      refine ⟨fun h => (nomatch h), fun _ => ?_⟩
      repeat ((conv => whnf); first | apply qza | apply qzb | apply qzc | apply qzd | apply qze | intro (_ : Nat) | intro (_ : Option Addr) (_ : Nat))
      conv => whnf
      intro g2 hg
      rfl
    | some l =>
      rw [hf] at hF
      obtain ⟨oX, cX, rfl, _⟩ := hF
      repeat ((conv => whnf); first | apply qza | apply qzb | apply qzc | apply qzd | apply qze | intro (_ : Nat) | intro (_ : Option Addr) (_ : Nat))
      conv => whnf
      refine ⟨fun _ => ?_, fun h => nomatch h⟩
      repeat ((conv => whnf); first | apply qza | apply qzb | apply qzc | apply qzd | apply qze | intro (_ : Nat) | intro (_ : Option Addr) (_ : Nat))
      conv => whnf
      refine ⟨fun h1 => ?_, fun h1 => ?_⟩
      · repeat ((conv => whnf); first | apply qza | apply qzb | apply qzc | apply qzd | apply qze | intro (_ : Nat) | intro (_ : Option Addr) (_ : Nat))
        conv => whnf
        refine ⟨fun h2 => ?_, fun h2 => ?_⟩
        · repeat ((conv => whnf); first | apply qza | apply qzb | apply qzc | apply qzd | apply qze | intro (_ : Nat) | intro (_ : Option Addr) (_ : Nat))
          conv => whnf
          intro g2 hg
          have k1 := of_decide_eq_true h1
          have k2 := of_decide_eq_true h2
          rw [decide_eq_true (show 1 ≤ e.next.length by omega), decide_eq_true (show e.next.length ≤ 4 by omega)]; rfl
        · repeat ((conv => whnf); first | apply qza | apply qzb | apply qzc | apply qzd | apply qze | intro (_ : Nat) | intro (_ : Option Addr) (_ : Nat))
          conv => whnf
          intro g2 hg
          have k2 := of_decide_eq_false h2
          rw [decide_eq_false (show ¬ e.next.length ≤ 4 by omega)]; simp
      · repeat ((conv => whnf); first | apply qza | apply qzb | apply qzc | apply qzd | apply qze | intro (_ : Nat) | intro (_ : Option Addr) (_ : Nat))
        conv => whnf
        intro g2 hg
        have k1 := of_decide_eq_false h1
        rw [decide_eq_false (show ¬ 1 ≤ e.next.length by omega)]; simp)
end Go.Proofs.YtjaeeadfmnokeaaGreat


/- Worlds: limbo, listeners, counts: are they right? -/
namespace Go.Proofs.YtjaeeadfmnokeaaGreat
open Go.Proofs.YtjaeeadfmnokeaaGreat.Sx Go.RowKit
def tPl : List (Nat × FnI) := [(n_slices_IndexFunc___api_Listen_api_Listen, f_slices_IndexFunc___api_Listen_api_Listen), (n_gates_Place_1, f_gates_Place_1)]
theorem tPl_ok : TblOk Tryz.prog tPl := by
  intro x hx
  simp only [tPl, List.mem_cons, List.not_mem_nil, or_false] at hx
  rcases hx with rfl | rfl
  · exact ⟨_, _, t_slices_IndexFunc___api_Listen_api_Listen⟩
  · exact ⟨_, _, t_gates_Place_1⟩
theorem ok_gPlace (g : GW) {v : Value} {l : List Listen} (hl : rSl 4 rListen g v l) (s : BA) : OkV Tryz.prog n_gates_Place [v, .string s] g (.int .i64 (placeL l s)) :=
  Ok.of_fn hm tPl_ok 2 t_gates_Place (args := [.v v, .v (.string s)]) (by
    obtain ⟨oa, cap, rfl, h1, h2, h0, hr⟩ := hl
    repeat ((conv => whnf); first | apply qza | apply qzb | apply qzc | apply qzd | apply qze | intro (_ : Nat) | intro (_ : Option Addr) (_ : Nat))
    conv => whnf
    refine ⟨Nat, fun k => [.v (.int .i64 k)], fun k => ⟨g, [.blk 0 _ _ [.v (.string s)]], _, _⟩, fun k => k ≤ l.length ∧ Pass (idxF fun (x : Listen) => bs x.name == bs s) l k, fun k => l.length - k, loop_here 0 rfl ⟨Nat.zero_le _, Pass.zero _ _⟩ rfl, ?_⟩
    rintro k ⟨hk, hp⟩
    conv => whnf
    refine ⟨fun hlt => ?_, fun hlt => ?_⟩
    · have h' : k < l.length := by have := of_decide_eq_true hlt; omega
      obtain ⟨x, hx⟩ := getL_of h'
      obtain ⟨a, rfl, ec, hec, ⟨rfl, _⟩, hc⟩ := hr k x hx
      conv => whnf
      refine ⟨a, rfl, ⟨by omega, by omega⟩, ?_⟩
      conv => whnf
      refine ⟨_, ⟨rfl, hc⟩, ?_⟩
      conv => whnf
      refine ⟨k_gates_Place_1, ?_⟩
      repeat ((conv => whnf); first | apply qza | apply qzb | apply qzc | apply qzd | apply qze | intro (_ : Nat) | intro (_ : Option Addr) (_ : Nat))
      conv => whnf
      refine ⟨fun he => ?_, fun he => ?_⟩
      · conv => whnf
        intro g2 hg
        rw [placeL, idxO_hit hp hx he]
      · conv => whnf
        refine fun fr w hw => ⟨k + 1, congrArg (fun z => [Value.int .i64 z]) (wr1 h' h1 h2).symm, ⟨h', idx_next hp hx he⟩, dec h', ?_⟩
        exact hw.fit (by simp [fitL, Res.eqv, concL, conc])
    · conv => whnf
      intro g2 hg
      have := of_decide_eq_false hlt
      rw [placeL, idxO_miss hp (by omega)])
theorem ok_rPlace (g : GW) {v : Value} {l : List Listen} (hl : rSl 4 rListen g v l) (s : BA) : OkV Tryz.prog n_hydrantref17_Place [v, .string s] g (.int .i64 (placeL l s)) :=
  Ok.of_fn hm noT 0 t_hydrantref17_Place (args := [.v v, .v (.string s)]) (by
    obtain ⟨oa, cap, rfl, h1, h2, h0, hr⟩ := hl
    repeat ((conv => whnf); first | apply qza | apply qzb | apply qzc | apply qzd | apply qze | intro (_ : Nat) | intro (_ : Option Addr) (_ : Nat))
    conv => whnf
    refine ⟨Nat, fun k => [.v (.int .i64 k)], fun k => ⟨g, [], _, _⟩, fun k => k ≤ l.length ∧ Pass (idxF fun (x : Listen) => bs x.name == bs s) l k, fun k => l.length - k, loop_here 0 rfl ⟨Nat.zero_le _, Pass.zero _ _⟩ rfl, ?_⟩
    rintro k ⟨hk, hp⟩
    repeat ((conv => whnf); first | apply qza | apply qzb | apply qzc | apply qzd | apply qze | intro (_ : Nat) | intro (_ : Option Addr) (_ : Nat))
    conv => whnf
    refine ⟨fun hlt => ?_, fun hlt => ?_⟩
    · have h' : k < l.length := by have := of_decide_eq_true hlt; omega
      obtain ⟨x, hx⟩ := getL_of h'
      obtain ⟨a, rfl, ec, hec, ⟨rfl, _⟩, hc⟩ := hr k x hx
      repeat ((conv => whnf); first | apply qza | apply qzb | apply qzc | apply qzd | apply qze | intro (_ : Nat) | intro (_ : Option Addr) (_ : Nat))
      conv => whnf
      refine ⟨a, rfl, ⟨by omega, by omega⟩, ?_⟩
      conv => whnf
      refine ⟨_, hc 0 _ rfl, ?_⟩
      repeat ((conv => whnf); first | apply qza | apply qzb | apply qzc | apply qzd | apply qze | intro (_ : Nat) | intro (_ : Option Addr) (_ : Nat))
      conv => whnf
      refine ⟨fun he => ?_, fun he => ?_⟩
      · repeat ((conv => whnf); first | apply qza | apply qzb | apply qzc | apply qzd | apply qze | intro (_ : Nat) | intro (_ : Option Addr) (_ : Nat))
        conv => whnf
        intro g2 hg
        rw [placeL, idxO_hit hp hx he]
      · repeat ((conv => whnf); first | apply qza | apply qzb | apply qzc | apply qzd | apply qze | intro (_ : Nat) | intro (_ : Option Addr) (_ : Nat))
        conv => whnf
        refine fun fr w hw => ⟨k + 1, congrArg (fun z => [Value.int .i64 z]) (wr1 h' h1 h2).symm, ⟨h', idx_next hp hx he⟩, dec h', ?_⟩
        exact hw.fit (by simp [fitL, Res.eqv, concL, conc])
    · repeat ((conv => whnf); first | apply qza | apply qzb | apply qzc | apply qzd | apply qze | intro (_ : Nat) | intro (_ : Option Addr) (_ : Nat))
      conv => whnf
      intro g2 hg
      have := of_decide_eq_false hlt
      rw [placeL, idxO_miss hp (by omega)])
theorem ok_gIs (g : GW) {cs : List Value} {x : Listen} (hx : rListen g cs x) : OkV Tryz.prog n_gates_Is [.agg ⟨cs⟩] g (.bool (gateB x)) := by
  obtain ⟨rfl, hA⟩ := hx
  exact Ok.of_fn hm noT 0 t_gates_Is (args := [.v (.agg ⟨[.string x.name, .bool x.drain, .int .i64 x.active, .bool x.closed]⟩)]) (by
    repeat ((conv => whnf); first | apply qza | apply qzb | apply qzc | apply qzd | apply qze | intro (_ : Nat) | intro (_ : Option Addr) (_ : Nat))
    repeat' ((conv => whnf); first | apply qza | apply qzb | apply qzc | apply qzd | apply qze | intro (_ : Nat) | intro (_ : Option Addr) (_ : Nat) | refine .inl ⟨_, ok_Name _ _, ?_⟩ | refine ⟨fun _ => ?_, fun _ => ?_⟩ | fail)
    all_goals (conv => whnf)
    all_goals (intro g2 hg)
    all_goals (unfold gateB; simp_all; try (intros; omega)))
theorem ok_rgIs (g : GW) {cs : List Value} {x : Listen} (hx : rListen g cs x) : OkV Tryz.prog n_hydrantref17_Is [.agg ⟨cs⟩] g (.bool (gateB x)) := by
  obtain ⟨rfl, hA⟩ := hx
  exact Ok.of_fn hm noT 0 t_hydrantref17_Is (args := [.v (.agg ⟨[.string x.name, .bool x.drain, .int .i64 x.active, .bool x.closed]⟩)]) (by
    repeat ((conv => whnf); first | apply qza | apply qzb | apply qzc | apply qzd | apply qze | intro (_ : Nat) | intro (_ : Option Addr) (_ : Nat))
    repeat' ((conv => whnf); first | apply qza | apply qzb | apply qzc | apply qzd | apply qze | intro (_ : Nat) | intro (_ : Option Addr) (_ : Nat) | refine .inl ⟨_, ok_rName _ _, ?_⟩ | refine ⟨fun _ => ?_, fun _ => ?_⟩ | fail)
    all_goals (conv => whnf)
    all_goals (intro g2 hg)
    all_goals (unfold gateB; simp_all; try (intros; omega)))
theorem shardB_bad {c : List (List Int)} {r : List Int} (hr : r ∈ c) (h : r.length ≠ 6) : shardB c = false := by
  unfold shardB
  rw [show (c.all fun r => decide (r.length = 6)) = false from List.all_eq_false.2 ⟨r, hr, by simpa using h⟩]; rfl
theorem ok_hIs (g : GW) {v : Value} {l : List (List Int)} (hl : rSl 1 rRow g v l) : OkV Tryz.prog n_shard_Is [v] g (.bool (shardB l)) :=
  Ok.of_fn hm noT 0 t_shard_Is (args := [.v v]) (by
    obtain ⟨oa, cap, rfl, h1, h2, h0, hr⟩ := hl
    repeat ((conv => whnf); first | apply qza | apply qzb | apply qzc | apply qzd | apply qze | intro (_ : Nat) | intro (_ : Option Addr) (_ : Nat))
    conv => whnf
    refine ⟨Nat, fun k => [.v (.int .i64 k)], fun k => ⟨g, [], _, _⟩, fun k => k ≤ l.length ∧ (l.take k).all (fun r => decide (r.length = 6)) = true, fun k => l.length - k, loop_here 0 rfl ⟨Nat.zero_le _, by simp⟩ rfl, ?_⟩
    rintro k ⟨hk, hp⟩
    repeat ((conv => whnf); first | apply qza | apply qzb | apply qzc | apply qzd | apply qze | intro (_ : Nat) | intro (_ : Option Addr) (_ : Nat))
    conv => whnf
    refine ⟨fun hlt => ?_, fun hlt => ?_⟩
    · have h' : k < l.length := by have := of_decide_eq_true hlt; omega
      obtain ⟨x, hx⟩ := getL_of h'
      obtain ⟨a, rfl, ec, hec, ⟨n, rfl, hn⟩, hc⟩ := hr k x hx
      obtain ⟨ox, cx, rfl, x1, x2, x0, hx1⟩ := id hn
      repeat ((conv => whnf); first | apply qza | apply qzb | apply qzc | apply qzd | apply qze | intro (_ : Nat) | intro (_ : Option Addr) (_ : Nat))
      conv => whnf
      refine ⟨a, rfl, ⟨by omega, by omega⟩, ?_⟩
      conv => whnf
      refine ⟨_, hc 0 _ rfl, ?_⟩
      repeat ((conv => whnf); first | apply qza | apply qzb | apply qzc | apply qzd | apply qze | intro (_ : Nat) | intro (_ : Option Addr) (_ : Nat))
      conv => whnf
      refine ⟨fun he => ?_, fun he => ?_⟩
      · repeat ((conv => whnf); first | apply qza | apply qzb | apply qzc | apply qzd | apply qze | intro (_ : Nat) | intro (_ : Option Addr) (_ : Nat))
        conv => whnf
        intro g2 hg
        rw [shardB_bad (List.mem_of_getElem? hx) (by have : ((x.length : Int) ≠ 6) := by simpa using he
                                                     omega)]
      · repeat ((conv => whnf); first | apply qza | apply qzb | apply qzc | apply qzd | apply qze | intro (_ : Nat) | intro (_ : Option Addr) (_ : Nat))
        conv => whnf
        refine fun fr w hw => ⟨k + 1, congrArg (fun z => [Value.int .i64 z]) (wr1 h' h1 h2).symm, ⟨h', ?_⟩, dec h', hw⟩
        obtain ⟨c1, c2⟩ := List.getElem?_eq_some_iff.1 hx
        rw [all_take c1, hp, c2]
        have : (x.length : Int) = 6 := by simpa using he
        simp; omega
    · have hkL := of_decide_eq_false hlt
      rw [List.take_of_length_le (by omega)] at hp
      repeat ((conv => whnf); first | apply qza | apply qzb | apply qzc | apply qzd | apply qze | intro (_ : Nat) | intro (_ : Option Addr) (_ : Nat))
      conv => whnf
      refine ⟨fun hz => ?_, fun hz => ?_⟩
      · repeat ((conv => whnf); first | apply qza | apply qzb | apply qzc | apply qzd | apply qze | intro (_ : Nat) | intro (_ : Option Addr) (_ : Nat))
        conv => whnf
        intro g2 hg
        have := of_decide_eq_true hz
        unfold shardB
        rw [hp, decide_eq_true (show 1 ≤ l.length by omega)]; simp; omega
      · repeat ((conv => whnf); first | apply qza | apply qzb | apply qzc | apply qzd | apply qze | intro (_ : Nat) | intro (_ : Option Addr) (_ : Nat))
        conv => whnf
        intro g2 hg
        have := of_decide_eq_false hz
        unfold shardB
        rw [hp, decide_eq_false (show ¬ 1 ≤ l.length by omega)]; rfl)
theorem ok_rhIs (g : GW) {v : Value} {l : List (List Int)} (hl : rSl 1 rRow g v l) : OkV Tryz.prog n_hydrantref11_Is [v] g (.bool (shardB l)) :=
  Ok.of_fn hm noT 0 t_hydrantref11_Is (args := [.v v]) (by
    obtain ⟨oa, cap, rfl, h1, h2, h0, hr⟩ := hl
    repeat ((conv => whnf); first | apply qza | apply qzb | apply qzc | apply qzd | apply qze | intro (_ : Nat) | intro (_ : Option Addr) (_ : Nat))
    conv => whnf
    refine ⟨Nat, fun k => [.v (.int .i64 k)], fun k => ⟨g, [], _, _⟩, fun k => k ≤ l.length ∧ (l.take k).all (fun r => decide (r.length = 6)) = true, fun k => l.length - k, loop_here 0 rfl ⟨Nat.zero_le _, by simp⟩ rfl, ?_⟩
    rintro k ⟨hk, hp⟩
    repeat ((conv => whnf); first | apply qza | apply qzb | apply qzc | apply qzd | apply qze | intro (_ : Nat) | intro (_ : Option Addr) (_ : Nat))
    conv => whnf
    refine ⟨fun hlt => ?_, fun hlt => ?_⟩
    · have h' : k < l.length := by have := of_decide_eq_true hlt; omega
      obtain ⟨x, hx⟩ := getL_of h'
      obtain ⟨a, rfl, ec, hec, ⟨n, rfl, hn⟩, hc⟩ := hr k x hx
      obtain ⟨ox, cx, rfl, x1, x2, x0, hx1⟩ := id hn
      repeat ((conv => whnf); first | apply qza | apply qzb | apply qzc | apply qzd | apply qze | intro (_ : Nat) | intro (_ : Option Addr) (_ : Nat))
      conv => whnf
      refine ⟨a, rfl, ⟨by omega, by omega⟩, ?_⟩
      conv => whnf
      refine ⟨_, hc 0 _ rfl, ?_⟩
      repeat ((conv => whnf); first | apply qza | apply qzb | apply qzc | apply qzd | apply qze | intro (_ : Nat) | intro (_ : Option Addr) (_ : Nat))
      conv => whnf
      refine ⟨fun he => ?_, fun he => ?_⟩
      · repeat ((conv => whnf); first | apply qza | apply qzb | apply qzc | apply qzd | apply qze | intro (_ : Nat) | intro (_ : Option Addr) (_ : Nat))
        conv => whnf
        intro g2 hg
        rw [shardB_bad (List.mem_of_getElem? hx) (by have : ((x.length : Int) ≠ 6) := by simpa using he
                                                     omega)]
      · repeat ((conv => whnf); first | apply qza | apply qzb | apply qzc | apply qzd | apply qze | intro (_ : Nat) | intro (_ : Option Addr) (_ : Nat))
        conv => whnf
        refine fun fr w hw => ⟨k + 1, congrArg (fun z => [Value.int .i64 z]) (wr1 h' h1 h2).symm, ⟨h', ?_⟩, dec h', hw⟩
        obtain ⟨c1, c2⟩ := List.getElem?_eq_some_iff.1 hx
        rw [all_take c1, hp, c2]
        have : (x.length : Int) = 6 := by simpa using he
        simp; omega
    · have hkL := of_decide_eq_false hlt
      rw [List.take_of_length_le (by omega)] at hp
      repeat ((conv => whnf); first | apply qza | apply qzb | apply qzc | apply qzd | apply qze | intro (_ : Nat) | intro (_ : Option Addr) (_ : Nat))
      conv => whnf
      refine ⟨fun hz => ?_, fun hz => ?_⟩
      · repeat ((conv => whnf); first | apply qza | apply qzb | apply qzc | apply qzd | apply qze | intro (_ : Nat) | intro (_ : Option Addr) (_ : Nat))
        conv => whnf
        intro g2 hg
        have := of_decide_eq_true hz
        unfold shardB
        rw [hp, decide_eq_true (show 1 ≤ l.length by omega)]; simp; omega
      · repeat ((conv => whnf); first | apply qza | apply qzb | apply qzc | apply qzd | apply qze | intro (_ : Nat) | intro (_ : Option Addr) (_ : Nat))
        conv => whnf
        intro g2 hg
        have := of_decide_eq_false hz
        unfold shardB
        rw [hp, decide_eq_false (show ¬ 1 ≤ l.length by omega)]; rfl)
end Go.Proofs.YtjaeeadfmnokeaaGreat

