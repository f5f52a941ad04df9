/- Scripts: what the laws ask first. -/
import Derived.Test.YtedjbhpocedagaaLW8i
namespace Go.Proofs.Ytedjbhpocedagaa
open Go.Proofs.Ytedjbhpocedagaa.Sx Go.RowKit
theorem b300 : bytesL [0, 300] = some [0, 172, 2] := by
  have h1 : encN 300 = [172, 2] := by rw [encN_ge (by decide), encN_lt (show 300 / 128 < 128 by decide)]
  have h0 : encN 0 = [0] := encN_lt (by decide)
  show (if (0 : Int) < 0 then none else match bytesL [300] with | some b => some (encN 0 ++ b) | none => none) = _
  rw [if_neg (by decide)]
  show (match (if (300 : Int) < 0 then none else match bytesL [] with | some b => some (encN 300 ++ b) | none => none) with | some b => some (encN 0 ++ b) | none => none) = _
  rw [if_neg (by decide)]
  show some (encN 0 ++ (encN 300 ++ [])) = _
  rw [h0, h1]; rfl
theorem good8 : checkE cfg8 = none := by decide
theorem good8b : checkE cfg8b = none := by decide
theorem is8 : isB scr8 = true := by
  simp only [isB, eqB_t good8]; decide
theorem names8 : namesL scr8 = [sIn, sWeb] := by
  have h1 : opN (addN [] [sIn]) ⟨3, sE, sE, sE, 0, 0, 0, cfg8b⟩ = [sIn, sWeb] := by
    rw [opN, if_pos ⟨rfl, good8b⟩]; rfl
  show opN (opN (addN [] [sIn]) ⟨3, sE, sE, sE, 0, 0, 0, cfg8b⟩) ⟨3, sE, sE, sE, 0, 0, 0, ⟨[], [], []⟩⟩ = _
  rw [h1, opN, if_neg]
  rintro ⟨_, h⟩
  exact absurd h (by decide)
theorem sms8 : SmS scr8 := by
  refine ⟨by decide, by decide, fun l hl => ?_⟩
  simp only [List.mem_cons, List.not_mem_nil, or_false] at hl
  subst hl
  refine ⟨by decide, fun o ho => ?_⟩
  simp only [List.mem_cons, List.not_mem_nil, or_false] at ho
  rcases ho with rfl | rfl <;> decide
theorem ok_written8 (g : GW) : OkV Try.prog n_hydrantlaw08_written [] g (.bool true) :=
  Ok.of_fn hm noT 0 t_hydrantlaw08_written (args := []) (by
    repeat ((conv => whnf); first | refine ⟨Eq.refl _, ?_⟩ | refine ⟨⟨Eq.refl _, Eq.refl _⟩, ?_⟩ | refine ⟨⟨Eq.refl _, Eq.refl _, Eq.refl _⟩, ?_⟩ | refine ⟨⟨Eq.refl _, Eq.refl _, Eq.refl _, Eq.refl _⟩, ?_⟩ | refine ⟨⟨Eq.refl _, Eq.refl _, Eq.refl _, Eq.refl _, Eq.refl _⟩, ?_⟩ | refine fun (_ : Nat) => ?_ | refine fun (_ : Option Addr) (_ : Nat) => ?_ | fail)
    conv => whnf
    refine .inr ((ok_plain8 _).mono fun v g1 hg1 hB => ?_)
    obtain ⟨cs, rfl, hs⟩ := hB
    have hs0 := hs
    obtain ⟨a, b, d, t, p, rfl, hc, ht, hp⟩ := hs
    have hcK := hc
    obtain ⟨_, _, _, he, ⟨oa, ca, rfl, _⟩, ⟨ob, cb, rfl, _⟩, od, cd, rfl, _⟩ := hc
    cases he
    obtain ⟨ot, ct, rfl, t1, t2, t0, ht1⟩ := id ht
    obtain ⟨op, cp, rfl, p1, p2, p0, hp1⟩ := id hp
    repeat ((conv => whnf); first | refine ⟨Eq.refl _, ?_⟩ | refine ⟨⟨Eq.refl _, Eq.refl _⟩, ?_⟩ | refine ⟨⟨Eq.refl _, Eq.refl _, Eq.refl _⟩, ?_⟩ | refine ⟨⟨Eq.refl _, Eq.refl _, Eq.refl _, Eq.refl _⟩, ?_⟩ | refine ⟨⟨Eq.refl _, Eq.refl _, Eq.refl _, Eq.refl _, Eq.refl _⟩, ?_⟩ | refine fun (_ : Nat) => ?_ | refine fun (_ : Option Addr) (_ : Nat) => ?_ | fail)
    conv => whnf
    refine .inr ((ok_Bytes _ hp).mono fun v g2 hg2 hB => ?_)
    rcases hB with ⟨h, _⟩ | ⟨_, h, _⟩ | ⟨_, b, o1, c1, hb, rfl, hr1⟩
    · exact absurd h (by decide)
    · rw [b300] at h; cases h
    rw [b300] at hb; cases hb
    have hby : rSl 1 rByt g2 (.slice o1 3 c1) [0, 172, 2] := rSl_of1 hr1 _ (fun (x : Nat) => .int .u8 x) rfl (by intro x hx; simp only [List.mem_cons, List.not_mem_nil, or_false] at hx; rcases hx with rfl | rfl | rfl <;> exact ⟨rfl, by decide⟩)
    repeat ((conv => whnf); first | refine ⟨Eq.refl _, ?_⟩ | refine ⟨⟨Eq.refl _, Eq.refl _⟩, ?_⟩ | refine ⟨⟨Eq.refl _, Eq.refl _, Eq.refl _⟩, ?_⟩ | refine ⟨⟨Eq.refl _, Eq.refl _, Eq.refl _, Eq.refl _⟩, ?_⟩ | refine ⟨⟨Eq.refl _, Eq.refl _, Eq.refl _, Eq.refl _, Eq.refl _⟩, ?_⟩ | refine fun (_ : Nat) => ?_ | refine fun (_ : Option Addr) (_ : Nat) => ?_ | fail)
    conv => whnf
    refine .inr ((ok_Picks _ hby).mono fun v g3 hg3 hB => ?_)
    rcases hB with ⟨e, h, _⟩ | ⟨l, o2, c2, hb, rfl, hr2⟩
    · cases h
    cases hb
    repeat ((conv => whnf); first | refine ⟨Eq.refl _, ?_⟩ | refine ⟨⟨Eq.refl _, Eq.refl _⟩, ?_⟩ | refine ⟨⟨Eq.refl _, Eq.refl _, Eq.refl _⟩, ?_⟩ | refine ⟨⟨Eq.refl _, Eq.refl _, Eq.refl _, Eq.refl _⟩, ?_⟩ | refine ⟨⟨Eq.refl _, Eq.refl _, Eq.refl _, Eq.refl _, Eq.refl _⟩, ?_⟩ | refine fun (_ : Nat) => ?_ | refine fun (_ : Option Addr) (_ : Nat) => ?_ | fail)
    conv => whnf
    refine ⟨1, rfl, by unfold maxLen; omega, fun g4 hg4 hn4 hp4 => ?_⟩
    repeat ((conv => whnf); first | refine ⟨Eq.refl _, ?_⟩ | refine ⟨⟨Eq.refl _, Eq.refl _⟩, ?_⟩ | refine ⟨⟨Eq.refl _, Eq.refl _, Eq.refl _⟩, ?_⟩ | refine ⟨⟨Eq.refl _, Eq.refl _, Eq.refl _, Eq.refl _⟩, ?_⟩ | refine ⟨⟨Eq.refl _, Eq.refl _, Eq.refl _, Eq.refl _, Eq.refl _⟩, ?_⟩ | refine fun (_ : Nat) => ?_ | refine fun (_ : Option Addr) (_ : Nat) => ?_ | fail)
    have hneg : rSl 1 rInt g4 _ [-1] := rSl_of1 hp4.rd [-1] (.int .i64) rfl (by intro x hx; simp only [List.mem_cons, List.not_mem_nil, or_false] at hx; subst hx; exact ⟨rfl, by decide⟩)
    conv => whnf
    refine .inr ((ok_Bytes _ hneg).mono fun v g5 hg5 hB => ?_)
    rcases hB with ⟨h, _⟩ | ⟨_, _, rfl⟩ | ⟨_, b, o1, c1, hb, _⟩
    · exact absurd h (by decide)
    rotate_left
    · cases hb
    repeat ((conv => whnf); first | refine ⟨Eq.refl _, ?_⟩ | refine ⟨⟨Eq.refl _, Eq.refl _⟩, ?_⟩ | refine ⟨⟨Eq.refl _, Eq.refl _, Eq.refl _⟩, ?_⟩ | refine ⟨⟨Eq.refl _, Eq.refl _, Eq.refl _, Eq.refl _⟩, ?_⟩ | refine ⟨⟨Eq.refl _, Eq.refl _, Eq.refl _, Eq.refl _, Eq.refl _⟩, ?_⟩ | refine fun (_ : Nat) => ?_ | refine fun (_ : Option Addr) (_ : Nat) => ?_ | fail)
    conv => whnf
    refine ⟨1, rfl, by unfold maxLen; omega, fun g6 hg6 hn6 hp6 => ?_⟩
    repeat ((conv => whnf); first | refine ⟨Eq.refl _, ?_⟩ | refine ⟨⟨Eq.refl _, Eq.refl _⟩, ?_⟩ | refine ⟨⟨Eq.refl _, Eq.refl _, Eq.refl _⟩, ?_⟩ | refine ⟨⟨Eq.refl _, Eq.refl _, Eq.refl _, Eq.refl _⟩, ?_⟩ | refine ⟨⟨Eq.refl _, Eq.refl _, Eq.refl _, Eq.refl _, Eq.refl _⟩, ?_⟩ | refine fun (_ : Nat) => ?_ | refine fun (_ : Option Addr) (_ : Nat) => ?_ | fail)
    have hb1 : rSl 1 rByt g6 _ [128] := rSl_of1 hp6.rd [128] (fun (x : Nat) => .int .u8 x) rfl (by intro x hx; simp only [List.mem_cons, List.not_mem_nil, or_false] at hx; subst hx; exact ⟨rfl, by decide⟩)
    conv => whnf
    refine .inr ((ok_Picks _ hb1).mono fun v g7 hg7 hB => ?_)
    rcases hB with ⟨e, h, rfl⟩ | ⟨l, o3, c3, hb, _⟩
    rotate_left
    · cases hb
    cases h
    repeat ((conv => whnf); first | refine ⟨Eq.refl _, ?_⟩ | refine ⟨⟨Eq.refl _, Eq.refl _⟩, ?_⟩ | refine ⟨⟨Eq.refl _, Eq.refl _, Eq.refl _⟩, ?_⟩ | refine ⟨⟨Eq.refl _, Eq.refl _, Eq.refl _, Eq.refl _⟩, ?_⟩ | refine ⟨⟨Eq.refl _, Eq.refl _, Eq.refl _, Eq.refl _, Eq.refl _⟩, ?_⟩ | refine fun (_ : Nat) => ?_ | refine fun (_ : Option Addr) (_ : Nat) => ?_ | fail)
    conv => whnf
    refine ⟨1, rfl, by unfold maxLen; omega, fun g8 hg8 hn8 hp8 => ?_⟩
    repeat ((conv => whnf); first | refine ⟨Eq.refl _, ?_⟩ | refine ⟨⟨Eq.refl _, Eq.refl _⟩, ?_⟩ | refine ⟨⟨Eq.refl _, Eq.refl _, Eq.refl _⟩, ?_⟩ | refine ⟨⟨Eq.refl _, Eq.refl _, Eq.refl _, Eq.refl _⟩, ?_⟩ | refine ⟨⟨Eq.refl _, Eq.refl _, Eq.refl _, Eq.refl _, Eq.refl _⟩, ?_⟩ | refine fun (_ : Nat) => ?_ | refine fun (_ : Option Addr) (_ : Nat) => ?_ | fail)
    have hb2 : rSl 1 rByt g8 _ [128, 0] := rSl_of1 hp8.rd [128, 0] (fun (x : Nat) => .int .u8 x) rfl (by intro x hx; simp only [List.mem_cons, List.not_mem_nil, or_false] at hx; rcases hx with rfl | rfl <;> exact ⟨rfl, by decide⟩)
    conv => whnf
    refine .inr ((ok_Picks _ hb2).mono fun v g9 hg9 hB => ?_)
    rcases hB with ⟨e, h, rfl⟩ | ⟨l, o3, c3, hb, _⟩
    rotate_left
    · cases hb
    cases h
    have up9 : g1 ≤ g9 := GW.trans hg2 (GW.trans hg3 (GW.trans hg4 (GW.trans hg5 (GW.trans hg6 (GW.trans hg7 (GW.trans hg8 hg9))))))
    repeat ((conv => whnf); first | refine ⟨Eq.refl _, ?_⟩ | refine ⟨⟨Eq.refl _, Eq.refl _⟩, ?_⟩ | refine ⟨⟨Eq.refl _, Eq.refl _, Eq.refl _⟩, ?_⟩ | refine ⟨⟨Eq.refl _, Eq.refl _, Eq.refl _, Eq.refl _⟩, ?_⟩ | refine ⟨⟨Eq.refl _, Eq.refl _, Eq.refl _, Eq.refl _, Eq.refl _⟩, ?_⟩ | refine fun (_ : Nat) => ?_ | refine fun (_ : Option Addr) (_ : Nat) => ?_ | fail)
    conv => whnf
    refine .inl ⟨_, (ok_scIs _ (rScript_mono _ _ _ _ up9 hs0)).to (congrArg Value.bool is8), ?_⟩
    repeat ((conv => whnf); first | refine ⟨Eq.refl _, ?_⟩ | refine ⟨⟨Eq.refl _, Eq.refl _⟩, ?_⟩ | refine ⟨⟨Eq.refl _, Eq.refl _, Eq.refl _⟩, ?_⟩ | refine ⟨⟨Eq.refl _, Eq.refl _, Eq.refl _, Eq.refl _⟩, ?_⟩ | refine ⟨⟨Eq.refl _, Eq.refl _, Eq.refl _, Eq.refl _, Eq.refl _⟩, ?_⟩ | refine fun (_ : Nat) => ?_ | refine fun (_ : Option Addr) (_ : Nat) => ?_ | fail)
    conv => whnf
    refine ⟨fun _ => ?_, fun h => nomatch h⟩
    repeat ((conv => whnf); first | refine ⟨Eq.refl _, ?_⟩ | refine ⟨⟨Eq.refl _, Eq.refl _⟩, ?_⟩ | refine ⟨⟨Eq.refl _, Eq.refl _, Eq.refl _⟩, ?_⟩ | refine ⟨⟨Eq.refl _, Eq.refl _, Eq.refl _, Eq.refl _⟩, ?_⟩ | refine ⟨⟨Eq.refl _, Eq.refl _, Eq.refl _, Eq.refl _, Eq.refl _⟩, ?_⟩ | refine fun (_ : Nat) => ?_ | refine fun (_ : Option Addr) (_ : Nat) => ?_ | fail)
    conv => whnf
    refine ⟨1, rfl, by unfold maxLen; omega, fun g10 hg10 hn10 hp10 => ?_⟩
    have up10 : g1 ≤ g10 := GW.trans up9 hg10
    have hTs : rScript g10 _ ⟨cfg8, [ops8], [-1]⟩ := ⟨_, _, _, _, _, rfl, rConfig_mono _ _ _ _ up10 hcK, ht.mono rThread_mono up10, rSl_of1 hp10.rd [-1] (.int .i64) rfl (by intro x hx; simp only [List.mem_cons, List.not_mem_nil, or_false] at hx; subst hx; exact ⟨rfl, by decide⟩)⟩
    have hnis : isB ⟨cfg8, [ops8], [-1]⟩ = false := by
      simp only [isB, eqB_t good8]; decide
    conv => whnf
    refine .inl ⟨_, (ok_scIs _ hTs).to (congrArg Value.bool hnis), ?_⟩
    repeat ((conv => whnf); first | refine ⟨Eq.refl _, ?_⟩ | refine ⟨⟨Eq.refl _, Eq.refl _⟩, ?_⟩ | refine ⟨⟨Eq.refl _, Eq.refl _, Eq.refl _⟩, ?_⟩ | refine ⟨⟨Eq.refl _, Eq.refl _, Eq.refl _, Eq.refl _⟩, ?_⟩ | refine ⟨⟨Eq.refl _, Eq.refl _, Eq.refl _, Eq.refl _, Eq.refl _⟩, ?_⟩ | refine fun (_ : Nat) => ?_ | refine fun (_ : Option Addr) (_ : Nat) => ?_ | fail)
    conv => whnf
    refine ⟨fun _ => ?_, fun h => nomatch h⟩
    repeat ((conv => whnf); first | refine ⟨Eq.refl _, ?_⟩ | refine ⟨⟨Eq.refl _, Eq.refl _⟩, ?_⟩ | refine ⟨⟨Eq.refl _, Eq.refl _, Eq.refl _⟩, ?_⟩ | refine ⟨⟨Eq.refl _, Eq.refl _, Eq.refl _, Eq.refl _⟩, ?_⟩ | refine ⟨⟨Eq.refl _, Eq.refl _, Eq.refl _, Eq.refl _, Eq.refl _⟩, ?_⟩ | refine fun (_ : Nat) => ?_ | refine fun (_ : Option Addr) (_ : Nat) => ?_ | fail)
    conv => whnf
    refine .inr ((ok_scNames _ (rScript_mono _ _ _ _ up10 hs0) sms8).mono fun v g11 hg11 hN => ?_)
    rw [names8] at hN
    obtain ⟨o4, c4, rfl, _⟩ := id hN
    repeat ((conv => whnf); first | refine ⟨Eq.refl _, ?_⟩ | refine ⟨⟨Eq.refl _, Eq.refl _⟩, ?_⟩ | refine ⟨⟨Eq.refl _, Eq.refl _, Eq.refl _⟩, ?_⟩ | refine ⟨⟨Eq.refl _, Eq.refl _, Eq.refl _, Eq.refl _⟩, ?_⟩ | refine ⟨⟨Eq.refl _, Eq.refl _, Eq.refl _, Eq.refl _, Eq.refl _⟩, ?_⟩ | refine fun (_ : Nat) => ?_ | refine fun (_ : Option Addr) (_ : Nat) => ?_ | fail)
    conv => whnf
    refine ⟨1, rfl, by unfold maxLen; omega, fun g12 hg12 hn12 hp12 => ?_⟩
    repeat ((conv => whnf); first | refine ⟨Eq.refl _, ?_⟩ | refine ⟨⟨Eq.refl _, Eq.refl _⟩, ?_⟩ | refine ⟨⟨Eq.refl _, Eq.refl _, Eq.refl _⟩, ?_⟩ | refine ⟨⟨Eq.refl _, Eq.refl _, Eq.refl _, Eq.refl _⟩, ?_⟩ | refine ⟨⟨Eq.refl _, Eq.refl _, Eq.refl _, Eq.refl _, Eq.refl _⟩, ?_⟩ | refine fun (_ : Nat) => ?_ | refine fun (_ : Option Addr) (_ : Nat) => ?_ | fail)
    have hM : rSl 1 rStr g12 _ [sIn, sWeb] := rSl_of1 hp12.rd [sIn, sWeb] .string rfl fun _ _ => rfl
    conv => whnf
    refine .inl ⟨_, (ok_Same3 _ (hN.mono rStr_mono hg12) hM).to (congrArg Value.bool (eqB_t rfl)), ?_⟩
    repeat ((conv => whnf); first | refine ⟨Eq.refl _, ?_⟩ | refine ⟨⟨Eq.refl _, Eq.refl _⟩, ?_⟩ | refine ⟨⟨Eq.refl _, Eq.refl _, Eq.refl _⟩, ?_⟩ | refine ⟨⟨Eq.refl _, Eq.refl _, Eq.refl _, Eq.refl _⟩, ?_⟩ | refine ⟨⟨Eq.refl _, Eq.refl _, Eq.refl _, Eq.refl _, Eq.refl _⟩, ?_⟩ | refine fun (_ : Nat) => ?_ | refine fun (_ : Option Addr) (_ : Nat) => ?_ | fail)
    conv => whnf
    refine ⟨fun _ => ?_, fun h => nomatch h⟩
    conv => whnf
    refine ⟨fun _ => ?_, fun h => nomatch h⟩
    conv => whnf
    refine ⟨fun _ => ?_, fun h => nomatch h⟩
    have up12 : g3 ≤ g12 := GW.trans hg4 (GW.trans hg5 (GW.trans hg6 (GW.trans hg7 (GW.trans hg8 (GW.trans hg9 (GW.trans hg10 (GW.trans hg11 hg12)))))))
    obtain ⟨_, o1', c1', he, _, _, _, hcl⟩ := (hr1.mono hg3).mono up12
    cases he
    obtain ⟨ab, rfl, hb0⟩ := hcl 0 _ rfl
    obtain ⟨ab', e1, hb1'⟩ := hcl 1 _ rfl
    cases e1
    obtain ⟨ab', e1, hb2'⟩ := hcl 2 _ rfl
    cases e1
    repeat ((conv => whnf); first | refine ⟨Eq.refl _, ?_⟩ | refine ⟨⟨Eq.refl _, Eq.refl _⟩, ?_⟩ | refine ⟨⟨Eq.refl _, Eq.refl _, Eq.refl _⟩, ?_⟩ | refine ⟨⟨Eq.refl _, Eq.refl _, Eq.refl _, Eq.refl _⟩, ?_⟩ | refine ⟨⟨Eq.refl _, Eq.refl _, Eq.refl _, Eq.refl _, Eq.refl _⟩, ?_⟩ | refine fun (_ : Nat) => ?_ | refine fun (_ : Option Addr) (_ : Nat) => ?_ | fail)
    conv => whnf
    refine ⟨ab, rfl, ⟨by decide, by decide⟩, ?_⟩
    repeat ((conv => whnf); first | refine ⟨Eq.refl _, ?_⟩ | refine ⟨⟨Eq.refl _, Eq.refl _⟩, ?_⟩ | refine ⟨⟨Eq.refl _, Eq.refl _, Eq.refl _⟩, ?_⟩ | refine ⟨⟨Eq.refl _, Eq.refl _, Eq.refl _, Eq.refl _⟩, ?_⟩ | refine ⟨⟨Eq.refl _, Eq.refl _, Eq.refl _, Eq.refl _, Eq.refl _⟩, ?_⟩ | refine fun (_ : Nat) => ?_ | refine fun (_ : Option Addr) (_ : Nat) => ?_ | fail)
    conv => whnf
    refine ⟨_, hb0, ?_⟩
    repeat ((conv => whnf); first | refine ⟨Eq.refl _, ?_⟩ | refine ⟨⟨Eq.refl _, Eq.refl _⟩, ?_⟩ | refine ⟨⟨Eq.refl _, Eq.refl _, Eq.refl _⟩, ?_⟩ | refine ⟨⟨Eq.refl _, Eq.refl _, Eq.refl _, Eq.refl _⟩, ?_⟩ | refine ⟨⟨Eq.refl _, Eq.refl _, Eq.refl _, Eq.refl _, Eq.refl _⟩, ?_⟩ | refine fun (_ : Nat) => ?_ | refine fun (_ : Option Addr) (_ : Nat) => ?_ | fail)
    conv => whnf
    refine ⟨fun _ => ?_, fun h => nomatch h⟩
    repeat ((conv => whnf); first | refine ⟨Eq.refl _, ?_⟩ | refine ⟨⟨Eq.refl _, Eq.refl _⟩, ?_⟩ | refine ⟨⟨Eq.refl _, Eq.refl _, Eq.refl _⟩, ?_⟩ | refine ⟨⟨Eq.refl _, Eq.refl _, Eq.refl _, Eq.refl _⟩, ?_⟩ | refine ⟨⟨Eq.refl _, Eq.refl _, Eq.refl _, Eq.refl _, Eq.refl _⟩, ?_⟩ | refine fun (_ : Nat) => ?_ | refine fun (_ : Option Addr) (_ : Nat) => ?_ | fail)
    conv => whnf
    refine ⟨ab, rfl, ⟨by decide, by decide⟩, ?_⟩
    repeat ((conv => whnf); first | refine ⟨Eq.refl _, ?_⟩ | refine ⟨⟨Eq.refl _, Eq.refl _⟩, ?_⟩ | refine ⟨⟨Eq.refl _, Eq.refl _, Eq.refl _⟩, ?_⟩ | refine ⟨⟨Eq.refl _, Eq.refl _, Eq.refl _, Eq.refl _⟩, ?_⟩ | refine ⟨⟨Eq.refl _, Eq.refl _, Eq.refl _, Eq.refl _, Eq.refl _⟩, ?_⟩ | refine fun (_ : Nat) => ?_ | refine fun (_ : Option Addr) (_ : Nat) => ?_ | fail)
    conv => whnf
    refine ⟨_, hb1', ?_⟩
    repeat ((conv => whnf); first | refine ⟨Eq.refl _, ?_⟩ | refine ⟨⟨Eq.refl _, Eq.refl _⟩, ?_⟩ | refine ⟨⟨Eq.refl _, Eq.refl _, Eq.refl _⟩, ?_⟩ | refine ⟨⟨Eq.refl _, Eq.refl _, Eq.refl _, Eq.refl _⟩, ?_⟩ | refine ⟨⟨Eq.refl _, Eq.refl _, Eq.refl _, Eq.refl _, Eq.refl _⟩, ?_⟩ | refine fun (_ : Nat) => ?_ | refine fun (_ : Option Addr) (_ : Nat) => ?_ | fail)
    conv => whnf
    refine ⟨fun _ => ?_, fun h => nomatch h⟩
    repeat ((conv => whnf); first | refine ⟨Eq.refl _, ?_⟩ | refine ⟨⟨Eq.refl _, Eq.refl _⟩, ?_⟩ | refine ⟨⟨Eq.refl _, Eq.refl _, Eq.refl _⟩, ?_⟩ | refine ⟨⟨Eq.refl _, Eq.refl _, Eq.refl _, Eq.refl _⟩, ?_⟩ | refine ⟨⟨Eq.refl _, Eq.refl _, Eq.refl _, Eq.refl _, Eq.refl _⟩, ?_⟩ | refine fun (_ : Nat) => ?_ | refine fun (_ : Option Addr) (_ : Nat) => ?_ | fail)
    conv => whnf
    refine ⟨ab, rfl, ⟨by decide, by decide⟩, ?_⟩
    repeat ((conv => whnf); first | refine ⟨Eq.refl _, ?_⟩ | refine ⟨⟨Eq.refl _, Eq.refl _⟩, ?_⟩ | refine ⟨⟨Eq.refl _, Eq.refl _, Eq.refl _⟩, ?_⟩ | refine ⟨⟨Eq.refl _, Eq.refl _, Eq.refl _, Eq.refl _⟩, ?_⟩ | refine ⟨⟨Eq.refl _, Eq.refl _, Eq.refl _, Eq.refl _, Eq.refl _⟩, ?_⟩ | refine fun (_ : Nat) => ?_ | refine fun (_ : Option Addr) (_ : Nat) => ?_ | fail)
    conv => whnf
    refine ⟨_, hb2', ?_⟩
    repeat ((conv => whnf); first | refine ⟨Eq.refl _, ?_⟩ | refine ⟨⟨Eq.refl _, Eq.refl _⟩, ?_⟩ | refine ⟨⟨Eq.refl _, Eq.refl _, Eq.refl _⟩, ?_⟩ | refine ⟨⟨Eq.refl _, Eq.refl _, Eq.refl _, Eq.refl _⟩, ?_⟩ | refine ⟨⟨Eq.refl _, Eq.refl _, Eq.refl _, Eq.refl _, Eq.refl _⟩, ?_⟩ | refine fun (_ : Nat) => ?_ | refine fun (_ : Option Addr) (_ : Nat) => ?_ | fail)
    conv => whnf
    refine ⟨fun _ => ?_, fun h => nomatch h⟩
    repeat ((conv => whnf); first | refine ⟨Eq.refl _, ?_⟩ | refine ⟨⟨Eq.refl _, Eq.refl _⟩, ?_⟩ | refine ⟨⟨Eq.refl _, Eq.refl _, Eq.refl _⟩, ?_⟩ | refine ⟨⟨Eq.refl _, Eq.refl _, Eq.refl _, Eq.refl _⟩, ?_⟩ | refine ⟨⟨Eq.refl _, Eq.refl _, Eq.refl _, Eq.refl _, Eq.refl _⟩, ?_⟩ | refine fun (_ : Nat) => ?_ | refine fun (_ : Option Addr) (_ : Nat) => ?_ | fail)
    conv => whnf
    refine ⟨fun _ => ?_, fun h => nomatch h⟩
    repeat ((conv => whnf); first | refine ⟨Eq.refl _, ?_⟩ | refine ⟨⟨Eq.refl _, Eq.refl _⟩, ?_⟩ | refine ⟨⟨Eq.refl _, Eq.refl _, Eq.refl _⟩, ?_⟩ | refine ⟨⟨Eq.refl _, Eq.refl _, Eq.refl _, Eq.refl _⟩, ?_⟩ | refine ⟨⟨Eq.refl _, Eq.refl _, Eq.refl _, Eq.refl _, Eq.refl _⟩, ?_⟩ | refine fun (_ : Nat) => ?_ | refine fun (_ : Option Addr) (_ : Nat) => ?_ | fail)
    have hl2 : rSl 1 rInt g12 (.slice o2 2 c2) [0, 300] := rSl_of1 (hr2.mono up12) [0, 300] (.int .i64) rfl (by intro x hx; simp only [List.mem_cons, List.not_mem_nil, or_false] at hx; rcases hx with rfl | rfl <;> exact ⟨rfl, by decide⟩)
    conv => whnf
    refine .inl ⟨_, (ok_Same2 _ hl2 (hp.mono rInt_mono (GW.trans hg2 (GW.trans hg3 up12)))).to (congrArg Value.bool (eqB_t rfl)), ?_⟩
    repeat ((conv => whnf); first | refine ⟨Eq.refl _, ?_⟩ | refine ⟨⟨Eq.refl _, Eq.refl _⟩, ?_⟩ | refine ⟨⟨Eq.refl _, Eq.refl _, Eq.refl _⟩, ?_⟩ | refine ⟨⟨Eq.refl _, Eq.refl _, Eq.refl _, Eq.refl _⟩, ?_⟩ | refine ⟨⟨Eq.refl _, Eq.refl _, Eq.refl _, Eq.refl _, Eq.refl _⟩, ?_⟩ | refine fun (_ : Nat) => ?_ | refine fun (_ : Option Addr) (_ : Nat) => ?_ | fail)
    conv => whnf
    refine ⟨fun _ => ?_, fun h => nomatch h⟩
    conv => whnf
    refine ⟨fun _ => ?_, fun h => nomatch h⟩
    conv => whnf
    refine ⟨fun _ => ?_, fun h => nomatch h⟩
    conv => whnf
    intro g2 hg
    rfl)
end Go.Proofs.Ytedjbhpocedagaa

/- Scripts: whether one is too much to be looked at. -/
namespace Go.Proofs.Ytedjbhpocedagaa
open Go.Proofs.Ytedjbhpocedagaa.Sx Go.RowKit
def bigO (o : OpD) : Bool := bigC o.config || decide (100 < o.host.size) || decide (100 < o.path.size)
def bigT (l : List OpD) : Bool := decide (40 < l.length) || l.any bigO
def bigS (s : Script) : Bool := bigC s.first || decide (20 < s.threads.length) || decide (5000 < s.picks.length) || s.threads.any bigT
theorem ok_sBig (g : GW) {cs : List Value} {s : Script} (hs : rScript g cs s) : OkV Try.prog n_hydrantref08_Big [.agg ⟨cs⟩] g (.bool (bigS s)) := by
  obtain ⟨a, b, d, t, p, rfl, hc, ht, hp⟩ := hs
  have hc0 := hc
  obtain ⟨_, _, _, he, ⟨oa, ca, rfl, _⟩, ⟨ob, cb, rfl, _⟩, od, cd, rfl, _⟩ := hc
  cases he
  obtain ⟨ot, ct, rfl, t1, t2, t0, ht1⟩ := id ht
  obtain ⟨op, cp, rfl, p1, p2, p0, hp1⟩ := id hp
  exact Ok.of_fn hm noT 0 t_hydrantref08_Big (args := [.v (.agg ⟨[.slice oa s.first.listens.length ca, .slice ob s.first.routes.length cb, .slice od s.first.clusters.length cd, .slice ot s.threads.length ct, .slice op s.picks.length cp]⟩)]) (by
    repeat ((conv => whnf); first | refine ⟨Eq.refl _, ?_⟩ | refine ⟨⟨Eq.refl _, Eq.refl _⟩, ?_⟩ | refine ⟨⟨Eq.refl _, Eq.refl _, Eq.refl _⟩, ?_⟩ | refine ⟨⟨Eq.refl _, Eq.refl _, Eq.refl _, Eq.refl _⟩, ?_⟩ | refine ⟨⟨Eq.refl _, Eq.refl _, Eq.refl _, Eq.refl _, Eq.refl _⟩, ?_⟩ | refine fun (_ : Nat) => ?_ | refine fun (_ : Option Addr) (_ : Nat) => ?_ | fail)
    conv => whnf
    refine .inl ⟨_, ok_cBig _ hc0, ?_⟩
    repeat ((conv => whnf); first | refine ⟨Eq.refl _, ?_⟩ | refine ⟨⟨Eq.refl _, Eq.refl _⟩, ?_⟩ | refine ⟨⟨Eq.refl _, Eq.refl _, Eq.refl _⟩, ?_⟩ | refine ⟨⟨Eq.refl _, Eq.refl _, Eq.refl _, Eq.refl _⟩, ?_⟩ | refine ⟨⟨Eq.refl _, Eq.refl _, Eq.refl _, Eq.refl _, Eq.refl _⟩, ?_⟩ | refine fun (_ : Nat) => ?_ | refine fun (_ : Option Addr) (_ : Nat) => ?_ | fail)
    conv => whnf
    refine ⟨fun z1 => ?_, fun z1 => ?_⟩
    · repeat ((conv => whnf); first | refine ⟨Eq.refl _, ?_⟩ | refine ⟨⟨Eq.refl _, Eq.refl _⟩, ?_⟩ | refine ⟨⟨Eq.refl _, Eq.refl _, Eq.refl _⟩, ?_⟩ | refine ⟨⟨Eq.refl _, Eq.refl _, Eq.refl _, Eq.refl _⟩, ?_⟩ | refine ⟨⟨Eq.refl _, Eq.refl _, Eq.refl _, Eq.refl _, Eq.refl _⟩, ?_⟩ | refine fun (_ : Nat) => ?_ | refine fun (_ : Option Addr) (_ : Nat) => ?_ | fail)
      conv => whnf
      intro g2 hg
      rw [bigS, z1]; rfl
    repeat ((conv => whnf); first | refine ⟨Eq.refl _, ?_⟩ | refine ⟨⟨Eq.refl _, Eq.refl _⟩, ?_⟩ | refine ⟨⟨Eq.refl _, Eq.refl _, Eq.refl _⟩, ?_⟩ | refine ⟨⟨Eq.refl _, Eq.refl _, Eq.refl _, Eq.refl _⟩, ?_⟩ | refine ⟨⟨Eq.refl _, Eq.refl _, Eq.refl _, Eq.refl _, Eq.refl _⟩, ?_⟩ | refine fun (_ : Nat) => ?_ | refine fun (_ : Option Addr) (_ : Nat) => ?_ | fail)
    conv => whnf
    refine ⟨fun z2 => ?_, fun z2 => ?_⟩
    · repeat ((conv => whnf); first | refine ⟨Eq.refl _, ?_⟩ | refine ⟨⟨Eq.refl _, Eq.refl _⟩, ?_⟩ | refine ⟨⟨Eq.refl _, Eq.refl _, Eq.refl _⟩, ?_⟩ | refine ⟨⟨Eq.refl _, Eq.refl _, Eq.refl _, Eq.refl _⟩, ?_⟩ | refine ⟨⟨Eq.refl _, Eq.refl _, Eq.refl _, Eq.refl _, Eq.refl _⟩, ?_⟩ | refine fun (_ : Nat) => ?_ | refine fun (_ : Option Addr) (_ : Nat) => ?_ | fail)
      conv => whnf
      intro g2 hg
      rw [bigS, decide_eq_true (show 20 < s.threads.length by have := of_decide_eq_true z2; omega)]; simp
    repeat ((conv => whnf); first | refine ⟨Eq.refl _, ?_⟩ | refine ⟨⟨Eq.refl _, Eq.refl _⟩, ?_⟩ | refine ⟨⟨Eq.refl _, Eq.refl _, Eq.refl _⟩, ?_⟩ | refine ⟨⟨Eq.refl _, Eq.refl _, Eq.refl _, Eq.refl _⟩, ?_⟩ | refine ⟨⟨Eq.refl _, Eq.refl _, Eq.refl _, Eq.refl _, Eq.refl _⟩, ?_⟩ | refine fun (_ : Nat) => ?_ | refine fun (_ : Option Addr) (_ : Nat) => ?_ | fail)
    conv => whnf
    refine ⟨fun z3 => ?_, fun z3 => ?_⟩
    · conv => whnf
      intro g2 hg
      rw [bigS, decide_eq_true (show 5000 < s.picks.length by have := of_decide_eq_true z3; omega)]; simp
    have hB : bigS s = s.threads.any bigT := by
      rw [bigS, z1, decide_eq_false (show ¬ 20 < s.threads.length by have := of_decide_eq_false z2; omega), decide_eq_false (show ¬ 5000 < s.picks.length by have := of_decide_eq_false z3; omega)]; rfl
    repeat ((conv => whnf); first | refine ⟨Eq.refl _, ?_⟩ | refine ⟨⟨Eq.refl _, Eq.refl _⟩, ?_⟩ | refine ⟨⟨Eq.refl _, Eq.refl _, Eq.refl _⟩, ?_⟩ | refine ⟨⟨Eq.refl _, Eq.refl _, Eq.refl _, Eq.refl _⟩, ?_⟩ | refine ⟨⟨Eq.refl _, Eq.refl _, Eq.refl _, Eq.refl _, Eq.refl _⟩, ?_⟩ | refine fun (_ : Nat) => ?_ | refine fun (_ : Option Addr) (_ : Nat) => ?_ | fail)
    conv => whnf
    refine ⟨Nat, fun k => [.v (.int .i64 k)], fun _ => ⟨g, [.blk 0 _ _ [.v (.slice oa s.first.listens.length ca), .v (.slice ob s.first.routes.length cb), .v (.slice od s.first.clusters.length cd), .v (.slice ot s.threads.length ct), .v (.slice op s.picks.length cp)]], _, _⟩, fun k => k ≤ s.threads.length ∧ (s.threads.take k).any bigT = false, fun k => s.threads.length - k, loop_here 0 rfl ⟨Nat.zero_le _, rfl⟩ rfl, ?_⟩
    rintro k ⟨hk, hany⟩
    repeat ((conv => whnf); first | refine ⟨Eq.refl _, ?_⟩ | refine ⟨⟨Eq.refl _, Eq.refl _⟩, ?_⟩ | refine ⟨⟨Eq.refl _, Eq.refl _, Eq.refl _⟩, ?_⟩ | refine ⟨⟨Eq.refl _, Eq.refl _, Eq.refl _, Eq.refl _⟩, ?_⟩ | refine ⟨⟨Eq.refl _, Eq.refl _, Eq.refl _, Eq.refl _, Eq.refl _⟩, ?_⟩ | refine fun (_ : Nat) => ?_ | refine fun (_ : Option Addr) (_ : Nat) => ?_ | fail)
    conv => whnf
    refine ⟨fun hlt => ?_, fun hlt => ?_⟩
    · have h' : k < s.threads.length := by have := of_decide_eq_true hlt; omega
      obtain ⟨l, hl⟩ := getL_of h'
      obtain ⟨aT, rfl, ec, hec, ⟨v, rfl, hv'⟩, hc⟩ := ht1 k l hl
      obtain ⟨oo, co, rfl, o1, o2, o0, hv1⟩ := id hv'
      have hbig : bigT l = true → bigS s = true := fun h => by rw [hB]; exact List.any_eq_true.2 ⟨l, List.mem_of_getElem? hl, h⟩
      repeat ((conv => whnf); first | refine ⟨Eq.refl _, ?_⟩ | refine ⟨⟨Eq.refl _, Eq.refl _⟩, ?_⟩ | refine ⟨⟨Eq.refl _, Eq.refl _, Eq.refl _⟩, ?_⟩ | refine ⟨⟨Eq.refl _, Eq.refl _, Eq.refl _, Eq.refl _⟩, ?_⟩ | refine ⟨⟨Eq.refl _, Eq.refl _, Eq.refl _, Eq.refl _, Eq.refl _⟩, ?_⟩ | refine fun (_ : Nat) => ?_ | refine fun (_ : Option Addr) (_ : Nat) => ?_ | fail)
      conv => whnf
      refine ⟨aT, rfl, ⟨by omega, by omega⟩, ?_⟩
      conv => whnf
      refine ⟨_, hc 0 _ rfl, ?_⟩
      repeat ((conv => whnf); first | refine ⟨Eq.refl _, ?_⟩ | refine ⟨⟨Eq.refl _, Eq.refl _⟩, ?_⟩ | refine ⟨⟨Eq.refl _, Eq.refl _, Eq.refl _⟩, ?_⟩ | refine ⟨⟨Eq.refl _, Eq.refl _, Eq.refl _, Eq.refl _⟩, ?_⟩ | refine ⟨⟨Eq.refl _, Eq.refl _, Eq.refl _, Eq.refl _, Eq.refl _⟩, ?_⟩ | refine fun (_ : Nat) => ?_ | refine fun (_ : Option Addr) (_ : Nat) => ?_ | fail)
      conv => whnf
      refine ⟨fun z5 => ?_, fun z5 => ?_⟩
      · conv => whnf
        intro g2 hg
        rw [hbig (by rw [bigT, decide_eq_true (show 40 < l.length by have := of_decide_eq_true z5; omega)]; rfl)]
      have hT : bigT l = l.any bigO := by rw [bigT, decide_eq_false (show ¬ 40 < l.length by have := of_decide_eq_false z5; omega)]; rfl
      repeat ((conv => whnf); first | refine ⟨Eq.refl _, ?_⟩ | refine ⟨⟨Eq.refl _, Eq.refl _⟩, ?_⟩ | refine ⟨⟨Eq.refl _, Eq.refl _, Eq.refl _⟩, ?_⟩ | refine ⟨⟨Eq.refl _, Eq.refl _, Eq.refl _, Eq.refl _⟩, ?_⟩ | refine ⟨⟨Eq.refl _, Eq.refl _, Eq.refl _, Eq.refl _, Eq.refl _⟩, ?_⟩ | refine fun (_ : Nat) => ?_ | refine fun (_ : Option Addr) (_ : Nat) => ?_ | fail)
      conv => whnf
      refine ⟨Nat, fun n => [.v (.int .i64 n)], fun _ => ⟨g, [.blk 0 _ _ [.v (.slice oa s.first.listens.length ca), .v (.slice ob s.first.routes.length cb), .v (.slice od s.first.clusters.length cd), .v (.slice (some aT) s.threads.length ct), .v (.slice op s.picks.length cp)]], _, _⟩, fun n => n ≤ l.length ∧ (l.take n).any bigO = false, fun n => l.length - n, loop_here 0 rfl ⟨Nat.zero_le _, rfl⟩ rfl, ?_⟩
      rintro n ⟨hn, hno⟩
      repeat ((conv => whnf); first | refine ⟨Eq.refl _, ?_⟩ | refine ⟨⟨Eq.refl _, Eq.refl _⟩, ?_⟩ | refine ⟨⟨Eq.refl _, Eq.refl _, Eq.refl _⟩, ?_⟩ | refine ⟨⟨Eq.refl _, Eq.refl _, Eq.refl _, Eq.refl _⟩, ?_⟩ | refine ⟨⟨Eq.refl _, Eq.refl _, Eq.refl _, Eq.refl _, Eq.refl _⟩, ?_⟩ | refine fun (_ : Nat) => ?_ | refine fun (_ : Option Addr) (_ : Nat) => ?_ | fail)
      conv => whnf
      refine ⟨aT, rfl, ⟨by omega, by omega⟩, ?_⟩
      conv => whnf
      refine ⟨_, hc 0 _ rfl, ?_⟩
      repeat ((conv => whnf); first | refine ⟨Eq.refl _, ?_⟩ | refine ⟨⟨Eq.refl _, Eq.refl _⟩, ?_⟩ | refine ⟨⟨Eq.refl _, Eq.refl _, Eq.refl _⟩, ?_⟩ | refine ⟨⟨Eq.refl _, Eq.refl _, Eq.refl _, Eq.refl _⟩, ?_⟩ | refine ⟨⟨Eq.refl _, Eq.refl _, Eq.refl _, Eq.refl _, Eq.refl _⟩, ?_⟩ | refine fun (_ : Nat) => ?_ | refine fun (_ : Option Addr) (_ : Nat) => ?_ | fail)
      conv => whnf
      refine ⟨fun hln => ?_, fun hln => ?_⟩
      · have hn' : n < l.length := by have := of_decide_eq_true hln; omega
        obtain ⟨o, ho⟩ := getL_of hn'
        obtain ⟨aO, rfl, eo, heo, ⟨x1, x2, x3, rfl, _, hcf⟩, hco⟩ := hv1 n o ho
        have hcf0 := hcf
        obtain ⟨_, _, _, he, ⟨y1, y2, rfl, _⟩, ⟨y3, y4, rfl, _⟩, y5, y6, rfl, _⟩ := hcf
        cases he
        have hbo : bigO o = true → bigS s = true := fun h => hbig (by rw [hT]; exact List.any_eq_true.2 ⟨o, List.mem_of_getElem? ho, h⟩)
        repeat ((conv => whnf); first | refine ⟨Eq.refl _, ?_⟩ | refine ⟨⟨Eq.refl _, Eq.refl _⟩, ?_⟩ | refine ⟨⟨Eq.refl _, Eq.refl _, Eq.refl _⟩, ?_⟩ | refine ⟨⟨Eq.refl _, Eq.refl _, Eq.refl _, Eq.refl _⟩, ?_⟩ | refine ⟨⟨Eq.refl _, Eq.refl _, Eq.refl _, Eq.refl _, Eq.refl _⟩, ?_⟩ | refine fun (_ : Nat) => ?_ | refine fun (_ : Option Addr) (_ : Nat) => ?_ | fail)
        conv => whnf
        refine ⟨aT, rfl, ⟨by omega, by omega⟩, ?_⟩
        conv => whnf
        refine ⟨_, hc 0 _ rfl, ?_⟩
        repeat ((conv => whnf); first | refine ⟨Eq.refl _, ?_⟩ | refine ⟨⟨Eq.refl _, Eq.refl _⟩, ?_⟩ | refine ⟨⟨Eq.refl _, Eq.refl _, Eq.refl _⟩, ?_⟩ | refine ⟨⟨Eq.refl _, Eq.refl _, Eq.refl _, Eq.refl _⟩, ?_⟩ | refine ⟨⟨Eq.refl _, Eq.refl _, Eq.refl _, Eq.refl _, Eq.refl _⟩, ?_⟩ | refine fun (_ : Nat) => ?_ | refine fun (_ : Option Addr) (_ : Nat) => ?_ | fail)
        conv => whnf
        refine ⟨aO, rfl, ⟨by omega, by omega⟩, ?_⟩
        conv => whnf
        refine ⟨_, ⟨rfl, hco⟩, ?_⟩
        repeat ((conv => whnf); first | refine ⟨Eq.refl _, ?_⟩ | refine ⟨⟨Eq.refl _, Eq.refl _⟩, ?_⟩ | refine ⟨⟨Eq.refl _, Eq.refl _, Eq.refl _⟩, ?_⟩ | refine ⟨⟨Eq.refl _, Eq.refl _, Eq.refl _, Eq.refl _⟩, ?_⟩ | refine ⟨⟨Eq.refl _, Eq.refl _, Eq.refl _, Eq.refl _, Eq.refl _⟩, ?_⟩ | refine fun (_ : Nat) => ?_ | refine fun (_ : Option Addr) (_ : Nat) => ?_ | fail)
        conv => whnf
        refine .inl ⟨_, ok_cBig _ hcf0, ?_⟩
        repeat ((conv => whnf); first | refine ⟨Eq.refl _, ?_⟩ | refine ⟨⟨Eq.refl _, Eq.refl _⟩, ?_⟩ | refine ⟨⟨Eq.refl _, Eq.refl _, Eq.refl _⟩, ?_⟩ | refine ⟨⟨Eq.refl _, Eq.refl _, Eq.refl _, Eq.refl _⟩, ?_⟩ | refine ⟨⟨Eq.refl _, Eq.refl _, Eq.refl _, Eq.refl _, Eq.refl _⟩, ?_⟩ | refine fun (_ : Nat) => ?_ | refine fun (_ : Option Addr) (_ : Nat) => ?_ | fail)
        conv => whnf
        refine ⟨fun q1 => ?_, fun q1 => ?_⟩
        · repeat ((conv => whnf); first | refine ⟨Eq.refl _, ?_⟩ | refine ⟨⟨Eq.refl _, Eq.refl _⟩, ?_⟩ | refine ⟨⟨Eq.refl _, Eq.refl _, Eq.refl _⟩, ?_⟩ | refine ⟨⟨Eq.refl _, Eq.refl _, Eq.refl _, Eq.refl _⟩, ?_⟩ | refine ⟨⟨Eq.refl _, Eq.refl _, Eq.refl _, Eq.refl _, Eq.refl _⟩, ?_⟩ | refine fun (_ : Nat) => ?_ | refine fun (_ : Option Addr) (_ : Nat) => ?_ | fail)
          conv => whnf
          intro g2 hg
          rw [hbo (by rw [bigO, q1]; rfl)]
        repeat ((conv => whnf); first | refine ⟨Eq.refl _, ?_⟩ | refine ⟨⟨Eq.refl _, Eq.refl _⟩, ?_⟩ | refine ⟨⟨Eq.refl _, Eq.refl _, Eq.refl _⟩, ?_⟩ | refine ⟨⟨Eq.refl _, Eq.refl _, Eq.refl _, Eq.refl _⟩, ?_⟩ | refine ⟨⟨Eq.refl _, Eq.refl _, Eq.refl _, Eq.refl _, Eq.refl _⟩, ?_⟩ | refine fun (_ : Nat) => ?_ | refine fun (_ : Option Addr) (_ : Nat) => ?_ | fail)
        conv => whnf
        refine ⟨fun q2 => ?_, fun q2 => ?_⟩
        · repeat ((conv => whnf); first | refine ⟨Eq.refl _, ?_⟩ | refine ⟨⟨Eq.refl _, Eq.refl _⟩, ?_⟩ | refine ⟨⟨Eq.refl _, Eq.refl _, Eq.refl _⟩, ?_⟩ | refine ⟨⟨Eq.refl _, Eq.refl _, Eq.refl _, Eq.refl _⟩, ?_⟩ | refine ⟨⟨Eq.refl _, Eq.refl _, Eq.refl _, Eq.refl _, Eq.refl _⟩, ?_⟩ | refine fun (_ : Nat) => ?_ | refine fun (_ : Option Addr) (_ : Nat) => ?_ | fail)
          conv => whnf
          intro g2 hg
          rw [hbo (by rw [bigO, decide_eq_true (show 100 < o.host.size by have := of_decide_eq_true q2; omega)]; simp)]
        repeat ((conv => whnf); first | refine ⟨Eq.refl _, ?_⟩ | refine ⟨⟨Eq.refl _, Eq.refl _⟩, ?_⟩ | refine ⟨⟨Eq.refl _, Eq.refl _, Eq.refl _⟩, ?_⟩ | refine ⟨⟨Eq.refl _, Eq.refl _, Eq.refl _, Eq.refl _⟩, ?_⟩ | refine ⟨⟨Eq.refl _, Eq.refl _, Eq.refl _, Eq.refl _, Eq.refl _⟩, ?_⟩ | refine fun (_ : Nat) => ?_ | refine fun (_ : Option Addr) (_ : Nat) => ?_ | fail)
        conv => whnf
        refine ⟨fun q4 => ?_, fun q4 => ?_⟩
        · conv => whnf
          intro g2 hg
          rw [hbo (by rw [bigO, decide_eq_true (show 100 < o.path.size by have := of_decide_eq_true q4; omega)]; simp)]
        have hbf : bigO o = false := by rw [bigO, q1, decide_eq_false (show ¬ 100 < o.host.size by have := of_decide_eq_false q2; omega), decide_eq_false (show ¬ 100 < o.path.size by have := of_decide_eq_false q4; omega)]; rfl
        repeat ((conv => whnf); first | refine ⟨Eq.refl _, ?_⟩ | refine ⟨⟨Eq.refl _, Eq.refl _⟩, ?_⟩ | refine ⟨⟨Eq.refl _, Eq.refl _, Eq.refl _⟩, ?_⟩ | refine ⟨⟨Eq.refl _, Eq.refl _, Eq.refl _, Eq.refl _⟩, ?_⟩ | refine ⟨⟨Eq.refl _, Eq.refl _, Eq.refl _, Eq.refl _, Eq.refl _⟩, ?_⟩ | refine fun (_ : Nat) => ?_ | refine fun (_ : Option Addr) (_ : Nat) => ?_ | fail)
        conv => whnf
        refine fun fr w hw => ⟨n + 1, congrArg (fun z => [Value.int .i64 z]) (wr1 hn' o1 o2).symm, ⟨hn', any_step hno ho hbf⟩, dec hn', ?_⟩
        exact hw.fit (by simp [fitL, Res.eqv, concL, conc])
      have hof : l.any bigO = false := by
        have := of_decide_eq_false hln
        rwa [List.take_of_length_le (by omega)] at hno
      repeat ((conv => whnf); first | refine ⟨Eq.refl _, ?_⟩ | refine ⟨⟨Eq.refl _, Eq.refl _⟩, ?_⟩ | refine ⟨⟨Eq.refl _, Eq.refl _, Eq.refl _⟩, ?_⟩ | refine ⟨⟨Eq.refl _, Eq.refl _, Eq.refl _, Eq.refl _⟩, ?_⟩ | refine ⟨⟨Eq.refl _, Eq.refl _, Eq.refl _, Eq.refl _, Eq.refl _⟩, ?_⟩ | refine fun (_ : Nat) => ?_ | refine fun (_ : Option Addr) (_ : Nat) => ?_ | fail)
      conv => whnf
      refine fun fr w hw => ⟨k + 1, congrArg (fun z => [Value.int .i64 z]) (wr1 h' t1 t2).symm, ⟨h', any_step hany hl (by rw [hT]; exact hof)⟩, dec h', ?_⟩
      exact hw.fit (by simp [fitL, Res.eqv, concL, conc])
    repeat ((conv => whnf); first | refine ⟨Eq.refl _, ?_⟩ | refine ⟨⟨Eq.refl _, Eq.refl _⟩, ?_⟩ | refine ⟨⟨Eq.refl _, Eq.refl _, Eq.refl _⟩, ?_⟩ | refine ⟨⟨Eq.refl _, Eq.refl _, Eq.refl _, Eq.refl _⟩, ?_⟩ | refine ⟨⟨Eq.refl _, Eq.refl _, Eq.refl _, Eq.refl _, Eq.refl _⟩, ?_⟩ | refine fun (_ : Nat) => ?_ | refine fun (_ : Option Addr) (_ : Nat) => ?_ | fail)
    conv => whnf
    intro g2 hg
    have := of_decide_eq_false hlt
    rw [List.take_of_length_le (by omega)] at hany
    rw [hB, hany])
/-- What may be looked at is small. -/
theorem sm_of {s : Script} (h : bigS s = false) : SmC s.first ∧ SmS s ∧ ∀ l ∈ s.threads, ∀ o ∈ l, SmC o.config := by
  simp only [bigS, Bool.or_eq_false_iff, decide_eq_false_iff_not] at h
  obtain ⟨⟨⟨h1, h2⟩, h3⟩, h4⟩ := h
  obtain ⟨k1, k2, _⟩ := smC_of h1
  have hT : ∀ l ∈ s.threads, l.length ≤ 40 ∧ ∀ o ∈ l, SmC o.config ∧ o.config.listens.length ≤ 50 := fun l hl => by
    have := List.any_eq_false.1 h4 l hl
    simp only [Bool.not_eq_true, bigT, Bool.or_eq_false_iff, decide_eq_false_iff_not] at this
    refine ⟨by omega, fun o ho => ?_⟩
    have := List.any_eq_false.1 this.2 o ho
    simp only [Bool.not_eq_true, bigO, Bool.or_eq_false_iff, decide_eq_false_iff_not] at this
    obtain ⟨a, b, _⟩ := smC_of this.1.1
    exact ⟨a, b⟩
  exact ⟨k1, ⟨k2, by omega, fun l hl => ⟨(hT l hl).1, fun o ho => ((hT l hl).2 o ho).2⟩⟩, fun l hl o ho => ((hT l hl).2 o ho).1⟩
/-- A script is right, or not, and has just these listeners' names. -/
theorem law_ScriptIs (g : GW) {cs : List Value} {s : Script} (hs : rScript g cs s) : OkV Try.prog n_hydrantlaw08_ScriptIs [.agg ⟨cs⟩] g (.bool true) := by
  have hs0 := hs
  obtain ⟨a, b, d, t, p, rfl, hc, ht, hp⟩ := hs
  obtain ⟨_, _, _, he, ⟨oa, ca, rfl, _⟩, ⟨ob, cb, rfl, _⟩, od, cd, rfl, _⟩ := hc
  cases he
  obtain ⟨ot, ct, rfl, _⟩ := id ht
  obtain ⟨op, cp, rfl, _⟩ := id hp
  exact Ok.of_fn hm noT 0 t_hydrantlaw08_ScriptIs (args := [.v (.agg ⟨[.slice oa s.first.listens.length ca, .slice ob s.first.routes.length cb, .slice od s.first.clusters.length cd, .slice ot s.threads.length ct, .slice op s.picks.length cp]⟩)]) (by
    repeat ((conv => whnf); first | refine ⟨Eq.refl _, ?_⟩ | refine ⟨⟨Eq.refl _, Eq.refl _⟩, ?_⟩ | refine ⟨⟨Eq.refl _, Eq.refl _, Eq.refl _⟩, ?_⟩ | refine ⟨⟨Eq.refl _, Eq.refl _, Eq.refl _, Eq.refl _⟩, ?_⟩ | refine ⟨⟨Eq.refl _, Eq.refl _, Eq.refl _, Eq.refl _, Eq.refl _⟩, ?_⟩ | refine fun (_ : Nat) => ?_ | refine fun (_ : Option Addr) (_ : Nat) => ?_ | fail)
    conv => whnf
    refine .inl ⟨_, ok_sBig _ hs0, ?_⟩
    conv => whnf
    refine ⟨fun z1 => ?_, fun z1 => ?_⟩
    · repeat ((conv => whnf); first | refine ⟨Eq.refl _, ?_⟩ | refine ⟨⟨Eq.refl _, Eq.refl _⟩, ?_⟩ | refine ⟨⟨Eq.refl _, Eq.refl _, Eq.refl _⟩, ?_⟩ | refine ⟨⟨Eq.refl _, Eq.refl _, Eq.refl _, Eq.refl _⟩, ?_⟩ | refine ⟨⟨Eq.refl _, Eq.refl _, Eq.refl _, Eq.refl _, Eq.refl _⟩, ?_⟩ | refine fun (_ : Nat) => ?_ | refine fun (_ : Option Addr) (_ : Nat) => ?_ | fail)
      conv => whnf
      intro g2 hg
      rfl
    obtain ⟨k1, k2, k3⟩ := sm_of z1
    repeat ((conv => whnf); first | refine ⟨Eq.refl _, ?_⟩ | refine ⟨⟨Eq.refl _, Eq.refl _⟩, ?_⟩ | refine ⟨⟨Eq.refl _, Eq.refl _, Eq.refl _⟩, ?_⟩ | refine ⟨⟨Eq.refl _, Eq.refl _, Eq.refl _, Eq.refl _⟩, ?_⟩ | refine ⟨⟨Eq.refl _, Eq.refl _, Eq.refl _, Eq.refl _, Eq.refl _⟩, ?_⟩ | refine fun (_ : Nat) => ?_ | refine fun (_ : Option Addr) (_ : Nat) => ?_ | fail)
    conv => whnf
    refine .inl ⟨_, ok_written8 _, ?_⟩
    repeat ((conv => whnf); first | refine ⟨Eq.refl _, ?_⟩ | refine ⟨⟨Eq.refl _, Eq.refl _⟩, ?_⟩ | refine ⟨⟨Eq.refl _, Eq.refl _, Eq.refl _⟩, ?_⟩ | refine ⟨⟨Eq.refl _, Eq.refl _, Eq.refl _, Eq.refl _⟩, ?_⟩ | refine ⟨⟨Eq.refl _, Eq.refl _, Eq.refl _, Eq.refl _, Eq.refl _⟩, ?_⟩ | refine fun (_ : Nat) => ?_ | refine fun (_ : Option Addr) (_ : Nat) => ?_ | fail)
    conv => whnf
    refine ⟨fun _ => ?_, fun h => nomatch h⟩
    repeat ((conv => whnf); first | refine ⟨Eq.refl _, ?_⟩ | refine ⟨⟨Eq.refl _, Eq.refl _⟩, ?_⟩ | refine ⟨⟨Eq.refl _, Eq.refl _, Eq.refl _⟩, ?_⟩ | refine ⟨⟨Eq.refl _, Eq.refl _, Eq.refl _, Eq.refl _⟩, ?_⟩ | refine ⟨⟨Eq.refl _, Eq.refl _, Eq.refl _, Eq.refl _, Eq.refl _⟩, ?_⟩ | refine fun (_ : Nat) => ?_ | refine fun (_ : Option Addr) (_ : Nat) => ?_ | fail)
    conv => whnf
    refine .inl ⟨_, ok_scIs _ hs0, ?_⟩
    repeat ((conv => whnf); first | refine ⟨Eq.refl _, ?_⟩ | refine ⟨⟨Eq.refl _, Eq.refl _⟩, ?_⟩ | refine ⟨⟨Eq.refl _, Eq.refl _, Eq.refl _⟩, ?_⟩ | refine ⟨⟨Eq.refl _, Eq.refl _, Eq.refl _, Eq.refl _⟩, ?_⟩ | refine ⟨⟨Eq.refl _, Eq.refl _, Eq.refl _, Eq.refl _, Eq.refl _⟩, ?_⟩ | refine fun (_ : Nat) => ?_ | refine fun (_ : Option Addr) (_ : Nat) => ?_ | fail)
    conv => whnf
    refine .inl ⟨_, ok_rscIs _ hs0 k1, ?_⟩
    repeat ((conv => whnf); first | refine ⟨Eq.refl _, ?_⟩ | refine ⟨⟨Eq.refl _, Eq.refl _⟩, ?_⟩ | refine ⟨⟨Eq.refl _, Eq.refl _, Eq.refl _⟩, ?_⟩ | refine ⟨⟨Eq.refl _, Eq.refl _, Eq.refl _, Eq.refl _⟩, ?_⟩ | refine ⟨⟨Eq.refl _, Eq.refl _, Eq.refl _, Eq.refl _, Eq.refl _⟩, ?_⟩ | refine fun (_ : Nat) => ?_ | refine fun (_ : Option Addr) (_ : Nat) => ?_ | fail)
    conv => whnf
    refine ⟨fun _ => ?_, fun hx => absurd (((show (isB s == isB s) = true by simp)).symm.trans hx) (by decide)⟩
    repeat ((conv => whnf); first | refine ⟨Eq.refl _, ?_⟩ | refine ⟨⟨Eq.refl _, Eq.refl _⟩, ?_⟩ | refine ⟨⟨Eq.refl _, Eq.refl _, Eq.refl _⟩, ?_⟩ | refine ⟨⟨Eq.refl _, Eq.refl _, Eq.refl _, Eq.refl _⟩, ?_⟩ | refine ⟨⟨Eq.refl _, Eq.refl _, Eq.refl _, Eq.refl _, Eq.refl _⟩, ?_⟩ | refine fun (_ : Nat) => ?_ | refine fun (_ : Option Addr) (_ : Nat) => ?_ | fail)
    conv => whnf
    refine .inr ((ok_scNames _ hs0 k2).mono fun v g1 hg1 hN => ?_)
    obtain ⟨o4, c4, rfl, _⟩ := id hN
    repeat ((conv => whnf); first | refine ⟨Eq.refl _, ?_⟩ | refine ⟨⟨Eq.refl _, Eq.refl _⟩, ?_⟩ | refine ⟨⟨Eq.refl _, Eq.refl _, Eq.refl _⟩, ?_⟩ | refine ⟨⟨Eq.refl _, Eq.refl _, Eq.refl _, Eq.refl _⟩, ?_⟩ | refine ⟨⟨Eq.refl _, Eq.refl _, Eq.refl _, Eq.refl _, Eq.refl _⟩, ?_⟩ | refine fun (_ : Nat) => ?_ | refine fun (_ : Option Addr) (_ : Nat) => ?_ | fail)
    conv => whnf
    refine .inr ((ok_rscNames _ (rScript_mono _ _ _ _ hg1 hs0) k2 k3).mono fun v g2 hg2 hM => ?_)
    obtain ⟨o5, c5, rfl, _⟩ := id hM
    repeat ((conv => whnf); first | refine ⟨Eq.refl _, ?_⟩ | refine ⟨⟨Eq.refl _, Eq.refl _⟩, ?_⟩ | refine ⟨⟨Eq.refl _, Eq.refl _, Eq.refl _⟩, ?_⟩ | refine ⟨⟨Eq.refl _, Eq.refl _, Eq.refl _, Eq.refl _⟩, ?_⟩ | refine ⟨⟨Eq.refl _, Eq.refl _, Eq.refl _, Eq.refl _, Eq.refl _⟩, ?_⟩ | refine fun (_ : Nat) => ?_ | refine fun (_ : Option Addr) (_ : Nat) => ?_ | fail)
    conv => whnf
    refine .inl ⟨_, (ok_Same3 _ (hN.mono rStr_mono hg2) hM).to (congrArg Value.bool (eqB_t rfl)), ?_⟩
    repeat ((conv => whnf); first | refine ⟨Eq.refl _, ?_⟩ | refine ⟨⟨Eq.refl _, Eq.refl _⟩, ?_⟩ | refine ⟨⟨Eq.refl _, Eq.refl _, Eq.refl _⟩, ?_⟩ | refine ⟨⟨Eq.refl _, Eq.refl _, Eq.refl _, Eq.refl _⟩, ?_⟩ | refine ⟨⟨Eq.refl _, Eq.refl _, Eq.refl _, Eq.refl _, Eq.refl _⟩, ?_⟩ | refine fun (_ : Nat) => ?_ | refine fun (_ : Option Addr) (_ : Nat) => ?_ | fail)
    conv => whnf
    intro g2 hg
    rfl)
end Go.Proofs.Ytedjbhpocedagaa
