/- Law 23's example. -/
import Derived.Test.YtjaeeadfmnokeaaLW23
import Derived.Test.YtjaeeadfmnokeaaPl
import Derived.Test.YtjaeeadfmnokeaaLW9p
import Derived.Test.YtjaeeadfmnokeaaLW9n
import Derived.Test.YtjaeeadfmnokeaaF
namespace Go.Proofs.Ytjaeeadfmnokeaa
open Go.Proofs.Ytjaeeadfmnokeaa.Sx Go.RowKit
theorem w1_sn : SnW w1 := by
  intro v hv
  have : v = cellsV (snapP 1 [true]) := by simpa [w1, newW] using hv
  subst this
  refine ⟨by decide, fun r hr => ?_⟩
  have : r = ⟨0, ⟨#[42]⟩, ⟨#[47]⟩, 0⟩ := by simpa [cellsV, snapP] using hr
  subst this
  decide
theorem w1_bg : BgW 1000000 w1 := by
  refine ⟨⟨by decide, by decide, by decide, by decide, by decide⟩, by decide, fun v hv => ?_⟩
  have : v = cellsV (snapP 1 [true]) := by simpa [w1, newW] using hv
  subst this
  refine ⟨by decide, fun y hy => ?_⟩
  have : y = ⟨0, [freshE 1]⟩ := by simpa [cellsV, snapP] using hy
  subst this
  show 1 ≤ 1000000
  decide
theorem ok_plain23 (g : GW) : Ok Try.prog n_hydrantlaw23_plain [] g fun v g' => ∃ cs, v = .agg ⟨cs⟩ ∧ rWo g' cs w1 :=
  Ok.of_fn hm noT 0 t_hydrantlaw23_plain (args := []) (by
    repeat ((conv => whnf); first | apply qza | apply qzb | apply qzc | apply qzd | apply qze | intro (_ : Nat) | intro (_ : Option Addr) (_ : Nat))
    conv => whnf
    refine ⟨1, rfl, by unfold maxLen; omega, fun g1 hg1 hn1 hp1 => ?_⟩
    repeat ((conv => whnf); first | apply qza | apply qzb | apply qzc | apply qzd | apply qze | intro (_ : Nat) | intro (_ : Option Addr) (_ : Nat))
    conv => whnf
    refine ⟨4, rfl, by unfold maxLen; omega, fun g2 hg2 hn2 hp2 => ?_⟩
    repeat ((conv => whnf); first | apply qza | apply qzb | apply qzc | apply qzd | apply qze | intro (_ : Nat) | intro (_ : Option Addr) (_ : Nat))
    conv => whnf
    refine ⟨1, rfl, by unfold maxLen; omega, fun g3 hg3 hn3 hp3 => ?_⟩
    repeat ((conv => whnf); first | apply qza | apply qzb | apply qzc | apply qzd | apply qze | intro (_ : Nat) | intro (_ : Option Addr) (_ : Nat))
    conv => whnf
    refine ⟨4, rfl, by unfold maxLen; omega, fun g4 hg4 hn4 hp4 => ?_⟩
    repeat ((conv => whnf); first | apply qza | apply qzb | apply qzc | apply qzd | apply qze | intro (_ : Nat) | intro (_ : Option Addr) (_ : Nat))
    conv => whnf
    refine ⟨1, rfl, by unfold maxLen; omega, fun g5 hg5 hn5 hp5 => ?_⟩
    have hs := snapP_rd (n := 1) (h := [true]) (hp1.mono (GW.trans hg2 (GW.trans hg3 (GW.trans hg4 hg5)))) (hp2.mono (GW.trans hg3 (GW.trans hg4 hg5))) (hp4.mono hg5) (hp3.mono (GW.trans hg4 hg5)) (by decide)
    have hl := rSl_of1 (R := rStr) hp5.rd [sInW] .string rfl fun _ _ => rfl
    conv => whnf
    refine .inr ((ok_New _ hs hl (t := 1) (by decide) (by decide)).mono fun v g6 hg6 hN => ?_)
    rcases hN with ⟨_, cs, rfl, hw⟩ | ⟨h, _⟩
    rotate_left
    · exact absurd w1_ok h
    obtain ⟨oa, ca, ob, cb, oc, cc, od, cd, oe, ce, rfl⟩ := rWo_open hw
    repeat ((conv => whnf); first | apply qza | apply qzb | apply qzc | apply qzd | apply qze | intro (_ : Nat) | intro (_ : Option Addr) (_ : Nat))
    conv => whnf
    intro g2 hg
    exact ⟨_, rfl, rWo_mono _ _ _ _ hg hw⟩)
set_option maxHeartbeats 8000000 in
set_option maxRecDepth 100000 in
theorem ok_drained (g : GW) : OkV Try.prog n_hydrantlaw23_drained [] g (.bool true) :=
  Ok.of_fn hm noT 0 t_hydrantlaw23_drained (args := []) (by
    repeat ((conv => whnf); first | apply qza | apply qzb | apply qzc | apply qzd | apply qze | intro (_ : Nat) | intro (_ : Option Addr) (_ : Nat))
    refine .inr ((ok_plain23 _).mono fun v g1 hg1 hO => ?_)
    obtain ⟨cs, rfl, hw1⟩ := hO
    obtain ⟨_, _, _, _, _, _, _, _, _, _, rfl⟩ := rWo_open hw1
    repeat ((conv => whnf); first | apply qza | apply qzb | apply qzc | apply qzd | apply qze | intro (_ : Nat) | intro (_ : Option Addr) (_ : Nat))
    refine .inr ((ok_dStep _ hw1 (rMach_D _ sInW) w1_sn w1_bg).mono fun v g2 hg2 hO => ?_)
    obtain ⟨csa, msa, rfl, hwa, hMa⟩ := hO
    rw [w1_some.1] at hwa
    rw [w1_some.2.1] at hMa
    rw [w1_some.2.2]
    obtain ⟨_, _, _, _, oL, cL, _, _, _, _, rfl⟩ := rWo_open hwa
    obtain ⟨_, _, _, _, _, _, rfl⟩ := rMach_open hMa
    repeat ((conv => whnf); first | apply qza | apply qzb | apply qzc | apply qzd | apply qze | intro (_ : Nat) | intro (_ : Option Addr) (_ : Nat))
    refine .inr ((ok_plain23 _).mono fun v g3 hg3 hO => ?_)
    obtain ⟨cs, rfl, hw3⟩ := hO
    obtain ⟨_, _, _, _, _, _, _, _, _, _, rfl⟩ := rWo_open hw3
    repeat ((conv => whnf); first | apply qza | apply qzb | apply qzc | apply qzd | apply qze | intro (_ : Nat) | intro (_ : Option Addr) (_ : Nat))
    refine .inr ((ok_dStep _ hw3 (rMach_D _ sNoW) w1_sn w1_bg).mono fun v g4 hg4 hO => ?_)
    obtain ⟨csb, msb, rfl, hwb, hMb⟩ := hO
    rw [w1_none.1] at hwb
    rw [w1_none.2.1] at hMb
    rw [w1_none.2.2]
    obtain ⟨_, _, _, _, _, _, _, _, _, _, rfl⟩ := rWo_open hwb
    obtain ⟨_, _, _, _, _, _, rfl⟩ := rMach_open hMb
    obtain ⟨_, _, _, _, _, hq, _, _, _, hLi, _, _⟩ := id hwa
    simp only [List.cons.injEq, and_true] at hq
    obtain ⟨_, _, _, _, _, rfl, _⟩ := hq
    obtain ⟨_, _, kl, kl1, kl2, kl0, klr⟩ := hLi
    cases kl
    obtain ⟨al, rfl, el, hel, ⟨rfl, hxa⟩, hcl⟩ := klr 0 (drL xIn) rfl
    have l24 := GW.trans hg3 hg4
    repeat ((conv => whnf); first | apply qza | apply qzb | apply qzc | apply qzd | apply qze | intro (_ : Nat) | intro (_ : Option Addr) (_ : Nat))
    conv => whnf
    refine ⟨fun hx => absurd hx (by decide), fun _ => ?_⟩
    repeat ((conv => whnf); first | apply qza | apply qzb | apply qzc | apply qzd | apply qze | intro (_ : Nat) | intro (_ : Option Addr) (_ : Nat))
    conv => whnf
    refine ⟨_, rfl, ⟨by decide, by decide⟩, ?_⟩
    repeat ((conv => whnf); first | apply qza | apply qzb | apply qzc | apply qzd | apply qze | intro (_ : Nat) | intro (_ : Option Addr) (_ : Nat))
    conv => whnf
    refine ⟨_, (hcl 1 _ rfl).mono l24, ?_⟩
    repeat ((conv => whnf); first | apply qza | apply qzb | apply qzc | apply qzd | apply qze | intro (_ : Nat) | intro (_ : Option Addr) (_ : Nat))
    conv => whnf
    refine ⟨fun _ => ?_, fun hx => absurd hx (by decide)⟩
    repeat ((conv => whnf); first | apply qza | apply qzb | apply qzc | apply qzd | apply qze | intro (_ : Nat) | intro (_ : Option Addr) (_ : Nat))
    conv => whnf
    refine ⟨fun _ => ?_, fun hx => absurd hx (by decide)⟩
    repeat ((conv => whnf); first | apply qza | apply qzb | apply qzc | apply qzd | apply qze | intro (_ : Nat) | intro (_ : Option Addr) (_ : Nat))
    conv => whnf
    refine ⟨fun _ => ?_, fun hx => absurd hx (by decide)⟩
    repeat ((conv => whnf); first | apply qza | apply qzb | apply qzc | apply qzd | apply qze | intro (_ : Nat) | intro (_ : Option Addr) (_ : Nat))
    conv => whnf
    refine ⟨fun _ => ?_, fun hx => absurd hx (by decide)⟩
    repeat ((conv => whnf); first | apply qza | apply qzb | apply qzc | apply qzd | apply qze | intro (_ : Nat) | intro (_ : Option Addr) (_ : Nat))
    conv => whnf
    intro g2 hg
    rfl)
end Go.Proofs.Ytjaeeadfmnokeaa


/- Pins: the steps' table. -/
namespace Go.Proofs.Ytjaeeadfmnokeaa
open Go.Proofs.Ytjaeeadfmnokeaa.Sx Go.RowKit
end Go.Proofs.Ytjaeeadfmnokeaa


/- Pins: a step, another place. -/
namespace Go.Proofs.Ytjaeeadfmnokeaa
open Go.Proofs.Ytjaeeadfmnokeaa.Sx Go.RowKit
end Go.Proofs.Ytjaeeadfmnokeaa


/- Pins: a step, place 0. -/
namespace Go.Proofs.Ytjaeeadfmnokeaa
open Go.Proofs.Ytjaeeadfmnokeaa.Sx Go.RowKit
end Go.Proofs.Ytjaeeadfmnokeaa


/- Pins: a step, place 1. -/
namespace Go.Proofs.Ytjaeeadfmnokeaa
open Go.Proofs.Ytjaeeadfmnokeaa.Sx Go.RowKit
end Go.Proofs.Ytjaeeadfmnokeaa


/- Pins: a step, place 2. -/
namespace Go.Proofs.Ytjaeeadfmnokeaa
open Go.Proofs.Ytjaeeadfmnokeaa.Sx Go.RowKit
end Go.Proofs.Ytjaeeadfmnokeaa


/- Pins: a step, at any place. -/
namespace Go.Proofs.Ytjaeeadfmnokeaa
open Go.Proofs.Ytjaeeadfmnokeaa.Sx Go.RowKit
end Go.Proofs.Ytjaeeadfmnokeaa


/- Pins: the law's example, first part. -/
namespace Go.Proofs.Ytjaeeadfmnokeaa
open Go.Proofs.Ytjaeeadfmnokeaa.Sx Go.RowKit
end Go.Proofs.Ytjaeeadfmnokeaa


/- Pins: the law's example. -/
namespace Go.Proofs.Ytjaeeadfmnokeaa
open Go.Proofs.Ytjaeeadfmnokeaa.Sx Go.RowKit
section
variable {g : GW} {cs ms : List Value} {e pc ep : Int} {p : List Int} (hw : rWo g cs (wP e p)) (hM : rMach g ms (mP pc ep)) (he : 0 ≤ e ∧ e ≤ 100) (hl : p.length = 2) (hp : ∀ x ∈ p, 0 ≤ x ∧ x ≤ e + 1)
include hw hM he hl hp
end
end Go.Proofs.Ytjaeeadfmnokeaa


/- The law PinOff. -/
namespace Go.Proofs.Ytjaeeadfmnokeaa
open Go.Proofs.Ytjaeeadfmnokeaa.Sx Go.RowKit
theorem BgW.up {K K' : Nat} {w : Wd} (h : BgW K w) (k : K ≤ K') : BgW K' w := by
  obtain ⟨⟨h1, h2, h3, h4, h5⟩, h6, h7⟩ := h
  refine ⟨⟨by omega, by omega, by omega, by omega, by omega⟩, fun r hr => by have := h6 r hr; omega, fun v hv => ?_⟩
  obtain ⟨a, b⟩ := h7 v hv
  exact ⟨by omega, fun y hy => by have := b y hy; unfold BgG at this ⊢; omega⟩
end Go.Proofs.Ytjaeeadfmnokeaa


/- The law DrainTwice. -/
namespace Go.Proofs.Ytjaeeadfmnokeaa
open Go.Proofs.Ytjaeeadfmnokeaa.Sx Go.RowKit
def mN (t : Int) (s : BA) : Mach := { mP 0 0 with thread := t, op := { op0 with kind := 4, listen := s } }
theorem rMach_N (g : GW) {t : Int} (h : InR t) (s : BA) : rMach g ((mN t s).cs (.slice none 0 0) (.slice none 0 0) (.slice none 0 0)) (mN t s) :=
  ⟨_, _, _, rfl, ⟨h, z0, z0, z0, z0, z0, z0, z0, z0, zu, z0, z0, z0, z0, ans0_ok, c60_ok⟩, ⟨(by decide : InR 4), z0, z0, z0⟩, rConfig_nil g⟩
set_option maxHeartbeats 16000000 in
set_option maxRecDepth 100000 in
theorem ok_DrainTwice (g : GW) {cs : List Value} {w : Wd} {t : Int} (hw : rWo g cs w) (ht : InR t) (s : BA) : OkV Try.prog n_hydrantlaw23_DrainTwice [.agg ⟨cs⟩, .int .i64 t, .string s] g (.bool true) := by
  obtain ⟨oa, ca, ob, cb, oc, cc, od, cd, oe, ce, rfl⟩ := rWo_open hw
  exact Ok.of_fn hm noT 0 t_hydrantlaw23_DrainTwice (args := [.v (.agg ⟨[.int .i64 w.epoch, .int .i64 w.current, .int .i64 w.lock, .slice oa w.pins.length ca, .slice ob w.versions.length cb, .slice oc w.listens.length cc, .slice od w.counts.length cd, .slice oe w.limbo.length ce]⟩), .v (.int .i64 t), .v (.string s)]) (by
    repeat ((conv => whnf); first | apply qza | apply qzb | apply qzc | apply qzd | apply qze | intro (_ : Nat) | intro (_ : Option Addr) (_ : Nat))
    refine .inr ((ok_rBigW _ hw).mono fun v g1 hg1 hB => ?_)
    obtain ⟨b, rfl, hB⟩ := hB
    repeat ((conv => whnf); first | apply qza | apply qzb | apply qzc | apply qzd | apply qze | intro (_ : Nat) | intro (_ : Option Addr) (_ : Nat))
    conv => whnf
    refine ⟨fun z1 => ?_, fun z1 => ?_⟩
    · repeat ((conv => whnf); first | apply qza | apply qzb | apply qzc | apply qzd | apply qze | intro (_ : Nat) | intro (_ : Option Addr) (_ : Nat))
      conv => whnf
      refine .inl ⟨_, ok_drained _, ?_⟩
      repeat ((conv => whnf); first | apply qza | apply qzb | apply qzc | apply qzd | apply qze | intro (_ : Nat) | intro (_ : Option Addr) (_ : Nat))
      conv => whnf
      intro g2 hg
      rfl
    obtain ⟨hb, hsn⟩ := hB z1
    have hb' := BgW.up (K' := 1000000) hb (by decide)
    have hw1 := rWo_mono _ _ _ _ hg1 hw
    have hM1 := rMach_N g1 ht s
    repeat ((conv => whnf); first | apply qza | apply qzb | apply qzc | apply qzd | apply qze | intro (_ : Nat) | intro (_ : Option Addr) (_ : Nat))
    conv => whnf
    refine ⟨fun z2 => ?_, fun z2 => ?_⟩
    · repeat ((conv => whnf); first | apply qza | apply qzb | apply qzc | apply qzd | apply qze | intro (_ : Nat) | intro (_ : Option Addr) (_ : Nat))
      conv => whnf
      refine .inl ⟨_, ok_drained _, ?_⟩
      repeat ((conv => whnf); first | apply qza | apply qzb | apply qzc | apply qzd | apply qze | intro (_ : Nat) | intro (_ : Option Addr) (_ : Nat))
      conv => whnf
      intro g2 hg
      rfl
    repeat ((conv => whnf); first | apply qza | apply qzb | apply qzc | apply qzd | apply qze | intro (_ : Nat) | intro (_ : Option Addr) (_ : Nat))
    conv => whnf
    refine .inl ⟨_, ok_Suits _ hw1 hM1 hsn hb', ?_⟩
    repeat ((conv => whnf); first | apply qza | apply qzb | apply qzc | apply qzd | apply qze | intro (_ : Nat) | intro (_ : Option Addr) (_ : Nat))
    conv => whnf
    refine ⟨fun z3 => ?_, fun z3 => ?_⟩
    · repeat ((conv => whnf); first | apply qza | apply qzb | apply qzc | apply qzd | apply qze | intro (_ : Nat) | intro (_ : Option Addr) (_ : Nat))
      conv => whnf
      refine .inl ⟨_, ok_drained _, ?_⟩
      repeat ((conv => whnf); first | apply qza | apply qzb | apply qzc | apply qzd | apply qze | intro (_ : Nat) | intro (_ : Option Addr) (_ : Nat))
      conv => whnf
      intro g2 hg
      rfl
    have hs := nb0 z3
    have hgo : drGo w (mN t s) := ⟨hs, rfl⟩
    repeat ((conv => whnf); first | apply qza | apply qzb | apply qzc | apply qzd | apply qze | intro (_ : Nat) | intro (_ : Option Addr) (_ : Nat))
    by_cases hi : drI w (mN t s) < 0
    · have hd := dr_none hgo hi
      refine .inr ((ok_dStep _ hw1 hM1 hsn hb').mono fun v g2 hg2 hO => ?_)
      obtain ⟨csa, msa, rfl, hwa, hMa⟩ := hO
      rw [hd.1] at hwa
      rw [hd.2.1] at hMa
      obtain ⟨_, _, _, _, oX, cX, _, _, _, _, rfl⟩ := rWo_open hwa
      obtain ⟨_, _, _, _, _, _, rfl⟩ := rMach_open hMa
      have hM2 := rMach_mono _ _ _ _ hg2 hM1
      repeat ((conv => whnf); first | apply qza | apply qzb | apply qzc | apply qzd | apply qze | intro (_ : Nat) | intro (_ : Option Addr) (_ : Nat))
      refine .inr ((ok_dStep _ hwa hM2 hsn hb').mono fun v g3 hg3 hO => ?_)
      obtain ⟨csb, msb, rfl, hwb, hMb⟩ := hO
      rw [hd.1] at hwb
      rw [hd.2.1] at hMb
      obtain ⟨_, _, _, _, _, _, _, _, _, _, rfl⟩ := rWo_open hwb
      obtain ⟨_, _, _, _, _, _, rfl⟩ := rMach_open hMb
      have l13 := GW.trans hg2 hg3
      have hw3 := rWo_mono _ _ _ _ l13 hw1
      obtain ⟨_, _, _, _, _, hq, _, _, _, hLi, _, _⟩ := id hw3
      simp only [List.cons.injEq, and_true] at hq
      obtain ⟨_, _, _, _, _, rfl, _⟩ := hq
      repeat ((conv => whnf); first | apply qza | apply qzb | apply qzc | apply qzd | apply qze | intro (_ : Nat) | intro (_ : Option Addr) (_ : Nat))
      conv => whnf
      refine .inl ⟨_, ok_gPlace _ hLi _, ?_⟩
      repeat ((conv => whnf); first | apply qza | apply qzb | apply qzc | apply qzd | apply qze | intro (_ : Nat) | intro (_ : Option Addr) (_ : Nat))
      conv => whnf
      refine .inl ⟨_, ok_sameW _ (rWo_mono _ _ _ _ hg3 hwa) hwb, ?_⟩
      repeat ((conv => whnf); first | apply qza | apply qzb | apply qzc | apply qzd | apply qze | intro (_ : Nat) | intro (_ : Option Addr) (_ : Nat))
      conv => whnf
      refine ⟨fun h => (nomatch h), fun _ => ?_⟩
      repeat ((conv => whnf); first | apply qza | apply qzb | apply qzc | apply qzd | apply qze | intro (_ : Nat) | intro (_ : Option Addr) (_ : Nat))
      conv => whnf
      refine ⟨fun hx => absurd hx (by simp), fun _ => ?_⟩
      repeat ((conv => whnf); first | apply qza | apply qzb | apply qzc | apply qzd | apply qze | intro (_ : Nat) | intro (_ : Option Addr) (_ : Nat))
      conv => whnf
      refine ⟨fun hx => absurd hx (by simp), fun _ => ?_⟩
      repeat ((conv => whnf); first | apply qza | apply qzb | apply qzc | apply qzd | apply qze | intro (_ : Nat) | intro (_ : Option Addr) (_ : Nat))
      conv => whnf
      refine ⟨fun _ => ?_, fun hx => absurd (((decide_eq_true (show placeL w.listens s < 0 from hi))).symm.trans hx) (by decide)⟩
      repeat ((conv => whnf); first | apply qza | apply qzb | apply qzc | apply qzd | apply qze | intro (_ : Nat) | intro (_ : Option Addr) (_ : Nat))
      conv => whnf
      refine .inl ⟨_, ok_drained _, ?_⟩
      repeat ((conv => whnf); first | apply qza | apply qzb | apply qzc | apply qzd | apply qze | intro (_ : Nat) | intro (_ : Option Addr) (_ : Nat))
      conv => whnf
      refine ⟨fun _ => ?_, fun h => nomatch h⟩
      repeat ((conv => whnf); first | apply qza | apply qzb | apply qzc | apply qzd | apply qze | intro (_ : Nat) | intro (_ : Option Addr) (_ : Nat))
      conv => whnf
      refine .inl ⟨_, ok_sameW _ (rWo_mono _ _ _ _ hg3 hwa) hw3, ?_⟩
      repeat ((conv => whnf); first | apply qza | apply qzb | apply qzc | apply qzd | apply qze | intro (_ : Nat) | intro (_ : Option Addr) (_ : Nat))
      conv => whnf
      refine ⟨fun _ => ?_, fun h => nomatch h⟩
      repeat ((conv => whnf); first | apply qza | apply qzb | apply qzc | apply qzd | apply qze | intro (_ : Nat) | intro (_ : Option Addr) (_ : Nat))
      conv => whnf
      intro g2 hg
      rfl
    have h0 : 0 ≤ drI w (mN t s) := by omega
    obtain ⟨x, hx, hlt⟩ := place_lt (show 0 ≤ placeL w.listens s from h0)
    have hx' : w.listens[(drI w (mN t s)).toNat]? = some x := hx
    have hd := dr_some hgo h0 hx'
    have hd2 := dr_twice hgo h0 hx'
    have hlt' : drI w (mN t s) < w.listens.length := hlt
    have hbX : BgW 1000000 { w with listens := w.listens.set (drI w (mN t s)).toNat (drL x) } := by
      obtain ⟨⟨q1, q2, q3, q4, q5⟩, q6, q7⟩ := hb'
      exact ⟨⟨q1, q2, by rw [List.length_set]; exact q3, q4, q5⟩, q6, q7⟩
    refine .inr ((ok_dStep _ hw1 hM1 hsn hb').mono fun v g2 hg2 hO => ?_)
    obtain ⟨csa, msa, rfl, hwa, hMa⟩ := hO
    rw [hd.1] at hwa
    rw [hd.2.1] at hMa
    obtain ⟨_, _, _, _, oX, cX, _, _, _, _, rfl⟩ := rWo_open hwa
    obtain ⟨_, _, _, _, _, _, rfl⟩ := rMach_open hMa
    have hM2 := rMach_mono _ _ _ _ hg2 hM1
    repeat ((conv => whnf); first | apply qza | apply qzb | apply qzc | apply qzd | apply qze | intro (_ : Nat) | intro (_ : Option Addr) (_ : Nat))
    refine .inr ((ok_dStep _ hwa hM2 hsn hbX).mono fun v g3 hg3 hO => ?_)
    obtain ⟨csb, msb, rfl, hwb, hMb⟩ := hO
    rw [hd2.1] at hwb
    rw [hd2.2] at hMb
    obtain ⟨_, _, _, _, _, _, _, _, _, _, rfl⟩ := rWo_open hwb
    obtain ⟨_, _, _, _, _, _, rfl⟩ := rMach_open hMb
    have l13 := GW.trans hg2 hg3
    have hw3 := rWo_mono _ _ _ _ l13 hw1
    obtain ⟨_, _, _, _, _, hq, _, _, _, hLi, _, _⟩ := id hw3
    simp only [List.cons.injEq, and_true] at hq
    obtain ⟨_, _, _, _, _, rfl, _⟩ := hq
    repeat ((conv => whnf); first | apply qza | apply qzb | apply qzc | apply qzd | apply qze | intro (_ : Nat) | intro (_ : Option Addr) (_ : Nat))
    conv => whnf
    refine .inl ⟨_, ok_gPlace _ hLi _, ?_⟩
    repeat ((conv => whnf); first | apply qza | apply qzb | apply qzc | apply qzd | apply qze | intro (_ : Nat) | intro (_ : Option Addr) (_ : Nat))
    conv => whnf
    refine .inl ⟨_, ok_sameW _ (rWo_mono _ _ _ _ hg3 hwa) hwb, ?_⟩
    repeat ((conv => whnf); first | apply qza | apply qzb | apply qzc | apply qzd | apply qze | intro (_ : Nat) | intro (_ : Option Addr) (_ : Nat))
    conv => whnf
    refine ⟨fun h => (nomatch h), fun _ => ?_⟩
    repeat ((conv => whnf); first | apply qza | apply qzb | apply qzc | apply qzd | apply qze | intro (_ : Nat) | intro (_ : Option Addr) (_ : Nat))
    conv => whnf
    refine ⟨fun hx => absurd hx (by simp), fun _ => ?_⟩
    repeat ((conv => whnf); first | apply qza | apply qzb | apply qzc | apply qzd | apply qze | intro (_ : Nat) | intro (_ : Option Addr) (_ : Nat))
    conv => whnf
    refine ⟨fun hx => absurd hx (by simp), fun _ => ?_⟩
    repeat ((conv => whnf); first | apply qza | apply qzb | apply qzc | apply qzd | apply qze | intro (_ : Nat) | intro (_ : Option Addr) (_ : Nat))
    conv => whnf
    refine ⟨fun hx => absurd (of_decide_eq_true hx) (show ¬ placeL w.listens s < 0 from hi), fun _ => ?_⟩
    repeat ((conv => whnf); first | apply qza | apply qzb | apply qzc | apply qzd | apply qze | intro (_ : Nat) | intro (_ : Option Addr) (_ : Nat))
    have hlen := (List.getElem?_eq_some_iff.1 hx').1
    have hxs : (w.listens.set (drI w (mN t s)).toNat (drL x))[(drI w (mN t s)).toNat]? = some (drL x) := List.getElem?_set_self hlen
    obtain ⟨_, _, _, _, _, hq, _, _, _, hLx, _, _⟩ := id hwa
    simp only [List.cons.injEq, and_true] at hq
    obtain ⟨_, _, _, _, _, rfl, _⟩ := hq
    obtain ⟨_, _, kx, kx1, kx2, kx0, kxr⟩ := hLx
    cases kx
    obtain ⟨ax, rfl, ex, hex, ⟨rfl, hxa⟩, hcx⟩ := kxr _ (drL x) hxs
    obtain ⟨_, _, kl, kl1, kl2, kl0, klr⟩ := hLi
    cases kl
    obtain ⟨al, rfl, el, hel, ⟨rfl, hla⟩, hcl⟩ := klr _ x hx'
    repeat ((conv => whnf); first | apply qza | apply qzb | apply qzc | apply qzd | apply qze | intro (_ : Nat) | intro (_ : Option Addr) (_ : Nat))
    conv => whnf
    refine ⟨_, rfl, ⟨by show 0 ≤ drI w (mN t s); omega, by show drI w (mN t s) < ((w.listens.set (drI w (mN t s)).toNat (drL x)).length : Int); rw [List.length_set]; omega⟩, ?_⟩
    repeat ((conv => whnf); first | apply qza | apply qzb | apply qzc | apply qzd | apply qze | intro (_ : Nat) | intro (_ : Option Addr) (_ : Nat))
    conv => whnf
    refine ⟨_, ⟨rfl, hcx.mono hg3⟩, ?_⟩
    repeat ((conv => whnf); first | apply qza | apply qzb | apply qzc | apply qzd | apply qze | intro (_ : Nat) | intro (_ : Option Addr) (_ : Nat))
    conv => whnf
    refine ⟨_, rfl, ⟨by show 0 ≤ drI w (mN t s); omega, by show drI w (mN t s) < w.listens.length; omega⟩, ?_⟩
    repeat ((conv => whnf); first | apply qza | apply qzb | apply qzc | apply qzd | apply qze | intro (_ : Nat) | intro (_ : Option Addr) (_ : Nat))
    conv => whnf
    refine ⟨_, ⟨rfl, hcl⟩, ?_⟩
    repeat ((conv => whnf); first | apply qza | apply qzb | apply qzc | apply qzd | apply qze | intro (_ : Nat) | intro (_ : Option Addr) (_ : Nat))
    conv => whnf
    refine .inl ⟨_, ok_gDrain _ x, ?_⟩
    repeat ((conv => whnf); first | apply qza | apply qzb | apply qzc | apply qzd | apply qze | intro (_ : Nat) | intro (_ : Option Addr) (_ : Nat))
    conv => whnf
    refine ⟨fun hx => absurd hx (by simp [drL]), fun _ => ?_⟩
    repeat ((conv => whnf); first | apply qza | apply qzb | apply qzc | apply qzd | apply qze | intro (_ : Nat) | intro (_ : Option Addr) (_ : Nat))
    refine .inr ((ok_Clone _ (rWo_mono _ _ _ _ hg3 hwa) hbX).mono fun v g4 hg4 hO => ?_)
    obtain ⟨csc, T, rfl, hT⟩ := hO
    obtain ⟨_, _, _, _, _, _, _, _, _, _, rfl⟩ := rWo_open (oWo_rd hT)
    obtain ⟨bk, cap, hv, rcl, b5, j5, bc, ty5, ⟨hA, p1, p2, p3, p4⟩, _, hk5⟩ := oWo_lis hT hxs (x' := x) (o := 0) (vs := cLis x) (by simp) (by simp [Value.oneCell']) rfl hla
    cases hv
    repeat ((conv => whnf); first | apply qza | apply qzb | apply qzc | apply qzd | apply qze | intro (_ : Nat) | intro (_ : Option Addr) (_ : Nat))
    conv => whnf
    refine ⟨_, rfl, ⟨by show 0 ≤ drI w (mN t s); omega, by show drI w (mN t s) < w.listens.length; omega⟩, ?_⟩
    repeat ((conv => whnf); first | apply qza | apply qzb | apply qzc | apply qzd | apply qze | intro (_ : Nat) | intro (_ : Option Addr) (_ : Nat))
    conv => whnf
    refine ⟨_, ⟨rfl, hcl.mono hg4⟩, ?_⟩
    repeat ((conv => whnf); first | apply qza | apply qzb | apply qzc | apply qzd | apply qze | intro (_ : Nat) | intro (_ : Option Addr) (_ : Nat))
    conv => whnf
    refine ⟨_, rfl, ⟨by show 0 ≤ drI w (mN t s); omega, by show drI w (mN t s) < ((w.listens.set (drI w (mN t s)).toNat (drL x)).length : Int); rw [List.length_set]; omega⟩, ?_⟩
    repeat ((conv => whnf); first | apply qza | apply qzb | apply qzc | apply qzd | apply qze | intro (_ : Nat) | intro (_ : Option Addr) (_ : Nat))
    conv => whnf
    refine ⟨b5, j5, bc, ty5, ⟨by rw [← hA]; rfl, Nat.le_trans (GW.trans hg1 l13).1 p1, p2, p3, p4⟩, ?_⟩
    repeat ((conv => whnf); first | apply qza | apply qzb | apply qzc | apply qzd | apply qze | intro (_ : Nat) | intro (_ : Option Addr) (_ : Nat))
    conv => whnf
    refine fun g5 u5 => ?_
    have hF5 : rWo g5 _ ({ w with listens := (w.listens.set (drI w (mN t s)).toNat (drL x)).set (drI w (mN t s)).toNat x } : Wd) := oWo_rd (hk5 g5 u5)
    rw [dr_back hx'] at hF5
    have l35 : g3 ≤ g5 := u5.le hg4 (fun h => by have := g3.wf _ h; omega)
    repeat ((conv => whnf); first | apply qza | apply qzb | apply qzc | apply qzd | apply qze | intro (_ : Nat) | intro (_ : Option Addr) (_ : Nat))
    conv => whnf
    refine .inl ⟨_, ok_drained _, ?_⟩
    repeat ((conv => whnf); first | apply qza | apply qzb | apply qzc | apply qzd | apply qze | intro (_ : Nat) | intro (_ : Option Addr) (_ : Nat))
    conv => whnf
    refine ⟨fun _ => ?_, fun h => nomatch h⟩
    repeat ((conv => whnf); first | apply qza | apply qzb | apply qzc | apply qzd | apply qze | intro (_ : Nat) | intro (_ : Option Addr) (_ : Nat))
    conv => whnf
    refine .inl ⟨_, ok_sameW _ hF5 (rWo_mono _ _ _ _ l35 hw3), ?_⟩
    repeat ((conv => whnf); first | apply qza | apply qzb | apply qzc | apply qzd | apply qze | intro (_ : Nat) | intro (_ : Option Addr) (_ : Nat))
    conv => whnf
    refine ⟨fun _ => ?_, fun h => nomatch h⟩
    repeat ((conv => whnf); first | apply qza | apply qzb | apply qzc | apply qzd | apply qze | intro (_ : Nat) | intro (_ : Option Addr) (_ : Nat))
    conv => whnf
    intro g2 hg
    simp [ansK, drI, mN, c60])
end Go.Proofs.Ytjaeeadfmnokeaa


/- What came in of this seat's types is plain data. -/
namespace Go.Proofs.Ytjaeeadfmnokeaa
open Go.Proofs.Ytjaeeadfmnokeaa.Sx
section
variable {H : Type} {enc : TypeId × Value → H} {W : World}
theorem op_api_Rule : Rds enc Try.prog W ty_api_Rule rRule := rd_rule (tS := ty_string) (tI := ty_int) (by kernel_rfl) (by kernel_rfl) (by kernel_rfl) (by kernel_rfl)
theorem op_api_Cluster : Rds enc Try.prog W ty_api_Cluster rCluster := rd_cluster (tS := ty_string) (tI := ty_int) (tL := ty_sl_bool) (tB := ty_bool) (by kernel_rfl) (by kernel_rfl) (by kernel_rfl) (by kernel_rfl) (by kernel_rfl) (by kernel_rfl) (by kernel_rfl)
end
end Go.Proofs.Ytjaeeadfmnokeaa


/- What came in of a snapshot is plain data. -/
namespace Go.Proofs.Ytjaeeadfmnokeaa
open Go.Proofs.Ytjaeeadfmnokeaa.Sx
section
variable {H : Type} {enc : TypeId × Value → H} {W : World}
theorem op_api_Snap : Rds enc Try.prog W ty_api_Snap rSnap := by
  intro fuel cs x h
  obtain ⟨a, b, d, rfl, ⟨l0, h0⟩, ⟨l1, h1⟩, l2, h2⟩ := rd_three (t0 := ty_sl_string) (t1 := ty_sl_api_Rule) (t2 := ty_sl_api_Cluster) (e0 := ty_string) (e1 := ty_api_Rule) (e2 := ty_api_Cluster) (z0 := 1) (z1 := 4) (z2 := 4)
    (by kernel_rfl) (by kernel_rfl) (by kernel_rfl) (by kernel_rfl) (by kernel_rfl) (by kernel_rfl) (by kernel_rfl) (by kernel_rfl) (by omega) (by omega) (by omega) (rd_str (by kernel_rfl)) op_api_Rule op_api_Cluster h
  exact ⟨⟨l0, l1, l2⟩, a, b, d, rfl, h0, h1, h2⟩
end
end Go.Proofs.Ytjaeeadfmnokeaa


/- What came in of worlds and machines is plain data. -/
namespace Go.Proofs.Ytjaeeadfmnokeaa
open Go.Proofs.Ytjaeeadfmnokeaa.Sx
section
variable {H : Type} {enc : TypeId × Value → H} {W : World}
theorem op_api_Listen : Rds enc Try.prog W ty_api_Listen rListen := by
  intro fuel cs x h
  obtain ⟨hl, hg⟩ := fld_at (l := [(0, 1, ty_string), (1, 1, ty_bool), (2, 1, ty_int), (3, 1, ty_bool)]) (by kernel_rfl) h
  rw [show Try.prog.cellsOf ty_api_Listen = 4 by kernel_rfl] at hl
  match cs, hl with
  | [a, b, c, d], _ =>
    obtain ⟨s0, e0⟩ := (rd_str (by kernel_rfl)).fld (hg 0 _ _ _ rfl)
    obtain ⟨s1, e1⟩ := (rd_bool (by kernel_rfl)).fld (hg 1 _ _ _ rfl)
    obtain ⟨s2, e2, w2⟩ := (rd_int (by kernel_rfl)).fld (hg 2 _ _ _ rfl)
    obtain ⟨s3, e3⟩ := (rd_bool (by kernel_rfl)).fld (hg 3 _ _ _ rfl)
    cases e0; cases e1; cases e2; cases e3
    exact ⟨⟨s0, s1, s2, s3⟩, rfl, w2⟩
theorem op_api_Retired : Rds enc Try.prog W ty_api_Retired rRetired := by
  intro fuel cs x h
  obtain ⟨hl, hg⟩ := fld_at (l := [(0, 1, ty_int), (1, 1, ty_int), (2, 1, ty_bool)]) (by kernel_rfl) h
  rw [show Try.prog.cellsOf ty_api_Retired = 3 by kernel_rfl] at hl
  match cs, hl with
  | [a, b, c], _ =>
    obtain ⟨s0, e0, w0⟩ := (rd_int (by kernel_rfl)).fld (hg 0 _ _ _ rfl)
    obtain ⟨s1, e1, w1⟩ := (rd_int (by kernel_rfl)).fld (hg 1 _ _ _ rfl)
    obtain ⟨s2, e2⟩ := (rd_bool (by kernel_rfl)).fld (hg 2 _ _ _ rfl)
    cases e0; cases e1; cases e2
    exact ⟨⟨s0, s1, s2⟩, rfl, w0, w1⟩
theorem op_api_End : RdsW enc Try.prog W ty_api_End rEn := by
  intro fuel cs x h hs
  obtain ⟨hl, hg⟩ := fldW_at (l := [(0, 1, ty_uint64), (1, 1, ty_sl_int), (2, 1, ty_int)]) (by kernel_rfl) h hs
  rw [show Try.prog.cellsOf ty_api_End = 3 by kernel_rfl] at hl
  match cs, hl with
  | [a, b, c], _ =>
    obtain ⟨s0, e0, w0⟩ := (rd_u64 (by kernel_rfl)).fld (tr1 (hg 0 _ _ _ rfl))
    obtain ⟨s1, v, e1, h1, hb⟩ := (rw_slice (t := ty_sl_int) (e := ty_int) (sz := 1) (by kernel_rfl) (by kernel_rfl) (rd_int (by kernel_rfl)).w).fld (hg 1 _ _ _ rfl)
    obtain ⟨s2, e2, w2⟩ := (rd_int (by kernel_rfl)).fld (tr1 (hg 2 _ _ _ rfl))
    cases e0; cases e1; cases e2
    refine ⟨⟨s0, s1, s2⟩, ⟨_, rfl, w0, w2, h1⟩, ?_⟩
    rw [show Try.prog.bytesOf ty_int = 8 by kernel_rfl] at hb
    unfold reachBytes at hb
    show s1.length ≤ 17592186044416
    omega
theorem op_api_Group : RdsW enc Try.prog W ty_api_Group rGr := by
  intro fuel cs x h hs
  obtain ⟨hl, hg⟩ := fldW_at (l := [(0, 1, ty_uint64), (1, 1, ty_sl_api_End)]) (by kernel_rfl) h hs
  rw [show Try.prog.cellsOf ty_api_Group = 2 by kernel_rfl] at hl
  match cs, hl with
  | [a, b], _ =>
    obtain ⟨s0, e0, w0⟩ := (rd_u64 (by kernel_rfl)).fld (tr1 (hg 0 _ _ _ rfl))
    obtain ⟨s1, v, e1, h1⟩ := (rw_sl (t := ty_sl_api_End) (e := ty_api_End) (sz := 3) (by kernel_rfl) (by kernel_rfl) op_api_End).fld (hg 1 _ _ _ rfl)
    cases e0; cases e1
    exact ⟨⟨s0, s1⟩, _, rfl, w0, h1⟩
theorem op_api_Version : RdsW enc Try.prog W ty_api_Version rVe := by
  intro fuel cs x h hs
  obtain ⟨hl, hg⟩ := fldW_at (l := [(0, 3, ty_api_Snap), (3, 1, ty_sl_api_Group), (4, 1, ty_bool)]) (by kernel_rfl) h hs
  rw [show Try.prog.cellsOf ty_api_Version = 5 by kernel_rfl] at hl
  match cs, hl with
  | [a, b, c, d, e], _ =>
    obtain ⟨s0, e0⟩ := (op_api_Snap (enc := enc)).fld (tr1 (hg 0 _ _ _ rfl))
    obtain ⟨s1, v, e1, h1⟩ := (rw_sl (t := ty_sl_api_Group) (e := ty_api_Group) (sz := 2) (by kernel_rfl) (by kernel_rfl) op_api_Group).fld (hg 1 _ _ _ rfl)
    obtain ⟨s2, e2⟩ := (rd_bool (by kernel_rfl)).fld (tr1 (hg 2 _ _ _ rfl))
    cases e1; cases e2
    exact ⟨⟨s0, s1, s2⟩, _, _, _, _, rfl, e0, h1⟩
theorem op_row : Rds enc Try.prog W ty_sl_uint64 rRow := by
  intro fuel cs x h
  obtain ⟨l, v, rfl, h1⟩ := (rd_slice (t := ty_sl_uint64) (e := ty_uint64) (sz := 1) (by kernel_rfl) (by kernel_rfl) (by omega) (rd_u64 (by kernel_rfl))) fuel cs x h
  exact ⟨l, _, rfl, h1⟩
theorem op_api_World : RdsW enc Try.prog W ty_api_World rWo := by
  intro fuel cs x h hs
  obtain ⟨hl, hg⟩ := fldW_at (l := [(0, 1, ty_int), (1, 1, ty_int), (2, 1, ty_int), (3, 1, ty_sl_int), (4, 1, ty_sl_api_Version), (5, 1, ty_sl_api_Listen), (6, 1, ty_slsl_uint64), (7, 1, ty_sl_api_Retired)]) (by kernel_rfl) h hs
  rw [show Try.prog.cellsOf ty_api_World = 8 by kernel_rfl] at hl
  match cs, hl with
  | [c0, c1, c2, c3, c4, c5, c6, c7], _ =>
    obtain ⟨s0, e0, w0⟩ := (rd_int (by kernel_rfl)).fld (tr1 (hg 0 _ _ _ rfl))
    obtain ⟨s1, e1, w1⟩ := (rd_int (by kernel_rfl)).fld (tr1 (hg 1 _ _ _ rfl))
    obtain ⟨s2, e2, w2⟩ := (rd_int (by kernel_rfl)).fld (tr1 (hg 2 _ _ _ rfl))
    obtain ⟨s3, v3, e3, h3⟩ := (rd_slice (t := ty_sl_int) (e := ty_int) (sz := 1) (by kernel_rfl) (by kernel_rfl) (by omega) (rd_int (by kernel_rfl))).fld (tr1 (hg 3 _ _ _ rfl))
    obtain ⟨s4, v4, e4, h4⟩ := (rw_sl (t := ty_sl_api_Version) (e := ty_api_Version) (sz := 5) (by kernel_rfl) (by kernel_rfl) op_api_Version).fld (hg 4 _ _ _ rfl)
    obtain ⟨s5, v5, e5, h5⟩ := (rd_slice (t := ty_sl_api_Listen) (e := ty_api_Listen) (sz := 4) (by kernel_rfl) (by kernel_rfl) (by omega) op_api_Listen).fld (tr1 (hg 5 _ _ _ rfl))
    obtain ⟨s6, v6, e6, h6⟩ := (rd_slice (t := ty_slsl_uint64) (e := ty_sl_uint64) (sz := 1) (by kernel_rfl) (by kernel_rfl) (by omega) op_row).fld (tr1 (hg 6 _ _ _ rfl))
    obtain ⟨s7, v7, e7, h7⟩ := (rd_slice (t := ty_sl_api_Retired) (e := ty_api_Retired) (sz := 3) (by kernel_rfl) (by kernel_rfl) (by omega) op_api_Retired).fld (tr1 (hg 7 _ _ _ rfl))
    cases e0; cases e1; cases e2; cases e3; cases e4; cases e5; cases e6; cases e7
    exact ⟨⟨s0, s1, s2, s3, s4, s5, s6, s7⟩, _, _, _, _, _, rfl, ⟨w0, w1, w2⟩, h3, h4, h5, h6, h7⟩
end
end Go.Proofs.Ytjaeeadfmnokeaa

