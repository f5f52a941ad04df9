/- Pins: the law's example. -/
import Derived.Test.YtkkhdnddplkobaaLW9t
import Derived.Test.YtkkhdnddplkobaaLW9k
import Derived.Test.YtkkhdnddplkobaaLW9e
import Derived.Test.YtkkhdnddplkobaaLW9o
import Derived.Test.YtkkhdnddplkobaaPl
import Derived.Test.YtkkhdnddplkobaaF
namespace Go.Proofs.Ytkkhdnddplkobaa
open Go.Proofs.Ytkkhdnddplkobaa.Sx Go.RowKit
def OutP (e : Int) (p : List Int) (pc ep : Int) (E : Ev) (v : Value) (g' : GW) : Prop := ∃ cs ms, v = .tuple #[.agg ⟨cs⟩, .agg ⟨ms⟩, .agg ⟨E.cs⟩] ∧ rWo g' cs (wP e p) ∧ rMach g' ms (mP pc ep)
section
variable {g : GW} {cs ms : List Value} {e pc ep : Int} {p : List Int} (hw : rWo g cs (wP e p)) (hM : rMach g ms (mP pc ep)) (he : 0 ≤ e ∧ e ≤ 100) (hl : p.length = 2) (hp : ∀ x ∈ p, 0 ≤ x ∧ x ≤ e + 1)
include hw hM he hl hp
theorem stP0 (h : pc = 0) : Ok Try.prog n_pin_Step [.agg ⟨cs⟩, .agg ⟨ms⟩] g (OutP e p 1 e ⟨1, 0, 1, 1, -1, false, e, false, false, false, ans0⟩) :=
  (ok_Step g hw hM (wP_sn _ _) (wP_bg hl)).mono fun v g' _ hS => by
    obtain ⟨cs', ms', rfl, hw', hM'⟩ := hS
    have hs := wP_suit (pc := pc) (ep := ep) he hl hp
    rw [(pinE_at hs).1 (.inl h)]
    rw [(pinW_at hs).1 (by show pc ≠ 1; omega)] at hw'
    rw [(pinM_at hs).1 h] at hM'
    exact ⟨_, _, rfl, hw', hM'⟩
theorem stP1 (h : pc = 1) : Ok Try.prog n_pin_Step [.agg ⟨cs⟩, .agg ⟨ms⟩] g (OutP e (p.set 1 (IntKind.i64.wrap (ep + 1))) 2 ep ⟨1, 0, 2, 2, -1, false, IntKind.i64.wrap (ep + 1), false, false, false, ans0⟩) :=
  (ok_Step g hw hM (wP_sn _ _) (wP_bg hl)).mono fun v g' _ hS => by
    obtain ⟨cs', ms', rfl, hw', hM'⟩ := hS
    have hs := wP_suit (pc := pc) (ep := ep) he hl hp
    rw [(pinE_at hs).2.1 h]
    rw [(pinW_at hs).2 h] at hw'
    rw [(pinM_at hs).2.1 h] at hM'
    exact ⟨_, _, rfl, hw', hM'⟩
theorem stP2 (h : pc = 2) : Ok Try.prog n_pin_Step [.agg ⟨cs⟩, .agg ⟨ms⟩] g (OutP e p (if e = ep then 3 else 1) e ⟨1, 0, 1, 1, -1, false, e, false, false, false, ans0⟩) :=
  (ok_Step g hw hM (wP_sn _ _) (wP_bg hl)).mono fun v g' _ hS => by
    obtain ⟨cs', ms', rfl, hw', hM'⟩ := hS
    have hs := wP_suit (pc := pc) (ep := ep) he hl hp
    rw [(pinE_at hs).1 (.inr h)]
    rw [(pinW_at hs).1 (by show pc ≠ 1; omega)] at hw'
    rw [(pinM_at hs).2.2.1 h] at hM'
    exact ⟨_, _, rfl, hw', hM'⟩
theorem stP3 (h : pc = 3) : Ok Try.prog n_pin_Step [.agg ⟨cs⟩, .agg ⟨ms⟩] g (OutP e p pc ep ev0) :=
  (ok_Step g hw hM (wP_sn _ _) (wP_bg hl)).mono fun v g' _ hS => by
    obtain ⟨cs', ms', rfl, hw', hM'⟩ := hS
    have hs := wP_suit (pc := pc) (ep := ep) he hl hp
    rw [(pinE_at hs).2.2 h]
    rw [(pinW_at hs).1 (by show pc ≠ 1; omega)] at hw'
    rw [(pinM_at hs).2.2.2 h] at hM'
    exact ⟨_, _, rfl, hw', hM'⟩
theorem ofP : Ok Try.prog n_pin_Off [.agg ⟨cs⟩, .agg ⟨ms⟩] g fun v g' => ∃ cs', v = .tuple #[.agg ⟨cs'⟩, .agg ⟨(⟨1, 0, 2, 2, -1, false, 0, false, false, false, ans0⟩ : Ev).cs⟩] ∧ rWo g' cs' (wP e (p.set 1 0)) :=
  (ok_Off g hw hM (wP_sn _ _) (wP_bg hl)).mono fun v g' _ hS => by
    obtain ⟨cs', rfl, hw'⟩ := hS
    have hs := wP_suit (pc := pc) (ep := ep) he hl hp
    unfold offW at hw'
    unfold offE
    rw [if_pos hs]
    rw [if_pos hs] at hw'
    exact ⟨_, rfl, hw'⟩
end
theorem pins2 {a b : Int} {e : Int} (h : (0 ≤ a ∧ a ≤ e + 1) ∧ (0 ≤ b ∧ b ≤ e + 1)) : ∀ x ∈ [a, b], 0 ≤ x ∧ x ≤ e + 1 := by
  intro x hx
  simp only [List.mem_cons, List.not_mem_nil, or_false] at hx
  rcases hx with rfl | rfl
  · exact h.1
  · exact h.2
theorem suit2 : suitB (wP 0 [0, 0]) { mP 0 0 with thread := 2 } = false := suitB_f fun ⟨_, _, _, h⟩ => absurd h.thread.2 (by decide)
theorem rMach_P2 (g : GW) : rMach g (Mach.cs (.slice none 0 0) (.slice none 0 0) (.slice none 0 0) { mP 0 0 with thread := 2 }) { mP 0 0 with thread := 2 } :=
  ⟨_, _, _, rfl, ⟨(by decide : InR 2), z0, z0, z0, z0, z0, z0, z0, z0, zu, z0, z0, z0, z0, ans0_ok, c60_ok⟩, ⟨z0, z0, z0, z0⟩, rConfig_nil g⟩
set_option maxHeartbeats 8000000 in
set_option maxRecDepth 100000 in
theorem ok_pinned (g : GW) : OkV Try.prog n_hydrantlaw19_pinned [] g (.bool true) :=
  Ok.of_fn hm noT 0 t_hydrantlaw19_pinned (args := []) (by
    repeat ((conv => whnf); first | apply qza | apply qzb | apply qzc | apply qzd | apply qze | intro (_ : Nat) | intro (_ : Option Addr) (_ : Nat))
    refine .inr ((ok_plain19 _).mono fun v ga hga hO => ?_)
    obtain ⟨cs, rfl, hwa⟩ := hO
    obtain ⟨oa, ca, ob, cb, oc, cc, od, cd, oe, ce, rfl⟩ := rWo_open hwa
    have hMa := rMach_P ga 0 0 ⟨by decide, by decide⟩
    repeat ((conv => whnf); first | apply qza | apply qzb | apply qzc | apply qzd | apply qze | intro (_ : Nat) | intro (_ : Option Addr) (_ : Nat))
    conv => whnf
    refine .inl ⟨_, (ok_Suits _ hwa hMa (wP_sn _ _) (wP_bg rfl)).to (congrArg Value.bool (wP_suit ⟨by decide, by decide⟩ rfl (pins2 ⟨⟨by decide, by decide⟩, by decide, by decide⟩))), ?_⟩
    repeat ((conv => whnf); first | apply qza | apply qzb | apply qzc | apply qzd | apply qze | intro (_ : Nat) | intro (_ : Option Addr) (_ : Nat))
    conv => whnf
    refine ⟨fun h => (nomatch h), fun _ => ?_⟩
    repeat ((conv => whnf); first | apply qza | apply qzb | apply qzc | apply qzd | apply qze | intro (_ : Nat) | intro (_ : Option Addr) (_ : Nat))
    refine .inr ((stP0 hwa hMa ⟨by decide, by decide⟩ rfl (pins2 ⟨⟨by decide, by decide⟩, by decide, by decide⟩) rfl).mono fun v gb hgb hO => ?_)
    obtain ⟨cs, ms, rfl, hwb, hMb⟩ := hO
    obtain ⟨oab, cab, obb, cbb, ocb, ccb, odb, cdb, oeb, ceb, rfl⟩ := rWo_open hwb
    obtain ⟨oob, tob, opb, tpb, oqb, tqb, rfl⟩ := rMach_open hMb
    repeat ((conv => whnf); first | apply qza | apply qzb | apply qzc | apply qzd | apply qze | intro (_ : Nat) | intro (_ : Option Addr) (_ : Nat))
    refine .inr ((stP1 hwb hMb ⟨by decide, by decide⟩ rfl (pins2 ⟨⟨by decide, by decide⟩, by decide, by decide⟩) rfl).mono fun v gc hgc hO => ?_)
    obtain ⟨cs, ms, rfl, hwc, hMc⟩ := hO
    obtain ⟨oac, cac, obc, cbc, occ, ccc, odc, cdc, oec, cec, rfl⟩ := rWo_open hwc
    obtain ⟨ooc, toc, opc, tpc, oqc, tqc, rfl⟩ := rMach_open hMc
    replace hwc : rWo gc _ (wP 0 [0, 1]) := hwc
    have hwc' := rWo_epoch hwc (x := 1) (by decide)
    replace hwc' : rWo gc _ (wP 1 [0, 1]) := hwc'
    repeat ((conv => whnf); first | apply qza | apply qzb | apply qzc | apply qzd | apply qze | intro (_ : Nat) | intro (_ : Option Addr) (_ : Nat))
    refine .inr ((stP2 hwc' hMc ⟨by decide, by decide⟩ rfl (pins2 ⟨⟨by decide, by decide⟩, by decide, by decide⟩) rfl).mono fun v gd hgd hO => ?_)
    obtain ⟨cs, ms, rfl, hwd, hMd⟩ := hO
    replace hMd : rMach gd _ (mP 1 1) := hMd
    obtain ⟨oad, cad, obd, cbd, ocd, ccd, odd, cdd, oed, ced, rfl⟩ := rWo_open hwd
    obtain ⟨ood, tod, opd, tpd, oqd, tqd, rfl⟩ := rMach_open hMd
    repeat ((conv => whnf); first | apply qza | apply qzb | apply qzc | apply qzd | apply qze | intro (_ : Nat) | intro (_ : Option Addr) (_ : Nat))
    refine .inr ((stP1 hwd hMd ⟨by decide, by decide⟩ rfl (pins2 ⟨⟨by decide, by decide⟩, by decide, by decide⟩) rfl).mono fun v ge hge hO => ?_)
    obtain ⟨cs, ms, rfl, hwe, hMe⟩ := hO
    obtain ⟨oae, cae, obe, cbe, oce, cce, ode, cde, oee, cee, rfl⟩ := rWo_open hwe
    obtain ⟨ooe, toe, ope, tpe, oqe, tqe, rfl⟩ := rMach_open hMe
    replace hwe : rWo ge _ (wP 1 [0, 2]) := hwe
    repeat ((conv => whnf); first | apply qza | apply qzb | apply qzc | apply qzd | apply qze | intro (_ : Nat) | intro (_ : Option Addr) (_ : Nat))
    refine .inr ((stP2 hwe hMe ⟨by decide, by decide⟩ rfl (pins2 ⟨⟨by decide, by decide⟩, by decide, by decide⟩) rfl).mono fun v gf hgf hO => ?_)
    obtain ⟨cs, ms, rfl, hwf, hMf⟩ := hO
    replace hMf : rMach gf _ (mP 3 1) := hMf
    obtain ⟨oaf, caf, obf, cbf, ocf, ccf, odf, cdf, oef, cef, rfl⟩ := rWo_open hwf
    obtain ⟨oof, tof, opf, tpf, oqf, tqf, rfl⟩ := rMach_open hMf
    repeat ((conv => whnf); first | apply qza | apply qzb | apply qzc | apply qzd | apply qze | intro (_ : Nat) | intro (_ : Option Addr) (_ : Nat))
    refine .inr ((ofP hwf hMf ⟨by decide, by decide⟩ rfl (pins2 ⟨⟨by decide, by decide⟩, by decide, by decide⟩)).mono fun v gh hgh hO => ?_)
    obtain ⟨cs, rfl, hwh⟩ := hO
    replace hwh : rWo gh _ (wP 1 [0, 0]) := hwh
    obtain ⟨oah, cah, obh, cbh, och, cch, odh, cdh, oeh, ceh, rfl⟩ := rWo_open hwh
    repeat ((conv => whnf); first | apply qza | apply qzb | apply qzc | apply qzd | apply qze | intro (_ : Nat) | intro (_ : Option Addr) (_ : Nat))
    have hwf2 := rWo_mono _ _ _ _ hgh hwf
    have hMf2 := rMach_mono _ _ _ _ hgh hMf
    refine .inr ((stP3 hwf2 hMf2 ⟨by decide, by decide⟩ rfl (pins2 ⟨⟨by decide, by decide⟩, by decide, by decide⟩) rfl).mono fun v gi hgi hO => ?_)
    obtain ⟨cs, ms, rfl, hwi, hMi⟩ := hO
    obtain ⟨oai, cai, obi, cbi, oci, cci, odi, cdi, oei, cei, rfl⟩ := rWo_open hwi
    obtain ⟨ooi, toi, opi, tpi, oqi, tqi, rfl⟩ := rMach_open hMi
    repeat ((conv => whnf); first | apply qza | apply qzb | apply qzc | apply qzd | apply qze | intro (_ : Nat) | intro (_ : Option Addr) (_ : Nat))
    have lci : gc ≤ gi := GW.trans hgd (GW.trans hge (GW.trans hgf (GW.trans hgh hgi)))
    have lei : ge ≤ gi := GW.trans hgf (GW.trans hgh hgi)
    obtain ⟨_, _, kb, kb1, kb2, kb0, kbr⟩ := rWo_pins (rWo_mono _ _ _ _ lci hwc')
    cases kb
    obtain ⟨_, _, kd, kd1, kd2, kd0, kdr⟩ := rWo_pins (rWo_mono _ _ _ _ lei hwe)
    cases kd
    obtain ⟨_, _, ki, ki1, ki2, ki0, kir⟩ := rWo_pins (rWo_mono _ _ _ _ hgi hwh)
    cases ki
    obtain ⟨ab, rfl, eb, heb, ⟨rfl, _⟩, hcb⟩ := kbr 1 1 rfl
    obtain ⟨ad, rfl, ed, hed, ⟨rfl, _⟩, hcd⟩ := kdr 1 2 rfl
    obtain ⟨ai, rfl, ei, hei, ⟨rfl, _⟩, hci⟩ := kir 1 0 rfl
    conv => whnf
    refine ⟨fun hx => absurd (hx.symm.trans ((by rfl))) (by decide), fun _ => ?_⟩
    repeat ((conv => whnf); first | apply qza | apply qzb | apply qzc | apply qzd | apply qze | intro (_ : Nat) | intro (_ : Option Addr) (_ : Nat))
    conv => whnf
    refine ⟨fun hx => absurd (hx.symm.trans ((by rfl))) (by decide), fun _ => ?_⟩
    repeat ((conv => whnf); first | apply qza | apply qzb | apply qzc | apply qzd | apply qze | intro (_ : Nat) | intro (_ : Option Addr) (_ : Nat))
    conv => whnf
    refine ⟨fun hx => absurd (hx.symm.trans ((by rfl))) (by decide), fun _ => ?_⟩
    repeat ((conv => whnf); first | apply qza | apply qzb | apply qzc | apply qzd | apply qze | intro (_ : Nat) | intro (_ : Option Addr) (_ : Nat))
    conv => whnf
    refine ⟨fun _ => ?_, fun hx => absurd hx (by decide)⟩
    repeat ((conv => whnf); first | apply qza | apply qzb | apply qzc | apply qzd | apply qze | intro (_ : Nat) | intro (_ : Option Addr) (_ : Nat))
    conv => whnf
    refine ⟨fun _ => ?_, fun hx => absurd hx (by decide)⟩
    repeat ((conv => whnf); first | apply qza | apply qzb | apply qzc | apply qzd | apply qze | intro (_ : Nat) | intro (_ : Option Addr) (_ : Nat))
    conv => whnf
    refine ⟨_, rfl, ⟨by decide, by decide⟩, ?_⟩
    repeat ((conv => whnf); first | apply qza | apply qzb | apply qzc | apply qzd | apply qze | intro (_ : Nat) | intro (_ : Option Addr) (_ : Nat))
    conv => whnf
    refine ⟨_, hcb 0 _ rfl, ?_⟩
    repeat ((conv => whnf); first | apply qza | apply qzb | apply qzc | apply qzd | apply qze | intro (_ : Nat) | intro (_ : Option Addr) (_ : Nat))
    conv => whnf
    refine ⟨fun _ => ?_, fun hx => absurd hx (by decide)⟩
    repeat ((conv => whnf); first | apply qza | apply qzb | apply qzc | apply qzd | apply qze | intro (_ : Nat) | intro (_ : Option Addr) (_ : Nat))
    conv => whnf
    refine ⟨fun _ => ?_, fun hx => absurd hx (by decide)⟩
    repeat ((conv => whnf); first | apply qza | apply qzb | apply qzc | apply qzd | apply qze | intro (_ : Nat) | intro (_ : Option Addr) (_ : Nat))
    conv => whnf
    refine ⟨_, rfl, ⟨by decide, by decide⟩, ?_⟩
    repeat ((conv => whnf); first | apply qza | apply qzb | apply qzc | apply qzd | apply qze | intro (_ : Nat) | intro (_ : Option Addr) (_ : Nat))
    conv => whnf
    refine ⟨_, hcd 0 _ rfl, ?_⟩
    repeat ((conv => whnf); first | apply qza | apply qzb | apply qzc | apply qzd | apply qze | intro (_ : Nat) | intro (_ : Option Addr) (_ : Nat))
    conv => whnf
    refine ⟨fun _ => ?_, fun hx => absurd hx (by decide)⟩
    repeat ((conv => whnf); first | apply qza | apply qzb | apply qzc | apply qzd | apply qze | intro (_ : Nat) | intro (_ : Option Addr) (_ : Nat))
    conv => whnf
    refine ⟨fun _ => ?_, fun hx => absurd hx (by decide)⟩
    repeat ((conv => whnf); first | apply qza | apply qzb | apply qzc | apply qzd | apply qze | intro (_ : Nat) | intro (_ : Option Addr) (_ : Nat))
    conv => whnf
    refine ⟨fun _ => ?_, fun hx => absurd hx (by decide)⟩
    repeat ((conv => whnf); first | apply qza | apply qzb | apply qzc | apply qzd | apply qze | intro (_ : Nat) | intro (_ : Option Addr) (_ : Nat))
    conv => whnf
    refine ⟨_, rfl, ⟨by decide, by decide⟩, ?_⟩
    repeat ((conv => whnf); first | apply qza | apply qzb | apply qzc | apply qzd | apply qze | intro (_ : Nat) | intro (_ : Option Addr) (_ : Nat))
    conv => whnf
    refine ⟨_, hci 0 _ rfl, ?_⟩
    repeat ((conv => whnf); first | apply qza | apply qzb | apply qzc | apply qzd | apply qze | intro (_ : Nat) | intro (_ : Option Addr) (_ : Nat))
    conv => whnf
    refine ⟨fun _ => ?_, fun hx => absurd hx (by decide)⟩
    repeat ((conv => whnf); first | apply qza | apply qzb | apply qzc | apply qzd | apply qze | intro (_ : Nat) | intro (_ : Option Addr) (_ : Nat))
    conv => whnf
    refine ⟨fun _ => ?_, fun hx => absurd hx (by decide)⟩
    repeat ((conv => whnf); first | apply qza | apply qzb | apply qzc | apply qzd | apply qze | intro (_ : Nat) | intro (_ : Option Addr) (_ : Nat))
    conv => whnf
    refine ⟨fun _ => ?_, fun hx => absurd hx (by decide)⟩
    repeat ((conv => whnf); first | apply qza | apply qzb | apply qzc | apply qzd | apply qze | intro (_ : Nat) | intro (_ : Option Addr) (_ : Nat))
    conv => whnf
    refine ⟨fun _ => ?_, fun hx => absurd hx (by decide)⟩
    repeat ((conv => whnf); first | apply qza | apply qzb | apply qzc | apply qzd | apply qze | intro (_ : Nat) | intro (_ : Option Addr) (_ : Nat))
    conv => whnf
    refine .inl ⟨_, (ok_Suits _ (rWo_mono _ _ _ _ (GW.trans hgb (GW.trans hgc lci)) hwa) (rMach_P2 _) (wP_sn _ _) (wP_bg rfl)).to (congrArg Value.bool suit2), ?_⟩
    repeat ((conv => whnf); first | apply qza | apply qzb | apply qzc | apply qzd | apply qze | intro (_ : Nat) | intro (_ : Option Addr) (_ : Nat))
    conv => whnf
    intro g2 hg
    rfl)
end Go.Proofs.Ytkkhdnddplkobaa


/- The law PinOff. -/
namespace Go.Proofs.Ytkkhdnddplkobaa
open Go.Proofs.Ytkkhdnddplkobaa.Sx Go.RowKit
theorem BgW.up {K K' : Nat} {w : Wd} (h : BgW K w) (k : K ≤ K') : BgW K' w := by
  obtain ⟨⟨h1, h2, h3, h4, h5⟩, h6, h7⟩ := h
  refine ⟨⟨by omega, by omega, by omega, by omega, by omega⟩, fun r hr => by have := h6 r hr; omega, fun v hv => ?_⟩
  obtain ⟨a, b⟩ := h7 v hv
  exact ⟨by omega, fun y hy => by have := b y hy; unfold BgG at this ⊢; omega⟩
end Go.Proofs.Ytkkhdnddplkobaa


/- The law PinThree. -/
namespace Go.Proofs.Ytkkhdnddplkobaa
open Go.Proofs.Ytkkhdnddplkobaa.Sx Go.RowKit
theorem rMach_pc {g : GW} {a b d : Value} {m : Mach} (h : rMach g (m.cs a b d) m) {x : Int} (hx : InR x) : rMach g (Mach.cs a b d { m with pc := x }) { m with pc := x } := by
  obtain ⟨a', b', d', he, hok, hop, hc⟩ := h
  simp only [List.cons.injEq, and_true, true_and] at he
  obtain ⟨rfl, rfl, rfl⟩ := he
  exact ⟨_, _, _, rfl, { hok with pc := hx }, hop, hc⟩
end Go.Proofs.Ytkkhdnddplkobaa


/- The law PinRaces. -/
namespace Go.Proofs.Ytkkhdnddplkobaa
open Go.Proofs.Ytkkhdnddplkobaa.Sx Go.RowKit
structure RcSt where
  j : Nat
  g : GW
  w : Wd
  oa : Option Addr
  ca : Nat
  ob : Option Addr
  cb : Nat
  oc : Option Addr
  cc : Nat
  od : Option Addr
  cd : Nat
  oe : Option Addr
  ce : Nat
  m : Mach
  o1 : Option Addr
  t1 : Nat
  o2 : Option Addr
  t2 : Nat
  o3 : Option Addr
  t3 : Nat
abbrev RcSt.wc (x : RcSt) : List Value := [.int .i64 x.w.epoch, .int .i64 x.w.current, .int .i64 x.w.lock, .slice x.oa x.w.pins.length x.ca, .slice x.ob x.w.versions.length x.cb, .slice x.oc x.w.listens.length x.cc, .slice x.od x.w.counts.length x.cd, .slice x.oe x.w.limbo.length x.ce]
abbrev RcSt.mc (x : RcSt) : List Value := x.m.cs (.slice x.o1 x.m.op.config.listens.length x.t1) (.slice x.o2 x.m.op.config.routes.length x.t2) (.slice x.o3 x.m.op.config.clusters.length x.t3)
set_option maxHeartbeats 16000000 in
set_option maxRecDepth 100000 in
theorem ok_PinRaces (g : GW) {cs ms : List Value} {w : Wd} {m : Mach} {v : Value} {l : List Bool} (hw : rWo g cs w) (hM : rMach g ms m) (hl : rSl 1 rBool g v l) : OkV Try.prog n_hydrantlaw19_PinRaces [.agg ⟨cs⟩, .agg ⟨ms⟩, v] g (.bool true) := by
  obtain ⟨oa, ca, ob, cb, oc, cc, od, cd, oe, ce, rfl⟩ := rWo_open hw
  obtain ⟨o1, t1, o2, t2, o3, t3, rfl⟩ := rMach_open hM
  obtain ⟨ol, cl, rfl, l1, l2, l0, hlr⟩ := id hl
  exact Ok.of_fn hm noT 0 t_hydrantlaw19_PinRaces (args := [.v (.agg ⟨[.int .i64 w.epoch, .int .i64 w.current, .int .i64 w.lock, .slice oa w.pins.length ca, .slice ob w.versions.length cb, .slice oc w.listens.length cc, .slice od w.counts.length cd, .slice oe w.limbo.length ce]⟩), .v (.agg ⟨m.cs (.slice o1 m.op.config.listens.length t1) (.slice o2 m.op.config.routes.length t2) (.slice o3 m.op.config.clusters.length t3)⟩), .v (.slice ol l.length cl)]) (by
    repeat ((conv => whnf); first | apply qza | apply qzb | apply qzc | apply qzd | apply qze | intro (_ : Nat) | intro (_ : Option Addr) (_ : Nat))
    rename_i q0 q1
    refine .inr ((ok_rBigW _ hw).mono fun v g1 hg1 hB => ?_)
    obtain ⟨b, rfl, hB⟩ := hB
    repeat ((conv => whnf); first | apply qza | apply qzb | apply qzc | apply qzd | apply qze | intro (_ : Nat) | intro (_ : Option Addr) (_ : Nat))
    conv => whnf
    refine ⟨fun z1 => ?_, fun z1 => ?_⟩
    · repeat ((conv => whnf); first | apply qza | apply qzb | apply qzc | apply qzd | apply qze | intro (_ : Nat) | intro (_ : Option Addr) (_ : Nat))
      conv => whnf
      refine .inl ⟨_, ok_pinned _, ?_⟩
      repeat ((conv => whnf); first | apply qza | apply qzb | apply qzc | apply qzd | apply qze | intro (_ : Nat) | intro (_ : Option Addr) (_ : Nat))
      conv => whnf
      intro g2 hg
      rfl
    obtain ⟨hb, hsn⟩ := hB z1
    have hb' := BgW.up (K' := 1000000) hb (by decide)
    have hw1 := rWo_mono _ _ _ _ hg1 hw
    have hM1 := rMach_pc (rMach_mono _ _ _ _ hg1 hM) (x := 0) (by decide)
    repeat ((conv => whnf); first | apply qza | apply qzb | apply qzc | apply qzd | apply qze | intro (_ : Nat) | intro (_ : Option Addr) (_ : Nat))
    conv => whnf
    refine ⟨fun z2 => ?_, fun z2 => ?_⟩
    · repeat ((conv => whnf); first | apply qza | apply qzb | apply qzc | apply qzd | apply qze | intro (_ : Nat) | intro (_ : Option Addr) (_ : Nat))
      conv => whnf
      refine .inl ⟨_, ok_pinned _, ?_⟩
      repeat ((conv => whnf); first | apply qza | apply qzb | apply qzc | apply qzd | apply qze | intro (_ : Nat) | intro (_ : Option Addr) (_ : Nat))
      conv => whnf
      intro g2 hg
      rfl
    have hl100 := of_decide_eq_false z2
    repeat ((conv => whnf); first | apply qza | apply qzb | apply qzc | apply qzd | apply qze | intro (_ : Nat) | intro (_ : Option Addr) (_ : Nat))
    conv => whnf
    refine ⟨fun z3 => ?_, fun z3 => ?_⟩
    · repeat ((conv => whnf); first | apply qza | apply qzb | apply qzc | apply qzd | apply qze | intro (_ : Nat) | intro (_ : Option Addr) (_ : Nat))
      conv => whnf
      refine .inl ⟨_, ok_pinned _, ?_⟩
      repeat ((conv => whnf); first | apply qza | apply qzb | apply qzc | apply qzd | apply qze | intro (_ : Nat) | intro (_ : Option Addr) (_ : Nat))
      conv => whnf
      intro g2 hg
      rfl
    have hep6 := of_decide_eq_false z3
    repeat ((conv => whnf); first | apply qza | apply qzb | apply qzc | apply qzd | apply qze | intro (_ : Nat) | intro (_ : Option Addr) (_ : Nat))
    conv => whnf
    refine .inl ⟨_, ok_Suits _ hw1 hM1 hsn hb', ?_⟩
    repeat ((conv => whnf); first | apply qza | apply qzb | apply qzc | apply qzd | apply qze | intro (_ : Nat) | intro (_ : Option Addr) (_ : Nat))
    conv => whnf
    refine ⟨fun z4 => ?_, fun z4 => ?_⟩
    · repeat ((conv => whnf); first | apply qza | apply qzb | apply qzc | apply qzd | apply qze | intro (_ : Nat) | intro (_ : Option Addr) (_ : Nat))
      conv => whnf
      refine .inl ⟨_, ok_pinned _, ?_⟩
      repeat ((conv => whnf); first | apply qza | apply qzb | apply qzc | apply qzd | apply qze | intro (_ : Nat) | intro (_ : Option Addr) (_ : Nat))
      conv => whnf
      intro g2 hg
      rfl
    have hs := nb0 z4
    have hI0 : PinInv w { m with pc := 0 } := ⟨hs, .inl rfl, fun h => absurd rfl h, fun h => absurd h (by decide : ¬ (0 : Int) = 2)⟩
    repeat ((conv => whnf); first | apply qza | apply qzb | apply qzc | apply qzd | apply qze | intro (_ : Nat) | intro (_ : Option Addr) (_ : Nat))
    conv => whnf
    refine ⟨RcSt, fun x => [.v (.int .i64 x.j)], fun x => ⟨x.g, [.blk 1 q1 ty_api_Machine (x.mc.map SV.v), .blk 0 q0 ty_api_World (x.wc.map SV.v)], _, _⟩, fun x => x.j ≤ l.length ∧ g1 ≤ x.g ∧ rWo x.g x.wc x.w ∧ rMach x.g x.mc x.m ∧ PinInv x.w x.m ∧ SnW x.w ∧ BgW 1000000 x.w ∧ x.w.epoch ≤ 1000000 + x.j, fun x => l.length - x.j, loop_here (⟨0, g1, w, oa, ca, ob, cb, oc, cc, od, cd, oe, ce, { m with pc := 0 }, o1, t1, o2, t2, o3, t3⟩ : RcSt) rfl ⟨Nat.zero_le _, GW.refl _, hw1, hM1, hI0, hsn, hb', by show w.epoch ≤ 1000000 + 0; omega⟩ rfl, ?_⟩
    clear hM1 hw1 hI0 hs hb' hb hsn hB hw hM
    intro x hx
    obtain ⟨j, gx, w, oa, ca, ob, cb, oc, cc, od, cd, oe, ce, m, o1, t1, o2, t2, o3, t3⟩ := x
    obtain ⟨hj, hxg, hxw, hxM, hI, hsn, hb, hej⟩ := hx
    replace hj : j ≤ l.length := hj
    replace hej : w.epoch ≤ 1000000 + j := hej
    replace hb : BgW 1000000 w := hb
    replace hsn : SnW w := hsn
    replace hI : PinInv w m := hI
    obtain ⟨_, _, _, hS0⟩ := suitB_iff.1 hI.suit
    obtain ⟨he0, he1⟩ := ground_epoch hS0.right
    have hthr : 0 ≤ m.thread := hS0.thread.1
    have hpc := hI.pc
    repeat ((conv => whnf); first | apply qza | apply qzb | apply qzc | apply qzd | apply qze | intro (_ : Nat) | intro (_ : Option Addr) (_ : Nat))
    conv => whnf
    refine ⟨fun y1 => ?_, fun y1 => ?_⟩
    · have hlj : j < l.length := by have h9 : (j : Int) < l.length := of_decide_eq_true y1; omega
      obtain ⟨b, hb0⟩ := getL_of hlj
      obtain ⟨al, rfl, el, hel, rfl, hcl⟩ := hlr j b hb0
      have hcl' := (hcl 0 _ rfl).mono (GW.trans hg1 hxg)
      repeat ((conv => whnf); first | apply qza | apply qzb | apply qzc | apply qzd | apply qze | intro (_ : Nat) | intro (_ : Option Addr) (_ : Nat))
      conv => whnf
      refine ⟨_, rfl, ⟨by show (0 : Int) ≤ j; omega, by show (j : Int) < l.length; omega⟩, ?_⟩
      repeat ((conv => whnf); first | apply qza | apply qzb | apply qzc | apply qzd | apply qze | intro (_ : Nat) | intro (_ : Option Addr) (_ : Nat))
      conv => whnf
      refine ⟨_, hcl', ?_⟩
      repeat ((conv => whnf); first | apply qza | apply qzb | apply qzc | apply qzd | apply qze | intro (_ : Nat) | intro (_ : Option Addr) (_ : Nat))
      conv => whnf
      refine ⟨fun y2 => ?_, fun y2 => ?_⟩
      · repeat ((conv => whnf); first | apply qza | apply qzb | apply qzc | apply qzd | apply qze | intro (_ : Nat) | intro (_ : Option Addr) (_ : Nat))
        refine .inr ((ok_Clone _ hxw hb).mono fun v g3 hg3 hO => ?_)
        obtain ⟨cs, T, rfl, hT⟩ := hO
        have hF := oWo_rd hT
        obtain ⟨p1, p2, p3, p4, p5, p6, p7, p8, p9, p10, rfl⟩ := rWo_open hF
        have hE : IntKind.i64.wrap (w.epoch + 1) = w.epoch + 1 := wrE ⟨he0, he1⟩
        have hF2 := rWo_epoch hF (x := IntKind.i64.wrap (w.epoch + 1)) (wrap_in _)
        have hI2 : PinInv { w with epoch := IntKind.i64.wrap (w.epoch + 1) } m := by rw [hE]; exact hI.on (by omega)
        have hM2 := rMach_mono _ _ _ _ hg3 hxM
        have hb2 : BgW 1000000 { w with epoch := IntKind.i64.wrap (w.epoch + 1) } := hb
        have hsn2 : SnW { w with epoch := IntKind.i64.wrap (w.epoch + 1) } := hsn
        repeat ((conv => whnf); first | apply qza | apply qzb | apply qzc | apply qzd | apply qze | intro (_ : Nat) | intro (_ : Option Addr) (_ : Nat))
        refine .inr ((ok_Step _ hF2 hM2 hsn2 hb2).mono fun v g4 hg4 hO => ?_)
        obtain ⟨csa, msa, rfl, hwa, hMa⟩ := hO
        obtain ⟨hr, hep, hth, hac, hpl, hve, hli, hco, hlm, hnx⟩ := hI2.step
        have hsn4 : SnW (pinW { w with epoch := IntKind.i64.wrap (w.epoch + 1) } m) := by unfold SnW; rw [hve]; exact hsn2
        have hb4 : BgW 1000000 (pinW { w with epoch := IntKind.i64.wrap (w.epoch + 1) } m) := BgW_same hb2 hpl hve hli hco hlm
        obtain ⟨r1, r2, r3, r4, r5, r6, r7, r8, r9, r10, rfl⟩ := rWo_open hwa
        obtain ⟨s1, s2, s3, s4, s5, s6, rfl⟩ := rMach_open hMa
        repeat ((conv => whnf); first | apply qza | apply qzb | apply qzc | apply qzd | apply qze | intro (_ : Nat) | intro (_ : Option Addr) (_ : Nat))
        conv => whnf
        refine ⟨fun hx => absurd (beqT hx) hac, fun _ => ?_⟩
        repeat ((conv => whnf); first | apply qza | apply qzb | apply qzc | apply qzd | apply qze | intro (_ : Nat) | intro (_ : Option Addr) (_ : Nat))
        conv => whnf
        refine .inl ⟨_, (ok_wIs _ hwa hsn4).to (congrArg Value.bool hr), ?_⟩
        repeat ((conv => whnf); first | apply qza | apply qzb | apply qzc | apply qzd | apply qze | intro (_ : Nat) | intro (_ : Option Addr) (_ : Nat))
        conv => whnf
        refine ⟨fun h => (nomatch h), fun _ => ?_⟩
        repeat ((conv => whnf); first | apply qza | apply qzb | apply qzc | apply qzd | apply qze | intro (_ : Nat) | intro (_ : Option Addr) (_ : Nat))
        conv => whnf
        refine ⟨fun y3 => ?_, fun y3 => ?_⟩
        · rcases hnx with hnx | ⟨_, hnE, hnP⟩
          · have h3 := hnx.pc
            have h4 : (pinM { w with epoch := IntKind.i64.wrap (w.epoch + 1) } m).pc = 3 := beqT y3
            omega
          obtain ⟨_, _, ka, ka1, ka2, ka0, kar⟩ := rWo_pins hwa
          cases ka
          obtain ⟨ap, rfl, ep, hep', ⟨rfl, _⟩, hcp⟩ := kar m.thread.toNat _ hnP
          have hlt := (List.getElem?_eq_some_iff.1 hnP).1
          repeat ((conv => whnf); first | apply qza | apply qzb | apply qzc | apply qzd | apply qze | intro (_ : Nat) | intro (_ : Option Addr) (_ : Nat))
          conv => whnf
          refine .inl ⟨_, ok_pinned _, ?_⟩
          repeat ((conv => whnf); first | apply qza | apply qzb | apply qzc | apply qzd | apply qze | intro (_ : Nat) | intro (_ : Option Addr) (_ : Nat))
          conv => whnf
          refine ⟨fun _ => ?_, fun h => nomatch h⟩
          repeat ((conv => whnf); first | apply qza | apply qzb | apply qzc | apply qzd | apply qze | intro (_ : Nat) | intro (_ : Option Addr) (_ : Nat))
          conv => whnf
          refine ⟨_, rfl, ⟨by show 0 ≤ m.thread; omega, by show m.thread < ((pinW { w with epoch := IntKind.i64.wrap (w.epoch + 1) } m).pins.length : Int); omega⟩, ?_⟩
          repeat ((conv => whnf); first | apply qza | apply qzb | apply qzc | apply qzd | apply qze | intro (_ : Nat) | intro (_ : Option Addr) (_ : Nat))
          conv => whnf
          refine ⟨_, hcp 0 _ rfl, ?_⟩
          repeat ((conv => whnf); first | apply qza | apply qzb | apply qzc | apply qzd | apply qze | intro (_ : Nat) | intro (_ : Option Addr) (_ : Nat))
          have hEq : IntKind.i64.wrap ((pinW { w with epoch := IntKind.i64.wrap (w.epoch + 1) } m).epoch + 1) = ({ w with epoch := IntKind.i64.wrap (w.epoch + 1) } : Wd).epoch + 1 := by rw [hep]; exact wrE ⟨by show 0 ≤ IntKind.i64.wrap (w.epoch + 1); omega, by show IntKind.i64.wrap (w.epoch + 1) ≤ 1000000000000; omega⟩
          conv => whnf
          refine ⟨fun _ => ?_, fun hx => absurd hEq.symm (beqF hx)⟩
          repeat ((conv => whnf); first | apply qza | apply qzb | apply qzc | apply qzd | apply qze | intro (_ : Nat) | intro (_ : Option Addr) (_ : Nat))
          conv => whnf
          intro g2 hg
          show Value.bool ((pinM { w with epoch := IntKind.i64.wrap (w.epoch + 1) } m).epoch == (pinW { w with epoch := IntKind.i64.wrap (w.epoch + 1) } m).epoch) = .bool true
          rw [hnE, hep]
          simp
        rcases hnx with hnx | ⟨hn3, _⟩
        rotate_left
        · exact absurd hn3 (beqF y3)
        repeat ((conv => whnf); first | apply qza | apply qzb | apply qzc | apply qzd | apply qze | intro (_ : Nat) | intro (_ : Option Addr) (_ : Nat))
        conv => whnf
        refine fun fr u hu => ⟨⟨j + 1, g4, pinW { w with epoch := IntKind.i64.wrap (w.epoch + 1) } m, r1, r2, r3, r4, r5, r6, r7, r8, r9, r10, pinM { w with epoch := IntKind.i64.wrap (w.epoch + 1) } m, s1, s2, s3, s4, s5, s6⟩, congrArg (fun z => [Value.int .i64 z]) (show ((j + 1 : Nat) : Int) = IntKind.i64.wrap ((j : Int) + 1) by rw [wr (x := (j : Int) + 1) (by unfold InR; omega)]; omega), ⟨hlj, GW.trans hxg (GW.trans hg3 hg4), hwa, hMa, hnx, hsn4, hb4, by rw [hep]; show IntKind.i64.wrap (w.epoch + 1) ≤ 1000000 + ((j + 1 : Nat) : Int); omega⟩, by show l.length - (j + 1) < l.length - j; omega, hu.fit (by simp [fitL, Res.eqv, concL, conc])⟩
      · repeat ((conv => whnf); first | apply qza | apply qzb | apply qzc | apply qzd | apply qze | intro (_ : Nat) | intro (_ : Option Addr) (_ : Nat))
        refine .inr ((ok_Step _ hxw hxM hsn hb).mono fun v g4 hg4 hO => ?_)
        obtain ⟨csa, msa, rfl, hwa, hMa⟩ := hO
        obtain ⟨hr, hep, hth, hac, hpl, hve, hli, hco, hlm, hnx⟩ := hI.step
        have hsn4 : SnW (pinW w m) := by unfold SnW; rw [hve]; exact hsn
        have hb4 : BgW 1000000 (pinW w m) := BgW_same hb hpl hve hli hco hlm
        obtain ⟨r1, r2, r3, r4, r5, r6, r7, r8, r9, r10, rfl⟩ := rWo_open hwa
        obtain ⟨s1, s2, s3, s4, s5, s6, rfl⟩ := rMach_open hMa
        repeat ((conv => whnf); first | apply qza | apply qzb | apply qzc | apply qzd | apply qze | intro (_ : Nat) | intro (_ : Option Addr) (_ : Nat))
        conv => whnf
        refine ⟨fun hx => absurd (beqT hx) hac, fun _ => ?_⟩
        repeat ((conv => whnf); first | apply qza | apply qzb | apply qzc | apply qzd | apply qze | intro (_ : Nat) | intro (_ : Option Addr) (_ : Nat))
        conv => whnf
        refine .inl ⟨_, (ok_wIs _ hwa hsn4).to (congrArg Value.bool hr), ?_⟩
        repeat ((conv => whnf); first | apply qza | apply qzb | apply qzc | apply qzd | apply qze | intro (_ : Nat) | intro (_ : Option Addr) (_ : Nat))
        conv => whnf
        refine ⟨fun h => (nomatch h), fun _ => ?_⟩
        repeat ((conv => whnf); first | apply qza | apply qzb | apply qzc | apply qzd | apply qze | intro (_ : Nat) | intro (_ : Option Addr) (_ : Nat))
        conv => whnf
        refine ⟨fun y3 => ?_, fun y3 => ?_⟩
        · rcases hnx with hnx | ⟨_, hnE, hnP⟩
          · have h3 := hnx.pc
            have h4 : (pinM w m).pc = 3 := beqT y3
            omega
          obtain ⟨_, _, ka, ka1, ka2, ka0, kar⟩ := rWo_pins hwa
          cases ka
          obtain ⟨ap, rfl, ep, hep', ⟨rfl, _⟩, hcp⟩ := kar m.thread.toNat _ hnP
          have hlt := (List.getElem?_eq_some_iff.1 hnP).1
          repeat ((conv => whnf); first | apply qza | apply qzb | apply qzc | apply qzd | apply qze | intro (_ : Nat) | intro (_ : Option Addr) (_ : Nat))
          conv => whnf
          refine .inl ⟨_, ok_pinned _, ?_⟩
          repeat ((conv => whnf); first | apply qza | apply qzb | apply qzc | apply qzd | apply qze | intro (_ : Nat) | intro (_ : Option Addr) (_ : Nat))
          conv => whnf
          refine ⟨fun _ => ?_, fun h => nomatch h⟩
          repeat ((conv => whnf); first | apply qza | apply qzb | apply qzc | apply qzd | apply qze | intro (_ : Nat) | intro (_ : Option Addr) (_ : Nat))
          conv => whnf
          refine ⟨_, rfl, ⟨by show 0 ≤ m.thread; omega, by show m.thread < ((pinW w m).pins.length : Int); omega⟩, ?_⟩
          repeat ((conv => whnf); first | apply qza | apply qzb | apply qzc | apply qzd | apply qze | intro (_ : Nat) | intro (_ : Option Addr) (_ : Nat))
          conv => whnf
          refine ⟨_, hcp 0 _ rfl, ?_⟩
          repeat ((conv => whnf); first | apply qza | apply qzb | apply qzc | apply qzd | apply qze | intro (_ : Nat) | intro (_ : Option Addr) (_ : Nat))
          have hEq : IntKind.i64.wrap ((pinW w m).epoch + 1) = (w : Wd).epoch + 1 := by rw [hep]; exact wrE ⟨he0, he1⟩
          conv => whnf
          refine ⟨fun _ => ?_, fun hx => absurd hEq.symm (beqF hx)⟩
          repeat ((conv => whnf); first | apply qza | apply qzb | apply qzc | apply qzd | apply qze | intro (_ : Nat) | intro (_ : Option Addr) (_ : Nat))
          conv => whnf
          intro g2 hg
          show Value.bool ((pinM w m).epoch == (pinW w m).epoch) = .bool true
          rw [hnE, hep]
          simp
        rcases hnx with hnx | ⟨hn3, _⟩
        rotate_left
        · exact absurd hn3 (beqF y3)
        repeat ((conv => whnf); first | apply qza | apply qzb | apply qzc | apply qzd | apply qze | intro (_ : Nat) | intro (_ : Option Addr) (_ : Nat))
        conv => whnf
        refine fun fr u hu => ⟨⟨j + 1, g4, pinW w m, r1, r2, r3, r4, r5, r6, r7, r8, r9, r10, pinM w m, s1, s2, s3, s4, s5, s6⟩, congrArg (fun z => [Value.int .i64 z]) (show ((j + 1 : Nat) : Int) = IntKind.i64.wrap ((j : Int) + 1) by rw [wr (x := (j : Int) + 1) (by unfold InR; omega)]; omega), ⟨hlj, GW.trans hxg hg4, hwa, hMa, hnx, hsn4, hb4, by rw [hep]; show w.epoch ≤ 1000000 + ((j + 1 : Nat) : Int); omega⟩, by show l.length - (j + 1) < l.length - j; omega, hu.fit (by simp [fitL, Res.eqv, concL, conc])⟩
    · repeat ((conv => whnf); first | apply qza | apply qzb | apply qzc | apply qzd | apply qze | intro (_ : Nat) | intro (_ : Option Addr) (_ : Nat))
      conv => whnf
      refine .inl ⟨_, ok_pinned _, ?_⟩
      repeat ((conv => whnf); first | apply qza | apply qzb | apply qzc | apply qzd | apply qze | intro (_ : Nat) | intro (_ : Option Addr) (_ : Nat))
      conv => whnf
      refine ⟨fun _ => ?_, fun h => nomatch h⟩
      repeat ((conv => whnf); first | apply qza | apply qzb | apply qzc | apply qzd | apply qze | intro (_ : Nat) | intro (_ : Option Addr) (_ : Nat))
      conv => whnf
      intro g2 hg
      have : m.pc < 3 := by omega
      simp [this])
end Go.Proofs.Ytkkhdnddplkobaa


/- What came in of this seat's types is plain data. -/
namespace Go.Proofs.Ytkkhdnddplkobaa
open Go.Proofs.Ytkkhdnddplkobaa.Sx
section
variable {H : Type} {enc : TypeId × Value → H} {W : World}
theorem op_api_Rule : Rds enc Try.prog W ty_api_Rule rRule := rd_rule (tS := ty_string) (tI := ty_int) (by kernel_rfl) (by kernel_rfl) (by kernel_rfl) (by kernel_rfl)
theorem op_api_Route : Rds enc Try.prog W ty_api_Route rRoute := rd_route (tS := ty_string) (by kernel_rfl) (by kernel_rfl) (by kernel_rfl)
theorem op_api_Cluster : Rds enc Try.prog W ty_api_Cluster rCluster := rd_cluster (tS := ty_string) (tI := ty_int) (tL := ty_sl_bool) (tB := ty_bool) (by kernel_rfl) (by kernel_rfl) (by kernel_rfl) (by kernel_rfl) (by kernel_rfl) (by kernel_rfl) (by kernel_rfl)
theorem op_api_Config : Rds enc Try.prog W ty_api_Config rConfig := by
  intro fuel cs x h
  obtain ⟨a, b, d, rfl, ⟨l0, h0⟩, ⟨l1, h1⟩, l2, h2⟩ := rd_three (t0 := ty_sl_string) (t1 := ty_sl_api_Route) (t2 := ty_sl_api_Cluster) (e0 := ty_string) (e1 := ty_api_Route) (e2 := ty_api_Cluster) (z0 := 1) (z1 := 4) (z2 := 4)
    (by kernel_rfl) (by kernel_rfl) (by kernel_rfl) (by kernel_rfl) (by kernel_rfl) (by kernel_rfl) (by kernel_rfl) (by kernel_rfl) (by omega) (by omega) (by omega) (rd_str (by kernel_rfl)) op_api_Route op_api_Cluster h
  exact ⟨⟨l0, l1, l2⟩, a, b, d, rfl, h0, h1, h2⟩
end
end Go.Proofs.Ytkkhdnddplkobaa


/- What came in of a snapshot is plain data. -/
namespace Go.Proofs.Ytkkhdnddplkobaa
open Go.Proofs.Ytkkhdnddplkobaa.Sx
section
variable {H : Type} {enc : TypeId × Value → H} {W : World}
theorem op_api_Snap : Rds enc Try.prog W ty_api_Snap rSnap := by
  intro fuel cs x h
  obtain ⟨a, b, d, rfl, ⟨l0, h0⟩, ⟨l1, h1⟩, l2, h2⟩ := rd_three (t0 := ty_sl_string) (t1 := ty_sl_api_Rule) (t2 := ty_sl_api_Cluster) (e0 := ty_string) (e1 := ty_api_Rule) (e2 := ty_api_Cluster) (z0 := 1) (z1 := 4) (z2 := 4)
    (by kernel_rfl) (by kernel_rfl) (by kernel_rfl) (by kernel_rfl) (by kernel_rfl) (by kernel_rfl) (by kernel_rfl) (by kernel_rfl) (by omega) (by omega) (by omega) (rd_str (by kernel_rfl)) op_api_Rule op_api_Cluster h
  exact ⟨⟨l0, l1, l2⟩, a, b, d, rfl, h0, h1, h2⟩
end
end Go.Proofs.Ytkkhdnddplkobaa


/- What came in of worlds and machines is plain data. -/
namespace Go.Proofs.Ytkkhdnddplkobaa
open Go.Proofs.Ytkkhdnddplkobaa.Sx
section
variable {H : Type} {enc : TypeId × Value → H} {W : World}
theorem op_api_Listen : Rds enc Try.prog W ty_api_Listen rListen := by
  intro fuel cs x h
  obtain ⟨hl, hg⟩ := fld_at (l := [(0, 1, ty_string), (1, 1, ty_bool), (2, 1, ty_int), (3, 1, ty_bool)]) (by kernel_rfl) h
  rw [show Try.prog.cellsOf ty_api_Listen = 4 by kernel_rfl] at hl
  match cs, hl with
  | [a, b, c, d], _ =>
    obtain ⟨s0, e0⟩ := (rd_str (by kernel_rfl)).fld (hg 0 _ _ _ rfl)
    obtain ⟨s1, e1⟩ := (rd_bool (by kernel_rfl)).fld (hg 1 _ _ _ rfl)
    obtain ⟨s2, e2, w2⟩ := (rd_int (by kernel_rfl)).fld (hg 2 _ _ _ rfl)
    obtain ⟨s3, e3⟩ := (rd_bool (by kernel_rfl)).fld (hg 3 _ _ _ rfl)
    cases e0; cases e1; cases e2; cases e3
    exact ⟨⟨s0, s1, s2, s3⟩, rfl, w2⟩
theorem op_api_Retired : Rds enc Try.prog W ty_api_Retired rRetired := by
  intro fuel cs x h
  obtain ⟨hl, hg⟩ := fld_at (l := [(0, 1, ty_int), (1, 1, ty_int), (2, 1, ty_bool)]) (by kernel_rfl) h
  rw [show Try.prog.cellsOf ty_api_Retired = 3 by kernel_rfl] at hl
  match cs, hl with
  | [a, b, c], _ =>
    obtain ⟨s0, e0, w0⟩ := (rd_int (by kernel_rfl)).fld (hg 0 _ _ _ rfl)
    obtain ⟨s1, e1, w1⟩ := (rd_int (by kernel_rfl)).fld (hg 1 _ _ _ rfl)
    obtain ⟨s2, e2⟩ := (rd_bool (by kernel_rfl)).fld (hg 2 _ _ _ rfl)
    cases e0; cases e1; cases e2
    exact ⟨⟨s0, s1, s2⟩, rfl, w0, w1⟩
theorem op_api_End : RdsW enc Try.prog W ty_api_End rEn := by
  intro fuel cs x h hs
  obtain ⟨hl, hg⟩ := fldW_at (l := [(0, 1, ty_uint64), (1, 1, ty_sl_int), (2, 1, ty_int)]) (by kernel_rfl) h hs
  rw [show Try.prog.cellsOf ty_api_End = 3 by kernel_rfl] at hl
  match cs, hl with
  | [a, b, c], _ =>
    obtain ⟨s0, e0, w0⟩ := (rd_u64 (by kernel_rfl)).fld (tr1 (hg 0 _ _ _ rfl))
    obtain ⟨s1, v, e1, h1, hb⟩ := (rw_slice (t := ty_sl_int) (e := ty_int) (sz := 1) (by kernel_rfl) (by kernel_rfl) (rd_int (by kernel_rfl)).w).fld (hg 1 _ _ _ rfl)
    obtain ⟨s2, e2, w2⟩ := (rd_int (by kernel_rfl)).fld (tr1 (hg 2 _ _ _ rfl))
    cases e0; cases e1; cases e2
    refine ⟨⟨s0, s1, s2⟩, ⟨_, rfl, w0, w2, h1⟩, ?_⟩
    rw [show Try.prog.bytesOf ty_int = 8 by kernel_rfl] at hb
    unfold reachBytes at hb
    show s1.length ≤ 17592186044416
    omega
theorem op_api_Group : RdsW enc Try.prog W ty_api_Group rGr := by
  intro fuel cs x h hs
  obtain ⟨hl, hg⟩ := fldW_at (l := [(0, 1, ty_uint64), (1, 1, ty_sl_api_End)]) (by kernel_rfl) h hs
  rw [show Try.prog.cellsOf ty_api_Group = 2 by kernel_rfl] at hl
  match cs, hl with
  | [a, b], _ =>
    obtain ⟨s0, e0, w0⟩ := (rd_u64 (by kernel_rfl)).fld (tr1 (hg 0 _ _ _ rfl))
    obtain ⟨s1, v, e1, h1⟩ := (rw_sl (t := ty_sl_api_End) (e := ty_api_End) (sz := 3) (by kernel_rfl) (by kernel_rfl) op_api_End).fld (hg 1 _ _ _ rfl)
    cases e0; cases e1
    exact ⟨⟨s0, s1⟩, _, rfl, w0, h1⟩
theorem op_api_Version : RdsW enc Try.prog W ty_api_Version rVe := by
  intro fuel cs x h hs
  obtain ⟨hl, hg⟩ := fldW_at (l := [(0, 3, ty_api_Snap), (3, 1, ty_sl_api_Group), (4, 1, ty_bool)]) (by kernel_rfl) h hs
  rw [show Try.prog.cellsOf ty_api_Version = 5 by kernel_rfl] at hl
  match cs, hl with
  | [a, b, c, d, e], _ =>
    obtain ⟨s0, e0⟩ := (op_api_Snap (enc := enc)).fld (tr1 (hg 0 _ _ _ rfl))
    obtain ⟨s1, v, e1, h1⟩ := (rw_sl (t := ty_sl_api_Group) (e := ty_api_Group) (sz := 2) (by kernel_rfl) (by kernel_rfl) op_api_Group).fld (hg 1 _ _ _ rfl)
    obtain ⟨s2, e2⟩ := (rd_bool (by kernel_rfl)).fld (tr1 (hg 2 _ _ _ rfl))
    cases e1; cases e2
    exact ⟨⟨s0, s1, s2⟩, _, _, _, _, rfl, e0, h1⟩
theorem op_row : Rds enc Try.prog W ty_sl_uint64 rRow := by
  intro fuel cs x h
  obtain ⟨l, v, rfl, h1⟩ := (rd_slice (t := ty_sl_uint64) (e := ty_uint64) (sz := 1) (by kernel_rfl) (by kernel_rfl) (by omega) (rd_u64 (by kernel_rfl))) fuel cs x h
  exact ⟨l, _, rfl, h1⟩
theorem op_api_World : RdsW enc Try.prog W ty_api_World rWo := by
  intro fuel cs x h hs
  obtain ⟨hl, hg⟩ := fldW_at (l := [(0, 1, ty_int), (1, 1, ty_int), (2, 1, ty_int), (3, 1, ty_sl_int), (4, 1, ty_sl_api_Version), (5, 1, ty_sl_api_Listen), (6, 1, ty_slsl_uint64), (7, 1, ty_sl_api_Retired)]) (by kernel_rfl) h hs
  rw [show Try.prog.cellsOf ty_api_World = 8 by kernel_rfl] at hl
  match cs, hl with
  | [c0, c1, c2, c3, c4, c5, c6, c7], _ =>
    obtain ⟨s0, e0, w0⟩ := (rd_int (by kernel_rfl)).fld (tr1 (hg 0 _ _ _ rfl))
    obtain ⟨s1, e1, w1⟩ := (rd_int (by kernel_rfl)).fld (tr1 (hg 1 _ _ _ rfl))
    obtain ⟨s2, e2, w2⟩ := (rd_int (by kernel_rfl)).fld (tr1 (hg 2 _ _ _ rfl))
    obtain ⟨s3, v3, e3, h3⟩ := (rd_slice (t := ty_sl_int) (e := ty_int) (sz := 1) (by kernel_rfl) (by kernel_rfl) (by omega) (rd_int (by kernel_rfl))).fld (tr1 (hg 3 _ _ _ rfl))
    obtain ⟨s4, v4, e4, h4⟩ := (rw_sl (t := ty_sl_api_Version) (e := ty_api_Version) (sz := 5) (by kernel_rfl) (by kernel_rfl) op_api_Version).fld (hg 4 _ _ _ rfl)
    obtain ⟨s5, v5, e5, h5⟩ := (rd_slice (t := ty_sl_api_Listen) (e := ty_api_Listen) (sz := 4) (by kernel_rfl) (by kernel_rfl) (by omega) op_api_Listen).fld (tr1 (hg 5 _ _ _ rfl))
    obtain ⟨s6, v6, e6, h6⟩ := (rd_slice (t := ty_slsl_uint64) (e := ty_sl_uint64) (sz := 1) (by kernel_rfl) (by kernel_rfl) (by omega) op_row).fld (tr1 (hg 6 _ _ _ rfl))
    obtain ⟨s7, v7, e7, h7⟩ := (rd_slice (t := ty_sl_api_Retired) (e := ty_api_Retired) (sz := 3) (by kernel_rfl) (by kernel_rfl) (by omega) op_api_Retired).fld (tr1 (hg 7 _ _ _ rfl))
    cases e0; cases e1; cases e2; cases e3; cases e4; cases e5; cases e6; cases e7
    exact ⟨⟨s0, s1, s2, s3, s4, s5, s6, s7⟩, _, _, _, _, _, rfl, ⟨w0, w1, w2⟩, h3, h4, h5, h6, h7⟩
theorem op_c6 : Rds enc Try.prog W ty_a6_uint64 fun _ cs (c : C6) => cs = c.cs ∧ c.ok := rd_c6 (e := ty_uint64) (by kernel_rfl) (by kernel_rfl) (by kernel_rfl) (by kernel_rfl)
theorem op_api_Answer : Rds enc Try.prog W ty_api_Answer rAns := by
  intro fuel cs x h
  obtain ⟨hl, hg⟩ := fld_at (l := [(0, 1, ty_int), (1, 1, ty_int), (2, 1, ty_int), (3, 1, ty_int), (4, 1, ty_int), (5, 1, ty_int), (6, 1, ty_int), (7, 6, ty_a6_uint64)]) (by kernel_rfl) h
  rw [show Try.prog.cellsOf ty_api_Answer = 13 by kernel_rfl] at hl
  match cs, hl with
  | [c0, c1, c2, c3, c4, c5, c6, d0, d1, d2, d3, d4, d5], _ =>
    obtain ⟨s0, e0, w0⟩ := (rd_int (by kernel_rfl)).fld (hg 0 _ _ _ rfl)
    obtain ⟨s1, e1, w1⟩ := (rd_int (by kernel_rfl)).fld (hg 1 _ _ _ rfl)
    obtain ⟨s2, e2, w2⟩ := (rd_int (by kernel_rfl)).fld (hg 2 _ _ _ rfl)
    obtain ⟨s3, e3, w3⟩ := (rd_int (by kernel_rfl)).fld (hg 3 _ _ _ rfl)
    obtain ⟨s4, e4, w4⟩ := (rd_int (by kernel_rfl)).fld (hg 4 _ _ _ rfl)
    obtain ⟨s5, e5, w5⟩ := (rd_int (by kernel_rfl)).fld (hg 5 _ _ _ rfl)
    obtain ⟨s6, e6, w6⟩ := (rd_int (by kernel_rfl)).fld (hg 6 _ _ _ rfl)
    obtain ⟨s7, e7, w7⟩ := (op_c6 (enc := enc)).fld (hg 7 _ _ _ rfl)
    cases e0; cases e1; cases e2; cases e3; cases e4; cases e5; cases e6; cases e7
    exact ⟨⟨s0, s1, s2, s3, s4, s5, s6, s7⟩, rfl, ⟨w0, w1, w2, w3, w4, w5, w6, w7⟩⟩
theorem op_api_Op : Rds enc Try.prog W ty_api_Op fun g cs (o : OpD) => ∃ a b d, cs = [.int .i64 o.kind, .string o.listen, .string o.host, .string o.path, .int .i64 o.d0, .int .i64 o.d1, .int .i64 o.n, a, b, d] ∧ (InR o.kind ∧ InR o.d0 ∧ InR o.d1 ∧ InR o.n) ∧ rConfig g [a, b, d] o.config := by
  intro fuel cs x h
  obtain ⟨hl, hg⟩ := fld_at (l := [(0, 1, ty_int), (1, 1, ty_string), (2, 1, ty_string), (3, 1, ty_string), (4, 1, ty_int), (5, 1, ty_int), (6, 1, ty_int), (7, 3, ty_api_Config)]) (by kernel_rfl) h
  rw [show Try.prog.cellsOf ty_api_Op = 10 by kernel_rfl] at hl
  match cs, hl with
  | [c0, c1, c2, c3, c4, c5, c6, d0, d1, d2], _ =>
    obtain ⟨s0, e0, w0⟩ := (rd_int (by kernel_rfl)).fld (hg 0 _ _ _ rfl)
    obtain ⟨s1, e1⟩ := (rd_str (by kernel_rfl)).fld (hg 1 _ _ _ rfl)
    obtain ⟨s2, e2⟩ := (rd_str (by kernel_rfl)).fld (hg 2 _ _ _ rfl)
    obtain ⟨s3, e3⟩ := (rd_str (by kernel_rfl)).fld (hg 3 _ _ _ rfl)
    obtain ⟨s4, e4, w4⟩ := (rd_int (by kernel_rfl)).fld (hg 4 _ _ _ rfl)
    obtain ⟨s5, e5, w5⟩ := (rd_int (by kernel_rfl)).fld (hg 5 _ _ _ rfl)
    obtain ⟨s6, e6, w6⟩ := (rd_int (by kernel_rfl)).fld (hg 6 _ _ _ rfl)
    obtain ⟨s7, e7⟩ := (op_api_Config (enc := enc)).fld (hg 7 _ _ _ rfl)
    cases e0; cases e1; cases e2; cases e3; cases e4; cases e5; cases e6
    exact ⟨⟨s0, s1, s2, s3, s4, s5, s6, s7⟩, _, _, _, rfl, ⟨w0, w4, w5, w6⟩, e7⟩
theorem op_api_Machine : Rds enc Try.prog W ty_api_Machine rMach := by
  intro fuel cs x h
  obtain ⟨hl, hg⟩ := fld_at (l := [(0, 10, ty_api_Op), (10, 1, ty_int), (11, 1, ty_int), (12, 1, ty_int), (13, 1, ty_int), (14, 1, ty_int), (15, 1, ty_int), (16, 1, ty_int), (17, 1, ty_int), (18, 1, ty_int), (19, 1, ty_uint64), (20, 1, ty_int), (21, 1, ty_int), (22, 1, ty_int), (23, 1, ty_int), (24, 1, ty_bool), (25, 13, ty_api_Answer), (38, 6, ty_a6_uint64)]) (by kernel_rfl) h
  rw [show Try.prog.cellsOf ty_api_Machine = 44 by kernel_rfl] at hl
  match cs, hl with
  | p0 :: p1 :: p2 :: p3 :: p4 :: p5 :: p6 :: p7 :: p8 :: p9 :: c10 :: c11 :: c12 :: c13 :: c14 :: c15 :: c16 :: c17 :: c18 :: c19 :: c20 :: c21 :: c22 :: c23 :: c24 :: a0 :: a1 :: a2 :: a3 :: a4 :: a5 :: a6 :: a7 :: a8 :: a9 :: a10 :: a11 :: a12 :: n0 :: n1 :: n2 :: n3 :: n4 :: n5 :: [], _ =>
    obtain ⟨s0, xa, xb, xd, e0, w0, hc⟩ := (op_api_Op (enc := enc)).fld (hg 0 _ _ _ rfl)
    obtain ⟨s1, e1, w1⟩ := (rd_int (by kernel_rfl)).fld (hg 1 _ _ _ rfl)
    obtain ⟨s2, e2, w2⟩ := (rd_int (by kernel_rfl)).fld (hg 2 _ _ _ rfl)
    obtain ⟨s3, e3, w3⟩ := (rd_int (by kernel_rfl)).fld (hg 3 _ _ _ rfl)
    obtain ⟨s4, e4, w4⟩ := (rd_int (by kernel_rfl)).fld (hg 4 _ _ _ rfl)
    obtain ⟨s5, e5, w5⟩ := (rd_int (by kernel_rfl)).fld (hg 5 _ _ _ rfl)
    obtain ⟨s6, e6, w6⟩ := (rd_int (by kernel_rfl)).fld (hg 6 _ _ _ rfl)
    obtain ⟨s7, e7, w7⟩ := (rd_int (by kernel_rfl)).fld (hg 7 _ _ _ rfl)
    obtain ⟨s8, e8, w8⟩ := (rd_int (by kernel_rfl)).fld (hg 8 _ _ _ rfl)
    obtain ⟨s9, e9, w9⟩ := (rd_int (by kernel_rfl)).fld (hg 9 _ _ _ rfl)
    obtain ⟨s10, e10, w10⟩ := (rd_u64 (by kernel_rfl)).fld (hg 10 _ _ _ rfl)
    obtain ⟨s11, e11, w11⟩ := (rd_int (by kernel_rfl)).fld (hg 11 _ _ _ rfl)
    obtain ⟨s12, e12, w12⟩ := (rd_int (by kernel_rfl)).fld (hg 12 _ _ _ rfl)
    obtain ⟨s13, e13, w13⟩ := (rd_int (by kernel_rfl)).fld (hg 13 _ _ _ rfl)
    obtain ⟨s14, e14, w14⟩ := (rd_int (by kernel_rfl)).fld (hg 14 _ _ _ rfl)
    obtain ⟨s15, e15⟩ := (rd_bool (by kernel_rfl)).fld (hg 15 _ _ _ rfl)
    obtain ⟨s16, e16, w16⟩ := (op_api_Answer (enc := enc)).fld (hg 16 _ _ _ rfl)
    obtain ⟨s17, e17, w17⟩ := (op_c6 (enc := enc)).fld (hg 17 _ _ _ rfl)
    cases e0; cases e1; cases e2; cases e3; cases e4; cases e5; cases e6; cases e7; cases e8; cases e9; cases e10; cases e11; cases e12; cases e13; cases e14; cases e15; cases e16; cases e17
    exact ⟨⟨s0, s1, s2, s3, s4, s5, s6, s7, s8, s9, s10, s11, s12, s13, s14, s15, s16, s17⟩, _, _, _, rfl, ⟨w1, w2, w3, w4, w5, w6, w7, w8, w9, w10, w11, w12, w13, w14, w16, w17⟩, w0, hc⟩
end
end Go.Proofs.Ytkkhdnddplkobaa


/- What came in of flags is plain data. -/
namespace Go.Proofs.Ytkkhdnddplkobaa
open Go.Proofs.Ytkkhdnddplkobaa.Sx
section
variable {H : Type} {enc : TypeId × Value → H} {W : World}
theorem op___bool : Rds enc Try.prog W ty_sl_bool (rSlc 1 rBool) := rd_slice (e := ty_bool) (by kernel_rfl) (by kernel_rfl) (by omega) (rd_bool (by kernel_rfl))
end
end Go.Proofs.Ytkkhdnddplkobaa

