/- A symbolic evaluator over the model's code, part 11: it is sound. -/
import Derived.Test.YtedjbhpocedagaaSx10
import Derived.Sort.LoopGhostIn
namespace Go.Proofs.Ytedjbhpocedagaa.Sx
open Go.RowKit

theorem R0.out {fr0 : Fr} {nt : Nat} {ds ds' : List Nat} {t t' : Array Value} {sl : Sl} {hs : Hs} {a : Act} {w : World} (h : R0 fr0 nt ds t sl hs a w) (k : ∀ n ∈ ds, n ∈ ds') (ht : ∀ n, n ∉ ds' → t[n]? = t'[n]?) : R0 fr0 nt ds' t' sl hs a w := by
  obtain ⟨fr, D, h1, h2, h3, h4⟩ := h
  exact ⟨fr, D, h1, h2, ⟨h3.size, h3.defers, h3.slots, fun n hn => (h3.off n fun h => hn (k n h)).trans (ht n hn)⟩, h4⟩
theorem R0.up {fr0 fr1 : Fr} {nt : Nat} {ds : List Nat} {t : Array Value} {sl : Sl} {hs : Hs} {a : Act} {w : World} (h : R0 fr1 nt ds t sl hs a w) (k : fr0.le fr1) : R0 fr0 nt ds t sl hs a w := by
  obtain ⟨fr, D, h1, h2, h3, h4⟩ := h
  obtain ⟨bs, e1, e2, e3⟩ := h4
  exact ⟨fr, D, Fr.trans k h1, h2, h3, bs, e1, e2, fun b hb => ⟨fun hp => (e3 b hb).1 (k.2 b hp).1, (e3 b hb).2⟩⟩

theorem condS_spec {nt : Nat} {D : Pin} {sl : Sl} {a : Act} {c : Operand} {A B : Run} {hs' : Hs} {K : Kont} (h : condS (trOpd c) A B sl hs' K) (hs : Sim nt D sl a) :
    (a.eval c = .bool true ∧ ∃ sl', A sl' hs' K ∧ Sim nt D sl' a) ∨ (a.eval c = .bool false ∧ ∃ sl', B sl' hs' K ∧ Sim nt D sl' a) := by
  cases c with
  | tmp n =>
    simp only [trOpd, condS] at h
    split at h
    · rename_i he; exact .inl ⟨eval_tmp (hs.slots n _ he), sl, h, hs⟩
    · rename_i he; exact .inr ⟨eval_tmp (hs.slots n _ he), sl, h, hs⟩
    · rename_i x he
      have := eval_tmp (hs.slots n _ he)
      cases x with
      | true => exact .inl ⟨this, _, h.1 rfl, hs.same he rfl⟩
      | false => exact .inr ⟨this, _, h.2 rfl, hs.same he rfl⟩
    · exact h.elim
  | const v =>
    simp only [trOpd] at h
    split at h
    · rename_i x
      cases x with
      | true => exact .inl ⟨rfl, sl, h, hs⟩
      | false => exact .inr ⟨rfl, sl, h, hs⟩
    · exact h.elim
  | global g => exact h.elim
  | func f => exact h.elim

theorem concL_get {l l' : List SV} (h : concL l = concL l') {i : Nat} {x : SV} (hx : l[i]? = some x) : ∃ y, l'[i]? = some y ∧ conc y = conc x := by
  rw [concL_eq, concL_eq] at h
  have : (l'.map conc)[i]? = some (conc x) := by rw [← h]; simp [hx]
  simpa using this

theorem putArgs_spec : ∀ {ps : List Nat} {args : List SV} {sl : Sl} {k : Sl → Prop} {nt : Nat} {D : Pin} {t : Array Value} {ds : List Deferred}, putArgs ps args sl k → (∀ n ∈ ps, n < nt) → (∀ n ∈ ps, n ∈ D.ds) → Sim nt D sl ⟨t, ds⟩ →
    args.length = ps.length ∧ ∃ sl', k sl' ∧ Sim nt D sl' ⟨(ps.zip (concL args)).foldl (fun tmps (p, v) => tmps.setIfInBounds p v) t, ds⟩
  | [], [], sl, k, nt, D, t, ds, h, hn, hd, hs => ⟨rfl, sl, h, hs⟩
  | n :: ns, x :: xs, sl, k, nt, D, t, ds, h, hn, hd, hs => by
    simp only [putArgs] at h
    obtain ⟨h1, sl', h2, h3⟩ := putArgs_spec (t := t.setIfInBounds n (conc x)) h (fun m hm => hn m (by simp [hm])) (fun m hm => hd m (by simp [hm])) (hs.put (hn n (by simp)) (hd n (by simp)) x)
    exact ⟨by simp [h1], sl', h2, h3⟩
  | [], _ :: _, sl, k, nt, D, t, ds, h, hn, hd, hs => h.elim
  | _ :: _, [], sl, k, nt, D, t, ds, h, hn, hd, hs => h.elim

def Sound (P : Program) (H : Handler) (nt : Nat) (c : Code) : Prop := ∀ (fr0 : Fr) (r : Option Nat) (rd : Bool) (Y : Yield) (ds : List Nat) (t : Array Value) (sc : SCode) (s s' : List (List Nat) × List (List Nat)) (sl : Sl) (hs : Hs) (K : Ex → Sl → Hs → Prop) (a : Act) (w : World),
  trC P nt c s = some (sc, s') → (∀ d ∈ dsts sc, d ∈ ds) → (rd = false → r = none) → SndY P fr0 Y → R0 fr0 nt ds t sl hs a w → S P H sc rd Y sl hs K → c.wpIn (FW r) 0 P (Post fr0 nt ds t K) a w

section
variable {P : Program} {H : Handler} {nt : Nat}

theorem sound_region (hm : P.follows .mixedOrders = true) (hH : ∀ fr, SndH P fr H) (id : Nat) (ops : Array Oper) (d : Bool) : Sound P H nt (.region id ops d) := by
  intro fr0 r rd Y ds t sc s s' sl hs K a w ht hds hr hY hR h
  obtain ⟨fr, D, hle, hw, hsl, hmk⟩ := hR
  cases d with
  | false =>
    simp only [trC] at ht
    split at ht
    · rename_i l hl
      simp at ht; obtain ⟨rfl, rfl⟩ := ht
      refine wpIn_region (regS_sound (fr := fr) (D := ⟨D, ds, t⟩) (hH fr) (hY.up hle) (K := fun sl hs => K .normal sl hs) ?_ _ l sl hs a w hl hds hsl hw h)
      exact fun sl hs a w hk hsim hw => ⟨.normal, sl, hs, rfl, hk, fr, D, hle, hw, hsim, hmk⟩
    · cases ht
  | true =>
    obtain ⟨os, lm⟩ := s
    cases os with
    | nil => simp [trC] at ht
    | cons τ os =>
      simp only [trC] at ht
      split at ht
      · rename_i l hl
        split at ht
        · rename_i hc
          simp at ht; obtain ⟨rfl, rfl⟩ := ht
          simp only [Bool.and_eq_true, beq_iff_eq] at hc
          refine wpIn_mono (regD_sound (r := r) (fr := fr) (D := ⟨D, ds, t⟩) (okH_snd P) (K := fun sl hs => K .normal sl hs) (Q := fun a w => Post fr0 nt ds t K .normal a w) hm hc.2 ?_ hc.1.1 hc.1.2 hl hds hsl hw h id) ?_
          · exact fun sl hs a w hk hsim hw => ⟨.normal, sl, hs, rfl, hk, fr, D, hle, hw, hsim, hmk⟩
          · intro e a w hq
            cases e <;> first | exact hq | exact hq.elim
        · cases ht
      · cases ht

theorem sound_seq {x y : Code} (hx : Sound P H nt x) (hy : Sound P H nt y) : Sound P H nt (.seq x y) := by
  intro fr0 r rd Y ds t sc s s' sl hs K a w ht hds hr hY hR h
  simp only [trC] at ht
  split at ht
  · rename_i x' s1 hx'
    split at ht
    · rename_i y' s2 hy'
      simp at ht; obtain ⟨rfl, rfl⟩ := ht
      refine wpIn_seq (wpIn_mono (hx fr0 r rd Y ds t _ _ _ sl hs _ a w hx' (fun d hd => hds d (by simp [dsts, hd])) hr hY hR h) ?_)
      rintro e a1 w1 ⟨ex, sl1, hs1, rfl, hk, hR1⟩
      cases ex with
      | normal => exact hy fr0 r rd Y ds t _ _ _ sl1 hs1 K a1 w1 hy' (fun d hd => hds d (by simp [dsts, hd])) hr hY hR1 hk
      | exit n => exact ⟨.exit n, sl1, hs1, rfl, hk, hR1⟩
      | ret => exact ⟨.ret, sl1, hs1, rfl, hk, hR1⟩
      | goto n => exact ⟨.goto n, sl1, hs1, rfl, hk, hR1⟩
    · cases ht
  · cases ht

theorem sound_cond {c : Operand} {x y : Code} (hx : Sound P H nt x) (hy : Sound P H nt y) : Sound P H nt (.cond c x y) := by
  intro fr0 r rd Y ds t sc s s' sl hs K a w ht hds hr hY hR h
  simp only [trC] at ht
  split at ht
  · rename_i x' s1 hx'
    split at ht
    · rename_i y' s2 hy'
      simp at ht; obtain ⟨rfl, rfl⟩ := ht
      obtain ⟨fr, D, hle, hw, hsl, hmk⟩ := hR
      rcases condS_spec (A := S P H x' rd Y) (B := S P H y' rd Y) h hsl with ⟨hc, sl1, h1, hsl1⟩ | ⟨hc, sl1, h1, hsl1⟩
      · exact wpIn_cond_true hc (hx fr0 r rd Y ds t _ _ _ sl1 hs K a w hx' (fun d hd => hds d (by simp [dsts, hd])) hr hY ⟨fr, D, hle, hw, hsl1, hmk⟩ h1)
      · exact wpIn_cond_false hc (hy fr0 r rd Y ds t _ _ _ sl1 hs K a w hy' (fun d hd => hds d (by simp [dsts, hd])) hr hY ⟨fr, D, hle, hw, hsl1, hmk⟩ h1)
    · cases ht
  · cases ht

theorem sound_block {id : Nat} {x : Code} (hx : Sound P H nt x) : Sound P H nt (.block id x) := by
  intro fr0 r rd Y ds t sc s s' sl hs K a w ht hds hr hY hR h
  simp only [trC] at ht
  split at ht
  · rename_i x' s1 hx'
    simp at ht; obtain ⟨rfl, rfl⟩ := ht
    refine wpIn_block (wpIn_mono (hx fr0 r rd Y ds t _ _ _ sl hs _ a w hx' (fun d hd => hds d (by simpa [dsts] using hd)) hr hY hR h) ?_)
    rintro e a1 w1 ⟨ex, sl1, hs1, rfl, hk, hR1⟩
    cases ex with
    | normal => exact ⟨.normal, sl1, hs1, rfl, hk, hR1⟩
    | exit n =>
      simp only [blockE] at hk
      simp only [Ex.to, Exit.inBlock]
      cases hb : Nat.beq n id with
      | true => rw [hb] at hk; rw [if_pos (Nat.eq_of_beq_eq_true hb)]; exact ⟨.normal, sl1, hs1, rfl, hk, hR1⟩
      | false => rw [hb] at hk; rw [if_neg (Nat.ne_of_beq_eq_false hb)]; exact ⟨.exit n, sl1, hs1, rfl, hk, hR1⟩
    | ret => exact ⟨.ret, sl1, hs1, rfl, hk, hR1⟩
    | goto n => exact ⟨.goto n, sl1, hs1, rfl, hk, hR1⟩
  · cases ht

theorem sound_loop {x : Code} (hx : Sound P H nt x) : Sound P H nt (.loop x) := by
  intro fr0 r rd Y ds t sc s s' sl hs K a w ht hds hr hY hR h
  obtain ⟨os, lm⟩ := s
  cases lm with
  | nil => simp [trC] at ht
  | cons ms lm =>
  simp only [trC] at ht
  split at ht
  · rename_i x' s1 hx'
    split at ht
    · rename_i hms
      simp at ht; obtain ⟨rfl, rfl⟩ := ht
      have hms' : ∀ n ∈ ms, n ∈ dsts x' := by simpa using hms
      obtain ⟨fr, D, hle, hw, hsl, hmk⟩ := hR
      obtain ⟨vs0, h1, hlen, hvs⟩ := getL_spec (k := fun vs0 => filtS (dsts x').eraseDups sl fun sl0 => _) h
      obtain ⟨sl0, ⟨α, V, W, J, μ, hstart, hround⟩, hsl0⟩ := filtS_spec h1
      obtain ⟨x0, himp, hI, hw0⟩ := hstart fr w hw
      have hoff : ∀ n x, getS sl0 n = some x → n ∉ dsts x' ∧ a.tmps[n]? = some (conc x) := fun n x hx => by
        obtain ⟨h1, h2⟩ := hsl0 n x hx
        exact ⟨by simpa using h1, hsl.slots n x h2⟩
      have hvl : (V x0).length = ms.length := by
        have := congrArg List.length himp
        rw [concL_eq, concL_eq, List.length_map, List.length_map] at this
        omega
      refine wpIn_loop_ghost (fun m a' w' => ∃ x, (V x).length = ms.length ∧ J x ∧ μ x = m ∧ R0 fr0 nt (dsts x') a.tmps (zipS ms (V x) sl0) (W x) a' w') (μ x0) ⟨x0, hvl, hI, rfl, fr, D, hle, hw0, ⟨hsl.size, hsl.defers, fun n x hn => ?_, fun n _ => rfl⟩, hmk⟩ ?_
      · rcases zipS_spec ms (V x0) sl0 n x hvl hn with ⟨i, h1, h2⟩ | ⟨_, h2⟩
        · obtain ⟨y, hy, hg⟩ := hvs i n h1
          obtain ⟨z, hz, he⟩ := concL_get himp h2
          rw [hy] at hz; cases hz
          rw [← he]; exact hsl.slots n y hg
        · exact (hoff n x h2).2
      · rintro m a1 w1 ⟨x1, hvl, hI, rfl, hR1⟩
        refine wpIn_mono (hx fr0 r rd Y (dsts x') a.tmps _ _ _ _ (W x1) _ a1 w1 hx' (fun d hd => hd) hr hY hR1 (hround x1 hI)) ?_
        have fin : ∀ {e a2 w2} (ex : Ex) (sl2 : Sl) (hs2 : Hs), ex.to = e → R0 fr0 nt (dsts x') a.tmps sl2 hs2 a2 w2 → K ex sl2 hs2 → Post fr0 nt ds t K e a2 w2 := fun ex sl2 hs2 he hR2 hk =>
          ⟨ex, sl2, hs2, he, hk, hR2.out (fun n hn => hds n (by simpa [dsts] using hn)) fun n hn => hsl.off n hn⟩
        rintro e a2 w2 ⟨ex, sl2, hs2, rfl, hk, hR2⟩
        cases ex with
        | normal =>
          obtain ⟨vs', hnext, hlen2, hvs2⟩ := getL_spec (k := fun vs' => ∀ fr w, HSim fr hs2 w → ∃ y, concL (V y) = concL vs' ∧ J y ∧ μ y < μ x1 ∧ HSim fr (W y) w) hk
          obtain ⟨fr2, D2, hle2, hw2, hsl2, hmk2⟩ := hR2
          obtain ⟨y1, himp2, hI2, hlt, hw3⟩ := hnext fr2 w2 hw2
          have hvl2 : (V y1).length = ms.length := by
            have := congrArg List.length himp2
            rw [concL_eq, concL_eq, List.length_map, List.length_map] at this
            omega
          refine ⟨μ y1, hlt, y1, hvl2, hI2, rfl, fr2, D2, hle2, hw3, ⟨hsl2.size, hsl2.defers, fun n x hn => ?_, hsl2.off⟩, hmk2⟩
          rcases zipS_spec ms (V y1) sl0 n x hvl2 hn with ⟨i, h1, h2⟩ | ⟨_, h2⟩
          · obtain ⟨y, hy, hg⟩ := hvs2 i n h1
            obtain ⟨z, hz, he⟩ := concL_get himp2 h2
            rw [hy] at hz; cases hz
            rw [← he]; exact hsl2.slots n y hg
          · obtain ⟨h3, h4⟩ := hoff n x h2
            rw [hsl2.off n h3]; exact h4
        | exit n => exact fin (.exit n) sl2 hs2 rfl hR2 hk
        | ret => exact fin .ret sl2 hs2 rfl hR2 hk
        | goto n => exact fin (.goto n) sl2 hs2 rfl hR2 hk
    · cases ht
  · cases ht
end
end Go.Proofs.Ytedjbhpocedagaa.Sx
