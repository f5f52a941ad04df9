/- A symbolic evaluator over the model's code, part 10: code. -/
import Derived.Test.YtedjbhpocedagaaSx9
namespace Go.Proofs.Ytedjbhpocedagaa.Sx
open Go.RowKit

inductive SCode where
  | skip
  | reg (ops : List SOper)
  | regD (ops : List SOper)
  | seq (a b : SCode)
  | cond (c : Opd) (a b : SCode)
  | block (id : Nat) (b : SCode)
  | loop (ms scr : List Nat) (b : SCode)
  | rfun (g : Opd) (ps : List Nat) (asg body : SCode)
  | exit (id : Nat)
  | ret
  deriving Inhabited

def dsts : SCode → List Nat
  | .reg ops => regDsts ops
  | .regD ops => regDsts ops
  | .seq a b => dsts a ++ dsts b
  | .cond _ a b => dsts a ++ dsts b
  | .block _ b => dsts b
  | .loop _ _ b => dsts b
  | _ => []

/-! ### The evaluator -/
abbrev Kont := Ex → Sl → Hs → Prop
abbrev Run := Sl → Hs → Kont → Prop
def condS (c : Opd) (A B : Run) (sl : Sl) (hs : Hs) (K : Kont) : Prop := match c with
  | .t n => match getS sl n with
    | some (.b true) => A sl hs K
    | some (.b false) => B sl hs K
    | some (.v (.bool x)) => (x = true → A ((n, .b true) :: sl) hs K) ∧ (x = false → B ((n, .b false) :: sl) hs K)
    | _ => False
  | .b true => A sl hs K
  | .b false => B sl hs K
  | .c _ => False
def seqE (B : Run) (K : Kont) : Kont := fun e sl hs => match e with
  | .normal => B sl hs K
  | .exit n => K (.exit n) sl hs
  | .ret => K .ret sl hs
  | .goto n => K (.goto n) sl hs
def blockE (id : Nat) (K : Kont) : Kont := fun e sl hs => match e with
  | .normal => K .normal sl hs
  | .exit n => match Nat.beq n id with
    | true => K .normal sl hs
    | false => K (.exit n) sl hs
  | .ret => K .ret sl hs
  | .goto n => K (.goto n) sl hs

def memN (n : Nat) : List Nat → Bool
  | [] => false
  | m :: r => match Nat.beq m n with
    | true => true
    | false => memN n r
def getL : List Nat → Sl → (List SV → Prop) → Prop
  | [], _, k => k []
  | n :: r, sl, k => match getS sl n with
    | some x => getL r sl fun l => k (x :: l)
    | none => False
def filtS (ds : List Nat) : Sl → (Sl → Prop) → Prop
  | [], k => k []
  | (n, x) :: r, k => match memN n ds with
    | true => filtS ds r k
    | false => filtS ds r fun l => k ((n, x) :: l)
def zipS (ms : List Nat) (vs : List SV) (sl : Sl) : Sl := zip2 ms vs sl
where
  zip2 : List Nat → List SV → Sl → Sl
  | n :: ns, x :: xs, sl => (n, x) :: zip2 ns xs sl
  | _, _, sl => sl

/-- What is known is told otherwise, or less of it. -/
def Imp (vs : List SV) (hs : Hs) (vs' : List SV) (hs' : Hs) : Prop := concL vs' = concL vs ∧ ∀ fr w, HSim fr hs w → HSim fr hs' w
theorem Imp.refl (vs : List SV) (hs : Hs) : Imp vs hs vs hs := ⟨rfl, fun _ _ h => h⟩

theorem Imp.eqv {vs vs' : List SV} (hs : Hs) (h : concL vs' = concL vs) : Imp vs hs vs' hs := ⟨h, fun _ _ h => h⟩

def loopE {α : Type} (ms : List Nat) (V : α → List SV) (W : α → Hs) (J : α → Prop) (μ : α → Nat) (x : α) (K : Kont) : Kont := fun e sl hs => match e with
  | .normal => getL ms sl fun vs' => ∀ fr w, HSim fr hs w → ∃ y, concL (V y) = concL vs' ∧ J y ∧ μ y < μ x ∧ HSim fr (W y) w
  | .exit n => K (.exit n) sl hs
  | .ret => K .ret sl hs
  | .goto n => K (.goto n) sl hs
def loopS (ms scr : List Nat) (body : Run) (sl : Sl) (hs : Hs) (K : Kont) : Prop :=
  getL ms sl fun vs0 => filtS scr sl fun sl0 => ∃ (α : Type) (V : α → List SV) (W : α → Hs) (J : α → Prop) (μ : α → Nat),
    (∀ fr w, HSim fr hs w → ∃ x, concL (V x) = concL vs0 ∧ J x ∧ HSim fr (W x) w) ∧ ∀ x, J x → body (zipS ms (V x) sl0) (W x) (loopE ms V W J μ x K)

def setLp (id l0 : Nat) (busy : Bool) (new : LpS) : List Res → (List Res → Prop) → Prop
  | [], _ => False
  | .lp k l r j :: rs, K => match Nat.beq k id with
    | true => l = l0 ∧ match busy with
      | true => match j with
        | .busy => K (.lp k l r new :: rs)
        | _ => False
      | false => match j with
        | .ready => K (.lp k l r new :: rs)
        | _ => False
    | false => setLp id l0 busy new rs fun rs' => K (.lp k l r j :: rs')
  | x :: rs, K => setLp id l0 busy new rs fun rs' => K (x :: rs')
def endLp (id l0 : Nat) : List Res → (LpS → List Res → Prop) → Prop
  | [], _ => False
  | .lp k l r j :: rs, K => match Nat.beq k id with
    | true => l = l0 ∧ K j rs
    | false => endLp id l0 rs fun j' rs' => K j' (.lp k l r j :: rs')
  | x :: rs, K => endLp id l0 rs fun j' rs' => K j' (x :: rs')
def putArgs : List Nat → List SV → Sl → (Sl → Prop) → Prop
  | [], [], sl, k => k sl
  | n :: ns, x :: xs, sl, k => putArgs ns xs ((n, x) :: sl) k
  | _, _, _, _ => False

def roundE (id l : Nat) (K : SV → Hs → Prop) : Kont := fun e _ hs => match hs with
  | ⟨hg, hr, hn, hl⟩ => match e with
    | .normal => setLp id l true .ready hr fun rs5 => K (.b true) ⟨hg, rs5, hn, hl⟩
    | .exit n => setLp id l true (.jump (.exit n)) hr fun rs5 => K (.b false) ⟨hg, rs5, hn, hl⟩
    | .ret => setLp id l true (.jump .ret) hr fun rs5 => K (.b false) ⟨hg, rs5, hn, hl⟩
    | .goto n => setLp id l true (.jump (.goto n)) hr fun rs5 => K (.b false) ⟨hg, rs5, hn, hl⟩
def iterY (id l : Nat) (rr : Loop) (ps : List Nat) (sl : Sl) (asg body : Run) (Y : Yield) : Yield := fun id' args hs K => match Nat.beq id' id with
  | true => match findLp id' hs.rs with
    | some (l', rr', _) => (l' = l ∧ rr' = rr) ∧ putArgs ps args sl fun sl1 => asg sl1 hs fun e sl2 hs2 => match e with
      | .normal => match hs2 with
        | ⟨hg, hr, hn, hl⟩ => setLp id' l false .busy hr fun rs3 => body sl2 ⟨hg, rs3, hn, hl⟩ (roundE id' l K)
      | _ => False
    | none => False
  | false => Y id' args hs K

def endE (K : Kont) (sl : Sl) (hs : Hs) (j : LpS) (rs' : List Res) : Prop := match hs with
  | ⟨hg, _, hn, hl⟩ => match j with
    | .ready => K .normal sl ⟨hg, rs', hn, hl⟩
    | .jump (.exit n) => K (.exit n) sl ⟨hg, rs', hn, hl⟩
    | .jump .ret => K .ret sl ⟨hg, rs', hn, hl⟩
    | .jump (.goto n) => K (.goto n) sl ⟨hg, rs', hn, hl⟩
    | _ => False
def rfunS (P : Program) (H : Handler) (g : SV) (ps : List Nat) (asg body : Run) (Y : Yield) (sl : Sl) (hs : Hs) (K : Kont) : Prop := match g with
  | .fn (.func k) first caps => FnOk P k ∧ match hs with
    | ⟨hg, hr, hn, hl⟩ => withNx hn fun i i' => ∀ (l : Nat) (rr : Loop), H (iterY i l rr ps sl asg body Y) k (first ++ [.yl i l] ++ caps) ⟨hg, .lp i l rr .ready :: hr, i', hl⟩ fun _ hs2 =>
      endLp i l hs2.rs fun j rs' => endE K sl hs2 j rs'
  | _ => False

def cSkip : Bool → Yield → Run := fun _ _ sl hs K => K .normal sl hs
def cReg (P : Program) (H : Handler) (ops : List SOper) : Bool → Yield → Run := fun _ Y sl hs K => regS P H Y ops sl hs fun sl hs => K .normal sl hs
def cRegD (P : Program) (ops : List SOper) : Bool → Yield → Run := fun _ _ sl hs K => regS P (okH P) noY ops sl hs fun sl hs => K .normal sl hs
def cSeq (a b : Bool → Yield → Run) : Bool → Yield → Run := fun rd Y sl hs K => a rd Y sl hs (seqE (b rd Y) K)
def cCond (c : Opd) (a b : Bool → Yield → Run) : Bool → Yield → Run := fun rd Y sl hs K => condS c (a rd Y) (b rd Y) sl hs K
def cBlock (id : Nat) (b : Bool → Yield → Run) : Bool → Yield → Run := fun rd Y sl hs K => b rd Y sl hs (blockE id K)
def cLoop (ms scr : List Nat) (b : Bool → Yield → Run) : Bool → Yield → Run := fun rd Y sl hs K => loopS ms scr (b rd Y) sl hs K
def cRfun (P : Program) (H : Handler) (g : Opd) (ps : List Nat) (asg body : Bool → Yield → Run) : Bool → Yield → Run := fun rd Y sl hs K => match rd with
  | true => False
  | false => g.k hs.rs sl fun g' => rfunS P H g' ps (asg true Y) (body true Y) Y sl hs K
def cExit (id : Nat) : Bool → Yield → Run := fun _ _ sl hs K => K (.exit id) sl hs
def cRet : Bool → Yield → Run := fun _ _ sl hs K => K .ret sl hs
def S (P : Program) (H : Handler) (c : SCode) : Bool → Yield → Run :=
  SCode.rec (motive := fun _ => Bool → Yield → Run) cSkip (fun ops => cReg P H ops) (fun ops => cRegD P ops) (fun _ _ a b => cSeq a b) (fun c _ _ a b => cCond c a b) (fun id _ b => cBlock id b)
    (fun ms scr _ b => cLoop ms scr b) (fun g ps _ _ a b => cRfun P H g ps a b) (fun id => cExit id) cRet c

/-! ### How the code is read -/
def trC (P : Program) (nt : Nat) : Code → List (List Nat) × List (List Nat) → Option (SCode × (List (List Nat) × List (List Nat)))
  | .skip, s => some (.skip, s)
  | .region _ ops false, s => match trReg P nt ops (List.range ops.size) with
    | some l => some (.reg l, s)
    | none => none
  | .region _ ops true, (τ :: os, lm) => match trReg P nt ops τ with
    | some l => if (τ.length == ops.size) && ordOk ops τ l (Array.replicate ops.size false) && plainB ops then some (.regD l, (os, lm)) else none
    | none => none
  | .seq a b, s => match trC P nt a s with
    | some (a', s') => match trC P nt b s' with
      | some (b', s'') => some (.seq a' b', s'')
      | none => none
    | none => none
  | .cond c a b, s => match trC P nt a s with
    | some (a', s') => match trC P nt b s' with
      | some (b', s'') => some (.cond (trOpd c) a' b', s'')
      | none => none
    | none => none
  | .block id b, s => match trC P nt b s with
    | some (b', s') => some (.block id b', s')
    | none => none
  | .loop b, (os, ms :: lm) => match trC P nt b (os, lm) with
    | some (b', s') => if ms.all (fun n => (dsts b').contains n) then some (.loop ms (dsts b').eraseDups b', s') else none
    | none => none
  | .rangeFunc g ps asg body, s => match trC P nt asg s with
    | some (a', s') => match trC P nt body s' with
      | some (b', s'') => if ps.toList.all (fun n => decide (n < nt)) then some (.rfun (trOpd g) ps.toList a' b', s'') else none
      | none => none
    | none => none
  | .exit id, s => some (.exit id, s)
  | .ret, s => some (.ret, s)
  | _, _ => none

/-! ### Small facts -/
theorem getL_spec : ∀ {ns : List Nat} {sl : Sl} {k : List SV → Prop}, getL ns sl k → ∃ vs, k vs ∧ vs.length = ns.length ∧ ∀ (i : Nat) n, ns[i]? = some n → ∃ x, vs[i]? = some x ∧ getS sl n = some x
  | [], _, _, h => ⟨[], h, rfl, fun i n hi => by simp at hi⟩
  | n :: r, sl, k, h => by
    simp only [getL] at h
    split at h
    · rename_i x hx
      obtain ⟨vs, hk, hl, ha⟩ := getL_spec h
      refine ⟨x :: vs, hk, by simp [hl], fun i m hi => ?_⟩
      cases i with
      | zero => simp at hi; subst hi; exact ⟨x, rfl, hx⟩
      | succ i => exact ha i m (by simpa using hi)
    · exact h.elim
theorem memN_spec {n : Nat} : ∀ {l : List Nat}, memN n l = true ↔ n ∈ l
  | [] => by simp [memN]
  | m :: r => by
    simp only [memN]
    cases h : Nat.beq m n with
    | true => simp [Nat.eq_of_beq_eq_true h]
    | false => simp only [List.mem_cons]; rw [memN_spec]; have := Nat.ne_of_beq_eq_false h; constructor
               · exact fun h => .inr h
               · rintro (h | h); exact absurd h.symm this; exact h
theorem filtS_spec {ds : List Nat} : ∀ {sl : Sl} {k : Sl → Prop}, filtS ds sl k → ∃ sl0, k sl0 ∧ ∀ n x, getS sl0 n = some x → n ∉ ds ∧ getS sl n = some x
  | [], k, h => ⟨[], h, fun n x hx => by simp [getS] at hx⟩
  | (m, y) :: r, k, h => by
    simp only [filtS] at h
    split at h
    · rename_i hm
      obtain ⟨sl0, hk, ha⟩ := filtS_spec h
      refine ⟨sl0, hk, fun n x hx => ?_⟩
      obtain ⟨h1, h2⟩ := ha n x hx
      refine ⟨h1, ?_⟩
      simp only [getS]
      cases hb : Nat.beq m n with
      | true => obtain rfl := Nat.eq_of_beq_eq_true hb; exact absurd (memN_spec.1 hm) h1
      | false => exact h2
    · rename_i hm
      obtain ⟨sl0, hk, ha⟩ := filtS_spec h
      refine ⟨_, hk, fun n x hx => ?_⟩
      simp only [getS] at hx ⊢
      cases hb : Nat.beq m n with
      | true =>
        rw [hb] at hx
        obtain rfl := Nat.eq_of_beq_eq_true hb
        exact ⟨fun hmem => (by rw [memN_spec.2 hmem] at hm; cases hm), hx⟩
      | false => rw [hb] at hx; exact ha n x hx
theorem zipS_spec : ∀ (ms : List Nat) (vs : List SV) (sl : Sl) (n : Nat) (x : SV), vs.length = ms.length → getS (zipS ms vs sl) n = some x → (∃ i : Nat, ms[i]? = some n ∧ vs[i]? = some x) ∨ (n ∉ ms ∧ getS sl n = some x)
  | [], _, sl, n, x, hl, h => .inr ⟨by simp, by simpa [zipS, zipS.zip2] using h⟩
  | _ :: _, [], sl, n, x, hl, h => by simp at hl
  | m :: ms, v :: vs, sl, n, x, hl, h => by
    simp only [zipS, zipS.zip2, getS] at h
    cases hb : Nat.beq m n with
    | true => rw [hb] at h; obtain rfl := Nat.eq_of_beq_eq_true hb; exact .inl ⟨0, rfl, h⟩
    | false =>
      rw [hb] at h
      rcases zipS_spec ms vs sl n x (by simpa using hl) h with ⟨i, h1, h2⟩ | ⟨h1, h2⟩
      · exact .inl ⟨i + 1, h1, h2⟩
      · exact .inr ⟨by simp [h1, Ne.symm (Nat.ne_of_beq_eq_false hb)], h2⟩

theorem setLp_spec {id l0 : Nat} {busy : Bool} {new : LpS} : ∀ {rs : List Res} {k : List Res → Prop}, setLp id l0 busy new rs k →
    ∃ l1 l2 r, rs = l1 ++ .lp id l0 r (if busy then .busy else .ready) :: l2 ∧ k (l1 ++ .lp id l0 r new :: l2)
  | [], _, h => h.elim
  | .lp m l r j :: rs, k, h => by
    simp only [setLp] at h
    cases hb : Nat.beq m id with
    | true =>
      rw [hb] at h
      obtain rfl := Nat.eq_of_beq_eq_true hb
      obtain ⟨rfl, h⟩ := h
      cases busy with
      | true =>
        simp only at h
        split at h
        · exact ⟨[], rs, r, rfl, h⟩
        · exact h.elim
      | false =>
        simp only at h
        split at h
        · exact ⟨[], rs, r, rfl, h⟩
        · exact h.elim
    | false =>
      rw [hb] at h
      obtain ⟨l1, l2, r', e, hk⟩ := setLp_spec h
      exact ⟨.lp m l r j :: l1, l2, r', by rw [e]; rfl, hk⟩
  | .blk a1 a2 a3 a4 :: rs, k, h => by
    obtain ⟨l1, l2, r', e, hk⟩ := setLp_spec (k := fun rs' => k (.blk a1 a2 a3 a4 :: rs')) h
    exact ⟨_ :: l1, l2, r', by rw [e]; rfl, hk⟩
  | .row a1 a2 a3 a4 a5 a6 a7 :: rs, k, h => by
    obtain ⟨l1, l2, r', e, hk⟩ := setLp_spec (k := fun rs' => k (.row a1 a2 a3 a4 a5 a6 a7 :: rs')) h
    exact ⟨_ :: l1, l2, r', by rw [e]; rfl, hk⟩
  | .mk a1 :: rs, k, h => by
    obtain ⟨l1, l2, r', e, hk⟩ := setLp_spec (k := fun rs' => k (.mk a1 :: rs')) h
    exact ⟨_ :: l1, l2, r', by rw [e]; rfl, hk⟩
theorem endLp_spec {id l0 : Nat} : ∀ {rs : List Res} {k : LpS → List Res → Prop}, endLp id l0 rs k → ∃ l1 l2 r j, rs = l1 ++ .lp id l0 r j :: l2 ∧ k j (l1 ++ l2)
  | [], _, h => h.elim
  | .lp m l r j :: rs, k, h => by
    simp only [endLp] at h
    cases hb : Nat.beq m id with
    | true =>
      rw [hb] at h
      obtain rfl := Nat.eq_of_beq_eq_true hb
      obtain ⟨rfl, h⟩ := h
      exact ⟨[], rs, r, j, rfl, h⟩
    | false =>
      rw [hb] at h
      obtain ⟨l1, l2, r', j', e, hk⟩ := endLp_spec h
      exact ⟨.lp m l r j :: l1, l2, r', j', by rw [e]; rfl, hk⟩
  | .blk a1 a2 a3 a4 :: rs, k, h => by
    obtain ⟨l1, l2, r', j', e, hk⟩ := endLp_spec (k := fun j rs' => k j (.blk a1 a2 a3 a4 :: rs')) h
    exact ⟨_ :: l1, l2, r', j', by rw [e]; rfl, hk⟩
  | .row a1 a2 a3 a4 a5 a6 a7 :: rs, k, h => by
    obtain ⟨l1, l2, r', j', e, hk⟩ := endLp_spec (k := fun j rs' => k j (.row a1 a2 a3 a4 a5 a6 a7 :: rs')) h
    exact ⟨_ :: l1, l2, r', j', by rw [e]; rfl, hk⟩
  | .mk a1 :: rs, k, h => by
    obtain ⟨l1, l2, r', j', e, hk⟩ := endLp_spec (k := fun j rs' => k j (.mk a1 :: rs')) h
    exact ⟨_ :: l1, l2, r', j', by rw [e]; rfl, hk⟩

/-! ### The state at a place in a function -/
def mkD (b : Nat) : Deferred := { target := .collected b, args := #[] }
/-- The marks of ranges over functions that the call has been through. -/
def Mks (fr0 fr : Fr) (D : List Deferred) : Prop := ∃ bs : List Nat, D = bs.map mkD ∧ bs.Nodup ∧ ∀ b ∈ bs, ¬ fr0.pr b ∧ ¬ fr.g0 b ∧ fr.pr b ∧ fr.w.heap[b]? = some (.deferred (some []))
/-- At a place: what is known of the frame and of memory; the slots but 'ds' are as 't' has them. -/
def R0 (fr0 : Fr) (nt : Nat) (ds : List Nat) (t : Array Value) (sl : Sl) (hs : Hs) (a : Act) (w : World) : Prop := ∃ fr D, fr0.le fr ∧ HSim fr hs w ∧ Sim nt ⟨D, ds, t⟩ sl a ∧ Mks fr0 fr D
def Post (fr0 : Fr) (nt : Nat) (ds : List Nat) (t : Array Value) (K : Ex → Sl → Hs → Prop) : Exit → Act → World → Prop := fun e a w =>
  ∃ ex sl' hs', ex.to = e ∧ K ex sl' hs' ∧ R0 fr0 nt ds t sl' hs' a w

end Go.Proofs.Ytedjbhpocedagaa.Sx
