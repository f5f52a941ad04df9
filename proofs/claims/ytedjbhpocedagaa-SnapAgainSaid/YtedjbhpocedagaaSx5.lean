/- A symbolic evaluator over the model's code, part 5: the operations that do something. -/
import Derived.Test.YtedjbhpocedagaaSx4
namespace Go.Proofs.Ytedjbhpocedagaa.Sx
open Go.RowKit

/-- The fence that lets everything in; 'r': the round of a range over a function, if it is one's frame. -/
def FW (r : Option Nat) : Fence := { fn := fun _ => True, depth := none, alive := false, round := r }
theorem FW_fn (r : Option Nat) (f : FuncId) : (FW r).fn f := trivial
theorem FW_room (r : Option Nat) (n : Nat) : (FW r).room n := fun _ h => by simp [FW] at h
theorem callsIn_FW {P : Program} {f : FuncId} {args : Array Value} {w : World} {R : Ending → World → Prop} (r : Option Nat) (n : Nat) : CallsIn (FW r) n P f args w R ↔ Calls P f args w R := by
  have : CallsIn (FW r) n P f args w R ↔ CallsIn Fence.wide n P f args w R := Iff.rfl
  rw [this]; exact callsIn_wide

abbrev Yield := Nat → List SV → Hs → (SV → Hs → Prop) → Prop
abbrev Handler := Yield → FuncId → List SV → Hs → (SV → Hs → Prop) → Prop

def roundTmps (r : Loop) (args : Array Value) : Array Value := (r.params.zip args).foldl (fun tmps (t, a) => tmps.setIfInBounds t a) r.tmps

theorem findLp_mem {id : Nat} {rs : List Res} {l : Nat} {r : Loop} {j : LpS} (h : findLp id rs = some (l, r, j)) : ∃ l1 l2, rs = l1 ++ .lp id l r j :: l2 := by
  induction rs with
  | nil => simp [findLp] at h
  | cons x rs ih =>
    have go : findLp id rs = some (l, r, j) → ∃ l1 l2, x :: rs = l1 ++ .lp id l r j :: l2 := fun h' => by
      obtain ⟨l1, l2, e⟩ := ih h'
      exact ⟨x :: l1, l2, by simp [e]⟩
    cases x with
    | lp k l' r' j' =>
      simp only [findLp] at h
      cases hk : Nat.beq k id with
      | true => rw [hk] at h; simp at h; obtain ⟨rfl, rfl, rfl⟩ := h; obtain rfl := Nat.eq_of_beq_eq_true hk; exact ⟨[], rs, rfl⟩
      | false => rw [hk] at h; exact go h
    | blk _ _ _ _ => exact go h
    | row _ _ _ _ _ _ _ => exact go h
    | mk _ => exact go h

def SndY (P : Program) (fr0 : Fr) (Y : Yield) : Prop := ∀ fr, fr0.le fr → ∀ id args hs K, Y id args hs K → ∀ l r j w, findLp id hs.rs = some (l, r, j) → HSim fr hs w →
  args.length = r.params.size ∧ RoundIn (FW none) 0 P l r.fn (roundTmps r (concL args).toArray) r.assign r.body w fun e w' => ∃ v hs', e = .returned (conc v) ∧ HSim fr hs' w' ∧ K v hs'
theorem SndY.up {P : Program} {a b : Fr} {Y : Yield} (h : SndY P a Y) (k : a.le b) : SndY P b Y := fun fr hfr => h fr (Fr.trans k hfr)
def SndH (P : Program) (fr : Fr) (H : Handler) : Prop := ∀ Y, SndY P fr Y → ∀ f args hs K, H Y f args hs K → ∀ w, HSim fr hs w →
  Calls P f (concL args).toArray w fun e w' => ∃ v hs', e = .returned (conc v) ∧ HSim fr hs' w' ∧ K v hs'

def FnOk (P : Program) (f : FuncId) : Prop := ∃ fn, P.funcs[f]? = some fn ∧ fn.body.isSome = true ∧ (fn.name == "runtime.NumGoroutine") = false

/-! ### Small forms in passing style -/
def oc1 (x : SV) (k : Prop) : Prop := match x with
  | .v y => match y with
    | .agg _ => False
    | .tuple _ => False
    | _ => k
  | .agg _ => False
  | .tup _ => False
  | _ => k
theorem oc1_spec {x : SV} {k : Prop} (h : oc1 x k) : k ∧ (conc x).oneCell' = true := by
  unfold oc1 at h
  split at h
  · split at h <;> first | exact h.elim | (refine ⟨h, ?_⟩; simp only [conc]; rename_i y _ _ ; cases y <;> simp_all [Value.oneCell'])
  · exact h.elim
  · exact h.elim
  · refine ⟨h, ?_⟩
    cases x <;> simp_all [conc, Value.oneCell']
def ocS : List SV → Prop → Prop
  | [], k => k
  | x :: r, k => oc1 x (ocS r k)
theorem ocS_spec : ∀ {l : List SV} {k : Prop}, ocS l k → k ∧ ∀ c ∈ l, (conc c).oneCell' = true
  | [], k, h => ⟨h, fun c hc => by cases hc⟩
  | x :: r, k, h => by
    obtain ⟨h1, h2⟩ := oc1_spec h
    obtain ⟨h3, h4⟩ := ocS_spec h1
    exact ⟨h3, fun c hc => by rcases List.mem_cons.1 hc with rfl | hc; exact h2; exact h4 c hc⟩

def updK (id : Nat) (cells' : List SV) : List Res → (List Res → Prop) → Prop
  | [], _ => False
  | .blk j b ty cells :: r, k => match Nat.beq j id with
    | true => k (.blk j b ty cells' :: r)
    | false => updK id cells' r fun r' => k (.blk j b ty cells :: r')
  | x :: r, k => updK id cells' r fun r' => k (x :: r')
theorem updK_spec {id : Nat} {cells' : List SV} : ∀ {rs : List Res} {k : List Res → Prop} {b : Nat} {ty : TypeId} {cells : List SV}, updK id cells' rs k → findBlk id rs = some (b, ty, cells) →
    ∃ l1 l2, rs = l1 ++ .blk id b ty cells :: l2 ∧ k (l1 ++ .blk id b ty cells' :: l2)
  | [], k, b, ty, cells, h, hf => h.elim
  | .blk j b' ty' c' :: r, k, b, ty, cells, h, hf => by
    simp only [updK] at h
    simp only [findBlk] at hf
    cases hj : Nat.beq j id with
    | true =>
      rw [hj] at h hf
      simp at hf
      obtain ⟨rfl, rfl, rfl⟩ := hf
      obtain rfl := Nat.eq_of_beq_eq_true hj
      exact ⟨[], r, rfl, h⟩
    | false =>
      rw [hj] at h hf
      obtain ⟨l1, l2, e, hk⟩ := updK_spec h hf
      exact ⟨.blk j b' ty' c' :: l1, l2, by simp [e], hk⟩
  | .row a1 a2 a3 a4 a5 a6 a7 :: r, k, b, ty, cells, h, hf => by
    obtain ⟨l1, l2, e, hk⟩ := updK_spec (k := fun r' => k (.row a1 a2 a3 a4 a5 a6 a7 :: r')) h hf
    exact ⟨_ :: l1, l2, by rw [e]; rfl, hk⟩
  | .lp a1 a2 a3 a4 :: r, k, b, ty, cells, h, hf => by
    obtain ⟨l1, l2, e, hk⟩ := updK_spec (k := fun r' => k (.lp a1 a2 a3 a4 :: r')) h hf
    exact ⟨_ :: l1, l2, by rw [e]; rfl, hk⟩
  | .mk a1 :: r, k, b, ty, cells, h, hf => by
    obtain ⟨l1, l2, e, hk⟩ := updK_spec (k := fun r' => k (.mk a1 :: r')) h hf
    exact ⟨_ :: l1, l2, by rw [e]; rfl, hk⟩

/-- A row is replaced: 'f' of the old one. -/
def updR (id : Nat) (new : Option Res) : List Res → (List Res → Prop) → Prop
  | [], _ => False
  | .row j oa n cap ety size cs :: r, k => match Nat.beq j id with
    | true => match new with
      | some x => k (x :: r)
      | none => k r
    | false => updR id new r fun r' => k (.row j oa n cap ety size cs :: r')
  | x :: r, k => updR id new r fun r' => k (x :: r')
theorem updR_spec {id : Nat} {new : Option Res} : ∀ {rs : List Res} {k : List Res → Prop} {oa : Option Addr} {n cap : Nat} {ety : TypeId} {size : Nat} {cs : List Value}, updR id new rs k → findRow id rs = some (oa, n, cap, ety, size, cs) →
    ∃ l1 l2, rs = l1 ++ .row id oa n cap ety size cs :: l2 ∧ k (l1 ++ (new.toList ++ l2))
  | [], k, oa, n, cap, ety, size, cs, h, hf => h.elim
  | .row j a2 a3 a4 a5 a6 a7 :: r, k, oa, n, cap, ety, size, cs, h, hf => by
    simp only [updR] at h
    simp only [findRow] at hf
    cases hj : Nat.beq j id with
    | true =>
      rw [hj] at h hf
      simp at hf
      obtain ⟨rfl, rfl, rfl, rfl, rfl, rfl⟩ := hf
      obtain rfl := Nat.eq_of_beq_eq_true hj
      refine ⟨[], r, rfl, ?_⟩
      cases new <;> exact h
    | false =>
      rw [hj] at h hf
      obtain ⟨l1, l2, e, hk⟩ := updR_spec h hf
      exact ⟨_ :: l1, l2, by rw [e]; rfl, hk⟩
  | .blk a1 a2 a3 a4 :: r, k, oa, n, cap, ety, size, cs, h, hf => by
    obtain ⟨l1, l2, e, hk⟩ := updR_spec (k := fun r' => k (.blk a1 a2 a3 a4 :: r')) h hf
    exact ⟨_ :: l1, l2, by rw [e]; rfl, hk⟩
  | .lp a1 a2 a3 a4 :: r, k, oa, n, cap, ety, size, cs, h, hf => by
    obtain ⟨l1, l2, e, hk⟩ := updR_spec (k := fun r' => k (.lp a1 a2 a3 a4 :: r')) h hf
    exact ⟨_ :: l1, l2, by rw [e]; rfl, hk⟩
  | .mk a1 :: r, k, oa, n, cap, ety, size, cs, h, hf => by
    obtain ⟨l1, l2, e, hk⟩ := updR_spec (k := fun r' => k (.mk a1 :: r')) h hf
    exact ⟨_ :: l1, l2, by rw [e]; rfl, hk⟩

def normL : List SV → (List SV → Prop) → Prop
  | [], k => k []
  | x :: r, k => normL r fun r' => k (x :: r')
theorem normL_spec : ∀ (l : List SV) {k : List SV → Prop}, normL l k → k l
  | [], _, h => h
  | x :: r, k, h => normL_spec r (k := fun r' => k (x :: r')) h

end Go.Proofs.Ytedjbhpocedagaa.Sx
