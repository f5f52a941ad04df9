/- A symbolic evaluator over the model's code, part 3: the operations that only read. -/
import Derived.Test.YtedjbhpocedagaaSx2e
import Derived.Test.YtedjbhpocedagaaSx5a
namespace Go.Proofs.Ytedjbhpocedagaa.Sx
open Go.RowKit

/-- Cells of frozen memory, one behind the other. -/
def Rcs (g : GW) (a : Addr) (xs : List Value) : Prop := ∀ i u, xs[i]? = some u → Rc g (a.add i) u

def loadS (agg : Bool) (size : Nat) (hs : Hs) (x : SV) (K : SV → Prop) : Prop := match x with
  | .p id b o => match findBlk id hs.rs with
    | some (b', _, cells) => b = b' ∧ match agg with
      | true => match cutL cells o size with
        | some r => K (.agg r)
        | none => False
      | false => match nthL cells o with
        | some s => force (norm hs.rs s) K
        | none => False
    | none => False
  | .re id oa n cap j => match findRow id hs.rs with
    | some (oa', n', cap', _, _, cs) => (oa = oa' ∧ n = n' ∧ cap = cap') ∧ match agg with
      | true => ∃ xs : List Value, (xs.length = size ∧ ∀ i u, xs[i]? = some u → cs[j + i]? = some u) ∧ K (.v (.agg ⟨xs⟩))
      | false => ∃ u, cs[j]? = some u ∧ K (.v u)
    | none => False
  | .v (.pointer (some a)) => match agg with
    | true => ∃ xs : List Value, (xs.length = size ∧ Rcs hs.g a xs) ∧ K (.v (.agg ⟨xs⟩))
    | false => ∃ u, Rc hs.g a u ∧ K (.v u)
  | _ => False

def slcS (size : Nat) (x : SV) (lo hi mx : Option SV) (K : SV → Prop) : Prop := match x with
  | .v (.slice oa n cap) => 
    match lo, hi, mx with
    | none, none, none => K (.v (.slice oa n cap))
    | some (.v (.int _ l)), none, none => (0 ≤ l ∧ l ≤ n) ∧ K (.v (.slice (if cap = l.toNat then oa else oa.map (·.add (l.toNat * size))) (n - l.toNat) (cap - l.toNat)))
    | none, some (.v (.int _ h)), none => (0 ≤ h ∧ h ≤ cap) ∧ K (.v (.slice oa h.toNat cap))
    | some (.v (.int _ l)), some (.v (.int _ h)), none => (0 ≤ l ∧ l ≤ h ∧ h ≤ cap) ∧ K (.v (.slice (if cap = l.toNat then oa else oa.map (·.add (l.toNat * size))) (h.toNat - l.toNat) (cap - l.toNat)))
    | none, some (.v (.int _ h)), some (.v (.int _ m)) => (0 ≤ h ∧ h ≤ m ∧ m ≤ cap) ∧ K (.v (.slice oa h.toNat m.toNat))
    | some (.v (.int _ l)), some (.v (.int _ h)), some (.v (.int _ m)) => (0 ≤ l ∧ l ≤ h ∧ h ≤ m ∧ m ≤ cap) ∧ K (.v (.slice (if m = l then oa else oa.map (·.add (l.toNat * size))) (h.toNat - l.toNat) (m.toNat - l.toNat)))
    | _, _, _ => False
  | _ => False

def slcsS (x : SV) (lo hi : Option SV) (K : SV → Prop) : Prop := match x with
  | .v (.string s) => match lo, hi with
    | none, none => K (.v (.string (s.extract 0 s.size)))
    | some (.v (.int _ l)), none => (0 ≤ l ∧ l ≤ s.size) ∧ K (.v (.string (s.extract l.toNat s.size)))
    | none, some (.v (.int _ h)) => (0 ≤ h ∧ h ≤ s.size) ∧ K (.v (.string (s.extract 0 h.toNat)))
    | some (.v (.int _ l)), some (.v (.int _ h)) => (0 ≤ l ∧ l ≤ h ∧ h ≤ s.size) ∧ K (.v (.string (s.extract l.toNat h.toNat)))
    | _, _ => False
  | _ => False

def Opd.ko (rs : List Res) (sl : Sl) (x : Option Opd) (k : Option SV → Prop) : Prop := match x with
  | none => k none
  | some x => x.k rs sl fun s => k (some s)

/-- The cells of a value. -/
def cellsS (x : SV) : List SV := match x with
  | .agg l => l
  | .v (.agg ⟨l⟩) => l.map .v
  | x => [x]
theorem cellsS_spec (x : SV) : concL (cellsS x) = (conc x).cells.toList := by
  cases x with
  | v y => 
    cases y with
    | agg cs => cases cs; rename_i l; simp [cellsS, conc, Value.cells, concL_eq, Function.comp_def]
    | _ => simp [cellsS, conc, Value.cells, concL]
  | agg l => simp [cellsS, conc, Value.cells]
  | _ => simp [cellsS, conc, Value.cells, concL]

theorem cellsS_length (x : SV) : (cellsS x).length = (conc x).cells.size := by
  have := congrArg List.length (cellsS_spec x)
  rw [concL_length] at this
  simpa using this

/-- cs laid into l from place o on. -/
def putL {α : Type} : List α → Nat → List α → Option (List α)
  | l, 0, [] => some l
  | [], 0, _ :: _ => none
  | _ :: l, 0, c :: cs => match putL l 0 cs with
    | some r => some (c :: r)
    | none => none
  | [], _ + 1, _ => none
  | x :: l, o + 1, cs => match putL l o cs with
    | some r => some (x :: r)
    | none => none
theorem putL_spec {α : Type} : ∀ {l : List α} {o : Nat} {cs r : List α}, putL l o cs = some r → o + cs.length ≤ l.length ∧ r = l.take o ++ cs ++ l.drop (o + cs.length)
  | l, 0, [], r, h => by simp [putL] at h; simp [h]
  | [], 0, _ :: _, r, h => by simp [putL] at h
  | x :: l, 0, c :: cs, r, h => by
    simp only [putL] at h
    split at h
    · rename_i r' he
      simp at h; subst h
      obtain ⟨h1, h2⟩ := putL_spec he
      exact ⟨by simp at *; omega, by simp [h2]⟩
    · cases h
  | [], o + 1, cs, r, h => by simp [putL] at h
  | x :: l, o + 1, cs, r, h => by
    simp only [putL] at h
    split at h
    · rename_i r' he
      simp at h; subst h
      obtain ⟨h1, h2⟩ := putL_spec he
      exact ⟨by simp at *; omega, by simp [h2, Nat.add_right_comm o 1]⟩
    · cases h

theorem foldl_set (vs : List Value) : ∀ (o j : Nat) (A : Array Value), o + j + vs.length ≤ A.size →
    ((vs.zipIdx j).foldl (fun cs (c, k) => cs.setIfInBounds (o + k) c) A).toList = A.toList.take (o + j) ++ vs ++ A.toList.drop (o + j + vs.length) := by
  induction vs with
  | nil => intro o j A h; simp
  | cons v vs ih =>
    intro o j A h
    simp only [List.zipIdx_cons, List.foldl_cons]
    rw [ih o (j + 1) _ (by simp at *; omega)]
    have hlt : o + j < A.toList.length := by simp at *; omega
    simp only [Array.toList_setIfInBounds]
    rw [← Nat.add_assoc o j 1, List.take_succ_eq_append_getElem (by simpa using hlt), List.take_set, List.set_eq_of_length_le (by simp; omega), List.getElem_set_self, List.drop_set_of_lt (by omega)]
    simp only [List.append_assoc, List.cons_append, List.nil_append, List.length_cons]
    rw [show o + j + 1 + vs.length = o + j + (vs.length + 1) by omega]

def fillS (rs : List Res) (sl : Sl) : List SV → List (Nat × Nat × Opd) → (List SV → Prop) → Prop
  | cells, [], K => K cells
  | cells, (off, size, x) :: r, K => x.k rs sl fun s => match Nat.beq (cellsS s).length size with
    | true => match putL cells off (cellsS s) with
      | some cells' => fillS rs sl cells' r K
      | none => False
    | false => False

theorem fillS_spec {rs : List Res} {sl : Sl} {a : Act} (hs : SlotSim sl a) (place : Nat → Option (Nat × Nat)) :
    ∀ (parts : List (Nat × Operand)) (ps : List (Nat × Nat × Opd)) (cells : List SV) {K : List SV → Prop},
      (parts.map fun (i, x) => (place i).map fun (o, s) => (o, s, trOpd x)) = ps.map some → fillS rs sl cells ps K →
      ∃ cells', K cells' ∧ Instr.fill place (concL cells).toArray (parts.map fun (i, x) => (i, a.eval x)) = some (concL cells').toArray
  | [], ps, cells, K, hp, h => by
    simp at hp; subst hp
    exact ⟨cells, h, rfl⟩
  | (i, x) :: parts, [], cells, K, hp, h => by simp at hp
  | (i, x) :: parts, (off, size, y) :: ps, cells, K, hp, h => by
    simp only [List.map_cons, List.cons.injEq, Option.map_eq_some_iff, Prod.exists, Prod.mk.injEq] at hp
    obtain ⟨⟨o, s, hpl, rfl, rfl, rfl⟩, hp⟩ := hp
    obtain ⟨v, hk, hev⟩ := Opd.k_spec (k := fun s' => match Nat.beq (cellsS s').length s with
      | true => match putL cells o (cellsS s') with
        | some cells' => fillS rs sl cells' ps K
        | none => False
      | false => False) h hs
    split at hk
    · rename_i hlen
      have hlen := Nat.eq_of_beq_eq_true hlen
      split at hk
      · rename_i cells' hput
        obtain ⟨h1, h2⟩ := putL_spec hput
        obtain ⟨cells'', hK, hfill⟩ := fillS_spec hs place parts ps cells' hp hk
        refine ⟨cells'', hK, ?_⟩
        rw [cellsS_length] at hlen h1
        simp only [List.map_cons, Instr.fill, hpl, hev]
        rw [if_neg (by simp [hlen, concL_length]; omega)]
        rw [← hfill]
        congr 1
        have key := foldl_set (conc v).cells.toList o 0 (concL cells).toArray (by simp [concL_length]; omega)
        have e1 : (conc v).cells.zipIdx.foldl (fun cs (c, j) => cs.setIfInBounds (o + j) c) (concL cells).toArray = ((conc v).cells.toList.zipIdx 0).foldl (fun cs (c, j) => cs.setIfInBounds (o + j) c) (concL cells).toArray := by
          rw [← Array.toList_zipIdx, Array.foldl_toList]
        rw [e1]
        apply Array.ext'
        rw [key, h2]
        simp only [concL_append, concL_take, concL_drop, cellsS_spec, cellsS_length]
        simp
      · exact hk.elim
    · exact hk.elim

def binbS (neg : Bool) (x y : SV) (K : SV → Prop) : Prop := match boolOf x with
  | none => False
  | some a => match boolOf y with
    | none => False
    | some b => match neg with
      | false => K (.v (.bool (a == b)))
      | true => K (.v (.bool (!(a == b))))
def binnS (kind : Nat) (neg : Bool) (x : SV) (K : SV → Prop) : Prop := match isNil kind x with
  | none => False
  | some a => match neg with
    | false => K (.v (.bool a))
    | true => K (.v (.bool (!a)))
def isAggS : SV → Bool
  | .agg _ => true
  | .v (.agg _) => true
  | _ => false
def binstS (neg : Bool) (ks : List Nat) (x y : SV) (K : SV → Prop) : Prop := match isAggS x, isAggS y with
  | true, true => concLK (cellsS x) fun xs => concLK (cellsS y) fun ys => match eqV ks xs ys with
    | some b => match neg with
      | false => K (.v (.bool b))
      | true => K (.v (.bool (!b)))
    | none => False
  | _, _ => False
def notS (x : SV) (K : SV → Prop) : Prop := match x with
  | .b true => K (.b false)
  | .b false => K (.b true)
  | .v (.bool x) => K (.v (.bool (!x)))
  | _ => False
def convS (k : IntKind) (x : SV) (K : SV → Prop) : Prop := match x with
  | .v (.int _ n) => K (.v (.int k (k.wrap n)))
  | _ => False
def lenS (str : Bool) (x : SV) (K : SV → Prop) : Prop := match str with
  | true => match x with
    | .v (.string s) => K (.v (.int .i64 s.size))
    | _ => False
  | false => match x with
    | .v (.slice _ n _) => K (.v (.int .i64 n))
    | .sl _ _ _ n _ => K (.v (.int .i64 n))
    | .row _ _ n _ => K (.v (.int .i64 n))
    | _ => False
def idxsS (x i : SV) (K : SV → Prop) : Prop := match x, i with
  | .v (.string s), .v (.int _ n) => ∃ c : UInt8, (0 ≤ n ∧ s.data.toList[n.toNat]? = some c) ∧ K (.v (.int .u8 c.toNat))
  | _, _ => False
def idxaS (n size : Nat) (agg : Bool) (x i : SV) (K : SV → Prop) : Prop := match i with
  | .v (.int _ m) => ∃ j : Nat, (m = j ∧ j < n) ∧ partS agg (j * size) size x K
  | _ => False
def fadrS (off : Nat) (x : SV) (K : SV → Prop) : Prop := match x with
  | .p id b o => K (.p id b (o + off))
  | .re id (some oa) n cap j => K (.re id (some oa) n cap (j + off))
  | .v (.pointer (some a)) => K (.v (.pointer (some (a.add off))))
  | _ => False
def iadraS (n size : Nat) (x i : SV) (K : SV → Prop) : Prop := match i with
  | .v (.int _ m) => match x with
    | .p id b o => ∃ j : Nat, (m = j ∧ j < n) ∧ K (.p id b (o + j * size))
    | .v (.pointer (some a)) => (0 ≤ m ∧ m < n) ∧ K (.v (.pointer (some (a.add (m.toNat * size)))))
    | _ => False
  | _ => False
def iadrS (rs : List Res) (size : Nat) (x i : SV) (K : SV → Prop) : Prop := match i with
  | .v (.int _ m) => match x with
    | .v (.slice oa n _) => ∃ a, oa = some a ∧ (0 ≤ m ∧ m < n) ∧ K (.v (.pointer (some (a.add (m.toNat * size)))))
    | .sl id b o n _ => ∃ j : Nat, (m = j ∧ j < n) ∧ K (.p id b (o + j * size))
    | .row id oa n cap => match findRow id rs with
      | some (oa', n', cap', _, size', _) => (oa = oa' ∧ n = n' ∧ cap = cap' ∧ size' = size) ∧ (0 ≤ m ∧ m < n) ∧ K (.re id oa n cap (m.toNat * size))
      | none => False
    | _ => False
  | _ => False
def nckS (x : SV) (K : SV → Prop) : Prop := match x with
  | .p id b o => K (.p id b o)
  | .v (.pointer (some a)) => K (.v (.pointer (some a)))
  | .v (.func (.func f) a b) => K (.v (.func (.func f) a b))
  | .fn (.func f) a b => K (.fn (.func f) a b)
  | .yl id l => K (.yl id l)
  | _ => False
def extS (i : Nat) (x : SV) (K : SV → Prop) : Prop := match x with
  | .tup l => match nthL l i with
    | some s => K s
    | none => False
  | .v (.tuple ⟨l⟩) => match nthL l i with
    | some s => K (.v s)
    | none => False
  | _ => False

def rdS (o : SOp) (sl : Sl) (hs : Hs) (K : SV → Prop) : Prop := match o with
  | .mov x => x.k hs.rs sl K
  | .pick c a b => c.k hs.rs sl fun c => match c with
    | .b true => a.k hs.rs sl K
    | .b false => b.k hs.rs sl K
    | .v (.bool x) => (x = true → a.k hs.rs sl K) ∧ (x = false → b.k hs.rs sl K)
    | _ => False
  | .bini op x y => x.k hs.rs sl fun x => y.k hs.rs sl fun y => biniS op x y K
  | .bins op x y => x.k hs.rs sl fun x => y.k hs.rs sl fun y => binsS op x y K
  | .binb neg x y => x.k hs.rs sl fun x => y.k hs.rs sl fun y => binbS neg x y K
  | .binn kind neg x => x.k hs.rs sl fun x => binnS kind neg x K
  | .binst neg ks x y => x.k hs.rs sl fun x => y.k hs.rs sl fun y => binstS neg ks x y K
  | .not x => x.k hs.rs sl fun x => notS x K
  | .conv k x => x.k hs.rs sl fun x => convS k x K
  | .len str x => x.k hs.rs sl fun x => lenS str x K
  | .idxs x i => x.k hs.rs sl fun x => i.k hs.rs sl fun i => idxsS x i K
  | .idxa n size agg x i => x.k hs.rs sl fun x => i.k hs.rs sl fun i => idxaS n size agg x i K
  | .fadr off x => x.k hs.rs sl fun x => fadrS off x K
  | .fld off size agg x => x.k hs.rs sl fun x => partS agg off size x K
  | .iadra n size x i => x.k hs.rs sl fun x => i.k hs.rs sl fun i => iadraS n size x i K
  | .iadr size x i => x.k hs.rs sl fun x => i.k hs.rs sl fun i => iadrS hs.rs size x i K
  | .load agg size x => x.k hs.rs sl fun x => loadS agg size hs x K
  | .nck x => x.k hs.rs sl fun x => nckS x K
  | .ext i x => x.k hs.rs sl fun x => extS i x K
  | .mkf f first caps => Opd.ks hs.rs sl first fun a => Opd.ks hs.rs sl caps fun c => K (.fn f a c)
  | .build zero parts => fillS hs.rs sl zero parts fun cells => K (.agg cells)
  | .slcs x lo hi => x.k hs.rs sl fun x => Opd.ko hs.rs sl lo fun lo => Opd.ko hs.rs sl hi fun hi => slcsS x lo hi K
  | .slc size x lo hi mx => x.k hs.rs sl fun x => Opd.ko hs.rs sl lo fun lo => Opd.ko hs.rs sl hi fun hi => Opd.ko hs.rs sl mx fun mx => slcS size x lo hi mx K
  | _ => False

def SOp.reads : SOp → Bool
  | .store .. | .alloc .. | .box .. | .bsl .. | .app .. | .msl .. | .call .. | .callv .. => false
  | _ => true

end Go.Proofs.Ytedjbhpocedagaa.Sx
