/- A symbolic evaluator over the model's code, part 2: operations, how they are read off the model's, and those that only read. -/
import Derived.Test.YtedjbhpocedagaaSx1
namespace Go.Proofs.Ytedjbhpocedagaa.Sx
open Go.RowKit

inductive Opd where
  | t (n : Nat)
  | c (v : Value)
  | b (x : Bool)
  deriving Inhabited

inductive SOp where
  | mov (x : Opd)
  | pick (c a b : Opd)
  | bini (op : BinOp) (x y : Opd)
  | bins (op : BinOp) (x y : Opd)
  | binb (neg : Bool) (x y : Opd)
  | binn (kind : Nat) (neg : Bool) (x : Opd)
  | binst (neg : Bool) (ks : List Nat) (x y : Opd)
  | not (x : Opd)
  | conv (k : IntKind) (x : Opd)
  | len (str : Bool) (x : Opd)
  | idxs (x i : Opd)
  | idxa (n size : Nat) (agg : Bool) (x i : Opd)
  | fadr (off : Nat) (x : Opd)
  | fld (off size : Nat) (agg : Bool) (x : Opd)
  | iadra (n size : Nat) (x i : Opd)
  | iadr (size : Nat) (x i : Opd)
  | load (agg : Bool) (size : Nat) (x : Opd)
  | nck (x : Opd)
  | ext (i : Nat) (x : Opd)
  | mkf (f : Fn) (first caps : List Opd)
  | build (zero : List SV) (parts : List (Nat × Nat × Opd))
  | slcs (x : Opd) (lo hi : Option Opd)
  | slc (size : Nat) (x : Opd) (lo hi mx : Option Opd)
  -- those that do something
  | store (size : Nat) (x y : Opd)
  | alloc (ty : TypeId) (zero : List SV)
  | box (ty : TypeId) (x : Opd)
  | bsl (ety : TypeId) (size len : Nat) (zero : List SV) (parts : List (Nat × Nat × Opd))
  | app (ety : TypeId) (size bytes : Nat) (s x : Opd)
  | msl (ety : TypeId) (size bytes : Nat) (zero : List Value) (len cap : Opd)
  | call (f : FuncId) (args : List Opd)
  | callv (f : Opd) (args : List Opd)
  deriving Inhabited

def trOpd : Operand → Opd
  | .tmp t => .t t
  | .const v => match v with
    | .bool x => .b x
    | v => .c v
  | .global g => .c (.pointer (some ⟨g, 0, none⟩))
  | .func f => .c (.func (.func f) #[] #[])

def sizeT (P : Program) (t : TypeId) : Option Nat := (P.info? t).map (·.size)
def aggT (P : Program) (t : TypeId) : Option Bool := match P.underlying t with
  | some (.struct _) => some true
  | some (.array ..) => some true
  | some _ => some false
  | none => none
def zeroT (P : Program) (t : TypeId) : Option (List Value) := match (P.info? t).bind (·.zero) with
  | some z => if z.cells.all (·.oneCell') then some z.cells.toList else none
  | none => none

/-- The kinds of a plain type's cells. -/
def leavesF (P : Program) (r : TypeId → Option (List Nat)) : List Field → Nat → Option (List Nat)
  | [], _ => some []
  | f :: fs, o => match r f.type, sizeT P f.type, aggT P f.type with
    | some ks, some size, some _ => if f.offset = o ∧ f.name ≠ "_" ∧ size = ks.length then match leavesF P r fs (o + ks.length) with
      | some l => some (ks ++ l)
      | none => none
      else none
    | _, _, _ => none
def leavesA (ks : List Nat) : Nat → List Nat
  | 0 => []
  | n + 1 => ks ++ leavesA ks n
def leavesT (P : Program) : Nat → TypeId → Option (List Nat)
  | 0, _ => none
  | d + 1, t => match P.underlying t with
    | some (.int _) => some [0]
    | some .string => some [1]
    | some .bool => some [2]
    | some (.struct fs) => if P.stoodInHeld t then none else leavesF P (leavesT P d) fs.toList 0
    | some (.array n e) => match leavesT P d e, P.info? e, aggT P e with
      | some ks, some i, some _ => if i.size = ks.length then some (leavesA ks n) else none
      | _, _, _ => none
    | _ => none
/-- A struct or an array of plain cells, that may be compared. -/
def eqT (P : Program) (t : TypeId) : Option (List Nat) := match leavesT P 8 t with
  | some ks => if P.eqGuardType P.depth t then none else some ks
  | none => none

def isNilConst : Operand → Bool
  | .const (.slice none 0 0) | .const (.pointer none) | .const .nilFunc => true
  | _ => false

def trOp (P : Program) (o : Oper) : Option SOp :=
  match o.op with
  | .move x => some (.mov (trOpd x))
  | .assign x => some (.mov (trOpd x))
  | .pick c a b => some (.pick (trOpd c) (trOpd a) (trOpd b))
  | .binOp op t x y _ => match P.underlying t, op with
    | some (.int _), op => some (.bini op (trOpd x) (trOpd y))
    | some .string, op => some (.bins op (trOpd x) (trOpd y))
    | some .bool, .eql => some (.binb false (trOpd x) (trOpd y))
    | some .bool, .neq => some (.binb true (trOpd x) (trOpd y))
    | some (.slice _), .eql => match y with
      | .const (.slice none 0 0) => some (.binn 0 false (trOpd x))
      | _ => none
    | some (.slice _), .neq => match y with
      | .const (.slice none 0 0) => some (.binn 0 true (trOpd x))
      | _ => none
    | some (.pointer _), .eql => match y with
      | .const (.pointer none) => some (.binn 1 false (trOpd x))
      | _ => none
    | some (.pointer _), .neq => match y with
      | .const (.pointer none) => some (.binn 1 true (trOpd x))
      | _ => none
    | some (.func ..), .eql => match y with
      | .const .nilFunc => some (.binn 2 false (trOpd x))
      | _ => none
    | some (.func ..), .neq => match y with
      | .const .nilFunc => some (.binn 2 true (trOpd x))
      | _ => none
    | some (.struct _), .eql => (eqT P t).map fun ks => .binst false ks (trOpd x) (trOpd y)
    | some (.struct _), .neq => (eqT P t).map fun ks => .binst true ks (trOpd x) (trOpd y)
    | some (.array ..), .eql => (eqT P t).map fun ks => .binst false ks (trOpd x) (trOpd y)
    | some (.array ..), .neq => (eqT P t).map fun ks => .binst true ks (trOpd x) (trOpd y)
    | _, _ => none
  | .unOp .not _ x => some (.not (trOpd x))
  | .convert s d x => match P.underlying s, P.underlying d with
    | some (.int _), some (.int k) => some (.conv k (trOpd x))
    | _, _ => none
  | .index t x i => match P.underlying t with
    | some .string => some (.idxs (trOpd x) (trOpd i))
    | some (.array n e) => match sizeT P e, aggT P e with
      | some size, some agg => some (.idxa n size agg (trOpd x) (trOpd i))
      | _, _ => none
    | _ => none
  | .fieldAddr t x f => match P.underlying t with
    | some (.struct fs) => match fs[f]? with
      | some fd => match sizeT P fd.type with
        | some (_ + 1) => some (.fadr fd.offset (trOpd x))
        | _ => none
      | none => none
    | _ => none
  | .field t x f => match P.underlying t with
    | some (.struct fs) => match fs[f]? with
      | some fd => match sizeT P fd.type, aggT P fd.type with
        | some size, some agg => some (.fld fd.offset size agg (trOpd x))
        | _, _ => none
      | none => none
    | _ => none
  | .indexAddr t x i => match P.underlying t with
    | some (.slice e) => match sizeT P e with
      | some size => some (.iadr size (trOpd x) (trOpd i))
      | none => none
    | some (.array n e) => match sizeT P e with
      | some size => some (.iadra n size (trOpd x) (trOpd i))
      | none => none
    | _ => none
  | .load t x => match sizeT P t, aggT P t with
    | some size, some agg => if 0 < size then some (.load agg size (trOpd x)) else none
    | _, _ => none
  | .nilCheck x => some (.nck (trOpd x))
  | .extract x i => some (.ext i (trOpd x))
  | .makeFunc f first caps => some (.mkf f (first.toList.map trOpd) (caps.toList.map trOpd))
  | .slice t x lo hi mx => match P.underlying t with
    | some .string => match mx with
      | none => some (.slcs (trOpd x) (lo.map trOpd) (hi.map trOpd))
      | some _ => none
    | some (.slice e) => match sizeT P e, hi, mx with
      | some _, none, some _ => none
      | some size, _, _ => some (.slc size (trOpd x) (lo.map trOpd) (hi.map trOpd) (mx.map trOpd))
      | none, _, _ => none
    | _ => none
  | .build t parts => match zeroT P t, P.underlying t with
    | some z, some (.struct fs) => match fs.toList.mapM (fun f => (P.info? f.type).map fun i => (f.offset, i.size)) with
      | some places => match parts.toList.mapM (fun (i, x) => (places[i]?).map fun (o, s) => (o, s, trOpd x)) with
        | some ps => some (.build (z.map SV.v) ps)
        | none => none
      | none => none
    | some z, some (.array _ e) => match sizeT P e with
      | some size => some (.build (z.map SV.v) (parts.toList.map fun (i, x) => (i * size, size, trOpd x)))
      | none => none
    | _, _ => none
  | .store t x y => match sizeT P t with
    | some size => some (.store size (trOpd x) (trOpd y))
    | none => none
  | .alloc t => match zeroT P t with
    | some z => some (.alloc t (z.map SV.v))
    | none => none
  | .box t x => some (.box t (trOpd x))
  | .buildSlice t len parts => match P.underlying t with
    | some (.slice e) => match sizeT P e, zeroT P e with
      | some size, some z => if len * size ≤ 2 ^ 24 ∧ 0 < size ∧ z.length = size then some (.bsl e size len ((List.replicate len (z.map SV.v)).flatten) (parts.toList.map fun (i, x) => (i * size, size, trOpd x))) else none
      | _, _ => none
    | _ => none
  | .makeSlice t l c => match P.underlying t with
    | some (.slice e) => match P.info? e, zeroT P e with
      | some i, some z => if 0 < i.size ∧ z.length = i.size then some (.msl e i.size i.bytes z (trOpd l) (trOpd c)) else none
      | _, _ => none
    | _ => none
  | .call c => match c.callee with
    | .builtin .len => match c.args.toList, c.argTypes.toList with
      | [x], [t] => match P.underlying t with
        | some .string => some (.len true (trOpd x))
        | some (.slice _) => some (.len false (trOpd x))
        | _ => none
      | _, _ => none
    | .builtin .append => match c.args.toList, c.argTypes.toList with
      | [s, x], [t, t'] => match P.underlying t with
        | some (.slice e) => match P.info? e with
          | some i => if t = t' ∧ 0 < i.size ∧ (i.zero.any fun z => z.cells.size == i.size) then some (.app e i.size i.bytes (trOpd s) (trOpd x)) else none
          | none => none
        | _ => none
      | _, _ => none
    | .value (.func f) => match P.funcs[f]? with
      | some fn => if fn.body.isSome && fn.name != "runtime.NumGoroutine" then some (.call f (c.args.toList.map trOpd)) else none
      | none => none
    | .value g => some (.callv (trOpd g) (c.args.toList.map trOpd))
    | _ => none
  | _ => none

/-! ### Reading operands -/
def findBlk (id : Nat) : List Res → Option (Nat × TypeId × List SV)
  | [] => none
  | .blk k b ty cells :: r => match Nat.beq k id with
    | true => some (b, ty, cells)
    | false => findBlk id r
  | _ :: r => findBlk id r
def findRow (id : Nat) : List Res → Option (Option Addr × Nat × Nat × TypeId × Nat × List Value)
  | [] => none
  | .row k oa n cap ety size cs :: r => match Nat.beq k id with
    | true => some (oa, n, cap, ety, size, cs)
    | false => findRow id r
  | _ :: r => findRow id r

def findLp (id : Nat) : List Res → Option (Nat × Loop × LpS)
  | [] => none
  | .lp k l r j :: rs => match Nat.beq k id with
    | true => some (l, r, j)
    | false => findLp id rs
  | _ :: r => findLp id r

theorem findBlk_split {id : Nat} {rs : List Res} {b : Nat} {ty : TypeId} {cells : List SV} (h : findBlk id rs = some (b, ty, cells)) :
    ∃ l1 l2, rs = l1 ++ .blk id b ty cells :: l2 := by
  induction rs with
  | nil => simp [findBlk] at h
  | cons r rs ih =>
    have go : findBlk id rs = some (b, ty, cells) → ∃ l1 l2, r :: rs = l1 ++ .blk id b ty cells :: l2 := fun h' => by
      obtain ⟨l1, l2, e⟩ := ih h'
      exact ⟨r :: l1, l2, by simp [e]⟩
    cases r with
    | blk k b' ty' cells' =>
      simp only [findBlk] at h
      cases hk : Nat.beq k id with
      | true => rw [hk] at h; simp at h; obtain ⟨rfl, rfl, rfl⟩ := h; obtain rfl := Nat.eq_of_beq_eq_true hk; exact ⟨[], rs, rfl⟩
      | false => rw [hk] at h; exact go h
    | row _ _ _ _ _ _ _ => exact go h
    | lp _ _ _ _ => exact go h
    | mk _ => exact go h

theorem findRow_split {id : Nat} {rs : List Res} {oa : Option Addr} {n cap : Nat} {ety : TypeId} {size : Nat} {cs : List Value} (h : findRow id rs = some (oa, n, cap, ety, size, cs)) :
    ∃ l1 l2, rs = l1 ++ .row id oa n cap ety size cs :: l2 := by
  induction rs with
  | nil => simp [findRow] at h
  | cons r rs ih =>
    have go : findRow id rs = some (oa, n, cap, ety, size, cs) → ∃ l1 l2, r :: rs = l1 ++ .row id oa n cap ety size cs :: l2 := fun h' => by
      obtain ⟨l1, l2, e⟩ := ih h'
      exact ⟨r :: l1, l2, by simp [e]⟩
    cases r with
    | row k oa' n' cap' ety' size' cs' =>
      simp only [findRow] at h
      cases hk : Nat.beq k id with
      | true => rw [hk] at h; simp at h; obtain ⟨rfl, rfl, rfl, rfl, rfl, rfl⟩ := h; obtain rfl := Nat.eq_of_beq_eq_true hk; exact ⟨[], rs, rfl⟩
      | false => rw [hk] at h; exact go h
    | blk _ _ _ _ => exact go h
    | lp _ _ _ _ => exact go h
    | mk _ => exact go h

/-- What is no more the call's own is a plain value. -/
def norm (rs : List Res) (x : SV) : SV := match x with
  | .row id oa n cap => match findRow id rs with
    | some _ => .row id oa n cap
    | none => .v (.slice oa n cap)
  | .p id b o => match findBlk id rs with
    | some _ => .p id b o
    | none => .v (.pointer (some ⟨b, o, none⟩))
  | .sl id b o n c => match findBlk id rs with
    | some _ => .sl id b o n c
    | none => .v (.slice (some ⟨b, o, none⟩) n c)
  | x => x
theorem conc_norm (rs : List Res) (x : SV) : conc (norm rs x) = conc x := by
  cases x <;> simp only [norm] <;> first | rfl | (split <;> rfl)

def force (x : SV) (k : SV → Prop) : Prop := match x with
  | .v y => k (.v y)
  | .b x => k (.b x)
  | .p i b o => k (.p i b o)
  | .sl i b o n c => k (.sl i b o n c)
  | .row i a n c => k (.row i a n c)
  | .re i a n c j => k (.re i a n c j)
  | .fn f a c => k (.fn f a c)
  | .yl i l => k (.yl i l)
  | .agg l => k (.agg l)
  | .tup l => k (.tup l)
theorem force_eq (x : SV) (k : SV → Prop) : force x k = k x := by cases x <;> rfl
def Opd.k (rs : List Res) (sl : Sl) (x : Opd) (k : SV → Prop) : Prop := match x with
  | .t n => match getS sl n with
    | some s => force (norm rs s) k
    | none => False
  | .c v => k (.v v)
  | .b x => k (.b x)

def SlotSim (sl : Sl) (a : Act) : Prop := ∀ n x, getS sl n = some x → a.tmps[n]? = some (conc x)

theorem eval_tmp {a : Act} {n : Nat} {v : Value} (h : a.tmps[n]? = some v) : a.eval (.tmp n) = v := by
  simp [Act.eval, Array.getD_eq_getD_getElem?, h]

theorem Opd.k_spec {rs : List Res} {sl : Sl} {a : Act} {o : Operand} {k : SV → Prop} (h : (trOpd o).k rs sl k) (hs : SlotSim sl a) : ∃ s, k s ∧ a.eval o = conc s := by
  cases o with
  | tmp n =>
    simp only [trOpd, Opd.k, force_eq] at h
    split at h
    · rename_i s he; exact ⟨_, h, by rw [conc_norm]; exact eval_tmp (hs n s he)⟩
    · exact h.elim
  | const v =>
    simp only [trOpd] at h
    split at h
    · exact ⟨_, h, rfl⟩
    · exact ⟨_, h, rfl⟩
  | global g => exact ⟨_, h, rfl⟩
  | func f => exact ⟨_, h, rfl⟩

def Opd.ks (rs : List Res) (sl : Sl) : List Opd → (List SV → Prop) → Prop
  | [], k => k []
  | x :: r, k => x.k rs sl fun s => Opd.ks rs sl r fun l => k (s :: l)
theorem Opd.ks_spec {rs : List Res} {sl : Sl} {a : Act} (hs : SlotSim sl a) : ∀ (l : List Operand) {k : List SV → Prop}, Opd.ks rs sl (l.map trOpd) k → ∃ s, k s ∧ l.map a.eval = concL s
  | [], _, h => ⟨[], h, rfl⟩
  | o :: r, k, h => by
    obtain ⟨s, h1, e1⟩ := Opd.k_spec (k := fun s => Opd.ks rs sl (r.map trOpd) fun l => k (s :: l)) h hs
    obtain ⟨l, h2, e2⟩ := Opd.ks_spec hs r h1
    exact ⟨s :: l, h2, by simp [concL, e1, e2]⟩

/-! ### Operations that only read -/
def kEq : IntKind → IntKind → Bool
  | .i8, .i8 | .i16, .i16 | .i32, .i32 | .i64, .i64 | .u8, .u8 | .u16, .u16 | .u32, .u32 | .u64, .u64 => true
  | _, _ => false
theorem kEq_spec {k k' : IntKind} (h : kEq k k' = true) : k = k' := by cases k <;> cases k' <;> first | rfl | (simp [kEq] at h)

def bitsI (op : BinOp) (k : IntKind) (x y : Int) : Int :=
  let a := BitVec.ofInt k.bits x
  let b := BitVec.ofInt k.bits y
  match op with
  | .and => k.wrap (a &&& b).toNat
  | .or => k.wrap (a ||| b).toNat
  | .xor => k.wrap (a ^^^ b).toNat
  | _ => k.wrap (a &&& ~~~b).toNat

def biniS (op : BinOp) (x y : SV) (K : SV → Prop) : Prop := match x, y with
  | .v (.int k a), .v (.int k' b) => match op with
    | .shl => 0 ≤ b ∧ K (.v (.int k (k.wrap (a * 2 ^ (min b.toNat k.bits)))))
    | .shr => 0 ≤ b ∧ K (.v (.int k (a.fdiv (2 ^ (min b.toNat k.bits)))))
    | op => match kEq k k' with
      | false => False
      | true => match op with
        | .add => K (.v (.int k (k.wrap (a + b))))
        | .sub => K (.v (.int k (k.wrap (a - b))))
        | .mul => K (.v (.int k (k.wrap (a * b))))
        | .quo => b ≠ 0 ∧ K (.v (.int k (k.wrap (a.tdiv b))))
        | .rem => b ≠ 0 ∧ K (.v (.int k (a.tmod b)))
        | .and => K (.v (.int k (bitsI .and k a b)))
        | .or => K (.v (.int k (bitsI .or k a b)))
        | .xor => K (.v (.int k (bitsI .xor k a b)))
        | .andNot => K (.v (.int k (bitsI .andNot k a b)))
        | .eql => K (.v (.bool (a == b)))
        | .neq => K (.v (.bool (a != b)))
        | .lss => K (.v (.bool (decide (a < b))))
        | .leq => K (.v (.bool (decide (a ≤ b))))
        | .gtr => K (.v (.bool (decide (b < a))))
        | .geq => K (.v (.bool (decide (b ≤ a))))
        | _ => False
  | _, _ => False

theorem biniS_all {op : BinOp} {x y : SV} {K : SV → Prop} (h : biniS op x y K) :
    ∃ s, K s ∧ ∀ (P : Program) (t : TypeId) (w : World), (binOp op t (conc x) (conc y)).run P w = .ok (conc s) w ∧ ∀ X Y, (eqGuard op t X Y (conc x) (conc y)).run P w = .ok () w := by
  unfold biniS at h
  split at h
  · rename_i k a k' b
    have hg : ∀ (P : Program) (t : TypeId) (w : World) X Y, (eqGuard op t X Y (conc (.v (.int k a))) (conc (.v (.int k' b)))).run P w = .ok () w := fun P t w X Y => by
      simp only [eqGuard, conc]; split <;> rfl
    split at h
    · obtain ⟨h1, h2⟩ := h
      exact ⟨_, h2, fun P t w => ⟨by simp [binOp, conc, Op.shift, show ¬ b < 0 by omega, pure], hg P t w⟩⟩
    · obtain ⟨h1, h2⟩ := h
      exact ⟨_, h2, fun P t w => ⟨by simp [binOp, conc, Op.shift, show ¬ b < 0 by omega, pure], hg P t w⟩⟩
    · rename_i hnl hnr
      split at h
      · exact h.elim
      · rename_i hk
        obtain rfl := kEq_spec hk
        split at h <;> first
          | exact h.elim
          | (obtain ⟨h1, h2⟩ := h; exact ⟨_, h2, fun P t w => ⟨by simp [binOp, conc, Op.intDiv, h1, pure], hg P t w⟩⟩)
          | exact ⟨_, h, fun P t w => ⟨by simp [binOp, conc, Op.intArith, Op.intBits, Op.intCmp, bitsI, pure], hg P t w⟩⟩
  · exact h.elim

def binsS (op : BinOp) (x y : SV) (K : SV → Prop) : Prop := match x, y with
  | .v (.string a), .v (.string b) => match op with
    | .add => a.size + b.size ≤ 9223372036854775807 ∧ K (.v (.string (a ++ b)))
    | .eql => K (.v (.bool (a.data.toList == b.data.toList)))
    | .neq => K (.v (.bool (!(a.data.toList == b.data.toList))))
    | _ => False
  | _, _ => False
theorem binsS_all {op : BinOp} {x y : SV} {K : SV → Prop} (h : binsS op x y K) :
    ∃ s, K s ∧ ∀ (P : Program) (t : TypeId) (w : World), (binOp op t (conc x) (conc y)).run P w = .ok (conc s) w ∧ ∀ X Y, (eqGuard op t X Y (conc x) (conc y)).run P w = .ok () w := by
  unfold binsS at h
  split at h
  · rename_i a b
    have hg : ∀ (P : Program) (t : TypeId) (w : World) X Y, (eqGuard op t X Y (conc (.v (.string a))) (conc (.v (.string b)))).run P w = .ok () w := fun P t w X Y => by
      simp only [eqGuard, conc]; split <;> rfl
    split at h
    · obtain ⟨h1, h2⟩ := h
      refine ⟨_, h2, fun P t w => ⟨?_, hg P t w⟩⟩
      have h3 : ¬ (((a.size + b.size : Nat) : Int) > IntKind.i64.max) := by show ¬ (_ > (9223372036854775807 : Int)); omega
      simp only [binOp, conc, Op.stringOp]
      rw [if_neg h3]; rfl
    · exact ⟨_, h, fun P t w => ⟨by simp [binOp, conc, Op.stringOp, ByteArray.toList_eq, pure], hg P t w⟩⟩
    · exact ⟨_, h, fun P t w => ⟨by simp [binOp, conc, Op.stringOp, ByteArray.toList_eq, pure], hg P t w⟩⟩
    · exact h.elim
  · exact h.elim

def boolOf : SV → Option Bool
  | .b x => some x
  | .v (.bool x) => some x
  | _ => none
theorem boolOf_spec {x : SV} {b : Bool} (h : boolOf x = some b) : conc x = .bool b := by
  unfold boolOf at h
  split at h <;> simp at h <;> subst h <;> rfl

def isNil (kind : Nat) (x : SV) : Option Bool := match kind with
  | 0 => match x with
    | .v (.slice oa _ _) => some oa.isNone
    | .sl .. => some false
    | .row _ oa _ _ => some oa.isNone
    | _ => none
  | 1 => match x with
    | .v (.pointer p) => some p.isNone
    | .p .. => some false
    | _ => none
  | _ => match x with
    | .v .nilFunc => some true
    | .v (.func ..) => some false
    | .fn .. => some false
    | .yl .. => some false
    | _ => none
def nilV : Nat → Value
  | 0 => .slice none 0 0
  | 1 => .pointer none
  | _ => .nilFunc
def nilT (kind : Nat) (d : TypeDesc) : Prop := match kind with
  | 0 => ∃ e, d = .slice e
  | 1 => ∃ e, d = .pointer e
  | _ => ∃ p q r, d = .func p q r
theorem isNil_eq {kind : Nat} {x : SV} {b : Bool} (h : isNil kind x = some b) {P : Program} {t : TypeId} {d : TypeDesc} (hu : P.underlying t = some d) (hd : nilT kind d) (w : World) (n : Nat) :
    (Op.equalIn (n + 1) t (conc x) (nilV kind)).run P w = .ok b w := by
  unfold isNil at h
  split at h
  · obtain ⟨e, rfl⟩ := hd
    split at h
    · rename_i oa _ c
      simp at h; subst h
      cases oa <;> simp [conc, nilV, Op.equalIn, run_underlying hu]
    · simp at h; subst h
      simp [conc, nilV, Op.equalIn, run_underlying hu]
    · rename_i id oa _ c
      simp at h; subst h
      cases oa <;> simp [conc, nilV, Op.equalIn, run_underlying hu]
    · cases h
  · obtain ⟨e, rfl⟩ := hd
    split at h
    · rename_i oa
      simp at h; subst h
      cases oa <;> simp [conc, nilV, Op.equalIn, run_underlying hu]
    · simp at h; subst h
      simp [conc, nilV, Op.equalIn, run_underlying hu]
    · cases h
  · rename_i k h0 h1
    have hk : nilV kind = .nilFunc := by unfold nilV; split <;> simp_all
    have hd' : ∃ p q r, d = .func p q r := by unfold nilT at hd; split at hd <;> simp_all
    obtain ⟨p, q, r, rfl⟩ := hd'
    rw [hk]
    split at h
    · simp at h; subst h
      simp [conc, Op.equalIn, run_underlying hu]
    · simp at h; subst h
      simp [conc, Op.equalIn, run_underlying hu]
    · simp at h; subst h
      simp [conc, Op.equalIn, run_underlying hu]
    · simp at h; subst h
      simp [conc, Op.equalIn, run_underlying hu]
    · cases h
theorem isNil_shape {kind : Nat} {x : SV} {b : Bool} (h : isNil kind x = some b) : (∃ oa n c, conc x = .slice oa n c) ∨ (∃ p, conc x = .pointer p ∧ nilV kind = .pointer none) ∨ conc x = .nilFunc ∨ ∃ f a c, conc x = .func f a c := by
  unfold isNil at h
  split at h
  · split at h <;> simp_all [conc]
  · split at h <;> simp_all [conc, nilV]
  · split at h <;> simp_all [conc]
theorem isNil_spec {kind : Nat} {x : SV} {b : Bool} (h : isNil kind x = some b) {P : Program} {t : TypeId} {d : TypeDesc} (hu : P.underlying t = some d) (hd : nilT kind d) (w : World) (X Y : Operand) :
    (do eqGuard .eql t X Y (conc x) (nilV kind); binOp .eql t (conc x) (nilV kind) : Sem Value).run P w = .ok (.bool b) w ∧
    (do eqGuard .neq t X Y (conc x) (nilV kind); binOp .neq t (conc x) (nilV kind) : Sem Value).run P w = .ok (.bool (!b)) w := by
  have key : (Op.equal t (conc x) (nilV kind)).run P w = .ok b w := isNil_eq h hu hd w 9999
  rcases isNil_shape h with ⟨oa, n, c, e⟩ | ⟨p, e, e2⟩ | e | ⟨f, a, c, e⟩
  · rw [e] at key ⊢; simp [eqGuard, binOp, key]
  · rw [e, e2] at key ⊢; simp [eqGuard, binOp, key]
  · rw [e] at key ⊢; simp [eqGuard, binOp, key]
  · rw [e] at key ⊢; simp [eqGuard, binOp, key]

/-- n cells from place o on. -/
def takeL {α : Type} : List α → Nat → Option (List α)
  | _, 0 => some []
  | [], _ + 1 => none
  | x :: r, n + 1 => match takeL r n with
    | some l => some (x :: l)
    | none => none
def cutL {α : Type} : List α → Nat → Nat → Option (List α)
  | l, 0, n => takeL l n
  | [], _ + 1, _ => none
  | _ :: r, o + 1, n => cutL r o n
def nthL {α : Type} : List α → Nat → Option α
  | [], _ => none
  | x :: _, 0 => some x
  | _ :: r, n + 1 => nthL r n
theorem nthL_eq {α : Type} : ∀ (l : List α) (n : Nat), nthL l n = l[n]?
  | [], _ => by simp [nthL]
  | x :: _, 0 => by simp [nthL]
  | _ :: r, n + 1 => by simp [nthL, nthL_eq r n]
theorem takeL_spec {α : Type} : ∀ {l : List α} {n : Nat} {r : List α}, takeL l n = some r → n ≤ l.length ∧ l.take n = r
  | _, 0, _, h => by simp [takeL] at h; simp [h]
  | [], n + 1, _, h => by simp [takeL] at h
  | x :: l, n + 1, _, h => by
    simp only [takeL] at h
    split at h
    · rename_i r' he
      simp at h; subst h
      obtain ⟨h1, h2⟩ := takeL_spec he
      exact ⟨by simp; omega, by simp [h2]⟩
    · cases h
theorem cutL_spec {α : Type} : ∀ {l : List α} {o n : Nat} {r : List α}, cutL l o n = some r → o + n ≤ l.length ∧ (l.drop o).take n = r
  | l, 0, n, r, h => by obtain ⟨h1, h2⟩ := takeL_spec (show takeL l n = some r by cases l <;> exact h); exact ⟨by omega, by simpa using h2⟩
  | [], o + 1, _, _, h => by simp [cutL] at h
  | _ :: l, o + 1, n, r, h => by
    obtain ⟨h1, h2⟩ := cutL_spec (show cutL l o n = some r from h)
    exact ⟨by simp; omega, by simpa using h2⟩
theorem concL_take (l : List SV) (n : Nat) : concL (l.take n) = (concL l).take n := by simp [concL_eq]
theorem concL_drop (l : List SV) (n : Nat) : concL (l.drop n) = (concL l).drop n := by simp [concL_eq]
theorem concL_length (l : List SV) : (concL l).length = l.length := by simp [concL_eq]
theorem concL_append (l r : List SV) : concL (l ++ r) = concL l ++ concL r := by simp [concL_eq]
theorem concL_getElem? (l : List SV) (n : Nat) : (concL l)[n]? = (l[n]?).map conc := by simp [concL_eq]

/-- A part of an aggregate. -/
def partS (agg : Bool) (off size : Nat) (x : SV) (K : SV → Prop) : Prop := match x with
  | .agg l => match agg with
    | true => match cutL l off size with
      | some r => K (.agg r)
      | none => False
    | false => match nthL l off with
      | some s => K s
      | none => False
  | .v (.agg ⟨l⟩) => match agg with
    | true => match cutL l off size with
      | some r => K (.v (.agg ⟨r⟩))
      | none => False
    | false => match nthL l off with
      | some s => K (.v s)
      | none => False
  | _ => False
theorem extract_toArray {α : Type} (l : List α) (o n : Nat) : (l.toArray).extract o (o + n) = ((l.drop o).take n).toArray := by
  simp [List.extract_toArray]
theorem partS_all {agg : Bool} {off size : Nat} {x : SV} {K : SV → Prop} (h : partS agg off size x K) {P : Program} {t : TypeId} (hs : sizeT P t = some size) (ha : aggT P t = some agg) :
    ∃ s, K s ∧ ∀ w, ∃ cs, conc x = .agg cs ∧ (part t cs off).run P w = .ok (conc s) w := by
  have hsz : ∀ w, (sizeOf t).run P w = .ok size w := fun w => by
    simp only [sizeT, Option.map_eq_some_iff] at hs
    obtain ⟨i, hi, rfl⟩ := hs
    simp [sizeOf, typeInfo, Sem.run_bind, hi, Result.andThen]
  have hag : ∀ w, (isAgg t).run P w = .ok agg w := fun w => by
    unfold aggT at ha
    simp only [isAgg, underlying, Sem.run_bind, run_program, Result.andThen]
    split at ha <;> rename_i hu <;> simp at ha <;> subst ha <;> simp [hu]
  have key : ∀ (l : List Value) (v : Value), (match agg with | true => v = .agg ((l.drop off).take size).toArray | false => l[off]? = some v) → ∀ w, (part t l.toArray off).run P w = .ok v w := by
    intro l v hv w
    simp only [part, Sem.run_bind, hag, Result.andThen]
    cases agg with
    | true =>
      simp only [if_true, Sem.run_bind, hsz, Result.andThen]
      rw [extract_toArray]
      simp at hv; subst hv; rfl
    | false =>
      simp at hv
      simp [hv]
  unfold partS at h
  split at h
  · rename_i l
    cases agg with
    | true =>
      simp only at h
      split at h
      · rename_i r hr
        obtain ⟨h1, h2⟩ := cutL_spec hr
        exact ⟨_, h, fun w => ⟨_, rfl, key _ _ (by simp [conc, ← h2, concL_take, concL_drop]) w⟩⟩
      · exact h.elim
    | false =>
      simp only at h
      split at h
      · rename_i s hr
        rw [nthL_eq] at hr
        exact ⟨_, h, fun w => ⟨_, rfl, key _ _ (by simp [concL_getElem?, hr]) w⟩⟩
      · exact h.elim
  · rename_i l
    cases agg with
    | true =>
      simp only at h
      split at h
      · rename_i r hr
        obtain ⟨h1, h2⟩ := cutL_spec hr
        exact ⟨_, h, fun w => ⟨_, rfl, key l _ (by simp [conc, ← h2]) w⟩⟩
      · exact h.elim
    | false =>
      simp only at h
      split at h
      · rename_i s hr
        rw [nthL_eq] at hr
        exact ⟨_, h, fun w => ⟨_, rfl, key l _ (by simp [conc, hr]) w⟩⟩
      · exact h.elim
  · exact h.elim

end Go.Proofs.Ytedjbhpocedagaa.Sx
