/- A symbolic evaluator over the model's code, part 6: stores, new memory, append, calls. -/
import Derived.Test.YtedjbhpocedagaaSx5b
namespace Go.Proofs.Ytedjbhpocedagaa.Sx
open Go.RowKit

def withNx (n : Nat) (k : Nat → Nat → Prop) : Prop := match n with
  | 0 => k 0 1
  | 1 => k 1 2
  | 2 => k 2 3
  | 3 => k 3 4
  | 4 => k 4 5
  | 5 => k 5 6
  | 6 => k 6 7
  | 7 => k 7 8
  | 8 => k 8 9
  | 9 => k 9 10
  | 10 => k 10 11
  | 11 => k 11 12
  | 12 => k 12 13
  | 13 => k 13 14
  | 14 => k 14 15
  | 15 => k 15 16
  | 16 => k 16 17
  | 17 => k 17 18
  | 18 => k 18 19
  | 19 => k 19 20
  | 20 => k 20 21
  | 21 => k 21 22
  | 22 => k 22 23
  | 23 => k 23 24
  | 24 => k 24 25
  | 25 => k 25 26
  | 26 => k 26 27
  | 27 => k 27 28
  | 28 => k 28 29
  | 29 => k 29 30
  | 30 => k 30 31
  | 31 => k 31 32
  | 32 => k 32 33
  | 33 => k 33 34
  | 34 => k 34 35
  | 35 => k 35 36
  | 36 => k 36 37
  | 37 => k 37 38
  | 38 => k 38 39
  | 39 => k 39 40
  | 40 => k 40 41
  | 41 => k 41 42
  | 42 => k 42 43
  | 43 => k 43 44
  | 44 => k 44 45
  | 45 => k 45 46
  | 46 => k 46 47
  | 47 => k 47 48
  | 48 => k 48 49
  | 49 => k 49 50
  | 50 => k 50 51
  | 51 => k 51 52
  | 52 => k 52 53
  | 53 => k 53 54
  | 54 => k 54 55
  | 55 => k 55 56
  | 56 => k 56 57
  | 57 => k 57 58
  | 58 => k 58 59
  | 59 => k 59 60
  | 60 => k 60 61
  | 61 => k 61 62
  | 62 => k 62 63
  | 63 => k 63 64
  | 64 => k 64 65
  | 65 => k 65 66
  | 66 => k 66 67
  | 67 => k 67 68
  | 68 => k 68 69
  | 69 => k 69 70
  | 70 => k 70 71
  | 71 => k 71 72
  | 72 => k 72 73
  | 73 => k 73 74
  | 74 => k 74 75
  | 75 => k 75 76
  | 76 => k 76 77
  | 77 => k 77 78
  | 78 => k 78 79
  | 79 => k 79 80
  | n => k n (n + 1)
theorem withNx_spec {n : Nat} {k : Nat → Nat → Prop} (h : withNx n k) : ∃ i j, k i j := by
  unfold withNx at h
  split at h <;> exact ⟨_, _, h⟩
def storeS (size : Nat) (x y : SV) (hs : Hs) (K : SV → Hs → Prop) : Prop := match hs with
  | ⟨hg, hr, hn, hl⟩ => match x with
  | .p id b o => match findBlk id hr with
    | some (b', _, cells) => b = b' ∧ ocS (cellsS y) (match Nat.beq (cellsS y).length size with
      | true => match putL cells o (cellsS y) with
        | some cells' => updK id cells' hr fun rs' => K (.v undef) ⟨hg, rs', hn, hl⟩
        | none => False
      | false => False)
    | none => False
  | .re id oa n cap j => match findRow id hr with
    | some (oa', n', cap', ety, sz, cs) => (oa = oa' ∧ n = n' ∧ cap = cap') ∧ ocS (cellsS y) (match Nat.beq (cellsS y).length size with
      | true => (j + size ≤ cs.length ∧ 0 < size) ∧ concLK (cellsS y) fun vs => updR id (some (.row id oa n cap ety sz (cs.take j ++ vs ++ cs.drop (j + size)))) hr fun rs' => K (.v undef) ⟨hg, rs', hn, hl⟩
      | false => False)
    | none => False
  | .v (.pointer (some a)) => ∃ (b j : Nat) (cs : List Value) (ty : TypeId), (a = ⟨b, j, none⟩ ∧ hl ≤ b ∧ hg.g b ∧ hg.w.heap[b]? = some (.cells ⟨cs⟩ ty (0, 0)) ∧ j + size ≤ cs.length) ∧ ocS (cellsS y) (match Nat.beq (cellsS y).length size with
      | true => concLK (cellsS y) fun vs => ∀ g', Upd hg b (.cells ⟨cs.take j ++ vs ++ cs.drop (j + size)⟩ ty (0, 0)) g' → K (.v undef) ⟨g', hr, hn, hl⟩
      | false => False)
  | _ => False
theorem storeS_eq (size : Nat) (x y : SV) (hs : Hs) (K : SV → Hs → Prop) : storeS size  x y  hs  K  = (match x with
  | .p id b o => match findBlk id hs.rs with
    | some (b', _, cells) => b = b' ∧ ocS (cellsS y) (match Nat.beq (cellsS y).length size with
      | true => match putL cells o (cellsS y) with
        | some cells' => updK id cells' hs.rs fun rs' => K (.v undef) ⟨hs.g, rs', hs.nx, hs.lo⟩
        | none => False
      | false => False)
    | none => False
  | .re id oa n cap j => match findRow id hs.rs with
    | some (oa', n', cap', ety, sz, cs) => (oa = oa' ∧ n = n' ∧ cap = cap') ∧ ocS (cellsS y) (match Nat.beq (cellsS y).length size with
      | true => (j + size ≤ cs.length ∧ 0 < size) ∧ concLK (cellsS y) fun vs => updR id (some (.row id oa n cap ety sz (cs.take j ++ vs ++ cs.drop (j + size)))) hs.rs fun rs' => K (.v undef) ⟨hs.g, rs', hs.nx, hs.lo⟩
      | false => False)
    | none => False
  | .v (.pointer (some a)) => ∃ (b j : Nat) (cs : List Value) (ty : TypeId), (a = ⟨b, j, none⟩ ∧ hs.lo ≤ b ∧ hs.g.g b ∧ hs.g.w.heap[b]? = some (.cells ⟨cs⟩ ty (0, 0)) ∧ j + size ≤ cs.length) ∧ ocS (cellsS y) (match Nat.beq (cellsS y).length size with
      | true => concLK (cellsS y) fun vs => ∀ g', Upd hs.g b (.cells ⟨cs.take j ++ vs ++ cs.drop (j + size)⟩ ty (0, 0)) g' → K (.v undef) ⟨g', hs.rs, hs.nx, hs.lo⟩
      | false => False)
  | _ => False) := by
  cases hs; rfl
def allocS (ty : TypeId) (zero : List SV) (hs : Hs) (K : SV → Hs → Prop) : Prop := match hs with
  | ⟨hg, hr, hn, hl⟩ => ocS zero (withNx hn fun i j => ∀ b, K (.p i b 0) ⟨hg, .blk i b ty zero :: hr, j, hl⟩)
theorem allocS_eq (ty : TypeId) (zero : List SV) (hs : Hs) (K : SV → Hs → Prop) : allocS ty  zero  hs  K  = (ocS zero (withNx hs.nx fun i j => ∀ b, K (.p i b 0) ⟨hs.g, .blk i b ty zero :: hs.rs, j, hs.lo⟩)) := by
  cases hs; rfl
def boxS (ty : TypeId) (x : SV) (hs : Hs) (K : SV → Hs → Prop) : Prop := match hs with
  | ⟨hg, hr, hn, hl⟩ => normL (cellsS x) fun cs => ocS cs (withNx hn fun i j => ∀ b, K (.p i b 0) ⟨hg, .blk i b ty cs :: hr, j, hl⟩)
theorem boxS_eq (ty : TypeId) (x : SV) (hs : Hs) (K : SV → Hs → Prop) : boxS ty  x  hs  K  = (normL (cellsS x) fun cs => ocS cs (withNx hs.nx fun i j => ∀ b, K (.p i b 0) ⟨hs.g, .blk i b ty cs :: hs.rs, j, hs.lo⟩)) := by
  cases hs; rfl
def bslS (ety : TypeId) (len : Nat) (cells : List SV) (hs : Hs) (K : SV → Hs → Prop) : Prop := match hs with
  | ⟨hg, hr, hn, hl⟩ => ocS cells (withNx hn fun i j => ∀ b, K (.sl i b 0 len len) ⟨hg, .blk i b ety cells :: hr, j, hl⟩)
theorem bslS_eq (ety : TypeId) (len : Nat) (cells : List SV) (hs : Hs) (K : SV → Hs → Prop) : bslS ety  len  cells  hs  K  = (ocS cells (withNx hs.nx fun i j => ∀ b, K (.sl i b 0 len len) ⟨hs.g, .blk i b ety cells :: hs.rs, j, hs.lo⟩)) := by
  cases hs; rfl
def mslS (ety : TypeId) (size bytes : Nat) (zero : List Value) (l c : SV) (hs : Hs) (K : SV → Hs → Prop) : Prop := match hs with
  | ⟨hg, hr, hn, hl⟩ => match l, c with
  | .v (.int .i64 l), .v (.int .i64 c) => (0 ≤ l ∧ l ≤ c ∧ bytes * c ≤ 281474976710656 ∧ c ≤ 9223372036854775807) ∧
    withNx hn fun i j => ∀ b, K (.row i (some ⟨b, 0, none⟩) l.toNat c.toNat) ⟨hg, .row i (some ⟨b, 0, none⟩) l.toNat c.toNat ety size ((List.replicate l.toNat zero).flatten) :: hr, j, hl⟩
  | _, _ => False
theorem mslS_eq (ety : TypeId) (size bytes : Nat) (zero : List Value) (l c : SV) (hs : Hs) (K : SV → Hs → Prop) : mslS ety  size bytes  zero  l c  hs  K  = (match l, c with
  | .v (.int .i64 l), .v (.int .i64 c) => (0 ≤ l ∧ l ≤ c ∧ bytes * c ≤ 281474976710656 ∧ c ≤ 9223372036854775807) ∧
    withNx hs.nx fun i j => ∀ b, K (.row i (some ⟨b, 0, none⟩) l.toNat c.toNat) ⟨hs.g, .row i (some ⟨b, 0, none⟩) l.toNat c.toNat ety size ((List.replicate l.toNat zero).flatten) :: hs.rs, j, hs.lo⟩
  | _, _ => False) := by
  cases hs; rfl
/-- What is appended: its number of elements, its cells. -/
def srcS (size : Nat) (x : SV) (hs : Hs) (K : Nat → List Value → Prop) : Prop := match x with
  | .sl id b o m _ => match findBlk id hs.rs with
    | some (b', _, cells) => (b = b' ∧ o = 0) ∧ match Nat.beq cells.length (m * size) with
      | true => concLK cells fun vs => K m vs
      | false => False
    | none => False
  | .v (.slice oa m cap) => ∃ vs, (RdSl hs.g size (.slice oa m cap) m vs ∧ ∀ u ∈ vs, u.oneCell' = true) ∧ K m vs
  | _ => False
/-- An own block that is a slice whole becomes a row. -/
def swapB (id : Nat) (new : Res) : List Res → (List Res → Prop) → Prop
  | [], _ => False
  | .blk j b ty cells :: r, k => match Nat.beq j id with
    | true => k (new :: r)
    | false => swapB id new r fun r' => k (.blk j b ty cells :: r')
  | x :: r, k => swapB id new r fun r' => k (x :: r')
def asRow (ety : TypeId) (size : Nat) (s : SV) (hs : Hs) (K : SV → Hs → Prop) : Prop := match hs with
  | ⟨hg, hr, hn, hl⟩ => match s with
  | .sl id b o n cap => match findBlk id hr with
    | some (b', ty', cells) => (b = b' ∧ o = 0 ∧ n = cap ∧ ty' = ety ∧ cap ≤ maxLen) ∧ match Nat.beq cells.length (n * size) with
      | true => concLK cells fun cs => swapB id (.row id (some ⟨b, 0, none⟩) n cap ety size cs) hr fun rs1 => K (.row id (some ⟨b, 0, none⟩) n cap) ⟨hg, rs1, hn, hl⟩
      | false => False
    | none => False
  | s => K s hs
theorem asRow_eq (ety : TypeId) (size : Nat) (s : SV) (hs : Hs) (K : SV → Hs → Prop) : asRow ety  size  s  hs  K  = (match s with
  | .sl id b o n cap => match findBlk id hs.rs with
    | some (b', ty', cells) => (b = b' ∧ o = 0 ∧ n = cap ∧ ty' = ety ∧ cap ≤ maxLen) ∧ match Nat.beq cells.length (n * size) with
      | true => concLK cells fun cs => swapB id (.row id (some ⟨b, 0, none⟩) n cap ety size cs) hs.rs fun rs1 => K (.row id (some ⟨b, 0, none⟩) n cap) ⟨hs.g, rs1, hs.nx, hs.lo⟩
      | false => False
    | none => False
  | s => K s hs) := by
  cases hs; rfl
def appS0 (ety : TypeId) (size bytes : Nat) (s x : SV) (hs : Hs) (K : SV → Hs → Prop) : Prop := match hs with
  | ⟨hg, hr, hn, hl⟩ => srcS size x hs fun m vs => match s with
  | .v (.slice none 0 0) => (m ≤ maxLen ∧ m * bytes ≤ 140737488355328) ∧ withNx hn fun i j => ∀ oa cap, K (.row i oa m cap) ⟨hg, .row i oa m cap ety size vs :: hr, j, hl⟩
  | .row id oa n cap => match findRow id hr with
    | some (oa', n', cap', ety', size', cs) => (oa = oa' ∧ n = n' ∧ cap = cap' ∧ ety' = ety ∧ size' = size) ∧ (n + m ≤ maxLen ∧ (n + m) * bytes ≤ 140737488355328) ∧
      withNx hn fun i j => ∀ oa2 cap2, updR id (some (.row i oa2 (n + m) cap2 ety size (cs ++ vs))) hr fun rs' => K (.row i oa2 (n + m) cap2) ⟨hg, rs', j, hl⟩
    | none => False
  | .v (.slice oa n cap) => (∃ cs, (RdSl hg size (.slice oa n cap) n cs ∧ ∀ u ∈ cs, u.oneCell' = true) ∧ (m = 0 → K (.v (.slice oa n cap)) hs) ∧
    (0 < m → (cap < n + m ∧ n + m ≤ maxLen ∧ (n + m) * bytes ≤ 140737488355328) ∧ withNx hn fun i j => ∀ oa2 cap2, K (.row i oa2 (n + m) cap2) ⟨hg, .row i oa2 (n + m) cap2 ety size (cs ++ vs) :: hr, j, hl⟩)) ∨
    ∃ (b : Nat) (cs rest : List Value), (oa = some ⟨b, 0, none⟩ ∧ hl ≤ b ∧ hg.g b ∧ hg.w.heap[b]? = some (.cells ⟨cs ++ rest⟩ ety (0, 0)) ∧ cs.length = n * size ∧ (∀ u ∈ cs, u.oneCell' = true) ∧ n ≤ cap ∧ cap ≤ maxLen ∧ (cs ++ rest).length = cap * size ∧
      n + m ≤ maxLen ∧ (n + m) * bytes ≤ 140737488355328) ∧ ∀ g', Less hg b g' → withNx hn fun i j => ∀ oa2 cap2, K (.row i oa2 (n + m) cap2) ⟨g', .row i oa2 (n + m) cap2 ety size (cs ++ vs) :: hr, j, hl⟩
  | _ => False
theorem appS0_eq (ety : TypeId) (size bytes : Nat) (s x : SV) (hs : Hs) (K : SV → Hs → Prop) : appS0 ety  size bytes  s x  hs  K  = (srcS size x hs fun m vs => match s with
  | .v (.slice none 0 0) => (m ≤ maxLen ∧ m * bytes ≤ 140737488355328) ∧ withNx hs.nx fun i j => ∀ oa cap, K (.row i oa m cap) ⟨hs.g, .row i oa m cap ety size vs :: hs.rs, j, hs.lo⟩
  | .row id oa n cap => match findRow id hs.rs with
    | some (oa', n', cap', ety', size', cs) => (oa = oa' ∧ n = n' ∧ cap = cap' ∧ ety' = ety ∧ size' = size) ∧ (n + m ≤ maxLen ∧ (n + m) * bytes ≤ 140737488355328) ∧
      withNx hs.nx fun i j => ∀ oa2 cap2, updR id (some (.row i oa2 (n + m) cap2 ety size (cs ++ vs))) hs.rs fun rs' => K (.row i oa2 (n + m) cap2) ⟨hs.g, rs', j, hs.lo⟩
    | none => False
  | .v (.slice oa n cap) => (∃ cs, (RdSl hs.g size (.slice oa n cap) n cs ∧ ∀ u ∈ cs, u.oneCell' = true) ∧ (m = 0 → K (.v (.slice oa n cap)) hs) ∧
    (0 < m → (cap < n + m ∧ n + m ≤ maxLen ∧ (n + m) * bytes ≤ 140737488355328) ∧ withNx hs.nx fun i j => ∀ oa2 cap2, K (.row i oa2 (n + m) cap2) ⟨hs.g, .row i oa2 (n + m) cap2 ety size (cs ++ vs) :: hs.rs, j, hs.lo⟩)) ∨
    ∃ (b : Nat) (cs rest : List Value), (oa = some ⟨b, 0, none⟩ ∧ hs.lo ≤ b ∧ hs.g.g b ∧ hs.g.w.heap[b]? = some (.cells ⟨cs ++ rest⟩ ety (0, 0)) ∧ cs.length = n * size ∧ (∀ u ∈ cs, u.oneCell' = true) ∧ n ≤ cap ∧ cap ≤ maxLen ∧ (cs ++ rest).length = cap * size ∧
      n + m ≤ maxLen ∧ (n + m) * bytes ≤ 140737488355328) ∧ ∀ g', Less hs.g b g' → withNx hs.nx fun i j => ∀ oa2 cap2, K (.row i oa2 (n + m) cap2) ⟨g', .row i oa2 (n + m) cap2 ety size (cs ++ vs) :: hs.rs, j, hs.lo⟩
  | _ => False) := by
  cases hs; rfl
def appS (ety : TypeId) (size bytes : Nat) (s x : SV) (hs : Hs) (K : SV → Hs → Prop) : Prop := pubD x hs fun hs => pubD s hs fun hs => asRow ety size s hs fun s' hs' => appS0 ety size bytes s' x hs' K
/-- A store into memory that is told by values: own slices are given away first. -/
def stoS (size : Nat) (x y : SV) (hs : Hs) (K : SV → Hs → Prop) : Prop := match x with
  | .p id b o => storeS size (.p id b o) y hs K
  | x => pubL (cellsS y) hs fun hs => storeS size x y hs K
def callvS (P : Program) (H : Handler) (Y : Yield) (f : SV) (args : List SV) (hs : Hs) (K : SV → Hs → Prop) : Prop := match f with
  | .fn (.func k) first caps => FnOk P k ∧ H Y k (first ++ args ++ caps) hs K
  | .v (.func (.func k) ⟨first⟩ ⟨caps⟩) => FnOk P k ∧ H Y k (first.map .v ++ args ++ caps.map .v) hs K
  | .yl id l => match findLp id hs.rs with
    | some (l', _, _) => l = l' ∧ Y id args hs K
    | none => False
  | _ => False

def chS (P : Program) (H : Handler) (Y : Yield) (o : SOp) (sl : Sl) (hs : Hs) (K : SV → Hs → Prop) : Prop := match o with
  | .store size x y => x.k hs.rs sl fun x => y.k hs.rs sl fun y => stoS size x y hs K
  | .alloc ty zero => allocS ty zero hs K
  | .box ty x => x.k hs.rs sl fun x => boxS ty x hs K
  | .bsl ety _ len zero parts => fillS hs.rs sl zero parts fun cells => bslS ety len cells hs K
  | .app ety size bytes s x => s.k hs.rs sl fun s => x.k hs.rs sl fun x => appS ety size bytes s x hs K
  | .msl ety size bytes zero l c => l.k hs.rs sl fun l => c.k hs.rs sl fun c => mslS ety size bytes zero l c hs K
  | .call f args => Opd.ks hs.rs sl args fun args => H Y f args hs K
  | .callv f args => f.k hs.rs sl fun f => Opd.ks hs.rs sl args fun args => callvS P H Y f args hs K
  | _ => False

/-! ### Stores -/
theorem storeCells_run {P : Program} {b : Nat} {ty : TypeId} : ∀ (vs : List Value) (i : Nat) (o : Nat) (w : World) (cs : List Value), w.heap[b]? = some (.cells ⟨cs⟩ ty (0, 0)) → o + i + vs.length ≤ cs.length → (∀ v ∈ vs, v.oneCell' = true) →
    ∃ w', (storeCells ⟨b, o, none⟩ vs i).run P w = .ok () w' ∧ w'.heap[b]? = some (.cells ⟨cs.take (o + i) ++ vs ++ cs.drop (o + i + vs.length)⟩ ty (0, 0)) ∧
      w'.heap.size = w.heap.size ∧ (∀ k, k ≠ b → w'.heap[k]? = w.heap[k]?) ∧ w'.os = w.os ∧ w'.tape = w.tape ∧ w'.output = w.output
  | [], i, o, w, cs, hb, hl, h1 => ⟨w, by simp [storeCells], by simpa using hb, rfl, fun _ _ => rfl, rfl, rfl, rfl⟩
  | v :: vs, i, o, w, cs, hb, hl, h1 => by
    have hlt : o + i < cs.length := by simp at hl; omega
    have hcell : w.cell? ⟨b, o + i, none⟩ = some cs[o + i] := by rw [cell_of_heap hb]; simp [hlt]
    have hfr : w.frozen? ⟨b, o + i, none⟩ = false := by simp [World.frozen?, hb]
    have hset : (w.setCell ⟨b, o + i, none⟩ v).heap[b]? = some (.cells ⟨cs.set (o + i) v⟩ ty (0, 0)) := by
      rw [heap_setCell_same w b (o + i) ⟨cs⟩ ty v hb]; simp
    obtain ⟨w', hr, hb', hs', ho', h4, h5, h6⟩ := storeCells_run (P := P) vs (i + 1) o (w.setCell ⟨b, o + i, none⟩ v) (cs.set (o + i) v) hset (by simp at hl ⊢; omega) (fun u hu => h1 u (List.mem_cons_of_mem _ hu))
    refine ⟨w', ?_, ?_, ?_, ?_, ?_, ?_, ?_⟩
    · have hst : (store ⟨b, o + i, none⟩ v).run P w = .ok () (w.setCell ⟨b, o + i, none⟩ v) := by
        rw [run_store P w _ v _ (h1 v (List.mem_cons_self ..)), hcell]
        simp [hfr]
      simp only [storeCells, addr_add, Sem.run_bind, hst, Result.andThen]; exact hr
    · rw [hb']
      congr 2
      simp only [List.take_set, List.length_cons, List.drop_set_of_lt (show o + i < o + (i + 1) + vs.length by omega), Array.mk.injEq]
      rw [← Nat.add_assoc o i 1, List.take_succ_eq_append_getElem hlt, List.set_append_right _ _ (by simp; omega)]
      simp [List.length_take, Nat.min_eq_left (Nat.le_of_lt hlt), Nat.add_assoc, Nat.add_comm 1]
    · rw [hs']; simp [World.setCell]
    · intro k hk; rw [ho' k hk]; exact heap_setCell_other w _ k v hk
    · rw [h4]; rfl
    · rw [h5]; rfl
    · rw [h6]; rfl

theorem take_splice {α : Type} (l ys : List α) (j m : Nat) (h : j + ys.length ≤ m) (hm : m ≤ l.length) :
    (l.take j ++ ys ++ l.drop (j + ys.length)).take m = (l.take m).take j ++ ys ++ (l.take m).drop (j + ys.length) := by
  have h1 : (l.take j).length = j := by simp; omega
  have h2 : (l.take j ++ ys).length = j + ys.length := by simp; omega
  rw [List.take_append, List.take_of_length_le (by omega), h2, List.take_take, Nat.min_eq_left (by omega), List.drop_take]

theorem run_storeVar {P : Program} {t : TypeId} {size : Nat} (hs : sizeT P t = some size) {w w' : World} {a : Addr} {v : Value} (hl : v.cells.size = size) (h : (storeCells a v.cells.toList).run P w = .ok () w') :
    (Instr.storeAt t (.pointer (some a)) v).run P w = .ok () w' := by
  simp [Instr.storeAt, Instr.sureAddr, storeVar, run_sizeT hs, hl, h]

theorem storeS_spec {size : Nat} {x y : SV} {hs : Hs} {K : SV → Hs → Prop} (h : storeS size x y hs K) {P : Program} {t : TypeId} (hsz : sizeT P t = some size) {fr : Fr} {w : World} (hw : HSim fr hs w) :
    ∃ w' hs', (Instr.storeAt t (conc x) (conc y)).run P w = .ok () w' ∧ HSim fr hs' w' ∧ K (.v undef) hs' := by
  rw [storeS_eq] at h
  split at h
  · rename_i id b o
    split at h
    · rename_i b' ty cells hf
      obtain ⟨rfl, h⟩ := h
      obtain ⟨h, hoc⟩ := ocS_spec h
      split at h
      · rename_i hlen
        have hlen := Nat.eq_of_beq_eq_true hlen
        split at h
        · rename_i cells' hput
          obtain ⟨h1, h2⟩ := putL_spec hput
          obtain ⟨l1, l2, hrs, hk⟩ := updK_spec h hf
          obtain ⟨hb, hb1⟩ := hw.blk_cell hf
          have hy : ∀ v ∈ (conc y).cells.toList, v.oneCell' = true := fun v hv => by
            rw [← cellsS_spec, concL_eq] at hv
            obtain ⟨c, hc, rfl⟩ := List.mem_map.1 hv
            exact hoc c hc
          have hly : (conc y).cells.size = size := by rw [← cellsS_length]; exact hlen
          obtain ⟨w', hr, hb', hs', ho', h4, h5, h6⟩ := storeCells_run (P := P) (conc y).cells.toList 0 o w (concL cells) hb (by simp [concL_length, hly]; omega) hy
          refine ⟨w', _, run_storeVar hsz hly hr, ?_, hk⟩
          refine hw.upd hrs h4 h5 h6 (by omega) (fun k _ hkb => ho' k (by simpa [Res.bk] using hkb)) ⟨?_, fun c hc => ?_⟩ (fun b hb => .inl (by simpa [Res.bk] using hb)) (by simp [Res.bk])
          · rw [hb', h2]
            congr 2
            simp [concL_append, concL_take, concL_drop, cellsS_spec, cellsS_length]
          · rw [h2] at hc
            rcases List.mem_append.1 hc with hc | hc
            · rcases List.mem_append.1 hc with hc | hc
              · exact hb1 c (List.mem_of_mem_take hc)
              · exact hoc c hc
            · exact hb1 c (List.mem_of_mem_drop hc)
        · exact h.elim
      · exact h.elim
    · exact h.elim
  · rename_i id oa n cap j
    split at h
    · rename_i oa' n' cap' ety sz cs hf
      obtain ⟨⟨rfl, rfl, rfl⟩, h⟩ := h
      obtain ⟨h, hoc⟩ := ocS_spec h
      split at h
      · rename_i hlen
        have hlen := Nat.eq_of_beq_eq_true hlen
        obtain ⟨⟨hle, hpos⟩, h⟩ := h
        have h := concLK_spec _ h
        obtain ⟨l1, l2, hrs, hk⟩ := updR_spec h hf
        obtain ⟨⟨g1, g2⟩, hb1⟩ := hw.row_own hf
        have hy : ∀ v ∈ (conc y).cells.toList, v.oneCell' = true := fun v hv => by
          rw [← cellsS_spec, concL_eq] at hv
          obtain ⟨c, hc, rfl⟩ := List.mem_map.1 hv
          exact hoc c hc
        have hly : (conc y).cells.size = size := by rw [← cellsS_length]; exact hlen
        rcases g2 with ⟨he, rfl⟩ | ⟨g, cap', cur, he, hg0, hh, hnc, hcm, hcs, htk⟩
        · simp at g1; subst g1; simp at hle; omega
        · simp only [Value.slice.injEq] at he
          obtain ⟨rfl, _, rfl⟩ := he
          have hcl : cs.length ≤ cur.size := by
            rw [← htk, List.length_take]; simp; omega
          obtain ⟨w', hr, hb', hs', ho', h4, h5, h6⟩ := storeCells_run (P := P) (conc y).cells.toList 0 j w cur.toList hh (by simp [hly]; omega) hy
          refine ⟨w', _, ?_, ?_, hk⟩
          · simp only [conc, Option.map_some, addr_add, Nat.zero_add]
            exact run_storeVar hsz hly hr
          · have hcells : (concL (cellsS y)).length = size := by rw [concL_length]; exact hlen
            have hcsl : cs.length = n * sz := g1
            refine hw.upd (r1 := .row id (some ⟨g, 0, none⟩) n cap ety sz (cs.take j ++ concL (cellsS y) ++ cs.drop (j + size))) hrs h4 h5 h6 (by omega) (fun k _ hkb => ho' k (by simpa [Res.bk] using hkb)) ⟨⟨?_, .inr ⟨g, cap, _, rfl, hg0, hb', hnc, hcm, ?_, ?_⟩⟩, fun c hc => ?_⟩ (fun b hb => .inl (by simpa [Res.bk] using hb)) (by simp [Res.bk])
            · simp [hcells]; omega
            · simp [hly]; rw [← hcs]; omega
            · rw [← htk, cellsS_spec]
              have hln : (conc y).cells.toList.length = size := by simpa using hly
              have := take_splice cur.toList (conc y).cells.toList j (n * sz) (by rw [hln, ← hcsl]; exact hle) (by have := Nat.mul_le_mul_right sz hnc; simp; omega)
              rw [hln] at this
              simpa [hln] using this
            · rcases List.mem_append.1 hc with hc | hc
              · rcases List.mem_append.1 hc with hc | hc
                · exact hb1 c (List.mem_of_mem_take hc)
                · rw [concL_eq] at hc
                  obtain ⟨c', hc', rfl⟩ := List.mem_map.1 hc
                  exact hoc c' hc'
              · exact hb1 c (List.mem_of_mem_drop hc)
      · exact h.elim
    · exact h.elim
  · rename_i a
    obtain ⟨b, j, cs, ty, ⟨rfl, hlo, hg, hb, hle⟩, h⟩ := h
    obtain ⟨h, hoc⟩ := ocS_spec h
    split at h
    · rename_i hlen
      have hlen := Nat.eq_of_beq_eq_true hlen
      have h := concLK_spec _ h
      have hy : ∀ v ∈ (conc y).cells.toList, v.oneCell' = true := fun v hv => by
        rw [← cellsS_spec, concL_eq] at hv
        obtain ⟨c, hc, rfl⟩ := List.mem_map.1 hv
        exact hoc c hc
      have hly : (conc y).cells.size = size := by rw [← cellsS_length]; exact hlen
      obtain ⟨w', hr, hb', hs', ho', h4, h5, h6⟩ := storeCells_run (P := P) (conc y).cells.toList 0 j w cs ((hw.good.2 b hg).trans hb) (by simp [hly]; omega) hy
      obtain ⟨g', hu, hsim⟩ := hw.poke (w' := w') hlo hg h4 h5 h6 hs' hb' ho'
      refine ⟨w', _, run_storeVar hsz hly hr, hsim, h g' ?_⟩
      simpa [cellsS_spec, hly] using hu
    · exact h.elim
  · exact h.elim

/-! ### New memory -/
theorem newBlk {fr : Fr} {hs : Hs} {w : World} (hw : HSim fr hs w) (id nx : Nat) (ty : TypeId) (cells : List SV) (h1 : ∀ c ∈ cells, (conc c).oneCell' = true) :
    HSim fr ⟨hs.g, .blk id w.heap.size ty cells :: hs.rs, nx, hs.lo⟩ (w.alloc (.cells (concL cells).toArray ty)) :=
  hw.newRes (Below.of_alloc w _) (r := .blk id w.heap.size ty cells) ⟨World.alloc_heap_new w _, h1⟩ (fun b hb => by simp [Res.bk] at hb; omega) (by simp [Res.bk])

theorem allocS_spec {ty : TypeId} {z : List Value} {hs : Hs} {K : SV → Hs → Prop} (h : allocS ty (z.map SV.v) hs K) {P : Program} (hz : zeroT P ty = some z) {fr : Fr} {w : World} (hw : HSim fr hs w) :
    ∃ w' s hs', (Instr.alloc ty true (.tuple #[])).run P w = .ok (conc s) w' ∧ Below w.heap.size w w' ∧ HSim fr hs' w' ∧ K s hs' := by
  rw [allocS_eq] at h
  obtain ⟨h, h1⟩ := ocS_spec h
  obtain ⟨i, j, h⟩ := withNx_spec h
  obtain ⟨v, hv, hvz, _⟩ := zeroT_spec hz w
  refine ⟨_, _, _, ?_, Below.of_alloc w _, newBlk hw i j ty _ h1, h w.heap.size⟩
  have : (concL (z.map SV.v)).toArray = v.cells := by apply Array.ext'; simp [concL_eq, Function.comp_def, conc, hvz]
  rw [this]
  simp [Instr.alloc, hv, newVar, newRow, conc]

theorem boxS_spec {ty : TypeId} {x : SV} {hs : Hs} {K : SV → Hs → Prop} (h : boxS ty x hs K) {P : Program} {fr : Fr} {w : World} (hw : HSim fr hs w) :
    ∃ w' s hs', (Instr.box ty (conc x)).run P w = .ok (conc s) w' ∧ Below w.heap.size w w' ∧ HSim fr hs' w' ∧ K s hs' := by
  rw [boxS_eq] at h
  obtain ⟨h, h1⟩ := ocS_spec (normL_spec _ h)
  obtain ⟨i, j, h⟩ := withNx_spec h
  refine ⟨_, _, _, ?_, Below.of_alloc w _, newBlk hw i j ty _ h1, h w.heap.size⟩
  have : (concL (cellsS x)).toArray = (conc x).cells := by apply Array.ext'; simp [cellsS_spec]
  rw [this]
  simp [Instr.box, newVar, newRow, conc]

theorem range_flatten (z : List Value) (n : Nat) : ((Array.range (n * z.length)).map (fun i => z.toArray[i % z.toArray.size]!)).toList = (List.replicate n z).flatten := by
  apply List.ext_getElem?
  intro i
  by_cases hz : z.length = 0
  · have : z = [] := List.eq_nil_of_length_eq_zero hz
    subst this
    simp
  · have hpos : 0 < z.length := Nat.pos_of_ne_zero hz
    have key : ∀ (n i : Nat), ((List.replicate n z).flatten)[i]? = if i < n * z.length then z[i % z.length]? else none := by
      intro n
      induction n with
      | zero => intro i; simp
      | succ n ih =>
        intro i
        rw [List.replicate_succ, List.flatten_cons, List.getElem?_append]
        split
        · rename_i h
          rw [if_pos (by rw [Nat.succ_mul]; omega), Nat.mod_eq_of_lt h]
        · rename_i h
          rw [ih, Nat.succ_mul]
          by_cases h2 : i < n * z.length + z.length
          · rw [if_pos h2, if_pos (by omega), show (i - z.length) % z.length = i % z.length from (Nat.mod_eq_sub_mod (by omega)).symm]
          · rw [if_neg h2, if_neg (by omega)]
    rw [key]
    simp only [Array.toList_map, Array.toList_range, List.getElem?_map]
    split
    · rename_i h
      rw [List.getElem?_range h]
      have hm := Nat.mod_lt i hpos
      simp [hm]
    · rename_i h
      rw [List.getElem?_eq_none (by simpa using h)]; rfl

theorem bslS_spec {P : Program} {t e : TypeId} {size len : Nat} {z : List Value} {cells : List SV} {hs : Hs} {K : SV → Hs → Prop} (h : bslS e len cells hs K) (hu : P.underlying t = some (.slice e)) (hsz : sizeT P e = some size)
    (hz : zeroT P e = some z) (hzl : z.length = size) (hpos : 0 < size) (hle : len * size ≤ 2 ^ 24) {parts : Array (Nat × Value)}
    (hf : Instr.fill (fun i => some (i * size, size)) ((List.replicate len z).flatten).toArray parts.toList = some (concL cells).toArray) {fr : Fr} {w : World} (hw : HSim fr hs w) :
    ∃ w' s hs', (Instr.buildSlice t len parts).run P w = .ok (conc s) w' ∧ Below w.heap.size w w' ∧ HSim fr hs' w' ∧ K s hs' := by
  rw [bslS_eq] at h
  obtain ⟨h, h1⟩ := ocS_spec h
  obtain ⟨i, j, h⟩ := withNx_spec h
  obtain ⟨v, hv, hvz, _⟩ := zeroT_spec hz w
  refine ⟨_, _, _, ?_, Below.of_alloc w _, newBlk hw i j e _ h1, h w.heap.size⟩
  have hva : v.cells = z.toArray := by apply Array.ext'; simpa using hvz
  have hrow : (Array.range (len * size)).map (fun i => v.cells[i % v.cells.size]!) = ((List.replicate len z).flatten).toArray := by
    apply Array.ext'
    rw [hva, ← hzl, range_flatten]
  have hlen0 : len * size = 0 → len = 0 := fun h0 => by
    rcases Nat.mul_eq_zero.1 h0 with h0 | h0
    · exact h0
    · omega
  by_cases h0 : len * size = 0
  · have := hlen0 h0
    subst this
    simp at hf
    simp [Instr.buildSlice, run_underlying hu, run_sizeT hsz, newRow, conc, Array.range_zero', hf]
  · simp [Instr.buildSlice, run_underlying hu, run_sizeT hsz, newRow, conc, hv, hrow, hf, Nat.not_lt.2 hle]
    exact fun h => absurd h h0

theorem mslS_spec {P : Program} {t e : TypeId} {i : TypeInfo} {z : List Value} {l c : SV} {hs : Hs} {K : SV → Hs → Prop} (h : mslS e i.size i.bytes z l c hs K) (hu : P.underlying t = some (.slice e)) (hi : P.info? e = some i)
    (hz : zeroT P e = some z) (hzl : z.length = i.size) {fr : Fr} {w : World} (hw : HSim fr hs w) :
    ∃ w' s hs', (Instr.makeSlice t (conc l) (conc c)).run P w = .ok (conc s) w' ∧ Below w.heap.size w w' ∧ HSim fr hs' w' ∧ K s hs' := by
  rw [mslS_eq] at h
  split at h
  · rename_i l c
    obtain ⟨⟨h0, h1, h2, h3⟩, h⟩ := h
    obtain ⟨id1, id2, h⟩ := withNx_spec h
    obtain ⟨v, hv, hvz, hone⟩ := zeroT_spec hz w
    have hva : v.cells = z.toArray := by apply Array.ext'; simpa using hvz
    have hzero : i.zero = some v := by
      have := hv
      simp only [zeroValue, typeInfo, Sem.run_bind, run_program, hi, Result.andThen, Sem.run_pure] at this
      cases hh : i.zero with
      | none => simp [hh] at this
      | some v' => simp [hh] at this; rw [this]
    obtain ⟨l, rfl⟩ := Int.eq_ofNat_of_zero_le h0
    obtain ⟨c, rfl⟩ := Int.eq_ofNat_of_zero_le (Int.le_trans h0 h1)
    have hr := run_make (P := P) w t e i v hu hi hzero .i64 .i64 l c h0 h1 (by simpa using h2) (by simpa using h3)
    simp only [Int.toNat_natCast] at hr
    refine ⟨_, _, _, by simp only [conc, Int.toNat_natCast]; exact hr, Below.of_alloc w _, ?_, h w.heap.size⟩
    have hm : (madeCells v.cells (c * i.size)).toList = (List.replicate c z).flatten := by
      unfold madeCells; rw [hva, ← hzl]; exact range_flatten z c
    have hfl : ∀ n, ((List.replicate n z).flatten).length = n * z.length := fun n => by simp
    refine hw.newRes (Below.of_alloc w _) (r := .row id1 (some ⟨w.heap.size, 0, none⟩) l c e i.size _) ⟨⟨?_, .inr ⟨w.heap.size, c, _, rfl, Nat.zero_le _, World.alloc_heap_new w _, by omega, ?_, ?_, ?_⟩⟩, fun u hu => ?_⟩ (fun b hb => by simp [Res.bk] at hb; omega) (by simp [Res.bk])
    · simp [hzl]
    · simp only [maxLen]; omega
    · rw [← Array.length_toList, hm, hfl, hzl]
    · rw [hm, ← hzl]
      have hlc : l ≤ c := by omega
      obtain ⟨d, rfl⟩ := Nat.exists_eq_add_of_le hlc
      rw [← List.replicate_append_replicate, List.flatten_append, List.take_append_of_le_length (by rw [hfl]; exact Nat.le_refl _), List.take_of_length_le (by rw [hfl]; exact Nat.le_refl _)]
      simp
    · simp only [Int.toNat_natCast] at hu
      obtain ⟨x, hx, hux⟩ := List.mem_flatten.1 hu
      obtain ⟨_, rfl⟩ := List.mem_replicate.1 hx
      exact hone u hux
  · exact h.elim

/-! ### append -/
theorem run_append_nilsrc {P : Program} {t e ty : TypeId} {i : TypeInfo} (hu : P.underlying t = some (.slice e)) (hi : P.info? e = some i) (oa : Option Addr) (n cap cap2 : Nat) (hn : n ≤ cap) (w : World) :
    (Builtin.append_ #[t, t] ty #[.slice oa n cap, .slice none 0 cap2]).run P w = .ok (.slice oa n cap) w := by
  simp [Builtin.append_, run_underlying hu, sizeOf, typeInfo, hi, Builtin.lenOf, Builtin.firstCells, hn]
  cases oa <;> simp [storeCells]

/-- What a source is good for. -/
theorem srcS_spec {size : Nat} {x : SV} {hs : Hs} {K : Nat → List Value → Prop} (h : srcS size x hs K) {fr : Fr} {w : World} (hw : HSim fr hs w) :
    ∃ m vs, K m vs ∧ vs.length = m * size ∧ (∀ u ∈ vs, u.oneCell' = true) ∧
      ((∃ a c, conc x = .slice (some a) m c ∧ ∀ j u, vs[j]? = some u → w.cell? (a.add j) = some u) ∨ (∃ c, conc x = .slice none m c ∧ m = 0)) := by
  unfold srcS at h
  split at h
  · rename_i id b o m c
    split at h
    · rename_i b' ty cells hf
      obtain ⟨⟨rfl, rfl⟩, h⟩ := h
      split at h
      · rename_i hlen
        have hlen := Nat.eq_of_beq_eq_true hlen
        have h := concLK_spec _ h
        obtain ⟨hb, h1⟩ := hw.blk_cell hf
        refine ⟨m, _, h, by rw [concL_length]; exact hlen, fun u hu => ?_, .inl ⟨_, _, rfl, fun j u hu => ?_⟩⟩
        · rw [concL_eq] at hu
          obtain ⟨c, hc, rfl⟩ := List.mem_map.1 hu
          exact h1 c hc
        · rw [addr_add, cell_of_heap hb]; simpa using hu
      · exact h.elim
    · exact h.elim
  · rename_i oa m cap
    obtain ⟨vs, ⟨⟨hl, oa', cap', he, _, _, hnil, hc⟩, h1⟩, h⟩ := h
    simp only [Value.slice.injEq, true_and] at he
    obtain ⟨rfl, rfl⟩ := he
    refine ⟨m, vs, h, hl, h1, ?_⟩
    cases oa with
    | none => exact .inr ⟨_, rfl, (hnil rfl).1⟩
    | some a => exact .inl ⟨_, _, rfl, fun j u hu => by obtain ⟨a', ha, hr⟩ := hc j u hu; cases ha; exact hr.at hw.good⟩
  · exact h.elim


/-- append makes a new row. -/
theorem append_grown {e : TypeId} {i : TypeInfo} {z : Value} (hzs : z.cells.size = i.size) {w : World} {xs news : List Value} {n m cap : Nat} (hl : (xs ++ news).length = (n + m) * i.size) (h63 : n + m ≤ maxLen) :
    (w.drew.alloc (.cells (xs.toArray ++ news.toArray ++ Builtin.zeroCells z.cells (grownCap w (n + m) cap e - (n + m))) e)).ownsRow 0 e i.size (.slice (some ⟨w.heap.size, 0, none⟩) (n + m) (grownCap w (n + m) cap e)) (n + m) (xs ++ news) := by
  have hge := grownCap_ge w (n + m) cap e
  refine ⟨hl, .inr ⟨w.heap.size, _, _, rfl, Nat.zero_le _, heap_alloc_new w.drew _, hge, grownCap_le_maxLen w (n + m) cap e h63, ?_, ?_⟩⟩
  · have := hl
    simp only [List.length_append] at this
    simp only [Array.size_append, List.size_toArray, size_zeroCells, hzs]
    rw [this, ← Nat.add_mul]
    congr 1
    omega
  · simp only [Array.toList_append, List.append_assoc]
    rw [← List.append_assoc, ← hl]
    exact List.take_left

theorem below_grown (w : World) (o : Obj) : Below w.heap.size w (w.drew.alloc o) := ((Below.refl _ w).drew).alloc (Nat.le_refl _) o

theorem swapB_spec {id : Nat} {new : Res} : ∀ {rs : List Res} {k : List Res → Prop} {b : Nat} {ty : TypeId} {cells : List SV}, swapB id new rs k → findBlk id rs = some (b, ty, cells) →
    ∃ l1 l2, rs = l1 ++ .blk id b ty cells :: l2 ∧ k (l1 ++ new :: l2)
  | [], k, b, ty, cells, h, hf => h.elim
  | .blk j b' ty' c' :: r, k, b, ty, cells, h, hf => by
    simp only [swapB] at h
    simp only [findBlk] at hf
    cases hj : Nat.beq j id with
    | true =>
      rw [hj] at h hf
      simp at hf
      obtain ⟨rfl, rfl, rfl⟩ := hf
      obtain rfl := Nat.eq_of_beq_eq_true hj
      exact ⟨[], r, rfl, h⟩
    | false =>
      rw [hj] at h hf
      obtain ⟨l1, l2, e, hk⟩ := swapB_spec h hf
      exact ⟨.blk j b' ty' c' :: l1, l2, by simp [e], hk⟩
  | .row a1 a2 a3 a4 a5 a6 a7 :: r, k, b, ty, cells, h, hf => by
    obtain ⟨l1, l2, e, hk⟩ := swapB_spec (k := fun r' => k (.row a1 a2 a3 a4 a5 a6 a7 :: r')) h hf
    exact ⟨_ :: l1, l2, by rw [e]; rfl, hk⟩
  | .lp a1 a2 a3 a4 :: r, k, b, ty, cells, h, hf => by
    obtain ⟨l1, l2, e, hk⟩ := swapB_spec (k := fun r' => k (.lp a1 a2 a3 a4 :: r')) h hf
    exact ⟨_ :: l1, l2, by rw [e]; rfl, hk⟩
  | .mk a1 :: r, k, b, ty, cells, h, hf => by
    obtain ⟨l1, l2, e, hk⟩ := swapB_spec (k := fun r' => k (.mk a1 :: r')) h hf
    exact ⟨_ :: l1, l2, by rw [e]; rfl, hk⟩
theorem asRow_spec {ety : TypeId} {size : Nat} {s : SV} {hs : Hs} {K : SV → Hs → Prop} (h : asRow ety size s hs K) {fr : Fr} {w : World} (hw : HSim fr hs w) : ∃ s' hs', K s' hs' ∧ conc s' = conc s ∧ HSim fr hs' w := by
  rw [asRow_eq] at h
  split at h
  · rename_i id b o n cap
    split at h
    · rename_i b' ty' cells hf
      obtain ⟨⟨rfl, rfl, rfl, rfl, hcm⟩, h⟩ := h
      split at h
      · rename_i hl
        obtain ⟨l1, l2, hrs, hk⟩ := swapB_spec (concLK_spec _ h) hf
        obtain ⟨hb, hone⟩ := hw.blk_cell hf
        have hl' : (concL cells).length = n * size := by rw [concL_length]; exact Nat.eq_of_beq_eq_true hl
        refine ⟨_, _, hk, rfl, hw.upd (r1 := .row id (some ⟨b, 0, none⟩) n n ty' size (concL cells)) (nx := hs.nx) hrs rfl rfl rfl (Nat.le_refl _) (fun _ _ _ => rfl) ⟨⟨hl', .inr ⟨b, n, _, rfl, Nat.zero_le _, hb, Nat.le_refl _, hcm, by simpa using hl', ?_⟩⟩, fun u hu => ?_⟩ (fun c hc => .inl (by simpa [Res.bk] using hc)) (by simp [Res.bk])⟩
        · rw [← hl']; simp
        · rw [concL_eq] at hu
          obtain ⟨c, hc, rfl⟩ := List.mem_map.1 hu
          exact hone c hc
      · exact h.elim
    · exact h.elim
  · exact ⟨_, _, h, rfl, hw⟩

section
variable {P : Program} {t e ty : TypeId} {i : TypeInfo} {z : Value} (hu : P.underlying t = some (.slice e)) (hi : P.info? e = some i) (hz : i.zero = some z) (hzs : z.cells.size = i.size)
include hu hi hz hzs

/-- append to frozen memory that is full, or to nil: a new row. -/
theorem append_new {fr : Fr} {hs : Hs} {w : World} (hw : HSim fr hs w) {oa : Option Addr} {n cap m : Nat} {cs vs : List Value} (x : Value) (hcs : cs.length = n * i.size) (hold : ∀ j u, cs[j]? = some u → ∃ a, oa = some a ∧ w.cell? (a.add j) = some u)
    (h1 : ∀ u ∈ cs ++ vs, u.oneCell' = true) (hl : vs.length = m * i.size) (hx : ∃ a c, x = .slice (some a) m c ∧ ∀ j u, vs[j]? = some u → w.cell? (a.add j) = some u) (hm : 0 < m) (hcap : cap < n + m)
    (hoa : oa = none → n = 0 ∧ cap = 0) (h63 : n + m ≤ maxLen) (hby : (n + m) * i.bytes ≤ 140737488355328) (id nx : Nat) :
    ∃ oa' cap' w', (Builtin.append_ #[t, t] ty #[.slice oa n cap, x]).run P w = .ok (.slice oa' (n + m) cap') w' ∧ HSim fr ⟨hs.g, .row id oa' (n + m) cap' e i.size (cs ++ vs) :: hs.rs, nx, hs.lo⟩ w' := by
  obtain ⟨a, c, rfl, hcell⟩ := hx
  have hlen : (cs ++ vs).length = (n + m) * i.size := by rw [List.length_append, hcs, hl, Nat.add_mul]
  have h63' : n + m ≤ 9223372036854775807 := by simp only [maxLen] at h63; omega
  cases oa with
  | none =>
    obtain ⟨rfl, rfl⟩ := hoa rfl
    have : cs = [] := by simpa using hcs
    subst this
    have hr := run_append_nil (P := P) w t ty e i z hu hi hz a m c vs hl hcell hm (by omega) (by simp only [Nat.zero_add] at hby; omega)
    simp only [Nat.zero_add, List.nil_append] at *
    refine ⟨_, _, _, hr, hw.newRes (below_grown w _) (r := .row id (some ⟨w.heap.size, 0, none⟩) m _ e i.size vs) ⟨?_, h1⟩ (fun b hb => by simp [Res.bk] at hb; omega) (by simp [Res.bk])⟩
    have := append_grown (e := e) hzs (w := w) (xs := []) (news := vs) (n := 0) (m := m) (cap := 0) (by simpa using hlen) (by simpa using h63)
    simpa using this
  | some b =>
    have hr := run_append_grow (P := P) w t ty e i z hu hi hz b n cap cs hcs (fun j u hj => by obtain ⟨a', ha, hc⟩ := hold j u hj; cases ha; exact hc) a m c vs hl hcell hcap (by omega) (growslice_fits hcap hby)
    exact ⟨_, _, _, hr, hw.newRes (below_grown w _) (r := .row id (some ⟨w.heap.size, 0, none⟩) (n + m) _ e i.size (cs ++ vs)) ⟨append_grown hzs hlen h63, h1⟩ (fun b hb => by simp [Res.bk] at hb; omega) (by simp [Res.bk])⟩

theorem appRow {fr : Fr} {hs : Hs} {w : World} {K : SV → Hs → Prop} {x : SV} {id : Nat} {oa : Option Addr} {n cap m : Nat} {ety' : TypeId} {size' : Nat} {cs vs : List Value} (hw : HSim fr hs w) (hety : ety' = e) (hsize : size' = i.size) (hl : vs.length = m * i.size) (h1 : ∀ u ∈ vs, u.oneCell' = true)
    (hsrc : (∃ a c, conc x = .slice (some a) m c ∧ ∀ j u, vs[j]? = some u → w.cell? (a.add j) = some u) ∨ (∃ c, conc x = .slice none m c ∧ m = 0)) (h63 : n + m ≤ maxLen) (hby : (n + m) * i.bytes ≤ 140737488355328)
    (hf : findRow id hs.rs = some (oa, n, cap, ety', size', cs)) {id1 id2 : Nat} (h : ∀ oa2 cap2, updR id (some (.row id1 oa2 (n + m) cap2 ety' size' (cs ++ vs))) hs.rs fun rs' => K (.row id1 oa2 (n + m) cap2) ⟨hs.g, rs', id2, hs.lo⟩) :
    ∃ w' s' hs', (Builtin.append_ #[t, t] ty #[conc (.row id oa n cap), conc x]).run P w = .ok (conc s') w' ∧ HSim fr hs' w' ∧ K s' hs' := by
  subst hety; subst hsize
  have hvs0 : m = 0 → vs = [] := fun h0 => by subst h0; simpa using hl
  obtain ⟨⟨g1, g2⟩, hone⟩ := hw.row_own hf
  have hone' : ∀ u ∈ cs ++ vs, u.oneCell' = true := fun u hu => by
    rcases List.mem_append.1 hu with hu | hu
    · exact hone u hu
    · exact h1 u hu
  have hlen : (cs ++ vs).length = (n + m) * i.size := by rw [List.length_append, g1, hl, Nat.add_mul]
  have fin : ∀ oa2 cap2 w', (Builtin.append_ #[t, t] ty #[.slice oa n cap, conc x]).run P w = .ok (.slice oa2 (n + m) cap2) w' →
      (∀ l1 l2, hs.rs = l1 ++ .row id oa n cap ety' i.size cs :: l2 → HSim fr ⟨hs.g, l1 ++ .row id1 oa2 (n + m) cap2 ety' i.size (cs ++ vs) :: l2, id2, hs.lo⟩ w') →
      ∃ w' s' hs', (Builtin.append_ #[t, t] ty #[conc (.row id oa n cap), conc x]).run P w = .ok (conc s') w' ∧ HSim fr hs' w' ∧ K s' hs' := fun oa2 cap2 w' hr hsim => by
    obtain ⟨l1, l2, hrs, hk⟩ := updR_spec (h oa2 cap2) hf
    exact ⟨w', .row id1 oa2 (n + m) cap2, _, hr, hsim l1 l2 hrs, hk⟩
  by_cases hm : m = 0
  · have hvs := hvs0 hm
    subst hm; subst hvs
    have hnc : n ≤ cap := by
      rcases g2 with ⟨he, rfl⟩ | ⟨g, cap', cur, he, _, _, hnc, _⟩
      · exact Nat.zero_le _
      · simp only [Value.slice.injEq] at he; omega
    refine fin oa cap w ?_ fun l1 l2 hrs => ?_
    · rcases hsrc with ⟨a, c, hc, hcell⟩ | ⟨c, hc, _⟩
      · rw [hc]; simp [Builtin.append_, run_underlying hu, sizeOf, typeInfo, hi, Builtin.lenOf, Builtin.firstCells, loadCells, loadCellsFrom, hnc]
        cases oa <;> simp [storeCells]
      · rw [hc]; simpa using run_append_nilsrc hu hi oa n cap c hnc w
    · have := hw.upd (r1 := .row id1 oa (n + 0) cap ety' i.size (cs ++ [])) (nx := id2) hrs rfl rfl rfl (Nat.le_refl _) (fun _ _ _ => rfl) ⟨by simpa using ⟨g1, g2⟩, by simpa using hone⟩ (fun b hb => .inl hb) (by cases oa <;> simp [Res.bk])
      exact this
  · rcases hsrc with ⟨a, c, hc, hcell⟩ | ⟨c, hc, h0⟩
    · rcases g2 with ⟨he, rfl⟩ | ⟨g, cap', cur, he, hg0, hh, hnc, hcm, hcs, htk⟩
      · simp only [Value.slice.injEq] at he
        obtain ⟨rfl, _, rfl⟩ := he
        have : cs = [] := by simpa using g1
        subst this
        have hr := run_append_nil (P := P) w t ty ety' i z hu hi hz a m c vs hl hcell (by omega) (by simp only [maxLen] at h63; omega) (by simp only [Nat.zero_add] at hby; omega)
        refine fin (some ⟨w.heap.size, 0, none⟩) _ _ (by rw [hc, Nat.zero_add]; exact hr) fun l1 l2 hrs => ?_
        have hb := below_grown w (.cells (vs.toArray ++ Builtin.zeroCells z.cells (grownCap w m 0 ety' - m)) ety')
        have hrow := append_grown (e := ety') hzs (w := w) (xs := []) (news := vs) (n := 0) (m := m) (cap := 0) (by simpa using hlen) h63
        refine hw.upd hrs hb.os hb.tape hb.output hb.size (fun k hk _ => hb.block k hk) ⟨by simpa using hrow, hone'⟩ (fun b hb => by simp [Res.bk] at hb; omega) (by simp [Res.bk])
      · simp only [Value.slice.injEq] at he
        obtain ⟨rfl, _, rfl⟩ := he
        by_cases hroom : n + m ≤ cap
        · have hfit : n * i.size + vs.length ≤ cur.size := by rw [hl, hcs, ← Nat.add_mul]; exact Nat.mul_le_mul_right _ hroom
          have hr := run_append_room (P := P) w t ty ety' i hu hi g n cap cur hh a m c vs hl hcell h1 hroom hfit
          refine fin _ _ _ (by rw [hc]; exact hr) fun l1 l2 hrs => ?_
          refine hw.upd hrs rfl rfl rfl (by simp) (fun k _ hk => setRow_other w g k _ (by simpa [Res.bk] using hk)) ⟨⟨hlen, .inr ⟨g, cap, _, rfl, hg0, setRow_heap w g cur _ ety' _ hh, hroom, hcm, ?_, ?_⟩⟩, hone'⟩ (fun b hb => .inl (by simpa [Res.bk] using hb)) (by simp [Res.bk])
          · simp only [List.size_toArray, List.length_append, List.length_take, List.length_drop, Array.length_toList]
            omega
          · rw [htk, ← hlen]
            exact List.take_left
        · have hcap : cap < n + m := by omega
          have hold : ∀ j u, cs[j]? = some u → w.cell? ((⟨g, 0, none⟩ : Addr).add j) = some u := fun j u hj => by
            rw [addr_add, Nat.zero_add, cell_of_heap hh, ← Array.getElem?_toList]
            rw [← htk, List.getElem?_take] at hj
            split at hj
            · exact hj
            · cases hj
          have hr := run_append_grow (P := P) w t ty ety' i z hu hi hz ⟨g, 0, none⟩ n cap cs g1 hold a m c vs hl hcell hcap (by simp only [maxLen] at h63; omega) (growslice_fits hcap hby)
          refine fin _ _ _ (by rw [hc]; exact hr) fun l1 l2 hrs => ?_
          have hb := below_grown w (.cells (cs.toArray ++ vs.toArray ++ Builtin.zeroCells z.cells (grownCap w (n + m) cap ety' - (n + m))) ety')
          exact hw.upd hrs hb.os hb.tape hb.output hb.size (fun k hk _ => hb.block k hk) ⟨append_grown hzs hlen h63, hone'⟩ (fun b hb => by simp [Res.bk] at hb; omega) (by simp [Res.bk])
    · exact absurd h0 hm

theorem appS0_spec {s x : SV} {hs : Hs} {K : SV → Hs → Prop} (h : appS0 e i.size i.bytes s x hs K) {fr : Fr} {w : World} (hw : HSim fr hs w) :
    ∃ w' s' hs', (Builtin.append_ #[t, t] ty #[conc s, conc x]).run P w = .ok (conc s') w' ∧ HSim fr hs' w' ∧ K s' hs' := by
  rw [appS0_eq] at h
  obtain ⟨m, vs, h, hl, h1, hsrc⟩ := srcS_spec h hw
  have hvs0 : m = 0 → vs = [] := fun h0 => by subst h0; simpa using hl
  split at h
  · -- nil
    obtain ⟨⟨h63, hby⟩, h⟩ := h
    obtain ⟨id1, id2, h⟩ := withNx_spec h
    by_cases hm : m = 0
    · have hvs := hvs0 hm
      subst hm; subst hvs
      refine ⟨w, _, _, ?_, hw.newRes (Below.refl _ _) (r := .row id1 none 0 0 e i.size []) ⟨World.ownsRow_nil w 0 e i.size, fun u hu => by cases hu⟩ (fun b hb => by simp [Res.bk] at hb) (by simp [Res.bk]), h none 0⟩
      rcases hsrc with ⟨a, c, hc, hcell⟩ | ⟨c, hc, _⟩
      · rw [hc]; simp [conc, Builtin.append_, run_underlying hu, sizeOf, typeInfo, hi, Builtin.lenOf, Builtin.firstCells, loadCells, loadCellsFrom]
      · rw [hc]; exact run_append_nilsrc hu hi none 0 0 c (Nat.le_refl _) w
    · rcases hsrc with ⟨a, c, hc, hcell⟩ | ⟨c, hc, h0⟩
      · obtain ⟨oa', cap', w', hr, hsim⟩ := append_new hu hi hz hzs (ty := ty) hw (oa := none) (n := 0) (cap := 0) (cs := []) (conc x) (by simp) (fun j u hj => by simp at hj) (by simpa using h1) hl ⟨a, c, hc, hcell⟩ (by omega) (by omega) (fun _ => ⟨rfl, rfl⟩) (by simpa using h63) (by simpa using hby) id1 id2
        simp only [Nat.zero_add, List.nil_append] at hr hsim
        exact ⟨w', .row id1 oa' m cap', _, hr, hsim, h oa' cap'⟩
      · exact absurd h0 hm
  · -- a row
    rename_i id oa n cap _
    split at h
    · rename_i oa' n' cap' ety' size' cs hf
      obtain ⟨⟨rfl, rfl, rfl, rfl, rfl⟩, ⟨h63, hby⟩, h⟩ := h
      obtain ⟨id1, id2, h⟩ := withNx_spec h
      exact appRow hu hi hz hzs (K := K) (x := x) hw rfl rfl hl h1 hsrc h63 hby hf h
    · exact h.elim
  · -- frozen
    rename_i oa n cap _ _
    rcases h with h | ⟨b, cs, rest, ⟨rfl, hlo, hgb, hob, hcl, hone0, hnc0, hcm0, hrl, hnm, hby0⟩, hkk⟩
    case inr =>
      obtain ⟨id1, id2, hkk⟩ := withNx_spec (hkk _ (GW.less_spec _ _))
      have hcap : w.heap[b]? = some (.cells ⟨cs ++ rest⟩ e (0, 0)) := (hw.good.2 b hgb).trans hob
      have hth : HSim fr ⟨hs.g.less b, .row hs.nx (some ⟨b, 0, none⟩) n cap e i.size cs :: hs.rs, hs.nx, hs.lo⟩ w :=
        hw.thaw (r := .row hs.nx (some ⟨b, 0, none⟩) n cap e i.size cs) rfl hlo hgb ⟨⟨hcl, .inr ⟨b, cap, _, rfl, Nat.zero_le _, hcap, hnc0, hcm0, by simpa using hrl, by simp [← hcl]⟩⟩, hone0⟩
      exact appRow hu hi hz hzs (id := hs.nx) (hs := ⟨hs.g.less b, .row hs.nx (some ⟨b, 0, none⟩) n cap e i.size cs :: hs.rs, hs.nx, hs.lo⟩) (K := K) (x := x) (id1 := id1) (id2 := id2) hth rfl rfl hl h1 hsrc hnm hby0 (by simp only [findRow, Nat.beq_refl]; rfl) (fun oa2 cap2 => by
        simp only [updR, Nat.beq_refl]
        exact hkk oa2 cap2)
    obtain ⟨cs, ⟨⟨g1, oa', cap', he, hnc, hcm, hnil, hc⟩, hone⟩, hk0, hk1⟩ := h
    simp only [Value.slice.injEq, true_and] at he
    obtain ⟨rfl, rfl⟩ := he
    by_cases hm : m = 0
    · have hvs := hvs0 hm
      subst hm; subst hvs
      refine ⟨w, _, _, ?_, hw, hk0 rfl⟩
      rcases hsrc with ⟨a, c, hc, hcell⟩ | ⟨c, hc, _⟩
      · rw [hc]; simp [conc, Builtin.append_, run_underlying hu, sizeOf, typeInfo, hi, Builtin.lenOf, Builtin.firstCells, loadCells, loadCellsFrom, hnc]
        cases oa <;> simp [storeCells]
      · rw [hc]; exact run_append_nilsrc hu hi oa n cap c hnc w
    · obtain ⟨⟨hcap, h63, hby⟩, h⟩ := hk1 (by omega)
      obtain ⟨id1, id2, h⟩ := withNx_spec h
      rcases hsrc with ⟨a, c, hcx, hcell⟩ | ⟨c, hc, h0⟩
      · have hone' : ∀ u ∈ cs ++ vs, u.oneCell' = true := fun u hu => by
          rcases List.mem_append.1 hu with hu | hu
          · exact hone u hu
          · exact h1 u hu
        obtain ⟨oa', cap', w', hr, hsim⟩ := append_new hu hi hz hzs (ty := ty) hw (conc x) g1 (fun j u hj => by obtain ⟨a', ha, hr⟩ := hc j u hj; exact ⟨a', ha, hr.at hw.good⟩) hone' hl ⟨a, c, hcx, hcell⟩ (by omega) hcap hnil h63 hby id1 id2
        exact ⟨w', .row id1 oa' (n + m) cap', _, hr, hsim, h oa' cap'⟩
      · exact absurd h0 hm
  · exact h.elim
theorem appS_spec {s x : SV} {hs : Hs} {K : SV → Hs → Prop} (h : appS e i.size i.bytes s x hs K) {fr : Fr} {w : World} (hw : HSim fr hs w) :
    ∃ w' s' hs', (Builtin.append_ #[t, t] ty #[conc s, conc x]).run P w = .ok (conc s') w' ∧ HSim fr hs' w' ∧ K s' hs' := by
  obtain ⟨hs2, h, hw⟩ := pubD_spec _ _ _ _ _ h hw
  obtain ⟨hs3, h, hw⟩ := pubD_spec _ _ _ _ _ h hw
  obtain ⟨s1, hs1, hk, hc, hw1⟩ := asRow_spec h hw
  rw [← hc]
  exact appS0_spec hu hi hz hzs hk hw1
end
theorem stoS_spec {size : Nat} {x y : SV} {hs : Hs} {K : SV → Hs → Prop} (h : stoS size x y hs K) {P : Program} {t : TypeId} (hsz : sizeT P t = some size) {fr : Fr} {w : World} (hw : HSim fr hs w) :
    ∃ w' hs', (Instr.storeAt t (conc x) (conc y)).run P w = .ok () w' ∧ HSim fr hs' w' ∧ K (.v undef) hs' := by
  unfold stoS at h
  split at h
  · exact storeS_spec h hsz hw
  · obtain ⟨hs1, h1, hw1⟩ := pubL_spec h hw
    exact storeS_spec h1 hsz hw1
end Go.Proofs.Ytedjbhpocedagaa.Sx
