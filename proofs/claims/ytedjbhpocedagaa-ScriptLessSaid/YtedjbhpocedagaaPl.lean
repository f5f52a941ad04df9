/- Plain data of the given program (configurations, snapshots, worlds, machines), and how they lie in frozen memory. -/
import Derived.Test.YtedjbhpocedagaaSxB
import Derived.Lib.Bytealg
import Derived.ChangeArms
import Derived.WideShapes
namespace Go.Proofs.Ytedjbhpocedagaa.Sx
open Go.RowKit

/-! ### Small words -/
abbrev BA := ByteArray
abbrev bs (s : BA) : List UInt8 := s.data.toList
theorem bs_ext {a b : BA} (h : bs a = bs b) : a = b := by
  cases a; cases b; simp only [bs] at h; rw [Array.toList_inj.1 h]
theorem bs_eq {a b : BA} : bs a = bs b ↔ a = b := ⟨bs_ext, fun h => h ▸ rfl⟩
theorem bs_size (s : BA) : s.size = (bs s).length := by cases s; simp [bs, ByteArray.size]
theorem bs_extract (s : BA) (l h : Nat) : bs (s.extract l h) = ((bs s).drop l).take (h - l) := by
  simp [bs, ByteArray.data_extract]
theorem bs_append (a b : BA) : bs (a ++ b) = bs a ++ bs b := by simp [bs]
abbrev InR (x : Int) : Prop := -9223372036854775808 ≤ x ∧ x ≤ 9223372036854775807
abbrev InU (x : Int) : Prop := 0 ≤ x ∧ x ≤ 18446744073709551615
theorem wr {x : Int} (h : InR x) : IntKind.i64.wrap x = x := IntWalk.i64_in x h
theorem inr_of {x : Int} (h : (Lit.int .i64 x).wf = true) : InR x := by
  simpa [Lit.wf, IntKind.min, IntKind.max, IntKind.bits, IntKind.signed] using h
theorem inu_of {x : Int} (h : (Lit.int .u64 x).wf = true) : InU x := by
  simpa [Lit.wf, IntKind.min, IntKind.max, IntKind.bits, IntKind.signed] using h

theorem nb1 {b : Bool} (h : (!b) = true) : b = false := by simpa using h
theorem nb0 {b : Bool} (h : (!b) = false) : b = true := by simpa using h
theorem OkV.to {P : Program} {f : FuncId} {args : List Value} {g : GW} {v v' : Value} (h : OkV P f args g v) (e : v = v') : OkV P f args g v' := e ▸ h

/-! ### Plain data -/
structure Route where
  listen : BA
  host : BA
  path : BA
  cluster : BA
structure Cluster where
  name : BA
  policy : Int
  slots : Int
  health : List Bool
structure Config where
  listens : List BA
  routes : List Route
  clusters : List Cluster
structure Rule where
  listen : Int
  host : BA
  path : BA
  cluster : Int
structure Snap where
  listens : List BA
  rules : List Rule
  clusters : List Cluster
structure EndC where
  head : Int
  next : List Int
  active : Int
structure Group where
  ticket : Int
  ends : List EndC
structure Version where
  snap : Snap
  groups : List Group
  freed : Bool
structure Listen where
  name : BA
  drain : Bool
  active : Int
  closed : Bool
structure Retired where
  version : Int
  at_ : Int
  gone : Bool
structure Wd where
  epoch : Int
  current : Int
  lock : Int
  pins : List Int
  versions : List Version
  listens : List Listen
  counts : List (List Int)
  limbo : List Retired

/-! ### How they lie in memory -/
abbrev RP (α : Type) := GW → List Value → α → Prop
def rInt : RP Int := fun _ cs x => cs = [.int .i64 x] ∧ InR x
def rU64 : RP Int := fun _ cs x => cs = [.int .u64 x] ∧ InU x
def rStr : RP BA := fun _ cs s => cs = [.string s]
def rBool : RP Bool := fun _ cs b => cs = [.bool b]
/-- A slice, all of whose elements lie in frozen memory. -/
def rSl {α : Type} (sz : Nat) (R : RP α) (g : GW) (v : Value) (l : List α) : Prop :=
  ∃ oa cap, v = .slice oa l.length cap ∧ l.length ≤ cap ∧ cap ≤ maxLen ∧ (oa = none → l.length = 0 ∧ cap = 0) ∧
    ∀ (i : Nat) x, l[i]? = some x → ∃ a, oa = some a ∧ ∃ ec, ec.length = sz ∧ R g ec x ∧ Rcs g (a.add (i * sz)) ec
def Mono {α : Type} (R : RP α) : Prop := ∀ g g' cs x, g ≤ g' → R g cs x → R g' cs x
theorem Rcs.mono {g g' : GW} {a : Addr} {xs : List Value} (h : Rcs g a xs) (k : g ≤ g') : Rcs g' a xs := fun i u hu => (h i u hu).mono k
theorem rSl.mono {α : Type} {sz : Nat} {R : RP α} (hR : Mono R) {g g' : GW} {v : Value} {l : List α} (h : rSl sz R g v l) (k : g ≤ g') : rSl sz R g' v l := by
  obtain ⟨oa, cap, h1, h2, h3, h4, h5⟩ := h
  refine ⟨oa, cap, h1, h2, h3, h4, fun i x hx => ?_⟩
  obtain ⟨a, ha, ec, he, hr, hc⟩ := h5 i x hx
  exact ⟨a, ha, ec, he, hR _ _ _ _ k hr, hc.mono k⟩
theorem rInt_mono : Mono rInt := fun _ _ _ _ _ h => h
theorem rU64_mono : Mono rU64 := fun _ _ _ _ _ h => h
theorem rStr_mono : Mono rStr := fun _ _ _ _ _ h => h
theorem rBool_mono : Mono rBool := fun _ _ _ _ _ h => h
def rInts (g : GW) (v : Value) (l : List Int) : Prop := rSl 1 rInt g v l
def rRoute : RP Route := fun _ cs r => cs = [.string r.listen, .string r.host, .string r.path, .string r.cluster]
theorem rRoute_mono : Mono rRoute := fun _ _ _ _ _ h => h
def rCluster : RP Cluster := fun g cs c => ∃ h, cs = [.string c.name, .int .i64 c.policy, .int .i64 c.slots, h] ∧ InR c.policy ∧ InR c.slots ∧ rSl 1 rBool g h c.health
theorem rCluster_mono : Mono rCluster := fun _ _ _ _ k ⟨h, e, a, b, c⟩ => ⟨h, e, a, b, c.mono rBool_mono k⟩
def rConfig : RP Config := fun g cs c => ∃ a b d, cs = [a, b, d] ∧ rSl 1 rStr g a c.listens ∧ rSl 4 rRoute g b c.routes ∧ rSl 4 rCluster g d c.clusters
theorem rConfig_mono : Mono rConfig := fun _ _ _ _ k ⟨a, b, d, e, x, y, z⟩ => ⟨a, b, d, e, x.mono rStr_mono k, y.mono rRoute_mono k, z.mono rCluster_mono k⟩
def rRule : RP Rule := fun _ cs r => cs = [.int .i64 r.listen, .string r.host, .string r.path, .int .i64 r.cluster] ∧ InR r.listen ∧ InR r.cluster
theorem rRule_mono : Mono rRule := fun _ _ _ _ _ h => h
def rSnap : RP Snap := fun g cs c => ∃ a b d, cs = [a, b, d] ∧ rSl 1 rStr g a c.listens ∧ rSl 4 rRule g b c.rules ∧ rSl 4 rCluster g d c.clusters
theorem rSnap_mono : Mono rSnap := fun _ _ _ _ k ⟨a, b, d, e, x, y, z⟩ => ⟨a, b, d, e, x.mono rStr_mono k, y.mono rRule_mono k, z.mono rCluster_mono k⟩
def rEnd : RP EndC := fun g cs e => ∃ n, cs = [.int .u64 e.head, n, .int .i64 e.active] ∧ InU e.head ∧ InR e.active ∧ rSl 1 rInt g n e.next
theorem rEnd_mono : Mono rEnd := fun _ _ _ _ k ⟨n, e, a, b, c⟩ => ⟨n, e, a, b, c.mono rInt_mono k⟩
def rGroup : RP Group := fun g cs x => ∃ n, cs = [.int .u64 x.ticket, n] ∧ InU x.ticket ∧ rSl 3 rEnd g n x.ends
theorem rGroup_mono : Mono rGroup := fun _ _ _ _ k ⟨n, e, a, c⟩ => ⟨n, e, a, c.mono rEnd_mono k⟩
def rVersion : RP Version := fun g cs x => ∃ a b d n, cs = [a, b, d, n, .bool x.freed] ∧ rSnap g [a, b, d] x.snap ∧ rSl 2 rGroup g n x.groups
theorem rVersion_mono : Mono rVersion := fun _ _ _ _ k ⟨a, b, d, n, e, x, y⟩ => ⟨a, b, d, n, e, rSnap_mono _ _ _ _ k x, y.mono rGroup_mono k⟩
def rListen : RP Listen := fun _ cs x => cs = [.string x.name, .bool x.drain, .int .i64 x.active, .bool x.closed] ∧ InR x.active
theorem rListen_mono : Mono rListen := fun _ _ _ _ _ h => h
def rRetired : RP Retired := fun _ cs x => cs = [.int .i64 x.version, .int .i64 x.at_, .bool x.gone] ∧ InR x.version ∧ InR x.at_
theorem rRetired_mono : Mono rRetired := fun _ _ _ _ _ h => h
def rRow : RP (List Int) := fun g cs x => ∃ n, cs = [n] ∧ rSl 1 rU64 g n x
theorem rRow_mono : Mono rRow := fun _ _ _ _ k ⟨n, e, x⟩ => ⟨n, e, x.mono rU64_mono k⟩
def rWd : RP Wd := fun g cs w => ∃ a b c d e, cs = [.int .i64 w.epoch, .int .i64 w.current, .int .i64 w.lock, a, b, c, d, e] ∧ (InR w.epoch ∧ InR w.current ∧ InR w.lock) ∧
  rSl 1 rInt g a w.pins ∧ rSl 5 rVersion g b w.versions ∧ rSl 4 rListen g c w.listens ∧ rSl 1 rRow g d w.counts ∧ rSl 3 rRetired g e w.limbo
theorem rWd_mono : Mono rWd := fun _ _ _ _ k ⟨a, b, c, d, e, h, i, j, l, m, n, o⟩ => ⟨a, b, c, d, e, h, i, j.mono rInt_mono k, l.mono rVersion_mono k, m.mono rListen_mono k, n.mono rRow_mono k, o.mono rRetired_mono k⟩

theorem flatten_at {ecs : List (List Value)} {sz : Nat} (h : ∀ e ∈ ecs, e.length = sz) {i j : Nat} {ec : List Value} (hi : ecs[i]? = some ec) {u : Value} (hj : ec[j]? = some u) : ecs.flatten[i * sz + j]? = some u := by
  induction ecs generalizing i with
  | nil => simp at hi
  | cons e es ih =>
    rw [List.flatten_cons]
    have he := h e (by simp)
    cases i with
    | zero =>
      simp at hi; subst hi
      rw [Nat.zero_mul, Nat.zero_add, List.getElem?_append_left (List.getElem?_eq_some_iff.1 hj).1]; exact hj
    | succ i =>
      rw [List.getElem?_append_right (by rw [he, Nat.succ_mul]; omega), show (i + 1) * sz + j - e.length = i * sz + j by rw [he, Nat.succ_mul]; omega]
      exact ih (fun x hx => h x (by simp [hx])) (by simpa using hi)
theorem flatten_len {ecs : List (List Value)} {sz : Nat} (h : ∀ e ∈ ecs, e.length = sz) : ecs.flatten.length = ecs.length * sz := by
  induction ecs with
  | nil => simp
  | cons e es ih => rw [List.flatten_cons, List.length_append, ih fun x hx => h x (by simp [hx]), h e (by simp), List.length_cons, Nat.succ_mul]; omega
/-- A slice whose cells are known is a slice of data. -/
theorem rSl_of {α : Type} {sz : Nat} {R : RP α} {g : GW} {v : Value} {n : Nat} {cs : List Value} (h : RdSl g sz v n cs) (l : List α) (ecs : List (List Value)) (hcs : cs = ecs.flatten) (hsz : ∀ e ∈ ecs, e.length = sz) (hl : l.length = n) (hel : ecs.length = l.length)
    (hR : ∀ (i : Nat) x ec, l[i]? = some x → ecs[i]? = some ec → R g ec x) : rSl sz R g v l := by
  subst hcs; subst hl
  obtain ⟨h1, oa, cap, rfl, h2, h3, h4, h5⟩ := h
  refine ⟨oa, cap, rfl, h2, h3, h4, fun i x hx => ?_⟩
  have hi := (List.getElem?_eq_some_iff.1 hx).1
  obtain ⟨ec, hec⟩ : ∃ ec, ecs[i]? = some ec := ⟨ecs[i]'(by omega), List.getElem?_eq_getElem (by omega)⟩
  have hlen := hsz ec (List.mem_of_getElem? hec)
  have ha : ∃ a, oa = some a := by
    cases oa with
    | some a => exact ⟨a, rfl⟩
    | none => have := (h4 rfl).1; omega
  obtain ⟨a, rfl⟩ := ha
  refine ⟨a, rfl, ec, hlen, hR i x ec hx hec, fun j u hu => ?_⟩
  obtain ⟨a', ha', hr⟩ := h5 (i * sz + j) u (flatten_at hsz hec hu)
  cases ha'
  rwa [add_add]
theorem map_flatten (l : List Value) : (l.map fun x => [x]).flatten = l := by
  induction l with
  | nil => rfl
  | cons x r ih => simp [ih]
/-- One cell an element. -/
theorem rSl_of1 {α : Type} {R : RP α} {g : GW} {v : Value} {n : Nat} {cs : List Value} (h : RdSl g 1 v n cs) (l : List α) (f : α → Value) (hcs : cs = l.map f) (hR : ∀ x ∈ l, R g [f x] x) : rSl 1 R g v l := by
  have hn : l.length = n := by have := h.1; rw [hcs, List.length_map] at this; omega
  refine rSl_of h l (cs.map fun x => [x]) (map_flatten cs).symm (fun e he => ?_) hn (by rw [List.length_map, hcs, List.length_map]) fun i x ec hx hec => ?_
  · obtain ⟨x, _, rfl⟩ := List.mem_map.1 he; rfl
  · rw [hcs] at hec
    simp only [List.getElem?_map, hx, Option.map_some] at hec
    cases hec
    exact hR x (List.mem_of_getElem? hx)

/-! ### Searching a list from the front -/
/-- Nothing ahead of place i is told by f. -/
def Pass {α β : Type} (f : Nat → α → Option β) (l : List α) (i : Nat) : Prop := ∀ j, j < i → ∀ x, l[j]? = some x → f j x = none
def firstF {α β : Type} (f : Nat → α → Option β) : Nat → List α → Option β
  | _, [] => none
  | i, x :: r => match f i x with
    | some b => some b
    | none => firstF f (i + 1) r
theorem Pass.zero {α β : Type} (f : Nat → α → Option β) (l : List α) : Pass f l 0 := fun j h => by omega
theorem Pass.succ {α β : Type} {f : Nat → α → Option β} {l : List α} {i : Nat} (h : Pass f l i) {x : α} (hx : l[i]? = some x) (hf : f i x = none) : Pass f l (i + 1) := by
  intro j hj y hy
  rcases Nat.lt_or_ge j i with k | k
  · exact h j k y hy
  · obtain rfl : j = i := by omega
    rw [hx] at hy; cases hy; exact hf
theorem firstF_gen {α β : Type} {f : Nat → α → Option β} : ∀ {l : List α} {k : Nat}, (∀ (j : Nat) x, l[j]? = some x → f (k + j) x = none) → firstF f k l = none
  | [], _, _ => rfl
  | x :: r, k, h => by
    have h0 := h 0 x rfl
    simp only [Nat.add_zero] at h0
    simp only [firstF, h0]
    exact firstF_gen fun j y hy => by have := h (j + 1) y (by simpa using hy); rwa [show k + (j + 1) = k + 1 + j by omega] at this
theorem Pass.done {α β : Type} {f : Nat → α → Option β} {l : List α} {i : Nat} (h : Pass f l i) (hi : l.length ≤ i) : firstF f 0 l = none :=
  firstF_gen fun j x hx => by
    rw [Nat.zero_add]
    refine h j ?_ x hx
    have := (List.getElem?_eq_some_iff.1 hx).1; omega
theorem firstF_hit {α β : Type} {f : Nat → α → Option β} {b : β} : ∀ {l : List α} {k i : Nat} {x : α}, (∀ j, j < i → ∀ y, l[j]? = some y → f (k + j) y = none) → l[i]? = some x → f (k + i) x = some b → firstF f k l = some b
  | [], _, _, _, _, hx, _ => by simp at hx
  | y :: r, k, 0, x, _, hx, hf => by
    simp at hx; subst hx
    simp only [Nat.add_zero] at hf
    simp only [firstF, hf]
  | y :: r, k, i + 1, x, h, hx, hf => by
    have h0 := h 0 (by omega) y rfl
    simp only [Nat.add_zero] at h0
    simp only [firstF, h0]
    refine firstF_hit (i := i) (x := x) (fun j hj z hz => ?_) (by simpa using hx) (by rwa [show k + 1 + i = k + (i + 1) by omega])
    have := h (j + 1) (by omega) z (by simpa using hz)
    rwa [show k + (j + 1) = k + 1 + j by omega] at this
theorem Pass.hit {α β : Type} {f : Nat → α → Option β} {l : List α} {i : Nat} (h : Pass f l i) {x : α} {b : β} (hx : l[i]? = some x) (hf : f i x = some b) : firstF f 0 l = some b :=
  firstF_hit (fun j hj y hy => by rw [Nat.zero_add]; exact h j hj y hy) hx (by rwa [Nat.zero_add])
theorem getL_of {α : Type} {l : List α} {i : Nat} (h : i < l.length) : ∃ x, l[i]? = some x := ⟨l[i], List.getElem?_eq_getElem h⟩
theorem wr1 {i n cap : Nat} (h : i < n) (h1 : n ≤ cap) (h2 : cap ≤ maxLen) : IntKind.i64.wrap ((i : Int) + 1) = ((i + 1 : Nat) : Int) := by
  rw [wr]
  · simp
  · unfold maxLen at h2; exact ⟨by omega, by omega⟩
theorem dec {i n : Nat} (h : i < n) : n - (i + 1) < n - i := by omega
theorem all_take {α : Type} {f : α → Bool} {l : List α} {i : Nat} (h : i < l.length) : (l.take (i + 1)).all f = ((l.take i).all f && f l[i]) := by
  rw [List.take_succ_eq_append_getElem h, List.all_append]; simp only [List.all_cons, List.all_nil, Bool.and_true]
theorem all_false {α : Type} {f : α → Bool} {l : List α} {i : Nat} (h : i < l.length) (k : f l[i] = false) : l.all f = false := by
  rw [List.all_eq_false]; exact ⟨l[i], List.getElem_mem h, by simp [k]⟩

/-- All that is there is frozen. -/
def allG (w : World) : GW := ⟨w, (· < w.heap.size), fun _ h => h⟩
end Go.Proofs.Ytedjbhpocedagaa.Sx

namespace Go
open Go.Lib
def partsL (b : UInt8) : List UInt8 → List (List UInt8)
  | [] => [[]]
  | c :: r => if c == b then [] :: partsL b r else match partsL b r with
    | p :: ps => (c :: p) :: ps
    | [] => [[c]]
theorem partsL_index (b : UInt8) : ∀ L, (indexByte L b = -1 ∧ partsL b L = [L]) ∨ (∃ i : Nat, i < L.length ∧ indexByte L b = i ∧ partsL b L = L.take i :: partsL b (L.drop (i + 1)))
  | [] => .inl ⟨rfl, rfl⟩
  | c :: r => by
    have e1 : partsL b (c :: r) = if c == b then [] :: partsL b r else match partsL b r with
      | p :: ps => (c :: p) :: ps
      | [] => [[c]] := rfl
    have e2 : indexByte (c :: r) b = if c == b then 0 else if indexByte r b == -1 then -1 else indexByte r b + 1 := rfl
    rw [e1, e2]
    cases h : c == b with
    | true => exact .inr ⟨0, by simp, by simp, by simp⟩
    | false =>
      rcases partsL_index b r with ⟨h1, h2⟩ | ⟨i, hi, h1, h2⟩
      · exact .inl ⟨by simp [h1], by simp [h2]⟩
      · refine .inr ⟨i + 1, by simp; omega, ?_, by rw [h2]; simp⟩
        have : ((i : Int) == -1) = false := by rw [beq_eq_false_iff_ne]; omega
        simp [h1, this]
end Go

/- Names, hosts, patterns, paths: plain words on rows of bytes, and what follows of them. -/
namespace Go.Proofs.Ytedjbhpocedagaa.Sx
theorem parts_cons (b c : UInt8) (z : List UInt8) : partsL b (c :: z) = if c == b then [] :: partsL b z else match partsL b z with
    | p :: ps => (c :: p) :: ps
    | [] => [[c]] := rfl
theorem parts_none {b : UInt8} : ∀ {l : List UInt8}, (∀ j : Nat, l[j]? ≠ some b) → partsL b l = [l]
  | [], _ => rfl
  | c :: l, h => by
    have hc : (c == b) = false := by simpa using fun e => h 0 (by simp [e])
    rw [parts_cons, hc, parts_none (l := l) fun j hj => h (j + 1) (by simpa using hj)]; rfl
theorem parts_at {b : UInt8} : ∀ {l : List UInt8} {k : Nat}, (∀ j : Nat, j < k → l[j]? ≠ some b) → l[k]? = some b → partsL b l = l.take k :: partsL b (l.drop (k + 1))
  | [], _, _, h => by simp at h
  | c :: l, 0, _, h => by
    simp at h; subst h
    rw [parts_cons]; simp
  | c :: l, k + 1, h, hk => by
    have hc : (c == b) = false := by simpa using fun e => h 0 (by omega) (by simp [e])
    rw [parts_cons, hc, parts_at (l := l) (k := k) (fun j hj => by simpa using h (j + 1) (by omega)) (by simpa using hk)]; rfl
def lowB (c : Int) : Bool := decide (97 ≤ c) && decide (c ≤ 122)
def wordB (c : Int) : Bool := lowB c || (decide (48 ≤ c) && decide (c ≤ 57)) || c == 45
def nameB (l : List UInt8) : Bool := decide (0 < l.length) && decide (l.length ≤ 16) && l.head?.any (fun c => lowB c.toNat) && l.all fun c => wordB c.toNat
def hostB (l : List UInt8) : Bool := decide (l.length ≤ 32) && (partsL 46 l).all nameB
abbrev preL (p s : List UInt8) : Bool := p.isPrefixOf s
abbrev sufL (t s : List UInt8) : Bool := t.isSuffixOf s
theorem preL_iff {p s : List UInt8} : preL p s = true ↔ ∃ r, s = p ++ r := by
  rw [List.isPrefixOf_iff_prefix]; exact ⟨fun ⟨r, h⟩ => ⟨r, h.symm⟩, fun ⟨r, h⟩ => ⟨r, h.symm⟩⟩
theorem sufL_iff {t s : List UInt8} : sufL t s = true ↔ ∃ r, s = r ++ t := by
  rw [List.isSuffixOf_iff_suffix]; exact ⟨fun ⟨r, h⟩ => ⟨r, h.symm⟩, fun ⟨r, h⟩ => ⟨r, h.symm⟩⟩
theorem preL_eq (p s : List UInt8) : preL p s = (decide (p.length ≤ s.length) && s.take p.length == p) := by
  rw [Bool.eq_iff_iff]
  simp only [Bool.and_eq_true, decide_eq_true_eq, beq_iff_eq]
  rw [List.isPrefixOf_iff_prefix, List.prefix_iff_eq_take]
  constructor
  · intro h
    have := congrArg List.length h
    simp only [List.length_take] at this
    exact ⟨by omega, h.symm⟩
  · exact fun h => h.2.symm
theorem sufL_eq (t s : List UInt8) : sufL t s = (decide (t.length ≤ s.length) && s.drop (s.length - t.length) == t) := by
  rw [Bool.eq_iff_iff]
  simp only [Bool.and_eq_true, decide_eq_true_eq, beq_iff_eq]
  rw [List.isSuffixOf_iff_suffix, List.suffix_iff_eq_drop]
  constructor
  · intro h
    have := congrArg List.length h
    simp only [List.length_drop] at this
    exact ⟨by omega, h.symm⟩
  · exact fun h => h.2.symm
def patternB (l : List UInt8) : Bool := if preL [42, 46] l then hostB (l.drop 2) else l == [42] || hostB l
def pathB (l : List UInt8) : Bool := decide (0 < l.length) && decide (l.length ≤ 32) && l.head?.any (fun c => (c.toNat : Int) == 47) && l.all fun c => (c.toNat : Int) == 47 || wordB c.toNat
def tailB (t h : List UInt8) : Bool := t == [] || (decide (t.length < h.length) && sufL t h)
def matchB (p h : List UInt8) : Bool := patternB p && hostB h && (p == h || (preL [42] p && tailB (p.drop 1) h))
def underB (a b : List UInt8) : Bool := pathB a && pathB b && preL b a && (a.drop b.length == [] || sufL [47] b || (a.drop b.length).head? == some 47)
def weightB (p : List UInt8) : Int := if patternB p then (if preL [42, 46] p then ((p.drop 2).length : Int) else if p == [42] then 0 else 100) else 0
def betterB (a p b q : List UInt8) : Bool := if weightB a != weightB b then decide (weightB b < weightB a) else decide (q.length < p.length)

theorem nameB_nil : nameB [] = false := rfl
theorem host_head {l : List UInt8} (h : hostB l = true) : ∃ c r, l = c :: r ∧ lowB c.toNat = true := by
  unfold hostB at h
  simp only [Bool.and_eq_true] at h
  obtain ⟨_, h⟩ := h
  cases l with
  | nil => exact absurd h (by decide)
  | cons c r =>
    refine ⟨c, r, rfl, ?_⟩
    have e1 : partsL 46 (c :: r) = if c == 46 then [] :: partsL 46 r else match partsL 46 r with
      | p :: ps => (c :: p) :: ps
      | [] => [[c]] := rfl
    rw [e1] at h
    have key : ∀ p ps, (((c :: p) :: ps).all nameB) = true → lowB c.toNat = true := fun p ps hh => by
      simp only [List.all_cons, Bool.and_eq_true] at hh
      have := hh.1
      simp only [nameB, Bool.and_eq_true, List.head?_cons, Option.any_some] at this
      exact this.1.2
    split at h
    · simp [nameB_nil] at h
    · split at h
      · exact key _ _ h
      · exact key [] [] h
theorem low_42 : lowB ((42 : UInt8).toNat : Int) = false := by decide
theorem host_not42 {l : List UInt8} (h : hostB l = true) : preL [42] l = false := by
  obtain ⟨c, r, rfl, hc⟩ := host_head h
  cases hh : preL [42] (c :: r) with
  | false => rfl
  | true =>
    obtain ⟨t, ht⟩ := preL_iff.1 hh
    simp at ht
    obtain ⟨rfl, _⟩ := ht
    rw [low_42] at hc; cases hc
theorem host_ne_star {l : List UInt8} (h : hostB l = true) : l ≠ [42] := fun e => by
  subst e; exact absurd (host_not42 h) (by decide)
theorem pre42_of {l : List UInt8} (h : preL [42, 46] l = true) : preL [42] l = true := by
  obtain ⟨r, rfl⟩ := preL_iff.1 h
  exact preL_iff.2 ⟨46 :: r, rfl⟩
theorem host_not4246 {l : List UInt8} (h : hostB l = true) : preL [42, 46] l = false := by
  cases hh : preL [42, 46] l with
  | false => rfl
  | true => have := pre42_of hh; rw [host_not42 h] at this; cases this
theorem host_ne_nil {l : List UInt8} (h : hostB l = true) : l ≠ [] := fun e => by
  obtain ⟨c, r, hc, _⟩ := host_head h
  rw [e] at hc; cases hc
theorem host_len {l : List UInt8} (h : hostB l = true) : l.length ≤ 32 := by
  unfold hostB at h
  simp only [Bool.and_eq_true, decide_eq_true_eq] at h
  exact h.1
/-- A pattern is a star, a star with a dot and a host, or a host. -/
theorem pattern_cases {l : List UInt8} (h : patternB l = true) : l = [42] ∨ (∃ t, l = 42 :: 46 :: t ∧ hostB t = true) ∨ (hostB l = true ∧ preL [42] l = false) := by
  unfold patternB at h
  split at h
  · rename_i hp
    obtain ⟨r, rfl⟩ := preL_iff.1 hp
    exact .inr (.inl ⟨r, rfl, by simpa using h⟩)
  · simp only [Bool.or_eq_true, beq_iff_eq] at h
    rcases h with h | h
    · exact .inl h
    · exact .inr (.inr ⟨h, host_not42 h⟩)
theorem pattern_ne_nil {l : List UInt8} (h : patternB l = true) : l ≠ [] := by
  rcases pattern_cases h with rfl | ⟨t, rfl, _⟩ | ⟨h, _⟩
  · simp
  · simp
  · exact host_ne_nil h
/-- What the document says of a pattern. -/
theorem pattern_ref (l : List UInt8) : patternB l = if decide (2 < l.length) && l.take 2 == [42, 46] then hostB (l.drop 2) else l == [42] || hostB l := by
  unfold patternB
  rw [preL_eq]
  by_cases h : l.take 2 == [42, 46]
  · have h' : (l.take [(42 : UInt8), 46].length == [42, 46]) = true := h
    have hl : 2 ≤ l.length := by
      have := congrArg List.length (beq_iff_eq.1 h)
      simp at this; omega
    rw [h', h, decide_eq_true (show [(42 : UInt8), 46].length ≤ l.length from hl)]
    by_cases h2 : 2 < l.length
    · rw [decide_eq_true h2]
    · have h3 : l.length = 2 := by omega
      have : l = [42, 46] := by
        have := beq_iff_eq.1 h
        rwa [List.take_of_length_le (by omega)] at this
      subst this; decide
  · have h' : (l.take [(42 : UInt8), 46].length == [42, 46]) = false := by simpa using h
    have h'' : (l.take 2 == [42, 46]) = false := by simpa using h
    rw [h', h'']; simp
theorem tail_eq (t h : List UInt8) (ht : t ≠ []) : tailB t h = (decide (t.length < h.length) && h.drop (h.length - t.length) == t) := by
  unfold tailB
  have : (t == []) = false := by simpa using ht
  rw [this, Bool.false_or, sufL_eq]
  by_cases k : t.length < h.length
  · rw [decide_eq_true k, decide_eq_true (show t.length ≤ h.length by omega)]; simp
  · rw [decide_eq_false k]; simp
/-- What the document says of a match. -/
theorem match_ref {p h : List UInt8} (hp : patternB p = true) : (p == h || (preL [42] p && tailB (p.drop 1) h)) = (p == [42] || p == h || (p.head? == some 42 && (decide ((p.drop 1).length < h.length) && h.drop (h.length - (p.drop 1).length) == p.drop 1))) := by
  rcases pattern_cases hp with rfl | ⟨t, rfl, ht⟩ | ⟨hh, h42⟩
  · simp [preL, tailB]
  · have e1 : preL [42] (42 :: 46 :: t) = true := preL_iff.2 ⟨46 :: t, rfl⟩
    rw [e1]
    simp only [List.drop_succ_cons, List.drop_zero, Bool.true_and, List.head?_cons]
    rw [tail_eq _ _ (by simp)]
    have : ((42 :: 46 :: t : List UInt8) == [42]) = false := by simp
    rw [this, Bool.false_or]
    rfl
  · rw [h42]
    have e1 : (p == [42]) = false := by simpa using host_ne_star hh
    have e2 : (p.head? == some 42) = false := by
      obtain ⟨c, r, rfl, hc⟩ := host_head hh
      simp only [List.head?_cons]
      cases hq : (some c == some (42 : UInt8)) with
      | false => rfl
      | true => simp at hq; subst hq; rw [low_42] at hc; cases hc
    rw [e1, e2]; simp
theorem weight_ref (p : List UInt8) : weightB p = if !patternB p || p == [42] then 0 else if p.head? == some 42 then (p.length : Int) - 2 else 100 := by
  unfold weightB
  cases hp : patternB p with
  | false => simp
  | true =>
    rcases pattern_cases hp with rfl | ⟨t, rfl, ht⟩ | ⟨hh, h42⟩
    · simp [preL]
    · have e1 : preL [42, 46] (42 :: 46 :: t) = true := preL_iff.2 ⟨t, rfl⟩
      simp [e1]; omega
    · have e0 : preL [42, 46] p = false := host_not4246 hh
      have e1 : (p == [42]) = false := by simpa using host_ne_star hh
      have e2 : (p.head? == some 42) = false := by
        obtain ⟨c, r, rfl, hc⟩ := host_head hh
        simp only [List.head?_cons]
        cases hq : (some c == some (42 : UInt8)) with
        | false => rfl
        | true => simp at hq; subst hq; rw [low_42] at hc; cases hc
      simp only [e0, e1, e2]; rfl
theorem weight_range (p : List UInt8) (h : p.length ≤ 9000000) : InR (weightB p) := by
  unfold weightB
  split
  · split
    · simp only [List.length_drop]; exact ⟨by omega, by omega⟩
    · split <;> exact ⟨by omega, by omega⟩
  · exact ⟨by omega, by omega⟩
theorem better_ref (a p b q : List UInt8) : betterB a p b q = (decide (weightB b < weightB a) || (weightB a == weightB b && decide (q.length < p.length))) := by
  unfold betterB
  by_cases h : weightB a = weightB b
  · simp [h]
  · simp [h]
theorem better_anti (a p b q : List UInt8) : (betterB a p b q && betterB b q a p) = false := by
  unfold betterB
  by_cases h : weightB a = weightB b
  · simp only [h, bne_self_eq_false]
    simp; omega
  · have h1 : (weightB a != weightB b) = true := by simpa using h
    have h2 : (weightB b != weightB a) = true := by simpa using fun e => h e.symm
    simp only [h1, h2, if_true]
    simp; omega
theorem better_self (a p : List UInt8) : betterB a p a p = false := by simp [betterB]
/-- Of two patterns that mean a host, unlike ones have unlike weights. -/
theorem unlike {a b h : List UInt8} (ha : matchB a h = true) (hb : matchB b h = true) : (a == b) = (weightB a == weightB b) := by
  have mc : ∀ {x : List UInt8}, matchB x h = true → patternB x = true ∧ ((x = [42] ∧ weightB x = 0) ∨ (∃ t, x = 42 :: 46 :: t ∧ hostB t = true ∧ weightB x = t.length ∧ ∃ r, h = r ++ (46 :: t)) ∨ (x = h ∧ weightB x = 100 ∧ hostB x = true)) := by
    intro x hx
    unfold matchB at hx
    simp only [Bool.and_eq_true] at hx
    obtain ⟨⟨hp, hh⟩, hm⟩ := hx
    refine ⟨hp, ?_⟩
    rcases pattern_cases hp with rfl | ⟨t, rfl, ht⟩ | ⟨hx, h42⟩
    · exact .inl ⟨rfl, by rw [weight_ref, hp]; rfl⟩
    · refine .inr (.inl ⟨t, rfl, ht, ?_, ?_⟩)
      · rw [weight_ref, hp]; simp; omega
      · simp only [Bool.or_eq_true, beq_iff_eq, Bool.and_eq_true] at hm
        rcases hm with hm | ⟨_, hm⟩
        · have := host_not42 hh
          rw [← hm] at this
          simp [preL] at this
        · simp only [List.drop_succ_cons, List.drop_zero, tailB, Bool.or_eq_true, beq_iff_eq, Bool.and_eq_true] at hm
          rcases hm with hm | ⟨_, hm⟩
          · cases hm
          · exact sufL_iff.1 hm
    · refine .inr (.inr ⟨?_, ?_, hx⟩)
      · rw [h42] at hm; simpa using hm
      · unfold weightB
        rw [hp, host_not4246 hx]
        have e1 : (x == [42]) = false := by simpa using host_ne_star hx
        simp [e1]
  obtain ⟨pa, ca⟩ := mc ha
  obtain ⟨pb, cb⟩ := mc hb
  have tl : ∀ {t : List UInt8}, hostB t = true → (0 : Int) < t.length ∧ (t.length : Int) < 100 := fun ht => by
    have h1 := host_len ht
    have h2 := List.length_pos_iff.2 (host_ne_nil ht)
    omega
  rw [Bool.eq_iff_iff]
  simp only [beq_iff_eq]
  constructor
  · rintro rfl; rfl
  · intro hw
    rcases ca with ⟨rfl, wa⟩ | ⟨t, rfl, ht, wa, r, hr⟩ | ⟨rfl, wa, _⟩ <;> rcases cb with ⟨rfl, wb⟩ | ⟨u, rfl, hu, wb, s, hs⟩ | ⟨rfl, wb, _⟩
    · rfl
    · have := tl hu; omega
    · omega
    · have := tl ht; omega
    · have hl : t.length = u.length := by omega
      have := (List.append_inj' (hr.symm.trans hs) (by simp [hl])).2
      rw [this]
    · have := tl ht; omega
    · omega
    · have := tl hu; omega
    · rfl

/-! ### Paths -/
theorem under_iff {a b : List UInt8} : underB a b = true ↔ pathB a = true ∧ pathB b = true ∧ ∃ r, a = b ++ r ∧ (r = [] ∨ (∃ s, b = s ++ [47]) ∨ r.head? = some 47) := by
  unfold underB
  simp only [Bool.and_eq_true, Bool.or_eq_true, beq_iff_eq]
  constructor
  · rintro ⟨⟨⟨h1, h2⟩, h3⟩, h4⟩
    obtain ⟨r, rfl⟩ := preL_iff.1 h3
    refine ⟨h1, h2, r, rfl, ?_⟩
    rw [List.drop_left] at h4
    rcases h4 with (h4 | h4) | h4
    · exact .inl h4
    · exact .inr (.inl (sufL_iff.1 h4))
    · exact .inr (.inr h4)
  · rintro ⟨h1, h2, r, rfl, h4⟩
    refine ⟨⟨⟨h1, h2⟩, preL_iff.2 ⟨r, rfl⟩⟩, ?_⟩
    rw [List.drop_left]
    rcases h4 with h4 | h4 | h4
    · exact .inl (.inl h4)
    · exact .inl (.inr (sufL_iff.2 h4))
    · exact .inr h4
theorem under_self (a : List UInt8) : underB a a = pathB a := by
  rw [Bool.eq_iff_iff, under_iff]
  exact ⟨fun h => h.1, fun h => ⟨h, h, [], by simp, .inl rfl⟩⟩
theorem under_anti {a b : List UInt8} (h : underB a b = true) (k : underB b a = true) : a = b := by
  obtain ⟨_, _, r, hr, _⟩ := under_iff.1 h
  obtain ⟨_, _, s, hs, _⟩ := under_iff.1 k
  have : r = [] := by
    have h1 := congrArg List.length hr
    have h2 := congrArg List.length hs
    simp at h1 h2
    exact List.eq_nil_of_length_eq_zero (by omega)
  subst this; simpa using hr
theorem under_trans {a b c : List UInt8} (h : underB a b = true) (k : underB b c = true) : underB a c = true := by
  obtain ⟨pa, pb, r, rfl, hr⟩ := under_iff.1 h
  obtain ⟨_, pc, s, rfl, hs⟩ := under_iff.1 k
  refine under_iff.2 ⟨pa, pc, s ++ r, by simp, ?_⟩
  rcases hs with rfl | hs | hs
  · rcases hr with rfl | ⟨x, hx⟩ | hr
    · exact .inl rfl
    · exact .inr (.inl ⟨x, by simpa using hx⟩)
    · exact .inr (.inr (by simpa using hr))
  · exact .inr (.inl hs)
  · refine .inr (.inr ?_)
    cases s with
    | nil => simp at hs
    | cons y s => simpa using hs
theorem path_ne_nil {a : List UInt8} (h : pathB a = true) : a ≠ [] := fun e => by subst e; exact absurd h (by decide)
/-- What the document says of a path under another one. -/
theorem under_ref {a b : List UInt8} (hb : b ≠ []) : (preL b a && (a.drop b.length == [] || sufL [47] b || (a.drop b.length).head? == some 47)) =
    (decide (b.length ≤ a.length) && a.take b.length == b && (decide (a.length = b.length) || b[b.length - 1]? == some 47 || a[b.length]? == some 47)) := by
  rw [preL_eq]
  by_cases h1 : b.length ≤ a.length
  · rw [decide_eq_true h1]
    cases h2 : a.take b.length == b with
    | false => rfl
    | true =>
      simp only [Bool.true_and]
      have e1 : (a.drop b.length == []) = decide (a.length = b.length) := by
        rw [Bool.eq_iff_iff]
        simp only [beq_iff_eq, decide_eq_true_eq, List.drop_eq_nil_iff]; omega
      have e2 : sufL [47] b = (b[b.length - 1]? == some 47) := by
        have hl : 0 < b.length := List.length_pos_iff.2 hb
        rw [sufL_eq, Bool.eq_iff_iff]
        simp only [Bool.and_eq_true, decide_eq_true_eq, beq_iff_eq, List.length_singleton]
        have : b.drop (b.length - 1) = [b[b.length - 1]'(by omega)] := by
          rw [List.drop_eq_getElem_cons (by omega)]
          simp only [List.cons.injEq, true_and, List.drop_eq_nil_iff]; omega
        rw [this, List.getElem?_eq_getElem (by omega)]
        simp only [List.cons.injEq, and_true, Option.some.injEq]
        exact ⟨fun h => h.2, fun h => ⟨by omega, h⟩⟩
      have e3 : (a.drop b.length).head? = a[b.length]? := by rw [List.head?_drop]
      rw [e1, e2, e3]
  · rw [decide_eq_false h1]; simp

/-! ### One name more ahead -/
theorem parts_append (b : UInt8) : ∀ (x y : List UInt8), partsL b (x ++ b :: y) = partsL b x ++ partsL b y
  | [], y => by
    have : partsL b (b :: y) = if b == b then [] :: partsL b y else match partsL b y with
      | p :: ps => (b :: p) :: ps
      | [] => [[b]] := rfl
    simp only [List.nil_append, this, beq_self_eq_true, if_true]; rfl
  | c :: x, y => by
    have ih := parts_append b x y
    have e1 : ∀ z, partsL b (c :: z) = if c == b then [] :: partsL b z else match partsL b z with
      | p :: ps => (c :: p) :: ps
      | [] => [[c]] := fun _ => rfl
    rw [List.cons_append, e1, e1, ih]
    split
    · rfl
    · cases hx : partsL b x with
      | cons p ps => rfl
      | nil =>
        exfalso
        rcases partsL_index b x with ⟨_, h⟩ | ⟨i, _, _, h⟩ <;> rw [hx] at h <;> cases h
theorem deep {t h x : List UInt8} (hh : hostB h = true) (hd : hostB (x ++ 46 :: h) = true) :
    (matchB (42 :: 46 :: t) h = true → matchB (42 :: 46 :: t) (x ++ 46 :: h) = true) ∧ matchB (42 :: 46 :: h) (x ++ 46 :: h) = true ∧ matchB (42 :: 46 :: h) h = false := by
  have pt : ∀ u : List UInt8, patternB (42 :: 46 :: u) = hostB u := fun u => by
    have : preL [42, 46] (42 :: 46 :: u) = true := preL_iff.2 ⟨u, rfl⟩
    simp [patternB, this]
  have p42 : ∀ u : List UInt8, preL [42] (42 :: 46 :: u) = true := fun u => preL_iff.2 ⟨46 :: u, rfl⟩
  have hx : x ≠ [] := by
    rintro rfl
    unfold hostB at hd
    rw [parts_append] at hd
    have : partsL 46 [] = [[]] := rfl
    rw [this] at hd
    simp [nameB_nil] at hd
  have hxl := List.length_pos_iff.2 hx
  have ne : ∀ (u y : List UInt8), hostB y = true → ((42 :: 46 :: u : List UInt8) == y) = false := fun u y hy => by
    cases hq : ((42 :: 46 :: u : List UInt8) == y) with
    | false => rfl
    | true =>
      have := beq_iff_eq.1 hq
      have k := host_not42 hy
      rw [← this, p42] at k; cases k
  refine ⟨fun hm => ?_, ?_, ?_⟩
  · unfold matchB at hm ⊢
    simp only [Bool.and_eq_true] at hm
    obtain ⟨⟨hp, _⟩, hm⟩ := hm
    rw [ne _ _ hh, p42] at hm
    rw [ne _ _ hd, p42, hp, hd]
    simp only [List.drop_succ_cons, List.drop_zero, Bool.false_or, Bool.true_and, tailB, Bool.or_eq_true, beq_iff_eq, Bool.and_eq_true, decide_eq_true_eq] at hm ⊢
    rcases hm with hm | ⟨h1, h2⟩
    · cases hm
    · obtain ⟨r, hr⟩ := sufL_iff.1 h2
      exact .inr ⟨by simp at h1 ⊢; omega, sufL_iff.2 ⟨x ++ 46 :: r, by rw [hr]; simp⟩⟩
  · unfold matchB
    rw [pt, hh, hd, ne _ _ hd, p42]
    simp only [List.drop_succ_cons, List.drop_zero, Bool.false_or, Bool.true_and, tailB, Bool.or_eq_true, beq_iff_eq, Bool.and_eq_true, decide_eq_true_eq]
    exact .inr ⟨by simp; omega, sufL_iff.2 ⟨x, rfl⟩⟩
  · unfold matchB
    rw [pt, hh, ne _ _ hh, p42]
    simp only [List.drop_succ_cons, List.drop_zero, Bool.false_or, Bool.true_and, tailB]
    rw [decide_eq_false (by simp)]; simp
end Go.Proofs.Ytedjbhpocedagaa.Sx

/- Slices of data: parts of them, their cells, and what is made of them. -/
namespace Go.Proofs.Ytedjbhpocedagaa.Sx
open Go.RowKit
/-- All the cells of a slice of data. -/
theorem rSl_rdE {α : Type} {sz : Nat} {R : RP α} {g : GW} {oa : Option Addr} {n cap : Nat} {l : List α} (h : rSl sz R g (.slice oa n cap) l) :
    ∃ ecs : List (List Value), RdSl g sz (.slice oa n cap) l.length ecs.flatten ∧ ecs.length = l.length ∧ (∀ e ∈ ecs, e.length = sz) ∧ ∀ (i : Nat) x ec, l[i]? = some x → ecs[i]? = some ec → R g ec x := by
  obtain ⟨oa', cap', he, h2, h3, h4, h5⟩ := h
  simp only [Value.slice.injEq] at he
  obtain ⟨rfl, rfl, rfl⟩ := he
  have h6 : ∀ i : Fin l.length, ∃ ec : List Value, ec.length = sz ∧ R g ec l[i.1] ∧ ∃ a, oa = some a ∧ Rcs g (a.add (i.1 * sz)) ec := fun i => by
    obtain ⟨a, ha, ec, k1, k2, k3⟩ := h5 i.1 l[i.1] (List.getElem?_eq_getElem i.2)
    exact ⟨ec, k1, k2, a, ha, k3⟩
  let f : Fin l.length → List Value := fun i => Classical.choose (h6 i)
  have hf : ∀ i : Fin l.length, (f i).length = sz ∧ R g (f i) l[i.1] ∧ ∃ a, oa = some a ∧ Rcs g (a.add (i.1 * sz)) (f i) := fun i => Classical.choose_spec (h6 i)
  have hget : ∀ (i : Nat) (hi : i < l.length), (List.ofFn f)[i]? = some (f ⟨i, hi⟩) := fun i hi => by
    rw [List.getElem?_eq_getElem (by simpa using hi)]; simp
  have hsz : ∀ e ∈ List.ofFn f, e.length = sz := fun e he => by
    obtain ⟨i, hi⟩ := List.mem_ofFn.1 he
    rw [← hi]; exact (hf i).1
  refine ⟨List.ofFn f, ⟨?_, oa, cap, rfl, h2, h3, h4, fun j u hu => ?_⟩, by simp, hsz, fun i x ec hx hec => ?_⟩
  · rw [flatten_len hsz]; simp
  · have hlt := (List.getElem?_eq_some_iff.1 hu).1
    rw [flatten_len hsz] at hlt
    simp only [List.length_ofFn] at hlt
    have hpos : 0 < sz := by
      rcases Nat.eq_zero_or_pos sz with h0 | h0
      · rw [h0] at hlt; omega
      · exact h0
    have hi : j / sz < l.length := (Nat.div_lt_iff_lt_mul hpos).2 hlt
    have hm := Nat.mod_lt j hpos
    obtain ⟨k1, _, a, ha, k3⟩ := hf ⟨j / sz, hi⟩
    have hj : j / sz * sz + j % sz = j := by rw [Nat.mul_comm]; exact Nat.div_add_mod j sz
    have h7 : (f ⟨j / sz, hi⟩)[j % sz]? = some u := by
      obtain ⟨u', hu'⟩ : ∃ u', (f ⟨j / sz, hi⟩)[j % sz]? = some u' := ⟨_, List.getElem?_eq_getElem (by rw [k1]; exact hm)⟩
      have := flatten_at hsz (hget _ hi) hu'
      rw [hj, hu] at this
      rw [hu', this]
    refine ⟨a, ha, ?_⟩
    have := k3 _ u h7
    rwa [show ((a.add (j / sz * sz)).add (j % sz)) = a.add j by rw [add_add, hj]] at this
  · have hi := (List.getElem?_eq_some_iff.1 hx).1
    rw [hget i hi] at hec
    cases hec
    have := (hf ⟨i, hi⟩).2.1
    rw [List.getElem?_eq_getElem hi] at hx
    cases hx
    exact this
/-- Where a datum's cells are told by the datum. -/
theorem rSl_rd {α : Type} {sz : Nat} {R : RP α} {g : GW} {oa : Option Addr} {n cap : Nat} {l : List α} (h : rSl sz R g (.slice oa n cap) l) (f : α → List Value) (hf : ∀ cs x, R g cs x → cs = f x) : RdSl g sz (.slice oa n cap) l.length ((l.map f).flatten) := by
  obtain ⟨ecs, h1, h2, h3, h4⟩ := rSl_rdE h
  have : ecs = l.map f := by
    apply List.ext_getElem?
    intro i
    rw [List.getElem?_map]
    rcases Nat.lt_or_ge i l.length with hi | hi
    · obtain ⟨x, hx⟩ := getL_of hi
      obtain ⟨ec, hec⟩ := getL_of (show i < ecs.length by omega)
      rw [hx, hec, hf _ _ (h4 i x ec hx hec)]; rfl
    · rw [List.getElem?_eq_none (by omega), List.getElem?_eq_none (by omega)]; rfl
  rw [← this]; exact h1
theorem rSl_ofE {α : Type} {sz : Nat} {R : RP α} {g : GW} {v : Value} {n : Nat} {cs : List Value} (h : RdSl g sz v n cs) (l : List α) (f : α → List Value) (hcs : cs = (l.map f).flatten) (hl : l.length = n) (hsz : ∀ x ∈ l, (f x).length = sz) (hR : ∀ x ∈ l, R g (f x) x) : rSl sz R g v l := by
  refine rSl_of h l (l.map f) hcs (fun e he => ?_) hl (by simp) fun i x ec hx hec => ?_
  · obtain ⟨x, hx, rfl⟩ := List.mem_map.1 he; exact hsz x hx
  · rw [List.getElem?_map, hx] at hec
    cases hec
    exact hR x (List.mem_of_getElem? hx)
theorem rSl.take {α : Type} {sz : Nat} {R : RP α} {g : GW} {oa : Option Addr} {n cap : Nat} {l : List α} (h : rSl sz R g (.slice oa n cap) l) {k : Nat} (hk : k ≤ l.length) : rSl sz R g (.slice oa k cap) (l.take k) := by
  obtain ⟨oa', cap', he, h2, h3, h4, h5⟩ := h
  simp only [Value.slice.injEq] at he
  obtain ⟨rfl, rfl, rfl⟩ := he
  have hl : (l.take k).length = k := by simp; omega
  refine ⟨oa, cap, by rw [hl], by omega, h3, fun h => ⟨by have := (h4 h).1; omega, (h4 h).2⟩, fun i x hx => ?_⟩
  rw [List.getElem?_take] at hx
  split at hx
  · exact h5 i x hx
  · cases hx
theorem rSl.drop {α : Type} {sz : Nat} {R : RP α} {g : GW} {oa : Option Addr} {n cap : Nat} {l : List α} (h : rSl sz R g (.slice oa n cap) l) {k : Nat} (hk : k ≤ l.length) :
    rSl sz R g (.slice (if cap = k then oa else oa.map (·.add (k * sz))) (n - k) (cap - k)) (l.drop k) := by
  obtain ⟨oa', cap', he, h2, h3, h4, h5⟩ := h
  simp only [Value.slice.injEq] at he
  obtain ⟨rfl, rfl, rfl⟩ := he
  refine ⟨_, cap - k, by rw [List.length_drop], by rw [List.length_drop]; omega, by omega, fun h => ?_, fun i x hx => ?_⟩
  · have : oa = none := by
      split at h
      · exact h
      · cases oa with
        | none => rfl
        | some a => cases h
    have := h4 this
    rw [List.length_drop]; omega
  · rw [List.getElem?_drop] at hx
    obtain ⟨a, rfl, ec, k1, k2, k3⟩ := h5 (k + i) x hx
    have hi := (List.getElem?_eq_some_iff.1 hx).1
    rw [if_neg (by omega)]
    refine ⟨_, rfl, ec, k1, k2, ?_⟩
    rwa [add_add, show k * sz + i * sz = (k + i) * sz by rw [Nat.add_mul]]
theorem RdSl.take {g : GW} {sz n k cap : Nat} {oa : Option Addr} {cs : List Value} (h : RdSl g sz (.slice oa n cap) n cs) (hk : k ≤ n) : RdSl g sz (.slice oa k cap) k (cs.take (k * sz)) := by
  obtain ⟨h1, oa', cap', he, h2, h3, h4, h5⟩ := h
  simp only [Value.slice.injEq, true_and] at he
  obtain ⟨rfl, rfl⟩ := he
  have hm : k * sz ≤ n * sz := Nat.mul_le_mul_right _ hk
  refine ⟨by rw [List.length_take]; omega, oa, cap, rfl, by omega, h3, fun h => ⟨by have := (h4 h).1; omega, (h4 h).2⟩, fun i u hu => ?_⟩
  rw [List.getElem?_take] at hu
  split at hu
  · exact h5 i u hu
  · cases hu
/-! ### Places -/
def idxO {α : Type} (f : α → Bool) (l : List α) : Option Nat := firstF (fun i x => if f x then some i else none) 0 l
def idxI : Option Nat → Int
  | some i => i
  | none => -1
abbrev idxF {α : Type} (f : α → Bool) : Nat → α → Option Nat := fun i x => if f x then some i else none
theorem idxO_hit {α : Type} {f : α → Bool} {l : List α} {i : Nat} (h : Pass (idxF f) l i) {x : α} (hx : l[i]? = some x) (hf : f x = true) : idxI (idxO f l) = i := by
  have := h.hit hx (b := i) (by simp [idxF, hf])
  rw [show idxO f l = some i from this]; rfl
theorem idxO_miss {α : Type} {f : α → Bool} {l : List α} {i : Nat} (h : Pass (idxF f) l i) (hi : l.length ≤ i) : idxI (idxO f l) = -1 := by
  rw [show idxO f l = none from h.done hi]; rfl
theorem idx_next {α : Type} {f : α → Bool} {l : List α} {i : Nat} (h : Pass (idxF f) l i) {x : α} (hx : l[i]? = some x) (hf : f x = false) : Pass (idxF f) l (i + 1) := h.succ hx (by simp [idxF, hf])
theorem firstF_cases {α β : Type} {f : Nat → α → Option β} : ∀ {l : List α} {k : Nat}, firstF f k l = none ∨ ∃ (i : Nat) (x : α) (b : β), firstF f k l = some b ∧ l[i]? = some x ∧ f (k + i) x = some b ∧ ∀ j, j < i → ∀ y, l[j]? = some y → f (k + j) y = none
  | [], _ => .inl rfl
  | x :: r, k => by
    simp only [firstF]
    cases hf : f k x with
    | some b => exact .inr ⟨0, x, b, rfl, rfl, hf, fun j hj => by omega⟩
    | none =>
      rcases firstF_cases (f := f) (l := r) (k := k + 1) with h | ⟨i, y, b, h1, h2, h3, h4⟩
      · exact .inl h
      · refine .inr ⟨i + 1, y, b, h1, by simpa using h2, by rwa [show k + (i + 1) = k + 1 + i by omega], fun j hj z hz => ?_⟩
        cases j with
        | zero => simp at hz; subst hz; exact hf
        | succ j =>
          have := h4 j (by omega) z (by simpa using hz)
          rwa [show k + (j + 1) = k + 1 + j by omega]
theorem idxO_some {α : Type} {f : α → Bool} {l : List α} {i : Nat} (h : idxO f l = some i) : ∃ x, l[i]? = some x ∧ f x = true ∧ ∀ j, j < i → ∀ y, l[j]? = some y → f y = false := by
  rcases firstF_cases (f := idxF f) (l := l) (k := 0) with h1 | ⟨j, x, b, h1, h2, h3, h4⟩
  · rw [show idxO f l = none from h1] at h; cases h
  · rw [show idxO f l = some b from h1] at h
    cases h
    simp only [idxF, Nat.zero_add] at h3
    split at h3
    · rename_i hf
      cases h3
      refine ⟨x, h2, hf, fun j hj y hy => ?_⟩
      have := h4 j hj y hy
      simp only [idxF] at this
      split at this
      · cases this
      · rename_i hn; simpa using hn
    · cases h3
theorem idxO_none {α : Type} {f : α → Bool} {l : List α} : idxO f l = none ↔ l.any f = false := by
  constructor
  · intro h
    rw [List.any_eq_false]
    intro x hx
    obtain ⟨i, hi⟩ := List.getElem?_of_mem hx
    rcases firstF_cases (f := idxF f) (l := l) (k := 0) with h1 | ⟨j, y, b, h1, _⟩
    · intro hf
      have gen : ∀ (l : List α) (k : Nat), firstF (idxF f) k l = none → ∀ x ∈ l, f x = false := by
        intro l
        induction l with
        | nil => intro k _ x hx; cases hx
        | cons y r ih =>
          intro k hk x hx
          simp only [firstF, idxF] at hk
          cases hfy : f y with
          | true => rw [hfy] at hk; cases hk
          | false =>
            rw [hfy] at hk
            rcases List.mem_cons.1 hx with rfl | hx
            · exact hfy
            · exact ih _ hk x hx
      rw [gen l 0 h1 x hx] at hf; cases hf
    · rw [show idxO f l = some b from h1] at h; cases h
  · intro h
    cases hh : idxO f l with
    | none => rfl
    | some i =>
      obtain ⟨x, h1, h2, _⟩ := idxO_some hh
      have := List.any_eq_false.1 h x (List.mem_of_getElem? h1)
      rw [h2] at this; simp at this
theorem idx_any {α : Type} (f : α → Bool) (l : List α) : decide (0 ≤ idxI (idxO f l)) = l.any f := by
  cases h : idxO f l with
  | none => rw [idxO_none.1 h]; rfl
  | some i =>
    obtain ⟨x, h1, h2, _⟩ := idxO_some h
    rw [List.any_eq_true.2 ⟨x, List.mem_of_getElem? h1, h2⟩]
    simp [idxI]
theorem idxO_lt {α : Type} {f : α → Bool} {l : List α} {i : Nat} (h : idxO f l = some i) : i < l.length := by
  obtain ⟨x, h1, _⟩ := idxO_some h
  exact (List.getElem?_eq_some_iff.1 h1).1
end Go.Proofs.Ytedjbhpocedagaa.Sx

/- Whether a configuration may be: plain words, and what follows. -/
namespace Go.Proofs.Ytedjbhpocedagaa.Sx
def hasS (l : List BA) (s : BA) : Bool := l.any fun x => bs x == bs s
def hasC (l : List Cluster) (s : BA) : Bool := l.any fun x => bs x.name == bs s
def eqRt (q r : Route) : Bool := bs q.listen == bs r.listen && bs q.host == bs r.host && bs q.path == bs r.path
abbrev EI := Int × Int
def sizeE (c : Config) : Option EI := if (1 ≤ c.listens.length ∧ c.listens.length ≤ 4) ∧ (1 ≤ c.routes.length ∧ c.routes.length ≤ 8) ∧ (1 ≤ c.clusters.length ∧ c.clusters.length ≤ 4) then none else some (6, 0)
def listenF (l : List BA) (i : Nat) (s : BA) : Option EI := if nameB (bs s) then (if hasS (l.take i) s then some (4, i) else none) else some (3, i)
def listensE (c : Config) : Option EI := firstF (listenF c.listens) 0 c.listens
def clusterF (l : List Cluster) (i : Nat) (x : Cluster) : Option EI :=
  if nameB (bs x.name) then (if hasC (l.take i) x.name then some (4, i) else if x.policy = 1 ∨ x.policy = 2 then (if 1 ≤ x.slots ∧ x.slots ≤ 4 then (if 1 ≤ x.health.length ∧ x.health.length ≤ 4 then none else some (6, i)) else some (10, i)) else some (9, i)) else some (3, i)
def clustersE (c : Config) : Option EI := firstF (clusterF c.clusters) 0 c.clusters
def routeF (c : Config) (i : Nat) (r : Route) : Option EI :=
  if hasS c.listens r.listen then (if patternB (bs r.host) then (if pathB (bs r.path) then (if hasC c.clusters r.cluster then (if (c.routes.take i).any fun q => eqRt q r then some (4, i) else none) else some (5, i)) else some (8, i)) else some (7, i)) else some (5, i)
def routesE (c : Config) : Option EI := firstF (routeF c) 0 c.routes
/-- The first error, and the number of the part that it is of. -/
def checkE (c : Config) : Option EI := match sizeE c with
  | some e => some e
  | none => match listensE c with
    | some e => some e
    | none => match clustersE c with
      | some e => some e
      | none => routesE c
def eiT : Option EI → Value
  | none => .tuple #[.int .i64 0, .int .i64 0]
  | some (e, i) => .tuple #[.int .i64 e, .int .i64 i]
theorem firstF_none {α β : Type} {f : Nat → α → Option β} {l : List α} : firstF f 0 l = none ↔ ∀ (i : Nat) x, l[i]? = some x → f i x = none := by
  constructor
  · intro h i
    induction i using Nat.strongRecOn with
    | ind i ih =>
      intro x hx
      cases hf : f i x with
      | none => rfl
      | some b =>
        have := Pass.hit (f := f) (l := l) (i := i) (fun j hj y hy => ih j hj y hy) hx hf
        rw [this] at h; cases h
  · intro h
    exact Pass.done (i := l.length) (fun j _ x hx => h j x hx) (Nat.le_refl _)
theorem firstF_some {α β : Type} {f : Nat → α → Option β} {l : List α} {b : β} (h : firstF f 0 l = some b) : ∃ (i : Nat) (x : α), l[i]? = some x ∧ f i x = some b := by
  have gen : ∀ {l : List α} {k : Nat}, firstF f k l = some b → ∃ (i : Nat) (x : α), l[i]? = some x ∧ f (k + i) x = some b := by
    intro l
    induction l with
    | nil => intro k h; simp [firstF] at h
    | cons x r ih =>
      intro k h
      simp only [firstF] at h
      split at h
      · rename_i c hc
        simp only [Option.some.injEq] at h
        subst h
        exact ⟨0, x, rfl, hc⟩
      · obtain ⟨i, y, h1, h2⟩ := ih h
        exact ⟨i + 1, y, by simpa using h1, by rwa [show k + (i + 1) = k + 1 + i by omega]⟩
  obtain ⟨i, x, h1, h2⟩ := gen h
  exact ⟨i, x, h1, by rwa [Nat.zero_add] at h2⟩
/-- Every error has a number that is not 0, and a place in range. -/
theorem checkE_ne {c : Config} {e i : Int} (h : checkE c = some (e, i)) : 3 ≤ e ∧ e ≤ 10 ∧ 0 ≤ i := by
  unfold checkE at h
  split at h
  · rename_i x hx
    simp only [Option.some.injEq] at h; subst h
    unfold sizeE at hx
    split at hx
    · cases hx
    · simp at hx; omega
  · split at h
    · rename_i x hx
      simp only [Option.some.injEq] at h; subst h
      obtain ⟨j, y, _, hy⟩ := firstF_some hx
      unfold listenF at hy
      (repeat' (split at hy)) <;> simp at hy <;> omega
    · split at h
      · rename_i x hx
        simp only [Option.some.injEq] at h; subst h
        obtain ⟨j, y, _, hy⟩ := firstF_some hx
        unfold clusterF at hy
        (repeat' (split at hy)) <;> simp at hy <;> omega
      · obtain ⟨j, y, _, hy⟩ := firstF_some h
        unfold routeF at hy
        (repeat' (split at hy)) <;> simp at hy <;> omega
/-- No part is there twice, ahead of it. -/
def Uniq {α : Type} (f : α → α → Bool) (l : List α) : Prop := ∀ (i j : Nat) x y, i < j → l[i]? = some x → l[j]? = some y → f x y = false
theorem any_take {α : Type} {f : α → Bool} {l : List α} {i : Nat} : (l.take i).any f = false ↔ ∀ (j : Nat) x, j < i → l[j]? = some x → f x = false := by
  rw [List.any_eq_false]
  constructor
  · intro h j x hj hx
    have : (l.take i)[j]? = some x := by rw [List.getElem?_take, if_pos hj]; exact hx
    simpa using h x (List.mem_of_getElem? this)
  · intro h x hx
    obtain ⟨j, hj⟩ := List.getElem?_of_mem hx
    rw [List.getElem?_take] at hj
    split at hj
    · rename_i hlt; simpa using h j x hlt hj
    · cases hj
structure GoodC (c : Config) : Prop where
  size : (1 ≤ c.listens.length ∧ c.listens.length ≤ 4) ∧ (1 ≤ c.routes.length ∧ c.routes.length ≤ 8) ∧ (1 ≤ c.clusters.length ∧ c.clusters.length ≤ 4)
  ln : ∀ s ∈ c.listens, nameB (bs s) = true
  lu : Uniq (fun x y => bs x == bs y) c.listens
  cl : ∀ x ∈ c.clusters, nameB (bs x.name) = true ∧ (x.policy = 1 ∨ x.policy = 2) ∧ (1 ≤ x.slots ∧ x.slots ≤ 4) ∧ (1 ≤ x.health.length ∧ x.health.length ≤ 4)
  cu : Uniq (fun (x y : Cluster) => bs x.name == bs y.name) c.clusters
  rt : ∀ r ∈ c.routes, hasS c.listens r.listen = true ∧ patternB (bs r.host) = true ∧ pathB (bs r.path) = true ∧ hasC c.clusters r.cluster = true
  ru : Uniq eqRt c.routes
theorem listensE_none {c : Config} : listensE c = none ↔ (∀ s ∈ c.listens, nameB (bs s) = true) ∧ Uniq (fun x y => bs x == bs y) c.listens := by
  unfold listensE
  rw [firstF_none]
  constructor
  · intro h
    refine ⟨fun s hs => ?_, fun i j x y hij hx hy => ?_⟩
    · obtain ⟨i, hi⟩ := List.getElem?_of_mem hs
      have := h i s hi
      unfold listenF at this
      split at this
      · assumption
      · cases this
    · have := h j y hy
      unfold listenF at this
      split at this
      · split at this
        · cases this
        · rename_i hn
          exact any_take.1 ((Bool.not_eq_true _).mp hn) i x hij hx
      · cases this
  · rintro ⟨h1, h2⟩ i x hx
    unfold listenF
    rw [if_pos (h1 x (List.mem_of_getElem? hx)), if_neg]
    have : hasS (c.listens.take i) x = false := any_take.2 fun j y hj hy => h2 j i y x hj hy hx
    rw [this]; simp
theorem clustersE_none {c : Config} : clustersE c = none ↔ (∀ x ∈ c.clusters, nameB (bs x.name) = true ∧ (x.policy = 1 ∨ x.policy = 2) ∧ (1 ≤ x.slots ∧ x.slots ≤ 4) ∧ (1 ≤ x.health.length ∧ x.health.length ≤ 4)) ∧ Uniq (fun (x y : Cluster) => bs x.name == bs y.name) c.clusters := by
  unfold clustersE
  rw [firstF_none]
  constructor
  · intro h
    refine ⟨fun s hs => ?_, fun i j x y hij hx hy => ?_⟩
    · obtain ⟨i, hi⟩ := List.getElem?_of_mem hs
      have := h i s hi
      unfold clusterF at this
      (repeat' (split at this)) <;> first | (cases this; done) | (exact ⟨by assumption, by assumption, by assumption, by assumption⟩)
    · have := h j y hy
      unfold clusterF at this
      split at this
      · split at this
        · cases this
        · rename_i hn
          exact any_take.1 ((Bool.not_eq_true _).mp hn) i x hij hx
      · cases this
  · rintro ⟨h1, h2⟩ i x hx
    obtain ⟨k1, k2, k3, k4⟩ := h1 x (List.mem_of_getElem? hx)
    unfold clusterF
    have : hasC (c.clusters.take i) x.name = false := any_take.2 fun j y hj hy => h2 j i y x hj hy hx
    rw [if_pos k1, this, if_neg (by simp), if_pos k2, if_pos k3, if_pos k4]
theorem routesE_none {c : Config} : routesE c = none ↔ (∀ r ∈ c.routes, hasS c.listens r.listen = true ∧ patternB (bs r.host) = true ∧ pathB (bs r.path) = true ∧ hasC c.clusters r.cluster = true) ∧ Uniq eqRt c.routes := by
  unfold routesE
  rw [firstF_none]
  constructor
  · intro h
    refine ⟨fun s hs => ?_, fun i j x y hij hx hy => ?_⟩
    · obtain ⟨i, hi⟩ := List.getElem?_of_mem hs
      have := h i s hi
      unfold routeF at this
      (repeat' (split at this)) <;> first | (cases this; done) | (exact ⟨by assumption, by assumption, by assumption, by assumption⟩)
    · have := h j y hy
      unfold routeF at this
      (repeat' (split at this)) <;> first | (cases this; done) | skip
      rename_i hn
      exact any_take.1 (by simpa using hn) i x hij hx
  · rintro ⟨h1, h2⟩ i x hx
    obtain ⟨k1, k2, k3, k4⟩ := h1 x (List.mem_of_getElem? hx)
    unfold routeF
    have : (c.routes.take i).any (fun q => eqRt q x) = false := any_take.2 fun j y hj hy => h2 j i y x hj hy hx
    rw [if_pos k1, if_pos k2, if_pos k3, if_pos k4, this, if_neg (by simp)]
theorem good_iff {c : Config} : checkE c = none ↔ GoodC c := by
  unfold checkE
  constructor
  · intro h
    split at h
    · cases h
    · rename_i h1
      split at h
      · cases h
      · rename_i h2
        split at h
        · cases h
        · rename_i h3
          obtain ⟨a1, a2⟩ := listensE_none.1 h2
          obtain ⟨b1, b2⟩ := clustersE_none.1 h3
          obtain ⟨c1, c2⟩ := routesE_none.1 h
          refine ⟨?_, a1, a2, b1, b2, c1, c2⟩
          unfold sizeE at h1
          split at h1
          · assumption
          · cases h1
  · intro h
    have h1 : sizeE c = none := by unfold sizeE; rw [if_pos h.size]
    rw [h1, listensE_none.2 ⟨h.ln, h.lu⟩, clustersE_none.2 ⟨h.cl, h.cu⟩]
    exact routesE_none.2 ⟨h.rt, h.ru⟩
theorem Uniq.take {α : Type} {f : α → α → Bool} {l : List α} (h : Uniq f l) (k : Nat) : Uniq f (l.take k) := fun i j x y hij hx hy => by
  rw [List.getElem?_take] at hx hy
  split at hx
  · split at hy
    · exact h i j x y hij hx hy
    · cases hy
  · cases hx
/-- Without its last routes. -/
theorem good_less {c : Config} (h : GoodC c) {k : Nat} (hk : 1 ≤ k) (hk2 : k ≤ c.routes.length) : GoodC { c with routes := c.routes.take k } where
  size := by
    have := h.size
    refine ⟨h.size.1, ⟨?_, ?_⟩, h.size.2.2⟩ <;> (show _ ≤ _; simp only [List.length_take]; omega)
  ln := h.ln
  lu := h.lu
  cl := h.cl
  cu := h.cu
  rt := fun r hr => h.rt r (List.mem_of_mem_take hr)
  ru := h.ru.take k
theorem Uniq.rev {α : Type} {f : α → α → Bool} (hf : ∀ x y, f x y = f y x) {l : List α} (h : Uniq f l) : Uniq f l.reverse := fun i j x y hij hx hy => by
  have hi := (List.getElem?_eq_some_iff.1 hx).1
  have hj := (List.getElem?_eq_some_iff.1 hy).1
  simp only [List.length_reverse] at hi hj
  rw [List.getElem?_reverse (by omega)] at hx hy
  rw [hf]
  exact h _ _ y x (by omega) hy hx
theorem eqRt_symm (q r : Route) : eqRt q r = eqRt r q := by
  have : ∀ a b : List UInt8, (a == b) = (b == a) := fun a b => by rw [Bool.eq_iff_iff]; simp only [beq_iff_eq]; exact ⟨Eq.symm, Eq.symm⟩
  unfold eqRt; rw [this (bs q.listen), this (bs q.host), this (bs q.path)]
theorem beqL_symm (a b : List UInt8) : (a == b) = (b == a) := by rw [Bool.eq_iff_iff]; simp only [beq_iff_eq]; exact ⟨Eq.symm, Eq.symm⟩
def revC (c : Config) : Config := ⟨c.listens.reverse, c.routes.reverse, c.clusters.reverse⟩
theorem good_rev1 {c : Config} (h : GoodC c) : GoodC (revC c) where
  size := by simpa [revC] using h.size
  ln := fun s hs => h.ln s (by simpa [revC] using hs)
  lu := h.lu.rev fun x y => beqL_symm _ _
  cl := fun x hx => h.cl x (by simpa [revC] using hx)
  cu := h.cu.rev fun x y => beqL_symm _ _
  rt := fun r hr => by
    obtain ⟨h1, h2, h3, h4⟩ := h.rt r (by simpa [revC] using hr)
    exact ⟨by simpa [revC, hasS] using h1, h2, h3, by simpa [revC, hasC] using h4⟩
  ru := h.ru.rev eqRt_symm
theorem good_rev (c : Config) : GoodC (revC c) ↔ GoodC c := ⟨fun h => by have := good_rev1 h; simpa [revC] using this, good_rev1⟩
/-- A listener more that is there. -/
theorem twice_listen {c : Config} (h : GoodC c) {s : BA} (hs : s ∈ c.listens) : checkE { c with listens := c.listens ++ [s] } = if c.listens.length = 4 then some ((6, 0) : EI) else some ((4, c.listens.length) : EI) := by
  unfold checkE
  by_cases h4 : c.listens.length = 4
  · have : sizeE { c with listens := c.listens ++ [s] } = some (6, 0) := by
      unfold sizeE
      rw [if_neg]
      simp [h4]
    rw [this, if_pos h4]
  · have h1 : sizeE { c with listens := c.listens ++ [s] } = none := by
      unfold sizeE
      rw [if_pos]
      have := h.size
      simp; omega
    have h2 : listensE { c with listens := c.listens ++ [s] } = some ((4, c.listens.length) : EI) := by
      refine Pass.hit (i := c.listens.length) (x := s) (fun j hj x hx => ?_) (by simp) ?_
      · rw [List.getElem?_append_left hj] at hx
        have := firstF_none.1 (listensE_none.2 ⟨h.ln, h.lu⟩) j x hx
        unfold listenF at this ⊢
        rwa [List.take_append_of_le_length (by omega)]
      · unfold listenF
        rw [if_pos (h.ln s hs), if_pos]
        rw [List.take_left']
        · exact List.any_eq_true.2 ⟨s, hs, by simp⟩
        · rfl
    rw [h1, h2, if_neg h4]
/-- A route more that is there. -/
theorem twice_route {c : Config} (h : GoodC c) {r : Route} (hr : r ∈ c.routes) : checkE { c with routes := c.routes ++ [r] } = if c.routes.length = 8 then some ((6, 0) : EI) else some ((4, c.routes.length) : EI) := by
  unfold checkE
  by_cases h4 : c.routes.length = 8
  · have : sizeE { c with routes := c.routes ++ [r] } = some (6, 0) := by
      unfold sizeE
      rw [if_neg]
      simp [h4]
    rw [this, if_pos h4]
  · have h1 : sizeE { c with routes := c.routes ++ [r] } = none := by
      unfold sizeE
      rw [if_pos]
      have := h.size
      simp; omega
    have h2 : listensE { c with routes := c.routes ++ [r] } = none := listensE_none.2 ⟨h.ln, h.lu⟩
    have h3 : clustersE { c with routes := c.routes ++ [r] } = none := clustersE_none.2 ⟨h.cl, h.cu⟩
    have h5 : routesE { c with routes := c.routes ++ [r] } = some ((4, c.routes.length) : EI) := by
      refine Pass.hit (i := c.routes.length) (x := r) (fun j hj x hx => ?_) (by simp) ?_
      · rw [List.getElem?_append_left hj] at hx
        have := firstF_none.1 (routesE_none.2 ⟨h.rt, h.ru⟩) j x hx
        unfold routeF at this ⊢
        rwa [List.take_append_of_le_length (by omega)]
      · obtain ⟨k1, k2, k3, k4⟩ := h.rt r hr
        unfold routeF
        rw [if_pos k1, if_pos k2, if_pos k3, if_pos k4, if_pos]
        rw [List.take_left']
        · exact List.any_eq_true.2 ⟨r, hr, by simp [eqRt]⟩
        · rfl
    rw [h1, h2, h3, h5, if_neg h4]
end Go.Proofs.Ytedjbhpocedagaa.Sx

/- Frozen memory that the call made: it is written, and what is told of it. -/
namespace Go.Proofs.Ytedjbhpocedagaa.Sx
open Go.RowKit
theorem PbSl.dom {g : GW} {lo : Nat} {ety : TypeId} {size b n cap : Nat} {cs : List Value} (h : PbSl g lo ety size (.slice (some ⟨b, 0, none⟩) n cap) n cs) : g.g b := by
  obtain ⟨_, h2, _⟩ := h
  rcases h2 with ⟨h2, _⟩ | ⟨b', cap', rest, hv, hb, _⟩
  · cases h2
  · simp only [Value.slice.injEq, Option.some.injEq, Addr.mk.injEq] at hv
    obtain ⟨⟨rfl, _⟩, _⟩ := hv
    exact hb.2
theorem PbSl.ge {g : GW} {lo : Nat} {ety : TypeId} {size b n cap : Nat} {cs : List Value} (h : PbSl g lo ety size (.slice (some ⟨b, 0, none⟩) n cap) n cs) : lo ≤ b := by
  obtain ⟨_, h2, _⟩ := h
  rcases h2 with ⟨h2, _⟩ | ⟨b', cap', rest, hv, hb, _⟩
  · cases h2
  · simp only [Value.slice.injEq, Option.some.injEq, Addr.mk.injEq] at hv
    obtain ⟨⟨rfl, _⟩, _⟩ := hv
    exact hb.1
theorem PbSl.ne {g : GW} {lo : Nat} {ety : TypeId} {size b b' n cap : Nat} {cs : List Value} (h : PbSl g lo ety size (.slice (some ⟨b, 0, none⟩) n cap) n cs) (hn : ¬ g.g b') : b ≠ b' := fun e => hn (e ▸ h.dom)
/-- Another block is written. -/
theorem PbSl.keep {g g' : GW} {lo : Nat} {ety : TypeId} {size b b' n cap : Nat} {cs : List Value} {o : Obj} (h : PbSl g lo ety size (.slice (some ⟨b', 0, none⟩) n cap) n cs) (u : Upd g b o g') (hne : b' ≠ b) : PbSl g' lo ety size (.slice (some ⟨b', 0, none⟩) n cap) n cs := by
  obtain ⟨h1, h2, h3⟩ := h
  refine ⟨h1, ?_, h3⟩
  rcases h2 with ⟨h2, _⟩ | ⟨b', cap', rest, hv, hb, ho, hr⟩
  · cases h2
  · simp only [Value.slice.injEq, Option.some.injEq, Addr.mk.injEq] at hv
    obtain ⟨⟨rfl, _⟩, _, rfl⟩ := hv
    exact .inr ⟨_, _, rest, rfl, ⟨hb.1, (u.dom _).2 hb.2⟩, (u.other _ hb.2 hne).trans ho, hr⟩
/-- It is written. -/
theorem PbSl.poke {g : GW} {lo : Nat} {ety : TypeId} {size b n cap : Nat} {cs : List Value} (h : PbSl g lo ety size (.slice (some ⟨b, 0, none⟩) n cap) n cs) :
    ∃ rest, (lo ≤ b ∧ g.g b ∧ g.w.heap[b]? = some (.cells ⟨cs ++ rest⟩ ety (0, 0))) ∧ ∀ (j m : Nat) (vs : List Value) g', j + m ≤ cs.length → m = vs.length → (∀ u ∈ vs, u.oneCell' = true) →
      Upd g b (.cells ⟨(cs ++ rest).take j ++ vs ++ (cs ++ rest).drop (j + m)⟩ ety (0, 0)) g' → PbSl g' lo ety size (.slice (some ⟨b, 0, none⟩) n cap) n (cs.take j ++ vs ++ cs.drop (j + m)) := by
  obtain ⟨h1, h2, h3⟩ := h
  rcases h2 with ⟨h2, _⟩ | ⟨b', cap', rest, hv, hb, ho, hnc, hcm, hr⟩
  · cases h2
  · simp only [Value.slice.injEq, Option.some.injEq, Addr.mk.injEq] at hv
    obtain ⟨⟨rfl, _⟩, _, rfl⟩ := hv
    refine ⟨rest, ⟨hb.1, hb.2, ho⟩, fun j m vs g' hj hm hone u => ?_⟩
    subst hm
    have e : (cs ++ rest).take j ++ vs ++ (cs ++ rest).drop (j + vs.length) = (cs.take j ++ vs ++ cs.drop (j + vs.length)) ++ rest := by
      rw [List.take_append_of_le_length (by omega), List.drop_append_of_le_length (by omega)]; simp
    rw [e] at u
    refine ⟨?_, .inr ⟨b, cap, rest, rfl, ⟨hb.1, (u.dom _).2 hb.2⟩, u.obj, hnc, hcm, ?_⟩, fun x hx => ?_⟩
    · rw [← h1]; simp; omega
    · rw [← hr]; simp; omega
    · rcases List.mem_append.1 hx with hx | hx
      · rcases List.mem_append.1 hx with hx | hx
        · exact h3 x (List.mem_of_mem_take hx)
        · exact hone x hx
      · exact h3 x (List.mem_of_mem_drop hx)
theorem oneF {α : Type} {l : List α} {f : α → List Value} (h : ∀ x ∈ l, (f x).all Value.oneCell' = true) : ∀ u ∈ (l.map f).flatten, u.oneCell' = true := fun u hu => by
  obtain ⟨c, hc, hu⟩ := List.mem_flatten.1 hu
  obtain ⟨x, hx, rfl⟩ := List.mem_map.1 hc
  exact List.all_eq_true.1 (h x hx) u hu
/-- One element's cells. -/
theorem rdE_at {g : GW} {sz n cap : Nat} {oa : Option Addr} {ecs : List (List Value)} (h : RdSl g sz (.slice oa n cap) n ecs.flatten) (hsz : ∀ e ∈ ecs, e.length = sz) (hpos : 0 < sz) {i : Nat} {ec : List Value} (hi : ecs[i]? = some ec) : ∃ a, oa = some a ∧ Rcs g (a.add (i * sz)) ec := by
  obtain ⟨h1, oa', cap', he, h2, h3, h4, h5⟩ := h
  simp only [Value.slice.injEq, true_and] at he
  obtain ⟨rfl, rfl⟩ := he
  have hl := hsz ec (List.mem_of_getElem? hi)
  obtain ⟨u0, hu0⟩ : ∃ u, ec[0]? = some u := ⟨ec[0]'(by omega), List.getElem?_eq_getElem (by omega)⟩
  obtain ⟨a, rfl, _⟩ := h5 _ _ (flatten_at hsz hi hu0)
  refine ⟨a, rfl, fun j u hu => ?_⟩
  obtain ⟨a', ha', hr⟩ := h5 _ _ (flatten_at hsz hi hu)
  cases ha'
  rwa [add_add]
theorem take_rev {α : Type} {l : List α} {k : Nat} {x : α} (hk : k < l.length) (hx : l[l.length - 1 - k]? = some x) : l.reverse.take (k + 1) = l.reverse.take k ++ [x] := by
  have : l.reverse[k]? = some x := by rw [List.getElem?_reverse hk]; exact hx
  obtain ⟨h1, h2⟩ := List.getElem?_eq_some_iff.1 this
  rw [List.take_succ_eq_append_getElem h1, h2]
theorem pair_rev {α β : Type} {l : List α} {m : List β} {R : α → β → Prop} (hlen : m.length = l.length) (h : ∀ (i : Nat) x y, l[i]? = some x → m[i]? = some y → R x y) (i : Nat) (x : α) (y : β) (hx : l.reverse[i]? = some x) (hy : m.reverse[i]? = some y) : R x y := by
  have hi := (List.getElem?_eq_some_iff.1 hx).1
  simp only [List.length_reverse] at hi
  rw [List.getElem?_reverse hi] at hx
  rw [List.getElem?_reverse (by omega), hlen] at hy
  exact h _ _ _ hx hy
/-- A slice in another block than the one that is written. -/
theorem rSl.keep0 {α : Type} {sz : Nat} {R : RP α} (hR : ∀ g g' cs x, R g cs x → R g' cs x) {g g' : GW} {b : Nat} {o : Obj} {oa : Option Addr} {n cap : Nat} {l : List α} (h : rSl sz R g (.slice oa n cap) l) (u : Upd g b o g') (hne : ∀ x, oa = some x → x.block ≠ b) : rSl sz R g' (.slice oa n cap) l := by
  obtain ⟨oa', cap', he, h2, h3, h4, h5⟩ := h
  refine ⟨oa', cap', he, h2, h3, h4, fun i x hx => ?_⟩
  obtain ⟨a, rfl, ec, k1, k2, k3⟩ := h5 i x hx
  simp only [Value.slice.injEq] at he
  obtain ⟨rfl, _⟩ := he
  refine ⟨a, rfl, ec, k1, hR _ _ _ _ k2, fun j v hv => ?_⟩
  obtain ⟨c1, c2⟩ := k3 j v hv
  have hb : ((a.add (i * sz)).add j).block = a.block := by
    unfold Addr.add; repeat' split
    all_goals rfl
  refine ⟨(u.dom _).2 c1, ?_⟩
  rw [World.cell?_of_block (u.other _ c1 (by rw [hb]; exact hne a rfl))]
  exact c2
end Go.Proofs.Ytedjbhpocedagaa.Sx

/- Scripts: numbers as bytes of seven bits each, and back. -/
namespace Go.Proofs.Ytedjbhpocedagaa.Sx
/-- A number's bytes. -/
def encN (n : Nat) : List Nat := if h : n < 128 then [n] else (n % 128 + 128) :: encN (n / 128)
termination_by n
decreasing_by omega
theorem encN_lt {n : Nat} (h : n < 128) : encN n = [n] := by rw [encN, dif_pos h]
theorem encN_ge {n : Nat} (h : ¬ n < 128) : encN n = (n % 128 + 128) :: encN (n / 128) := by rw [encN, dif_neg h]
/-- The first number of some bytes: its value, how many bytes it has; at most 'fuel' bytes are looked at, of which i were ahead. -/
def decN : Nat → Nat → List Nat → Option (Nat × Nat)
  | 0, _, _ => none
  | _, _, [] => none
  | fuel + 1, i, x :: r => if 128 ≤ x then (match decN fuel (i + 1) r with
      | some (n, k) => some (x - 128 + 128 * n, k + 1)
      | none => none)
    else if 0 < i ∧ x = 0 then none else some (x, 1)
theorem encN_ne (n : Nat) : encN n ≠ [] := by
  by_cases h : n < 128
  · rw [encN_lt h]; simp
  · rw [encN_ge h]; simp
/-- How many bytes. -/
theorem encN_len : ∀ {k n : Nat}, n < 128 ^ k → 0 < k → (encN n).length ≤ k := by
  intro k
  induction k with
  | zero => intro n _ h; omega
  | succ k ih =>
    intro n hn _
    by_cases h : n < 128
    · rw [encN_lt h]; simp
    · rw [encN_ge h]
      have hk : 0 < k := by
        rcases Nat.eq_zero_or_pos k with e | e
        · subst e; simp at hn; omega
        · exact e
      have : n / 128 < 128 ^ k := by rw [Nat.pow_succ] at hn; omega
      have := ih this hk
      simp; omega
/-- Bytes of a number are that number again. -/
theorem dec_enc : ∀ {fuel n i : Nat} {r : List Nat}, (encN n).length ≤ fuel → (0 < i → 0 < n) → decN fuel i (encN n ++ r) = some (n, (encN n).length) := by
  intro fuel
  induction fuel with
  | zero => intro n i r h; have := encN_ne n; cases he : encN n with
    | nil => exact absurd he this
    | cons a l => rw [he] at h; simp at h
  | succ f ih =>
    intro n i r h hi
    by_cases hn : n < 128
    · rw [encN_lt hn]
      simp only [List.cons_append, List.nil_append, decN]
      rw [if_neg (by omega), if_neg (by omega)]; rfl
    · rw [encN_ge hn] at h ⊢
      simp only [List.cons_append, decN]
      rw [if_pos (by omega), ih (by simpa using h) (by omega)]
      simp; omega
/-- What was read is what was written. -/
theorem enc_dec : ∀ {fuel i : Nat} {l : List Nat} {n k : Nat}, (∀ x ∈ l, x < 256) → decN fuel i l = some (n, k) → encN n = l.take k ∧ 0 < k ∧ k ≤ l.length ∧ k ≤ fuel ∧ (0 < i → 0 < n) ∧ n < 128 ^ k := by
  intro fuel
  induction fuel with
  | zero => intro i l n k _ h; simp [decN] at h
  | succ f ih =>
    intro i l n k hb h
    cases l with
    | nil => simp [decN] at h
    | cons x r =>
      simp only [decN] at h
      split at h
      · rename_i hx
        split at h
        · rename_i m j hd
          simp only [Option.some.injEq, Prod.mk.injEq] at h
          obtain ⟨rfl, rfl⟩ := h
          obtain ⟨h1, h2, h3, h4, h5, h6⟩ := ih (fun y hy => hb y (List.mem_cons_of_mem _ hy)) hd
          have hx2 := hb x (by simp)
          have hm : 0 < m := h5 (by omega)
          refine ⟨?_, by omega, by simp; omega, by omega, by omega, ?_⟩
          · rw [encN_ge (by omega), show (x - 128 + 128 * m) % 128 + 128 = x by omega, show (x - 128 + 128 * m) / 128 = m by omega, h1]; rfl
          · rw [Nat.pow_succ]; omega
        · cases h
      · split at h
        · cases h
        · rename_i hx hx0
          simp only [Option.some.injEq, Prod.mk.injEq] at h
          obtain ⟨rfl, rfl⟩ := h
          refine ⟨by rw [encN_lt (by omega)]; rfl, by omega, by simp, by omega, by omega, by omega⟩
/-- All numbers' bytes; none if one of them is negative. -/
def bytesL : List Int → Option (List Nat)
  | [] => some []
  | x :: r => if x < 0 then none else match bytesL r with
    | some b => some (encN x.toNat ++ b)
    | none => none
/-- All numbers of some bytes, and whether they are too many, or of no right form. -/
def picksL : Nat → List Nat → List Nat → Except Int (List Nat)
  | _, out, [] => .ok out
  | 0, _, _ :: _ => .error 11
  | fuel + 1, out, x :: r => match decN 9 0 (x :: r) with
    | none => .error 11
    | some (n, k) => if out.length = 4000 then .error 6 else picksL fuel (out ++ [n]) ((x :: r).drop k)
theorem bytesL_neg {l : List Int} : bytesL l = none ↔ ∃ x ∈ l, x < 0 := by
  induction l with
  | nil => simp [bytesL]
  | cons x r ih =>
    simp only [bytesL]
    split
    · rename_i h; simp [h]
    · rename_i h
      split
      · rename_i b hb
        have this : ∀ y ∈ r, ¬ y < 0 := fun y hy hh => by rw [ih.2 ⟨y, hy, hh⟩] at hb; cases hb
        simp; exact ⟨by omega, fun y hy => by have := this y hy; omega⟩
      · rename_i hb
        obtain ⟨y, hy, hy0⟩ := ih.1 hb
        simp; exact .inr ⟨y, hy, hy0⟩
theorem bytesL_snoc {l : List Int} {x : Int} {b : List Nat} (h : bytesL l = some b) (hx : ¬ x < 0) : bytesL (l ++ [x]) = some (b ++ encN x.toNat) := by
  induction l generalizing b with
  | nil => simp only [bytesL, Option.some.injEq] at h; subst h; simp [bytesL, hx]
  | cons y r ih =>
    simp only [bytesL, List.cons_append] at h ⊢
    split at h
    · cases h
    · rename_i hy
      rw [if_neg hy]
      split at h
      · rename_i b' hb'
        simp only [Option.some.injEq] at h; subst h
        rw [ih hb']; simp
      · cases h
/-- Bytes of numbers are those numbers again. -/
theorem picks_bytes : ∀ {l : List Int} {b : List Nat} {fuel : Nat} {out : List Nat}, (∀ x ∈ l, x < 128 ^ 9) → bytesL l = some b → l.length + out.length ≤ 4000 → b.length ≤ fuel → picksL fuel out b = .ok (out ++ l.map Int.toNat) := by
  intro l
  induction l with
  | nil => intro b fuel out _ h _ _; simp only [bytesL, Option.some.injEq] at h; subst h; cases fuel <;> simp [picksL]
  | cons x r ih =>
    intro b fuel out hx h hlen hf
    simp only [bytesL] at h
    split at h
    · cases h
    · rename_i hx0
      split at h
      · rename_i b' hb'
        simp only [Option.some.injEq] at h; subst h
        have hlt : x.toNat < 128 ^ 9 := by have := hx x (by simp); omega
        have hne := encN_ne x.toNat
        have hl9 := encN_len hlt (by omega)
        obtain ⟨a, t, he⟩ : ∃ a t, encN x.toNat ++ b' = a :: t := by
          cases hc : encN x.toNat with
          | nil => exact absurd hc hne
          | cons a t => exact ⟨a, t ++ b', rfl⟩
        cases fuel with
        | zero => rw [he] at hf; simp at hf
        | succ f =>
          have hd := dec_enc (fuel := 9) (n := x.toNat) (i := 0) (r := b') hl9 (by omega)
          have hpos : 0 < (encN x.toNat).length := List.length_pos_iff.2 hne
          have := ih (b := b') (fuel := f) (out := out ++ [x.toNat]) (fun y hy => hx y (by simp [hy])) hb' (by simp at hlen ⊢; omega) (by simp at hf; omega)
          rw [he] at hd ⊢
          simp only [picksL, hd]
          rw [if_neg (by simp at hlen; omega), ← he, List.drop_left', this]
          · simp
          · rfl
      · cases h
/-- What was read is what was written. -/
theorem bytes_picks : ∀ {fuel : Nat} {b out l : List Nat}, (∀ x ∈ b, x < 256) → picksL fuel out b = .ok l → ∃ m : List Nat, l = out ++ m ∧ bytesL (m.map Int.ofNat) = some b ∧ (∀ x ∈ m, x < 128 ^ 9) ∧ (out.length ≤ 4000 → l.length ≤ 4000) := by
  intro fuel
  induction fuel with
  | zero =>
    intro b out l hb h
    cases b with
    | nil => simp only [picksL, Except.ok.injEq] at h; subst h; exact ⟨[], by simp, rfl, by simp, fun h => h⟩
    | cons x r => simp [picksL] at h
  | succ f ih =>
    intro b out l hb h
    cases b with
    | nil => simp only [picksL, Except.ok.injEq] at h; subst h; exact ⟨[], by simp, rfl, by simp, fun h => h⟩
    | cons x r =>
      simp only [picksL] at h
      split at h
      · cases h
      · rename_i n k hd
        split at h
        · cases h
        · rename_i hlen
          obtain ⟨h1, h2, h3, h4, _, h6⟩ := enc_dec hb hd
          obtain ⟨m, rfl, hm, hm9, hml⟩ := ih (fun y hy => hb y (List.mem_of_mem_drop hy)) h
          refine ⟨n :: m, by simp, ?_, fun y hy => ?_, fun ho => hml (by simp; omega)⟩
          · simp only [List.map_cons, bytesL]
            rw [if_neg (by show ¬ (n : Int) < 0; omega), hm]
            simp only [Option.some.injEq]
            rw [show (Int.ofNat n).toNat = n from rfl, h1]
            exact List.take_append_drop k _
          · rcases List.mem_cons.1 hy with rfl | hy
            · exact Nat.lt_of_lt_of_le h6 (Nat.pow_le_pow_right (by omega) h4)
            · exact hm9 y hy
/-! ### The machine's arithmetic -/
theorem u8w (m : Nat) : IntKind.u8.wrap (m : Int) = ((m % 256 : Nat) : Int) := by
  simp only [IntKind.wrap, IntKind.bits, IntKind.signed, Bool.false_and]
  rw [if_neg (by simp)]; omega
set_option maxRecDepth 100000 in
theorem or_fin : ∀ x : Fin 256, bitsI .or .u8 ((x.1 : Nat) : Int) 128 = ((x.1 % 128 + 128 : Nat) : Int) := by decide
theorem or128 (m : Nat) : bitsI .or .u8 (IntKind.u8.wrap (m : Int)) 128 = ((m % 128 + 128 : Nat) : Int) := by
  rw [u8w]
  have := or_fin ⟨m % 256, by omega⟩
  simp only at this
  rw [this]; omega
theorem shr7 (m : Nat) : Int.fdiv (m : Int) (2 ^ min (Int.toNat 7) (IntKind.bits .i64)) = ((m / 128 : Nat) : Int) := by
  rw [show (2 : Int) ^ min (Int.toNat 7) (IntKind.bits .i64) = 128 from by decide, Int.fdiv_eq_ediv_of_nonneg _ (by omega)]; omega
theorem u8lt {m : Nat} (h : m < 128) : IntKind.u8.wrap (m : Int) = (m : Int) := by rw [u8w]; omega
theorem remw (m : Nat) (h : m < 2 ^ 63) : IntKind.u8.wrap (IntKind.i64.wrap (Int.tmod (m : Int) 128 + 128)) = ((m % 128 + 128 : Nat) : Int) := by
  have e : Int.tmod (m : Int) 128 + 128 = ((m % 128 + 128 : Nat) : Int) := by rw [Int.tmod_eq_emod_of_nonneg (by omega)]; omega
  rw [e, wr (show InR _ by unfold InR; omega), u8w]; omega
theorem quow (m : Nat) (h : m < 2 ^ 63) : IntKind.i64.wrap (Int.tdiv (m : Int) 128) = ((m / 128 : Nat) : Int) := by
  have e : Int.tdiv (m : Int) 128 = ((m / 128 : Nat) : Int) := by rw [Int.tdiv_eq_ediv_of_nonneg (by omega)]; omega
  rw [e, wr (show InR _ by unfold InR; omega)]
end Go.Proofs.Ytedjbhpocedagaa.Sx

/- Scripts: how a number is read, byte for byte. -/
namespace Go.Proofs.Ytedjbhpocedagaa.Sx
theorem picksL_fuel : ∀ {f : Nat} {out l : List Nat}, l.length ≤ f → picksL f out l = picksL l.length out l := by
  intro f
  induction f using Nat.strongRecOn with
  | ind f ih =>
    intro out l hl
    cases l with
    | nil => cases f <;> simp [picksL]
    | cons x r =>
      cases f with
      | zero => simp at hl
      | succ f =>
        simp only [List.length_cons, picksL]
        split
        · rfl
        · rename_i n k hd
          split
          · rfl
          · have hk : 0 < k := by
              simp only [decN] at hd
              split at hd
              · split at hd
                · simp only [Option.some.injEq, Prod.mk.injEq] at hd; omega
                · cases hd
              · split at hd
                · cases hd
                · simp only [Option.some.injEq, Prod.mk.injEq] at hd; omega
            have h1 : ((x :: r).drop k).length ≤ r.length := by simp; omega
            rw [ih f (by omega) (Nat.le_trans h1 (by simpa using hl))]
            by_cases h2 : r.length < f + 1
            · rcases Nat.lt_or_ge r.length (f + 1) with h3 | h3
              · rw [ih r.length h3 h1]
              · omega
            · simp at hl; omega
/-- One number more. -/
theorem picks_step {out : List Nat} {l : List Nat} {n k : Nat} (hd : decN 9 0 l = some (n, k)) (ho : out.length ≠ 4000) : picksL l.length out l = picksL (l.drop k).length (out ++ [n]) (l.drop k) := by
  cases l with
  | nil => simp [decN] at hd
  | cons x r =>
    simp only [List.length_cons, picksL, hd]
    rw [if_neg ho]
    refine picksL_fuel ?_
    have hk : 0 < k := by
      simp only [decN] at hd
      split at hd
      · split at hd
        · simp only [Option.some.injEq, Prod.mk.injEq] at hd; omega
        · cases hd
      · split at hd
        · cases hd
        · simp only [Option.some.injEq, Prod.mk.injEq] at hd; omega
    simp; omega
theorem picks_many {out : List Nat} {l : List Nat} {n k : Nat} (hd : decN 9 0 l = some (n, k)) (ho : out.length = 4000) : picksL l.length out l = .error 6 := by
  cases l with
  | nil => simp [decN] at hd
  | cons x r => simp only [List.length_cons, picksL, hd]; rw [if_pos ho]
theorem picks_bad {out : List Nat} {l : List Nat} (hl : l ≠ []) (hd : decN 9 0 l = none) : picksL l.length out l = .error 11 := by
  cases l with
  | nil => exact absurd rfl hl
  | cons x r => simp only [List.length_cons, picksL, hd]
/-- The value of the bytes that were seen. -/
def accN : List Nat → Nat
  | [] => 0
  | x :: r => x - 128 + 128 * accN r
theorem accN_snoc (l : List Nat) (x : Nat) : accN (l ++ [x]) = accN l + (x - 128) * 128 ^ l.length := by
  induction l with
  | nil => simp [accN]
  | cons y r ih =>
    simp only [List.cons_append, accN, ih, List.length_cons, Nat.pow_succ, Nat.mul_add]
    rw [Nat.mul_comm (128 ^ r.length) 128, ← Nat.mul_assoc (x - 128), Nat.mul_comm (x - 128) 128, Nat.mul_assoc]; omega
theorem accN_lt {l : List Nat} (h : ∀ x ∈ l, x < 256) : accN l < 128 ^ l.length := by
  induction l with
  | nil => simp [accN]
  | cons y r ih =>
    have := ih fun x hx => h x (List.mem_cons_of_mem _ hx)
    have := h y (by simp)
    simp only [accN, List.length_cons, Nat.pow_succ]
    omega
/-- All bytes so far go on: what is left to read. -/
theorem dec_go : ∀ {p r : List Nat} {fuel i : Nat}, (∀ x ∈ p, 128 ≤ x) → p.length ≤ fuel → decN fuel i (p ++ r) = (match decN (fuel - p.length) (i + p.length) r with
    | some (m, k) => some (accN p + 128 ^ p.length * m, k + p.length)
    | none => none) := by
  intro p
  induction p with
  | nil =>
    intro r fuel i _ _
    simp only [List.nil_append, List.length_nil, Nat.sub_zero, Nat.add_zero, accN, Nat.pow_zero, Nat.one_mul, Nat.zero_add]
    split
    · assumption
    · assumption
  | cons x p ih =>
    intro r fuel i hp hf
    cases fuel with
    | zero => simp at hf
    | succ f =>
      simp only [List.cons_append, decN]
      rw [if_pos (hp x (by simp)), ih (fun y hy => hp y (List.mem_cons_of_mem _ hy)) (by simpa using hf)]
      simp only [List.length_cons, Nat.add_sub_add_right, show i + 1 + p.length = i + (p.length + 1) by omega]
      split
      · rename_i m k hm
        split at hm
        · simp only [Option.some.injEq, Prod.mk.injEq] at hm
          obtain ⟨rfl, rfl⟩ := hm
          simp only [accN, Nat.pow_succ, Option.some.injEq, Prod.mk.injEq]
          refine ⟨?_, by omega⟩
          rw [Nat.mul_add, Nat.mul_comm (128 ^ p.length) 128, Nat.mul_assoc]; omega
        · cases hm
      · rename_i hm
        split at hm
        · cases hm
        · rfl
/-! ### The machine's arithmetic -/
theorem shl_or {n y s : Nat} (hn : n < 2 ^ s) : n ||| y * 2 ^ s = n + y * 2 ^ s := by
  have := Nat.shiftLeft_add_eq_or_of_lt hn y
  rw [Nat.shiftLeft_eq] at this
  rw [Nat.or_comm, ← this]; omega
set_option maxRecDepth 100000 in
theorem and_fin : ∀ x : Fin 256, bitsI .and .u8 ((x.1 : Nat) : Int) 127 = ((x.1 % 128 : Nat) : Int) := by decide
theorem bits_or {n z : Nat} (h : n ||| z < 2 ^ 63) (hn : n < 2 ^ 63) (hz : z < 2 ^ 63) : bitsI .or .i64 (n : Int) (z : Int) = ((n ||| z : Nat) : Int) := by
  have e1 : (BitVec.ofInt 64 (n : Int)).toNat = n := by simp; omega
  have e2 : (BitVec.ofInt 64 (z : Int)).toNat = z := by simp; omega
  show IntKind.i64.wrap ((BitVec.ofInt 64 (n : Int) ||| BitVec.ofInt 64 (z : Int)).toNat : Int) = _
  rw [BitVec.toNat_or, e1, e2, wr (show InR _ by unfold InR; omega)]
theorem orN {n y i : Nat} (hn : n < 128 ^ i) (hy : y < 256) (hi : i < 9) :
    bitsI .or .i64 (n : Int) (IntKind.i64.wrap (IntKind.i64.wrap (bitsI .and .u8 (y : Int) 127) * 2 ^ min (IntKind.i64.wrap (7 * (i : Int))).toNat (IntKind.bits .i64))) = ((n + y % 128 * 128 ^ i : Nat) : Int) := by
  have h1 := and_fin ⟨y, hy⟩
  simp only at h1
  rw [h1, wr (show InR ((y % 128 : Nat) : Int) by unfold InR; omega), wr (show InR (7 * (i : Int)) by unfold InR; omega)]
  have h2 : min (7 * (i : Int)).toNat (IntKind.bits .i64) = 7 * i := by simp only [IntKind.bits]; omega
  rw [h2]
  have h3 : (2 : Nat) ^ (7 * i) = 128 ^ i := by rw [Nat.pow_mul]
  have h4 : ((y % 128 : Nat) : Int) * 2 ^ (7 * i) = ((y % 128 * 128 ^ i : Nat) : Int) := by rw [← h3]; push_cast; rfl
  have h5 : n + y % 128 * 128 ^ i < 128 ^ (i + 1) := by
    rw [Nat.pow_succ, Nat.mul_comm (128 ^ i)]
    have : y % 128 * 128 ^ i ≤ 127 * 128 ^ i := Nat.mul_le_mul_right _ (by omega)
    omega
  have h6 : (128 : Nat) ^ (i + 1) ≤ 128 ^ 9 := Nat.pow_le_pow_right (by omega) (by omega)
  have h7 : (128 : Nat) ^ 9 = 2 ^ 63 := by decide
  have h8 : n ||| y % 128 * 128 ^ i = n + y % 128 * 128 ^ i := by rw [← h3]; exact shl_or (by rw [h3]; exact hn)
  rw [h4, wr (show InR _ by unfold InR; omega), bits_or (by rw [h8]; omega) (by omega) (by omega), h8]
theorem refN {n y k : Nat} (hn : n < 128 ^ k) (hy : 128 ≤ y) (hy2 : y < 256) (hk : k < 9) :
    IntKind.i64.wrap ((n : Int) + IntKind.i64.wrap (((128 ^ min k 8 : Nat) : Int) * IntKind.i64.wrap (IntKind.i64.wrap (y : Int) - 128))) = ((n + (y - 128) * 128 ^ k : Nat) : Int) := by
  have e8 : min k 8 = k := by omega
  have h8 : (128 : Nat) ^ k ≤ 128 ^ 8 := Nat.pow_le_pow_right (by omega) (by omega)
  have h8' : (128 : Nat) ^ 8 = 72057594037927936 := by decide
  have hz : (y - 128) * 128 ^ k ≤ 127 * 128 ^ k := Nat.mul_le_mul_right _ (by omega)
  rw [e8, wr (show InR (y : Int) by unfold InR; omega), wr (show InR ((y : Int) - 128) by unfold InR; omega)]
  have h1 : ((128 ^ k : Nat) : Int) * ((y : Int) - 128) = (((y - 128) * 128 ^ k : Nat) : Int) := by
    rw [show (y : Int) - 128 = ((y - 128 : Nat) : Int) by omega, ← Int.natCast_mul, Nat.mul_comm]
  rw [h1, wr (show InR (((y - 128) * 128 ^ k : Nat) : Int) by unfold InR; omega), wr (show InR _ by unfold InR; omega)]; simp
theorem byN {k : Nat} (hk : k < 8) : IntKind.i64.wrap (((128 ^ min k 8 : Nat) : Int) * 128) = ((128 ^ min (k + 1) 8 : Nat) : Int) := by
  have h8 : (128 : Nat) ^ (k + 1) ≤ 128 ^ 8 := Nat.pow_le_pow_right (by omega) (by omega)
  have h8' : (128 : Nat) ^ 8 = 72057594037927936 := by decide
  have e : ((128 ^ min k 8 : Nat) : Int) * 128 = ((128 ^ min (k + 1) 8 : Nat) : Int) := by
    rw [show min k 8 = k by omega, show min (k + 1) 8 = k + 1 by omega, Nat.pow_succ]; simp
  rw [e, wr]
  rw [show min (k + 1) 8 = k + 1 by omega]
  rw [h8'] at h8
  generalize (128 : Nat) ^ (k + 1) = z at h8 ⊢
  unfold InR; omega
theorem refM {n y k : Nat} (hn : n < 128 ^ k) (hy2 : y < 128) (hk : k < 9) :
    IntKind.i64.wrap ((n : Int) + IntKind.i64.wrap (((128 ^ min k 8 : Nat) : Int) * IntKind.i64.wrap (y : Int))) = ((n + 128 ^ k * y : Nat) : Int) := by
  have e8 : min k 8 = k := by omega
  have h8 : (128 : Nat) ^ k ≤ 128 ^ 8 := Nat.pow_le_pow_right (by omega) (by omega)
  have h8' : (128 : Nat) ^ 8 = 72057594037927936 := by decide
  have hz : 128 ^ k * y ≤ 128 ^ k * 127 := Nat.mul_le_mul_left _ (by omega)
  rw [e8, wr (show InR (y : Int) by unfold InR; omega)]
  have h1 : ((128 ^ k : Nat) : Int) * (y : Int) = ((128 ^ k * y : Nat) : Int) := by rw [← Int.natCast_mul]
  rw [h1, wr (show InR ((128 ^ k * y : Nat) : Int) by unfold InR; omega), wr (show InR _ by unfold InR; omega)]; simp
end Go.Proofs.Ytedjbhpocedagaa.Sx

/- Which rule a request goes by: plain words on rows of rules, and what follows. -/
namespace Go.Proofs.Ytedjbhpocedagaa.Sx
/-- One rule is better than another one. -/
def betR (a b : Rule) : Bool := betterB (bs a.host) (bs a.path) (bs b.host) (bs b.path)
def fitR (listen : Int) (host path : BA) (r : Rule) : Bool := r.listen == listen && matchB (bs r.host) (bs host) && underB (bs path) (bs r.path)
theorem betR_iff (a b : Rule) : betR a b = true ↔ weightB (bs b.host) < weightB (bs a.host) ∨ (weightB (bs a.host) = weightB (bs b.host) ∧ (bs b.path).length < (bs a.path).length) := by
  unfold betR
  rw [better_ref]
  simp
theorem betR_false (a b : Rule) : betR a b = false ↔ ¬ (weightB (bs b.host) < weightB (bs a.host) ∨ (weightB (bs a.host) = weightB (bs b.host) ∧ (bs b.path).length < (bs a.path).length)) := by
  rw [← betR_iff]; simp
theorem bet_irr (a : Rule) : betR a a = false := by rw [betR_false]; omega
/-- Where nothing is better, nothing is. -/
theorem bet_neg {a b c : Rule} (h : betR a b = false) (k : betR b c = false) : betR a c = false := by
  rw [betR_false] at *; omega
theorem bet_trans {a b c : Rule} (h : betR a b = true) (k : betR b c = true) : betR a c = true := by
  rw [betR_iff] at *; omega
theorem bet_asym {a b : Rule} (h : betR a b = true) : betR b a = false := by
  rw [betR_iff] at h; rw [betR_false]; omega
section
variable (fit : Rule → Bool)
/-- The best one of the first n. -/
def bestP (l : List Rule) : Nat → Option Nat
  | 0 => none
  | n + 1 => match l[n]? with
    | none => bestP l n
    | some r => if fit r then match bestP l n with
      | none => some n
      | some j => match l[j]? with
        | some q => if betR r q then some n else some j
        | none => some n
      else bestP l n
def bestO (l : List Rule) : Option Nat := bestP fit l l.length
/-- i is the best one's number among the first n. -/
def IsBest (l : List Rule) (n i : Nat) : Prop := ∃ r, l[i]? = some r ∧ i < n ∧ fit r = true ∧ (∀ k q, k < n → l[k]? = some q → fit q = true → betR q r = false) ∧ ∀ k q, k < i → l[k]? = some q → fit q = true → betR r q = true
variable {fit}
theorem IsBest.unique {l : List Rule} {n i j : Nat} (h : IsBest fit l n i) (k : IsBest fit l n j) : i = j := by
  obtain ⟨r, h1, h2, h3, h4, h5⟩ := h
  obtain ⟨q, k1, k2, k3, k4, k5⟩ := k
  rcases Nat.lt_trichotomy i j with hij | hij | hij
  · have := k5 i r hij h1 h3
    rw [h4 j q k2 k1 k3] at this; cases this
  · exact hij
  · have := h5 j q hij k1 k3
    rw [k4 i r h2 h1 h3] at this; cases this
theorem bestP_spec (l : List Rule) : ∀ n, n ≤ l.length → (∀ i, bestP fit l n = some i → IsBest fit l n i) ∧ (bestP fit l n = none → ∀ k q, k < n → l[k]? = some q → fit q = false)
  | 0, _ => ⟨fun i h => by simp [bestP] at h, fun _ k q hk => by omega⟩
  | n + 1, hn => by
    obtain ⟨ih1, ih2⟩ := bestP_spec l n (by omega)
    obtain ⟨r, hr⟩ := getL_of (show n < l.length by omega)
    simp only [bestP, hr]
    have old : ∀ {k : Nat} {q : Rule}, k < n + 1 → l[k]? = some q → k < n ∨ (k = n ∧ q = r) := fun {k q} hk hq => by
      rcases Nat.lt_or_ge k n with h | h
      · exact .inl h
      · obtain rfl : k = n := by omega
        rw [hr] at hq; cases hq; exact .inr ⟨rfl, rfl⟩
    cases hf : fit r with
    | false =>
      simp only [Bool.false_eq_true, if_false]
      refine ⟨fun i hi => ?_, fun hi k q hk hq => ?_⟩
      · obtain ⟨x, h1, h2, h3, h4, h5⟩ := ih1 i hi
        refine ⟨x, h1, by omega, h3, fun k q hk hq hfq => ?_, h5⟩
        rcases old hk hq with h | ⟨rfl, rfl⟩
        · exact h4 k q h hq hfq
        · rw [hf] at hfq; cases hfq
      · rcases old hk hq with h | ⟨rfl, rfl⟩
        · exact ih2 hi k q h hq
        · exact hf
    | true =>
      simp only [if_true]
      cases hb : bestP fit l n with
      | none =>
        simp only
        refine ⟨fun i hi => ?_, fun hi => by cases hi⟩
        cases hi
        refine ⟨r, hr, by omega, hf, fun k q hk hq hfq => ?_, fun k q hk hq hfq => ?_⟩
        · rcases old hk hq with h | ⟨rfl, rfl⟩
          · rw [ih2 hb k q h hq] at hfq; cases hfq
          · exact bet_irr _
        · rw [ih2 hb k q hk hq] at hfq; cases hfq
      | some j =>
        obtain ⟨x, h1, h2, h3, h4, h5⟩ := ih1 j hb
        simp only [h1]
        cases hbt : betR r x with
        | true =>
          simp only [if_true]
          refine ⟨fun i hi => ?_, fun hi => by cases hi⟩
          cases hi
          refine ⟨r, hr, by omega, hf, fun k q hk hq hfq => ?_, fun k q hk hq hfq => ?_⟩
          · rcases old hk hq with h | ⟨rfl, rfl⟩
            · exact bet_neg (h4 k q h hq hfq) (bet_asym hbt)
            · exact bet_irr _
          · have h4' := h4 k q hk hq hfq
            cases hrq : betR r q with
            | true => rfl
            | false =>
              have := bet_neg hrq h4'
              rw [hbt] at this; cases this
        | false =>
          simp only [Bool.false_eq_true, if_false]
          refine ⟨fun i hi => ?_, fun hi => by cases hi⟩
          cases hi
          refine ⟨x, h1, by omega, h3, fun k q hk hq hfq => ?_, h5⟩
          rcases old hk hq with h | ⟨rfl, rfl⟩
          · exact h4 k q h hq hfq
          · exact hbt
theorem bestO_some {l : List Rule} {i : Nat} : bestO fit l = some i ↔ IsBest fit l l.length i := by
  obtain ⟨h1, h2⟩ := bestP_spec (fit := fit) l l.length (Nat.le_refl _)
  refine ⟨h1 i, fun h => ?_⟩
  cases hb : bestO fit l with
  | some j => rw [h.unique (h1 j hb)]
  | none =>
    obtain ⟨r, k1, k2, k3, _⟩ := h
    rw [h2 hb i r k2 k1] at k3; cases k3
theorem bestO_none {l : List Rule} : bestO fit l = none ↔ ∀ r ∈ l, fit r = false := by
  obtain ⟨h1, h2⟩ := bestP_spec (fit := fit) l l.length (Nat.le_refl _)
  constructor
  · intro h r hr
    obtain ⟨k, hk⟩ := List.getElem?_of_mem hr
    exact h2 h k r (List.getElem?_eq_some_iff.1 hk).1 hk
  · intro h
    cases hb : bestO fit l with
    | none => rfl
    | some j =>
      obtain ⟨r, k1, k2, k3, _⟩ := h1 j hb
      rw [h r (List.mem_of_getElem? k1)] at k3; cases k3
theorem bestO_lt {l : List Rule} {i : Nat} (h : bestO fit l = some i) : i < l.length := by
  obtain ⟨r, h1, _⟩ := bestO_some.1 h
  exact (List.getElem?_eq_some_iff.1 h1).1
/-- The document's way: the first one that fits and is not beaten. -/
def beatB (fit : Rule → Bool) (l : List Rule) (r : Rule) : Bool := l.any fun q => fit q && betR q r
theorem best_ref {l : List Rule} {i : Nat} {r : Rule} (hr : l[i]? = some r) (hf : fit r = true) (hb : beatB fit l r = false) (h0 : ∀ j, j < i → ∀ q, l[j]? = some q → (fit q && !beatB fit l q) = false) : bestO fit l = some i := by
  rw [bestO_some]
  have hb' : ∀ q ∈ l, fit q = true → betR q r = false := fun q hq hfq => by
    have := List.any_eq_false.1 hb q hq
    simpa [hfq] using this
  refine ⟨r, hr, (List.getElem?_eq_some_iff.1 hr).1, hf, fun k q _ hq hfq => hb' q (List.mem_of_getElem? hq) hfq, fun k q hk hq hfq => ?_⟩
  have h1 := h0 k hk q hq
  rw [hfq] at h1
  have h2 : beatB fit l q = true := by simpa using h1
  obtain ⟨m, hm, hm2⟩ := List.any_eq_true.1 h2
  simp only [Bool.and_eq_true] at hm2
  cases hrq : betR r q with
  | true => rfl
  | false =>
    have := bet_neg (hb' m hm hm2.1) hrq
    rw [hm2.2] at this; cases this
/-- There always is one that is not beaten. -/
theorem best_ref_none {l : List Rule} (h0 : ∀ (j : Nat) q, l[j]? = some q → (fit q && !beatB fit l q) = false) : bestO fit l = none := by
  cases hb : bestO fit l with
  | none => rfl
  | some i =>
    obtain ⟨r, h1, h2, h3, h4, _⟩ := bestO_some.1 hb
    have := h0 i r h1
    rw [h3] at this
    have h5 : beatB fit l r = true := by simpa using this
    obtain ⟨m, hm, hm2⟩ := List.any_eq_true.1 h5
    simp only [Bool.and_eq_true] at hm2
    obtain ⟨k, hk⟩ := List.getElem?_of_mem hm
    rw [h4 k m (List.getElem?_eq_some_iff.1 hk).1 hk hm2.1] at hm2; cases hm2.2
/-- A rule that does not fit plays no part, wherever it stands. -/
theorem best_idle {a b : List Rule} {r : Rule} (hr : fit r = false) : bestO fit (a ++ r :: b) = (bestO fit (a ++ b)).map fun i => if a.length ≤ i then i + 1 else i := by
  cases hb : bestO fit (a ++ b) with
  | none =>
    simp only [Option.map_none]
    rw [bestO_none] at hb ⊢
    intro q hq
    rcases List.mem_append.1 hq with h | h
    · exact hb q (by simp [h])
    · rcases List.mem_cons.1 h with rfl | h
      · exact hr
      · exact hb q (by simp [h])
  | some i =>
    simp only [Option.map_some]
    rw [bestO_some] at hb ⊢
    obtain ⟨x, h1, h2, h3, h4, h5⟩ := hb
    have get : ∀ k : Nat, (a ++ r :: b)[k]? = if k < a.length then a[k]? else if k = a.length then some r else b[k - a.length - 1]? := fun k => by
      split
      · rename_i h; rw [List.getElem?_append_left h]
      · rename_i h
        rw [List.getElem?_append_right (by omega)]
        split
        · rename_i h'; subst h'; simp
        · obtain ⟨m, hm⟩ : ∃ m, k - a.length = m + 1 := ⟨k - a.length - 1, by omega⟩
          rw [hm]; simp
    have get0 : ∀ k : Nat, (a ++ b)[k]? = if k < a.length then a[k]? else b[k - a.length]? := fun k => by
      split
      · rename_i h; rw [List.getElem?_append_left h]
      · rename_i h; rw [List.getElem?_append_right (by omega)]
    -- places there and back
    have fwd : ∀ (k : Nat) q, (a ++ b)[k]? = some q → (a ++ r :: b)[if a.length ≤ k then k + 1 else k]? = some q := fun k q hq => by
      rw [get0] at hq
      by_cases h : k < a.length
      · rw [if_pos h] at hq
        rw [if_neg (show ¬ a.length ≤ k by omega), get, if_pos h]; exact hq
      · rw [if_neg h] at hq
        rw [if_pos (show a.length ≤ k by omega), get, if_neg (show ¬ k + 1 < a.length by omega), if_neg (show ¬ k + 1 = a.length by omega), show k + 1 - a.length - 1 = k - a.length by omega]; exact hq
    have bwd : ∀ (k : Nat) q, (a ++ r :: b)[k]? = some q → fit q = true → ∃ m, (a ++ b)[m]? = some q ∧ k = if a.length ≤ m then m + 1 else m := fun k q hq hfq => by
      rw [get] at hq
      split at hq
      · rename_i h
        refine ⟨k, by rw [get0, if_pos h]; exact hq, by rw [if_neg (by omega)]⟩
      · rename_i h
        split at hq
        · cases hq; rw [hr] at hfq; cases hfq
        · rename_i h'
          refine ⟨k - 1, by rw [get0, if_neg (by omega), show k - 1 - a.length = k - a.length - 1 by omega]; exact hq, by rw [if_pos (by omega)]; omega⟩
    have hlen : (a ++ r :: b).length = (a ++ b).length + 1 := by simp; omega
    refine ⟨x, fwd i x h1, by rw [hlen]; split <;> omega, h3, fun k q hk hq hfq => ?_, fun k q hk hq hfq => ?_⟩
    · obtain ⟨m, hm, _⟩ := bwd k q hq hfq
      exact h4 m q (List.getElem?_eq_some_iff.1 hm).1 hm hfq
    · obtain ⟨m, hm, he⟩ := bwd k q hq hfq
      refine h5 m q ?_ hm hfq
      rw [he] at hk
      split at hk <;> split at hk <;> omega
/-- With one more at the end. -/
theorem best_more (l : List Rule) (r : Rule) : bestO fit (l ++ [r]) = if fit r then match bestO fit l with
      | none => some l.length
      | some j => match l[j]? with
        | some q => if betR r q then some l.length else some j
        | none => some l.length
      else bestO fit l := by
  have pre : ∀ n, n ≤ l.length → bestP fit (l ++ [r]) n = bestP fit l n := by
    intro n
    induction n with
    | zero => intro _; rfl
    | succ n ih =>
      intro hn
      have h1 : (l ++ [r])[n]? = l[n]? := List.getElem?_append_left (by omega)
      simp only [bestP, h1, ih (by omega)]
      cases hl : l[n]? with
      | none => rfl
      | some q =>
        simp only
        cases hb : bestP fit l n with
        | none => rfl
        | some j =>
          obtain ⟨x, k1, _⟩ := (bestP_spec (fit := fit) l n (by omega)).1 j hb
          have h2 : (l ++ [r])[j]? = l[j]? := List.getElem?_append_left (List.getElem?_eq_some_iff.1 k1).1
          simp only [h2]
  have h1 : (l ++ [r])[l.length]? = some r := by simp
  unfold bestO
  rw [List.length_append, List.length_singleton]
  simp only [bestP, h1, pre l.length (Nat.le_refl _)]
  cases hb : bestP fit l l.length with
  | none => rfl
  | some j =>
    obtain ⟨x, k1, _⟩ := (bestP_spec (fit := fit) l l.length (Nat.le_refl _)).1 j hb
    have h2 : (l ++ [r])[j]? = l[j]? := List.getElem?_append_left (List.getElem?_eq_some_iff.1 k1).1
    simp only [h2]
/-- A rule that stands there once more, behind all others. -/
theorem best_twice {l : List Rule} {r : Rule} (hr : r ∈ l) : bestO fit (l ++ [r]) = bestO fit l := by
  rw [best_more]
  cases hf : fit r with
  | false => rfl
  | true =>
    simp only [if_true]
    cases hb : bestO fit l with
    | none =>
      rw [bestO_none] at hb
      rw [hb r hr] at hf; cases hf
    | some j =>
      obtain ⟨x, k1, k2, k3, k4, _⟩ := bestO_some.1 hb
      obtain ⟨k, hk⟩ := List.getElem?_of_mem hr
      simp only [k1, k4 k r (List.getElem?_eq_some_iff.1 hk).1 hk hf]
      rfl
end
end Go.Proofs.Ytedjbhpocedagaa.Sx

/- Snapshots: what is built of a configuration, and the configuration of a snapshot. -/
namespace Go.Proofs.Ytedjbhpocedagaa.Sx
noncomputable def eqB {α : Type} (a b : α) : Bool := @decide (a = b) (Classical.propDecidable _)
theorem eqB_iff {α : Type} {a b : α} : eqB a b = true ↔ a = b := @decide_eq_true_iff _ (Classical.propDecidable _)
theorem eqB_t {α : Type} {a b : α} (h : a = b) : eqB a b = true := eqB_iff.2 h
theorem eqB_f {α : Type} {a b : α} (h : a ≠ b) : eqB a b = false := by
  cases e : eqB a b with
  | false => rfl
  | true => exact absurd (eqB_iff.1 e) h
theorem route_ext {a b : Route} (h1 : a.listen = b.listen) (h2 : a.host = b.host) (h3 : a.path = b.path) (h4 : a.cluster = b.cluster) : a = b := by
  cases a; cases b; simp_all
theorem rule_ext {a b : Rule} (h1 : a.listen = b.listen) (h2 : a.host = b.host) (h3 : a.path = b.path) (h4 : a.cluster = b.cluster) : a = b := by
  cases a; cases b; simp_all
theorem cluster_ext {a b : Cluster} (h1 : a.name = b.name) (h2 : a.policy = b.policy) (h3 : a.slots = b.slots) (h4 : a.health = b.health) : a = b := by
  cases a; cases b; simp_all
def ruleOf (c : Config) (r : Route) : Rule := ⟨idxI (idxO (fun x => bs x == bs r.listen) c.listens), r.host, r.path, idxI (idxO (fun (x : Cluster) => bs x.name == bs r.cluster) c.clusters)⟩
def builtS (c : Config) : Snap := ⟨c.listens, c.routes.map (ruleOf c), c.clusters⟩
def buildS (c : Config) : Snap := match checkE c with
  | none => builtS c
  | some _ => ⟨[], [], []⟩
def nameAt (l : List BA) (i : Int) : BA := if 0 ≤ i ∧ i < l.length then (l[i.toNat]?).getD ⟨#[]⟩ else ⟨#[]⟩
def clusAt (l : List Cluster) (i : Int) : BA := if 0 ≤ i ∧ i < l.length then ((l[i.toNat]?).map (·.name)).getD ⟨#[]⟩ else ⟨#[]⟩
def routeOf (s : Snap) (r : Rule) : Route := ⟨nameAt s.listens r.listen, r.host, r.path, clusAt s.clusters r.cluster⟩
def confS (s : Snap) : Config := ⟨s.listens, s.rules.map (routeOf s), s.clusters⟩
theorem name_ne {s : BA} (h : nameB (bs s) = true) : s ≠ ⟨#[]⟩ := fun e => by
  subst e
  exact absurd h (by decide)
/-- Where a name stands. -/
theorem nameAt_idx {l : List BA} {s : BA} (h : hasS l s = true) : nameAt l (idxI (idxO (fun x => bs x == bs s) l)) = s := by
  cases hi : idxO (fun x => bs x == bs s) l with
  | none => rw [idxO_none] at hi; rw [hasS] at h; rw [h] at hi; cases hi
  | some i =>
    obtain ⟨x, h1, h2, _⟩ := idxO_some hi
    have := (List.getElem?_eq_some_iff.1 h1).1
    unfold nameAt idxI
    simp only
    rw [if_pos ⟨by omega, by omega⟩]
    simp only [Int.toNat_natCast, h1, Option.getD_some]
    exact bs_ext (by simpa using h2)
theorem clusAt_idx {l : List Cluster} {s : BA} (h : hasC l s = true) : clusAt l (idxI (idxO (fun (x : Cluster) => bs x.name == bs s) l)) = s := by
  cases hi : idxO (fun (x : Cluster) => bs x.name == bs s) l with
  | none => rw [idxO_none] at hi; rw [hasC] at h; rw [h] at hi; cases hi
  | some i =>
    obtain ⟨x, h1, h2, _⟩ := idxO_some hi
    have := (List.getElem?_eq_some_iff.1 h1).1
    unfold clusAt idxI
    simp only
    rw [if_pos ⟨by omega, by omega⟩]
    simp only [Int.toNat_natCast, h1, Option.map_some, Option.getD_some]
    exact bs_ext (by simpa using h2)
theorem conf_built {c : Config} (h : GoodC c) : confS (builtS c) = c := by
  have : (c.routes.map (ruleOf c)).map (routeOf (builtS c)) = c.routes := by
    rw [List.map_map]
    conv => rhs; rw [← List.map_id c.routes]
    refine List.map_congr_left fun r hr => ?_
    obtain ⟨h1, _, _, h4⟩ := h.rt r hr
    have e1 := nameAt_idx h1
    have e4 := clusAt_idx h4
    exact route_ext e1 rfl rfl e4
  show (⟨c.listens, (c.routes.map (ruleOf c)).map (routeOf (builtS c)), c.clusters⟩ : Config) = c
  rw [this]
theorem uniq_idx {α : Type} {f : α → α → Bool} {l : List α} (hu : Uniq f l) {i : Nat} {x : α} (hx : l[i]? = some x) {p : α → Bool} (hp : ∀ y, p y = f y x) (hxx : f x x = true) : idxO p l = some i := by
  refine Pass.hit (fun j hj y hy => ?_) hx ?_
  · rw [hp, hu j i y x hj hy hx]; rfl
  · simp [hp, hxx]
theorem idx_nameAt {l : List BA} (hn : ∀ s ∈ l, nameB (bs s) = true) (hu : Uniq (fun x y => bs x == bs y) l) {i : Int} (h : hasS l (nameAt l i) = true) : idxI (idxO (fun x => bs x == bs (nameAt l i)) l) = i := by
  by_cases hi : 0 ≤ i ∧ i < l.length
  · obtain ⟨n, rfl⟩ := Int.eq_ofNat_of_zero_le hi.1
    have hlt : n < l.length := by omega
    have hx := List.getElem?_eq_getElem hlt
    have e : nameAt l n = l[n] := by
      unfold nameAt; rw [if_pos hi]; simp [hx]
    rw [e, uniq_idx hu hx (fun _ => rfl) (by simp)]; rfl
  · have e : nameAt l i = ⟨#[]⟩ := by unfold nameAt; rw [if_neg hi]
    rw [e] at h
    obtain ⟨x, hx, h2⟩ := List.any_eq_true.1 h
    exact absurd (bs_ext (by simpa using h2)) (name_ne (hn x hx))
theorem idx_clusAt {l : List Cluster} (hn : ∀ x ∈ l, nameB (bs x.name) = true) (hu : Uniq (fun (x y : Cluster) => bs x.name == bs y.name) l) {i : Int} (h : hasC l (clusAt l i) = true) : idxI (idxO (fun (x : Cluster) => bs x.name == bs (clusAt l i)) l) = i := by
  by_cases hi : 0 ≤ i ∧ i < l.length
  · obtain ⟨n, rfl⟩ := Int.eq_ofNat_of_zero_le hi.1
    have hlt : n < l.length := by omega
    have hx := List.getElem?_eq_getElem hlt
    have e : clusAt l n = l[n].name := by
      unfold clusAt; rw [if_pos hi]; simp [hx]
    rw [e, uniq_idx hu hx (fun _ => rfl) (by simp)]; rfl
  · have e : clusAt l i = ⟨#[]⟩ := by unfold clusAt; rw [if_neg hi]
    rw [e] at h
    obtain ⟨x, hx, h2⟩ := List.any_eq_true.1 h
    exact absurd (bs_ext (by simpa using h2)) (name_ne (hn x hx))
theorem built_conf {s : Snap} (h : GoodC (confS s)) : builtS (confS s) = s := by
  have : (s.rules.map (routeOf s)).map (ruleOf (confS s)) = s.rules := by
    rw [List.map_map]
    conv => rhs; rw [← List.map_id s.rules]
    refine List.map_congr_left fun r hr => ?_
    obtain ⟨h1, _, _, h4⟩ := h.rt (routeOf s r) (List.mem_map.2 ⟨r, hr, rfl⟩)
    have e1 := idx_nameAt h.ln h.lu h1
    have e4 := idx_clusAt (fun x hx => (h.cl x hx).1) h.cu h4
    exact rule_ext e1 rfl rfl e4
  show (⟨s.listens, (s.rules.map (routeOf s)).map (ruleOf (confS s)), s.clusters⟩ : Snap) = s
  rw [this]
theorem built_inj {c d : Config} (hc : GoodC c) (hd : GoodC d) : builtS c = builtS d ↔ c = d :=
  ⟨fun h => by rw [← conf_built hc, ← conf_built hd, h], fun h => by rw [h]⟩
end Go.Proofs.Ytedjbhpocedagaa.Sx

/- Plain data: operations and scripts, and how they lie in frozen memory. -/
namespace Go.Proofs.Ytedjbhpocedagaa.Sx
structure OpD where
  kind : Int
  listen : BA
  host : BA
  path : BA
  d0 : Int
  d1 : Int
  n : Int
  config : Config
structure Script where
  first : Config
  threads : List (List OpD)
  picks : List Int
def rOp : RP OpD := fun g cs o => ∃ a b d, cs = [.int .i64 o.kind, .string o.listen, .string o.host, .string o.path, .int .i64 o.d0, .int .i64 o.d1, .int .i64 o.n, a, b, d] ∧ (InR o.kind ∧ InR o.d0 ∧ InR o.d1 ∧ InR o.n) ∧ rConfig g [a, b, d] o.config
theorem rOp_mono : Mono rOp := fun _ _ _ _ k ⟨a, b, d, e, i, h⟩ => ⟨a, b, d, e, i, rConfig_mono _ _ _ _ k h⟩
def rThread : RP (List OpD) := fun g cs l => ∃ v, cs = [v] ∧ rSl 10 rOp g v l
theorem rThread_mono : Mono rThread := fun _ _ _ _ k ⟨v, e, h⟩ => ⟨v, e, h.mono rOp_mono k⟩
def rScript : RP Script := fun g cs s => ∃ a b d t p, cs = [a, b, d, t, p] ∧ rConfig g [a, b, d] s.first ∧ rSl 1 rThread g t s.threads ∧ rSl 1 rInt g p s.picks
theorem rScript_mono : Mono rScript := fun _ _ _ _ k ⟨a, b, d, t, p, e, h1, h2, h3⟩ => ⟨a, b, d, t, p, e, rConfig_mono _ _ _ _ k h1, h2.mono rThread_mono k, h3.mono rInt_mono k⟩
end Go.Proofs.Ytedjbhpocedagaa.Sx

/- Scripts: the listeners' names. -/
namespace Go.Proofs.Ytedjbhpocedagaa.Sx
def addN (out : List BA) (l : List BA) : List BA := l.foldl (fun out n => if hasS out n then out else out ++ [n]) out
noncomputable def opN (out : List BA) (o : OpD) : List BA := if o.kind = 3 ∧ checkE o.config = none then addN out o.config.listens else out
noncomputable def namesL (s : Script) : List BA := s.threads.foldl (fun out l => l.foldl opN out) (addN [] s.first.listens)
theorem addN_snoc (out l : List BA) (n : BA) : addN out (l ++ [n]) = if hasS (addN out l) n then addN out l else addN out l ++ [n] := by
  unfold addN; rw [List.foldl_append]; rfl
theorem addN_take {out l : List BA} {k : Nat} {n : BA} (h : l[k]? = some n) : addN out (l.take (k + 1)) = if hasS (addN out (l.take k)) n then addN out (l.take k) else addN out (l.take k) ++ [n] := by
  obtain ⟨h1, h2⟩ := List.getElem?_eq_some_iff.1 h
  rw [List.take_succ_eq_append_getElem h1, h2]; exact addN_snoc _ _ _
/-- No two the same. -/
def Uq (l : List BA) : Prop := Uniq (fun x y => bs x == bs y) l
theorem Uq.snoc {l : List BA} {n : BA} (h : Uq l) (hn : hasS l n = false) : Uq (l ++ [n]) := fun i j x y hij hx hy => by
  rcases Nat.lt_or_ge j l.length with hj | hj
  · rw [List.getElem?_append_left (by omega)] at hx
    rw [List.getElem?_append_left hj] at hy
    exact h i j x y hij hx hy
  · rw [List.getElem?_append_right hj] at hy
    have hj0 : j - l.length = 0 := by
      have := (List.getElem?_eq_some_iff.1 hy).1; simp at this; omega
    rw [hj0] at hy
    simp at hy; subst hy
    rw [List.getElem?_append_left (by omega)] at hx
    have := List.any_eq_false.1 hn x (List.mem_of_getElem? hx)
    simpa using this
theorem addN_uq {out l : List BA} (h : Uq out) : Uq (addN out l) := by
  induction l generalizing out with
  | nil => exact h
  | cons n r ih =>
    show Uq (addN (if hasS out n then out else out ++ [n]) r)
    apply ih
    split
    · exact h
    · rename_i hn; exact h.snoc (by simpa using hn)
theorem addN_pre {out l : List BA} : ∃ t, addN out l = out ++ t := by
  induction l generalizing out with
  | nil => exact ⟨[], by simp [addN]⟩
  | cons n r ih =>
    obtain ⟨t, ht⟩ := ih (out := if hasS out n then out else out ++ [n])
    have : addN out (n :: r) = addN (if hasS out n then out else out ++ [n]) r := rfl
    rw [this, ht]
    split
    · exact ⟨t, rfl⟩
    · exact ⟨n :: t, by simp⟩
theorem addN_len {out l : List BA} : (addN out l).length ≤ out.length + l.length := by
  induction l generalizing out with
  | nil => simp [addN]
  | cons n r ih =>
    have : addN out (n :: r) = addN (if hasS out n then out else out ++ [n]) r := rfl
    rw [this]
    have := ih (out := if hasS out n then out else out ++ [n])
    split at this
    · rename_i h; rw [if_pos h]; simp; omega
    · rename_i h; rw [if_neg h]; simp at this ⊢; omega
theorem opN_len {out : List BA} {o : OpD} (h : o.config.listens.length ≤ 50) : (opN out o).length ≤ out.length + 50 := by
  unfold opN
  split
  · have := addN_len (out := out) (l := o.config.listens); omega
  · omega
theorem opsN_len {l : List OpD} {out : List BA} (h : ∀ o ∈ l, o.config.listens.length ≤ 50) : (l.foldl opN out).length ≤ out.length + 50 * l.length := by
  induction l generalizing out with
  | nil => simp
  | cons o r ih =>
    have h1 := ih (out := opN out o) fun x hx => h x (List.mem_cons_of_mem _ hx)
    have h2 := opN_len (out := out) (h o (by simp))
    simp only [List.foldl_cons, List.length_cons]; omega
noncomputable abbrev thrN (out : List BA) (l : List (List OpD)) : List BA := l.foldl (fun out l => l.foldl opN out) out
theorem thrN_len {l : List (List OpD)} {out : List BA} (h : ∀ t ∈ l, t.length ≤ 40 ∧ ∀ o ∈ t, o.config.listens.length ≤ 50) : (thrN out l).length ≤ out.length + 2000 * l.length := by
  induction l generalizing out with
  | nil => simp [thrN]
  | cons t r ih =>
    have h0 := h t (by simp)
    have h1 := ih (out := t.foldl opN out) fun x hx => h x (List.mem_cons_of_mem _ hx)
    have h2 := opsN_len (out := out) h0.2
    have : thrN out (t :: r) = thrN (t.foldl opN out) r := rfl
    rw [this]; simp only [List.length_cons]; omega
theorem foldl_take {α β : Type} {f : β → α → β} {b : β} {l : List α} {k : Nat} {x : α} (h : l[k]? = some x) : (l.take (k + 1)).foldl f b = f ((l.take k).foldl f b) x := by
  obtain ⟨h1, h2⟩ := List.getElem?_eq_some_iff.1 h
  rw [List.take_succ_eq_append_getElem h1, h2, List.foldl_append]; rfl
end Go.Proofs.Ytedjbhpocedagaa.Sx

/- Plain data: answers, events, machines, and how they lie in frozen memory. -/
namespace Go.Proofs.Ytedjbhpocedagaa.Sx
/-- A slice whose cells are known, element for element. -/
theorem rSl_ch {α : Type} {sz : Nat} {R : RP α} {g : GW} {v : Value} {n : Nat} {cs : List Value} (h : RdSl g sz v n cs) (l : List α) (hl : l.length = n) (hpos : 0 < sz) (hR : ∀ (i : Nat) x, l[i]? = some x → R g ((cs.drop (i * sz)).take sz) x) : rSl sz R g v l := by
  subst hl
  obtain ⟨h1, oa, cap, rfl, h2, h3, h4, h5⟩ := h
  refine ⟨oa, cap, rfl, h2, h3, h4, fun i x hx => ?_⟩
  have hi := (List.getElem?_eq_some_iff.1 hx).1
  have hle : i * sz + sz ≤ cs.length := by rw [h1, ← Nat.succ_mul]; exact Nat.mul_le_mul_right _ hi
  obtain ⟨a, rfl⟩ : ∃ a, oa = some a := by
    cases oa with
    | some a => exact ⟨a, rfl⟩
    | none => have := (h4 rfl).1; omega
  refine ⟨a, rfl, _, by simp; omega, hR i x hx, fun j u hu => ?_⟩
  rw [List.getElem?_take] at hu
  split at hu
  · rw [List.getElem?_drop] at hu
    obtain ⟨a', ha', hr⟩ := h5 _ u hu
    cases ha'
    rwa [add_add]
  · cases hu
structure C6 where
  c0 : Int
  c1 : Int
  c2 : Int
  c3 : Int
  c4 : Int
  c5 : Int
abbrev C6.cs (c : C6) : List Value := [.int .u64 c.c0, .int .u64 c.c1, .int .u64 c.c2, .int .u64 c.c3, .int .u64 c.c4, .int .u64 c.c5]
def C6.get (c : C6) : Nat → Int
  | 0 => c.c0
  | 1 => c.c1
  | 2 => c.c2
  | 3 => c.c3
  | 4 => c.c4
  | _ => c.c5
def C6.set (c : C6) (n : Int) : Nat → C6
  | 0 => { c with c0 := n }
  | 1 => { c with c1 := n }
  | 2 => { c with c2 := n }
  | 3 => { c with c3 := n }
  | 4 => { c with c4 := n }
  | _ => { c with c5 := n }
structure C6.ok (c : C6) : Prop where
  k0 : InU c.c0
  k1 : InU c.c1
  k2 : InU c.c2
  k3 : InU c.c3
  k4 : InU c.c4
  k5 : InU c.c5
def c60 : C6 := ⟨0, 0, 0, 0, 0, 0⟩
structure Ans where
  kind : Int
  version : Int
  cluster : Int
  end_ : Int
  slot : Int
  listen : Int
  n : Int
  counts : C6
def ans0 : Ans := ⟨0, 0, 0, 0, 0, 0, 0, c60⟩
abbrev Ans.cs (a : Ans) : List Value := [.int .i64 a.kind, .int .i64 a.version, .int .i64 a.cluster, .int .i64 a.end_, .int .i64 a.slot, .int .i64 a.listen, .int .i64 a.n, .int .u64 a.counts.c0, .int .u64 a.counts.c1, .int .u64 a.counts.c2, .int .u64 a.counts.c3, .int .u64 a.counts.c4, .int .u64 a.counts.c5]
structure Ans.ok (a : Ans) : Prop where
  kind : InR a.kind
  version : InR a.version
  cluster : InR a.cluster
  end_ : InR a.end_
  slot : InR a.slot
  listen : InR a.listen
  n : InR a.n
  counts : a.counts.ok
structure Ev where
  thread : Int
  op : Int
  access : Int
  cell : Int
  version : Int
  freed : Bool
  value : Int
  begin_ : Bool
  point : Bool
  done : Bool
  answer : Ans
def ev0 : Ev := ⟨0, 0, 0, 0, 0, false, 0, false, false, false, ans0⟩
abbrev Ev.cs (e : Ev) : List Value := [.int .i64 e.thread, .int .i64 e.op, .int .i64 e.access, .int .i64 e.cell, .int .i64 e.version, .bool e.freed, .int .i64 e.value, .bool e.begin_, .bool e.point, .bool e.done,
  .int .i64 e.answer.kind, .int .i64 e.answer.version, .int .i64 e.answer.cluster, .int .i64 e.answer.end_, .int .i64 e.answer.slot, .int .i64 e.answer.listen, .int .i64 e.answer.n, .int .u64 e.answer.counts.c0, .int .u64 e.answer.counts.c1, .int .u64 e.answer.counts.c2, .int .u64 e.answer.counts.c3, .int .u64 e.answer.counts.c4, .int .u64 e.answer.counts.c5]
structure Mach where
  op : OpD
  thread : Int
  pc : Int
  epoch : Int
  version : Int
  listen : Int
  cluster : Int
  end_ : Int
  other : Int
  slot : Int
  word : Int
  link : Int
  i : Int
  k : Int
  sum : Int
  done : Bool
  answer : Ans
  counts : C6
structure Mach.ok (m : Mach) : Prop where
  thread : InR m.thread
  pc : InR m.pc
  epoch : InR m.epoch
  version : InR m.version
  listen : InR m.listen
  cluster : InR m.cluster
  end_ : InR m.end_
  other : InR m.other
  slot : InR m.slot
  word : InU m.word
  link : InR m.link
  i : InR m.i
  k : InR m.k
  sum : InR m.sum
  answer : m.answer.ok
  counts : m.counts.ok
/-- The cells of a machine behind its operation. -/
abbrev Mach.cs (a b d : Value) (m : Mach) : List Value := [.int .i64 m.op.kind, .string m.op.listen, .string m.op.host, .string m.op.path, .int .i64 m.op.d0, .int .i64 m.op.d1, .int .i64 m.op.n, a, b, d,
  .int .i64 m.thread, .int .i64 m.pc, .int .i64 m.epoch, .int .i64 m.version, .int .i64 m.listen, .int .i64 m.cluster, .int .i64 m.end_, .int .i64 m.other, .int .i64 m.slot, .int .u64 m.word, .int .i64 m.link, .int .i64 m.i, .int .i64 m.k, .int .i64 m.sum, .bool m.done,
  .int .i64 m.answer.kind, .int .i64 m.answer.version, .int .i64 m.answer.cluster, .int .i64 m.answer.end_, .int .i64 m.answer.slot, .int .i64 m.answer.listen, .int .i64 m.answer.n, .int .u64 m.answer.counts.c0, .int .u64 m.answer.counts.c1, .int .u64 m.answer.counts.c2, .int .u64 m.answer.counts.c3, .int .u64 m.answer.counts.c4, .int .u64 m.answer.counts.c5,
  .int .u64 m.counts.c0, .int .u64 m.counts.c1, .int .u64 m.counts.c2, .int .u64 m.counts.c3, .int .u64 m.counts.c4, .int .u64 m.counts.c5]
def rMach : RP Mach := fun g cs m => ∃ a b d, cs = m.cs a b d ∧ m.ok ∧ (InR m.op.kind ∧ InR m.op.d0 ∧ InR m.op.d1 ∧ InR m.op.n) ∧ rConfig g [a, b, d] m.op.config
theorem rMach_mono : Mono rMach := fun _ _ _ _ k ⟨a, b, d, e, h, i, c⟩ => ⟨a, b, d, e, h, i, rConfig_mono _ _ _ _ k c⟩
def rAns : RP Ans := fun _ cs a => cs = a.cs ∧ a.ok
theorem rAns_mono : Mono rAns := fun _ _ _ _ _ h => h
end Go.Proofs.Ytedjbhpocedagaa.Sx

/- What came in, read as data, is plain data in frozen memory: by the types' shapes. -/
namespace Go.Proofs.Ytedjbhpocedagaa.Sx
open Go.RowKit
section
variable {H : Type} {enc : TypeId × Value → H} {P : Program} {W : World}
abbrev tr (enc : TypeId × Value → H) (P : Program) (W : World) (fuel : Nat) (t : TypeId) (cs : List Value) := DataW.trod enc P W 0 (fun _ => true) true fuel t cs
/-- Whatever of type t can be read is a datum. -/
def Rds {α : Type} (enc : TypeId × Value → H) (P : Program) (W : World) (t : TypeId) (R : RP α) : Prop := ∀ fuel cs x, tr enc P W fuel t cs = some x → ∃ a, R (allG W) cs a
theorem rd_int {t : TypeId} (ht : P.underlying t = some (.int .i64)) : Rds enc P W t rInt := by
  intro fuel cs x h
  cases fuel with
  | zero => simp [tr, DataW.trod] at h
  | succ n =>
    unfold tr DataW.trod at h
    rw [ht] at h
    split at h <;> try (first | (cases h; done) | (simp_all; done))
    rename_i heq
    cases heq
    split at h
    · rename_i hc
      obtain ⟨rfl, hw⟩ := hc
      exact ⟨_, rfl, inr_of hw⟩
    · cases h
theorem rd_u64 {t : TypeId} (ht : P.underlying t = some (.int .u64)) : Rds enc P W t rU64 := by
  intro fuel cs x h
  cases fuel with
  | zero => simp [tr, DataW.trod] at h
  | succ n =>
    unfold tr DataW.trod at h
    rw [ht] at h
    split at h <;> try (first | (cases h; done) | (simp_all; done))
    rename_i heq
    cases heq
    split at h
    · rename_i hc
      obtain ⟨rfl, hw⟩ := hc
      exact ⟨_, rfl, inu_of hw⟩
    · cases h
theorem rd_bool {t : TypeId} (ht : P.underlying t = some .bool) : Rds enc P W t rBool := by
  intro fuel cs x h
  cases fuel with
  | zero => simp [tr, DataW.trod] at h
  | succ n =>
    unfold tr DataW.trod at h
    rw [ht] at h
    split at h <;> try (first | cases h; done | simp_all; done)
    exact ⟨_, rfl⟩
theorem rd_str {t : TypeId} (ht : P.underlying t = some .string) : Rds enc P W t rStr := by
  intro fuel cs x h
  cases fuel with
  | zero => simp [tr, DataW.trod] at h
  | succ n =>
    unfold tr DataW.trod at h
    rw [ht] at h
    split at h <;> simp_all
    exact ⟨_, rfl⟩
/-- A slice's one cell. -/
def rSlc {α : Type} (sz : Nat) (R : RP α) : RP (List α) := fun g cs l => ∃ v, cs = [v] ∧ rSl sz R g v l
theorem mapM_get' {α β : Type} {f : α → Option β} : ∀ {l : List α} {r : List β}, l.mapM f = some r → ∀ (i : Nat) x, l[i]? = some x → ∃ y, r[i]? = some y ∧ f x = some y := by
  intro l
  induction l with
  | nil => intro r _ i x hx; simp at hx
  | cons a l ih =>
    intro r h i x hx
    simp only [List.mapM_cons, Option.bind_eq_bind, Option.bind_eq_some_iff, Option.pure_def, Option.some.injEq] at h
    obtain ⟨y, hy, ys, hys, rfl⟩ := h
    cases i with
    | zero => simp at hx; subst hx; exact ⟨y, rfl, hy⟩
    | succ i => simpa using ih hys i x (by simpa using hx)
theorem rd_slice {α : Type} {t e : TypeId} {sz : Nat} {R : RP α} (ht : P.underlying t = some (.slice e)) (hs : P.cellsOf e = sz) (_ : 0 < sz) (hR : Rds enc P W e R) : Rds enc P W t (rSlc sz R) := by
  intro fuel cs x h
  rcases DataW.trod_slice ht h with ⟨rfl, _⟩ | ⟨a, len, cap, elems, rest, n, _, rfl, _, _, hl, hc, hel, hget, _⟩
  · exact ⟨[], _, rfl, none, 0, rfl, Nat.le_refl _, Nat.zero_le _, fun _ => ⟨rfl, rfl⟩, fun i x hx => by simp at hx⟩
  · rw [hs] at hget
    have hel' : ∀ i, i < len → ∃ (x : α) (ec : List Value), ec.length = sz ∧ R (allG W) ec x ∧ Rcs (allG W) (a.add (i * sz)) ec := fun i hi => by
      have h1 := hget i hi
      rw [List.getElem?_eq_getElem (by omega)] at h1
      obtain ⟨ec, he, hr⟩ := Option.bind_eq_some_iff.1 h1
      obtain ⟨x, hx⟩ := hR n ec _ hr
      unfold World.cells? at he
      rw [if_pos (Nat.zero_le _)] at he
      have hlen := mapM_some_length he
      refine ⟨x, ec, by simpa using hlen, hx, fun j u hu => ?_⟩
      have hj := (List.getElem?_eq_some_iff.1 hu).1
      have hsz : ec.length = sz := by simpa using hlen
      obtain ⟨y, hy1, hy2⟩ := mapM_get' he j j (List.getElem?_range (by omega))
      rw [hu] at hy1; cases hy1
      refine ⟨?_, hy2⟩
      show _ < W.heap.size
      unfold World.cell? at hy2
      cases hh : W.heap[((a.add (i * sz)).add j).block]? with
      | none => rw [hh] at hy2; cases hy2
      | some o => exact (Array.getElem?_eq_some_iff.1 hh).1
    let f : Fin len → α := fun i => Classical.choose (hel' i.1 i.2)
    have hf : ∀ i : Fin len, ∃ (ec : List Value), ec.length = sz ∧ R (allG W) ec (f i) ∧ Rcs (allG W) (a.add (i.1 * sz)) ec := fun i => Classical.choose_spec (hel' i.1 i.2)
    refine ⟨List.ofFn f, _, rfl, some a, cap, by simp, by simpa using hl, hc, (fun h => by cases h), fun i x hx => ⟨a, rfl, ?_⟩⟩
    obtain ⟨hi, he⟩ := List.getElem?_eq_some_iff.1 hx
    simp only [List.getElem_ofFn] at he
    simp only [List.length_ofFn] at hi
    have := hf ⟨i, hi⟩
    rw [← he]; exact this

/-- A struct's fields: offset, cells, type. -/
def fieldsOf (P : Program) (t : TypeId) : Option (List (Nat × Nat × TypeId)) := match P.underlying t with
  | some (.struct fs) => some (fs.toList.map fun f => (f.offset, P.cellsOf f.type, f.type))
  | _ => none
theorem fld_at {t : TypeId} {l : List (Nat × Nat × TypeId)} (hf : fieldsOf P t = some l) {fuel : Nat} {cs : List Value} {x : DataW H × List MemPlace} (h : tr enc P W fuel t cs = some x) :
    cs.length = P.cellsOf t ∧ ∀ (i o s : Nat) (u : TypeId), l[i]? = some (o, s, u) → ∃ n y, tr enc P W n u ((cs.drop o).take s) = some y := by
  unfold fieldsOf at hf
  split at hf
  · rename_i fs ht
    simp only [Option.some.injEq] at hf
    subst hf
    obtain ⟨xs, n, rfl, _, hl, hxs, hget⟩ := DataW.trod_struct ht h
    refine ⟨hl, fun i o s u hi => ?_⟩
    simp only [List.getElem?_map, Option.map_eq_some_iff, Array.getElem?_toList] at hi
    obtain ⟨f, hf, he⟩ := hi
    simp only [Prod.mk.injEq] at he
    obtain ⟨rfl, rfl, rfl⟩ := he
    have hlt := (Array.getElem?_eq_some_iff.1 hf).1
    exact ⟨n, xs[i]'(by omega), by rw [← List.getElem?_eq_getElem]; exact hget i f hf⟩
  · cases hf
/-- A field. -/
theorem Rds.fld {α : Type} {u : TypeId} {R : RP α} (hR : Rds enc P W u R) {cs : List Value} (h : ∃ n y, tr enc P W n u cs = some y) : ∃ a, R (allG W) cs a := let ⟨n, y, hy⟩ := h; hR n cs y hy
variable {tS tI tB : TypeId}
theorem rd_route {t : TypeId} (hf : fieldsOf P t = some [(0, 1, tS), (1, 1, tS), (2, 1, tS), (3, 1, tS)]) (hc : P.cellsOf t = 4) (hS : P.underlying tS = some .string) : Rds enc P W t rRoute := by
  intro fuel cs x h
  obtain ⟨hl, hg⟩ := fld_at hf h
  rw [hc] at hl
  match cs, hl with
  | [a, b, c, d], _ =>
    obtain ⟨s0, e0⟩ := (rd_str hS).fld (hg 0 _ _ _ rfl)
    obtain ⟨s1, e1⟩ := (rd_str hS).fld (hg 1 _ _ _ rfl)
    obtain ⟨s2, e2⟩ := (rd_str hS).fld (hg 2 _ _ _ rfl)
    obtain ⟨s3, e3⟩ := (rd_str hS).fld (hg 3 _ _ _ rfl)
    cases e0; cases e1; cases e2; cases e3
    exact ⟨⟨s0, s1, s2, s3⟩, rfl⟩
theorem rd_rule {t : TypeId} (hf : fieldsOf P t = some [(0, 1, tI), (1, 1, tS), (2, 1, tS), (3, 1, tI)]) (hc : P.cellsOf t = 4) (hS : P.underlying tS = some .string) (hI : P.underlying tI = some (.int .i64)) : Rds enc P W t rRule := by
  intro fuel cs x h
  obtain ⟨hl, hg⟩ := fld_at hf h
  rw [hc] at hl
  match cs, hl with
  | [a, b, c, d], _ =>
    obtain ⟨s0, e0, w0⟩ := (rd_int hI).fld (hg 0 _ _ _ rfl)
    obtain ⟨s1, e1⟩ := (rd_str hS).fld (hg 1 _ _ _ rfl)
    obtain ⟨s2, e2⟩ := (rd_str hS).fld (hg 2 _ _ _ rfl)
    obtain ⟨s3, e3, w3⟩ := (rd_int hI).fld (hg 3 _ _ _ rfl)
    cases e0; cases e1; cases e2; cases e3
    exact ⟨⟨s0, s1, s2, s3⟩, rfl, w0, w3⟩
theorem rd_cluster {t tL : TypeId} (hf : fieldsOf P t = some [(0, 1, tS), (1, 1, tI), (2, 1, tI), (3, 1, tL)]) (hc : P.cellsOf t = 4) (hS : P.underlying tS = some .string) (hI : P.underlying tI = some (.int .i64)) (hL : P.underlying tL = some (.slice tB)) (hB : P.underlying tB = some .bool) (hcB : P.cellsOf tB = 1) : Rds enc P W t rCluster := by
  intro fuel cs x h
  obtain ⟨hl, hg⟩ := fld_at hf h
  rw [hc] at hl
  match cs, hl with
  | [a, b, c, d], _ =>
    obtain ⟨s0, e0⟩ := (rd_str hS).fld (hg 0 _ _ _ rfl)
    obtain ⟨s1, e1, w1⟩ := (rd_int hI).fld (hg 1 _ _ _ rfl)
    obtain ⟨s2, e2, w2⟩ := (rd_int hI).fld (hg 2 _ _ _ rfl)
    obtain ⟨s3, v, e3, h3⟩ := (rd_slice hL hcB (by omega) (rd_bool hB)).fld (hg 3 _ _ _ rfl)
    cases e0; cases e1; cases e2; cases e3
    exact ⟨⟨s0, s1, s2, s3⟩, _, rfl, w1, w2, h3⟩
/-- Three slices. -/
theorem rd_three {α β γ : Type} {t t0 t1 t2 e0 e1 e2 : TypeId} {z0 z1 z2 : Nat} {R0 : RP α} {R1 : RP β} {R2 : RP γ} (hf : fieldsOf P t = some [(0, 1, t0), (1, 1, t1), (2, 1, t2)]) (hc : P.cellsOf t = 3)
    (h0 : P.underlying t0 = some (.slice e0)) (h1 : P.underlying t1 = some (.slice e1)) (h2 : P.underlying t2 = some (.slice e2)) (c0 : P.cellsOf e0 = z0) (c1 : P.cellsOf e1 = z1) (c2 : P.cellsOf e2 = z2) (p0 : 0 < z0) (p1 : 0 < z1) (p2 : 0 < z2)
    (r0 : Rds enc P W e0 R0) (r1 : Rds enc P W e1 R1) (r2 : Rds enc P W e2 R2) {fuel : Nat} {cs : List Value} {x : DataW H × List MemPlace} (h : tr enc P W fuel t cs = some x) :
    ∃ a b d, cs = [a, b, d] ∧ (∃ l, rSl z0 R0 (allG W) a l) ∧ (∃ l, rSl z1 R1 (allG W) b l) ∧ ∃ l, rSl z2 R2 (allG W) d l := by
  obtain ⟨hl, hg⟩ := fld_at hf h
  rw [hc] at hl
  match cs, hl with
  | [a, b, c], _ =>
    obtain ⟨s0, v0, q0, k0⟩ := (rd_slice h0 c0 p0 r0).fld (hg 0 _ _ _ rfl)
    obtain ⟨s1, v1, q1, k1⟩ := (rd_slice h1 c1 p1 r1).fld (hg 1 _ _ _ rfl)
    obtain ⟨s2, v2, q2, k2⟩ := (rd_slice h2 c2 p2 r2).fld (hg 2 _ _ _ rfl)
    cases q0; cases q1; cases q2
    exact ⟨_, _, _, rfl, ⟨s0, k0⟩, ⟨s1, k1⟩, s2, k2⟩
end
/-- A struct by value. -/
def aV {α : Type} (R : RP α) (g : GW) (v : Value) (a : α) : Prop := ∃ cs, v = .agg ⟨cs⟩ ∧ R g cs a
end Go.Proofs.Ytedjbhpocedagaa.Sx
