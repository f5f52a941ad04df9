/- Plain data of the given program (configurations, snapshots, worlds, machines), and how they lie in frozen memory. -/
import Derived.Test.YtjaeeadfmnokeaaGreatSxB
import Derived.Lib.Bytealg
import Derived.Test.YtjaeeadfmnokeaaGreatSxA
import Derived.ChangeArms
import Derived.WideShapes
import Derived.SizedLaws
import Derived.OpenShut
namespace Go.Proofs.YtjaeeadfmnokeaaGreat.Sx
open Go.RowKit

/-! ### Small words -/
abbrev BA := ByteArray
abbrev bs (s : BA) : List UInt8 := s.data.toList
theorem bs_ext {a b : BA} (h : bs a = bs b) : a = b := by
  cases a; cases b; simp only [bs] at h; rw [Array.toList_inj.1 h]
theorem bs_size (s : BA) : s.size = (bs s).length := by cases s; simp [bs, ByteArray.size]
theorem bs_extract (s : BA) (l h : Nat) : bs (s.extract l h) = ((bs s).drop l).take (h - l) := by
  simp [bs, ByteArray.data_extract]
abbrev InR (x : Int) : Prop := -9223372036854775808 ≤ x ∧ x ≤ 9223372036854775807
abbrev InU (x : Int) : Prop := 0 ≤ x ∧ x ≤ 18446744073709551615
theorem wr {x : Int} (h : InR x) : IntKind.i64.wrap x = x := IntWalk.i64_in x h
theorem inr_of {x : Int} (h : (Lit.int .i64 x).wf = true) : InR x := by
  simpa [Lit.wf, IntKind.min, IntKind.max, IntKind.bits, IntKind.signed] using h
theorem inu_of {x : Int} (h : (Lit.int .u64 x).wf = true) : InU x := by
  simpa [Lit.wf, IntKind.min, IntKind.max, IntKind.bits, IntKind.signed] using h

theorem nb1 {b : Bool} (h : (!b) = true) : b = false := by simpa using h
theorem nb0 {b : Bool} (h : (!b) = false) : b = true := by simpa using h
theorem OkV.to {P : Program} {f : FuncId} {args : List Value} {g : GW} {v v' : Value} (h : OkV P f args g v) (e : v = v') : OkV P f args g v' := e ▸ h

/-! ### Plain data -/
structure Route where
  listen : BA
  host : BA
  path : BA
  cluster : BA
structure Cluster where
  name : BA
  policy : Int
  slots : Int
  health : List Bool
structure Config where
  listens : List BA
  routes : List Route
  clusters : List Cluster
structure Rule where
  listen : Int
  host : BA
  path : BA
  cluster : Int
structure Snap where
  listens : List BA
  rules : List Rule
  clusters : List Cluster
structure EndC where
  head : Int
  next : List Int
  active : Int
structure Group where
  ticket : Int
  ends : List EndC
structure Version where
  snap : Snap
  groups : List Group
  freed : Bool
structure Listen where
  name : BA
  drain : Bool
  active : Int
  closed : Bool
structure Retired where
  version : Int
  at_ : Int
  gone : Bool
structure Wd where
  epoch : Int
  current : Int
  lock : Int
  pins : List Int
  versions : List Version
  listens : List Listen
  counts : List (List Int)
  limbo : List Retired

/-! ### How they lie in memory -/
abbrev RP (α : Type) := GW → List Value → α → Prop
def rInt : RP Int := fun _ cs x => cs = [.int .i64 x] ∧ InR x
def rU64 : RP Int := fun _ cs x => cs = [.int .u64 x] ∧ InU x
def rStr : RP BA := fun _ cs s => cs = [.string s]
def rBool : RP Bool := fun _ cs b => cs = [.bool b]
/-- A slice, all of whose elements lie in frozen memory. -/
def rSl {α : Type} (sz : Nat) (R : RP α) (g : GW) (v : Value) (l : List α) : Prop :=
  ∃ oa cap, v = .slice oa l.length cap ∧ l.length ≤ cap ∧ cap ≤ maxLen ∧ (oa = none → l.length = 0 ∧ cap = 0) ∧
    ∀ (i : Nat) x, l[i]? = some x → ∃ a, oa = some a ∧ ∃ ec, ec.length = sz ∧ R g ec x ∧ Rcs g (a.add (i * sz)) ec
def Mono {α : Type} (R : RP α) : Prop := ∀ g g' cs x, g ≤ g' → R g cs x → R g' cs x
theorem Rcs.mono {g g' : GW} {a : Addr} {xs : List Value} (h : Rcs g a xs) (k : g ≤ g') : Rcs g' a xs := fun i u hu => (h i u hu).mono k
theorem rSl.mono {α : Type} {sz : Nat} {R : RP α} (hR : Mono R) {g g' : GW} {v : Value} {l : List α} (h : rSl sz R g v l) (k : g ≤ g') : rSl sz R g' v l := by
  obtain ⟨oa, cap, h1, h2, h3, h4, h5⟩ := h
  refine ⟨oa, cap, h1, h2, h3, h4, fun i x hx => ?_⟩
  obtain ⟨a, ha, ec, he, hr, hc⟩ := h5 i x hx
  exact ⟨a, ha, ec, he, hR _ _ _ _ k hr, hc.mono k⟩
theorem rInt_mono : Mono rInt := fun _ _ _ _ _ h => h
theorem rU64_mono : Mono rU64 := fun _ _ _ _ _ h => h
theorem rStr_mono : Mono rStr := fun _ _ _ _ _ h => h
theorem rBool_mono : Mono rBool := fun _ _ _ _ _ h => h
def rRoute : RP Route := fun _ cs r => cs = [.string r.listen, .string r.host, .string r.path, .string r.cluster]
theorem rRoute_mono : Mono rRoute := fun _ _ _ _ _ h => h
def rCluster : RP Cluster := fun g cs c => ∃ h, cs = [.string c.name, .int .i64 c.policy, .int .i64 c.slots, h] ∧ InR c.policy ∧ InR c.slots ∧ rSl 1 rBool g h c.health
theorem rCluster_mono : Mono rCluster := fun _ _ _ _ k ⟨h, e, a, b, c⟩ => ⟨h, e, a, b, c.mono rBool_mono k⟩
def rConfig : RP Config := fun g cs c => ∃ a b d, cs = [a, b, d] ∧ rSl 1 rStr g a c.listens ∧ rSl 4 rRoute g b c.routes ∧ rSl 4 rCluster g d c.clusters
theorem rConfig_mono : Mono rConfig := fun _ _ _ _ k ⟨a, b, d, e, x, y, z⟩ => ⟨a, b, d, e, x.mono rStr_mono k, y.mono rRoute_mono k, z.mono rCluster_mono k⟩
def rRule : RP Rule := fun _ cs r => cs = [.int .i64 r.listen, .string r.host, .string r.path, .int .i64 r.cluster] ∧ InR r.listen ∧ InR r.cluster
theorem rRule_mono : Mono rRule := fun _ _ _ _ _ h => h
def rSnap : RP Snap := fun g cs c => ∃ a b d, cs = [a, b, d] ∧ rSl 1 rStr g a c.listens ∧ rSl 4 rRule g b c.rules ∧ rSl 4 rCluster g d c.clusters
theorem rSnap_mono : Mono rSnap := fun _ _ _ _ k ⟨a, b, d, e, x, y, z⟩ => ⟨a, b, d, e, x.mono rStr_mono k, y.mono rRule_mono k, z.mono rCluster_mono k⟩
def rEnd : RP EndC := fun g cs e => ∃ n, cs = [.int .u64 e.head, n, .int .i64 e.active] ∧ InU e.head ∧ InR e.active ∧ rSl 1 rInt g n e.next
theorem rEnd_mono : Mono rEnd := fun _ _ _ _ k ⟨n, e, a, b, c⟩ => ⟨n, e, a, b, c.mono rInt_mono k⟩
def rListen : RP Listen := fun _ cs x => cs = [.string x.name, .bool x.drain, .int .i64 x.active, .bool x.closed] ∧ InR x.active
theorem rListen_mono : Mono rListen := fun _ _ _ _ _ h => h
def rRetired : RP Retired := fun _ cs x => cs = [.int .i64 x.version, .int .i64 x.at_, .bool x.gone] ∧ InR x.version ∧ InR x.at_
theorem rRetired_mono : Mono rRetired := fun _ _ _ _ _ h => h
def rRow : RP (List Int) := fun g cs x => ∃ n, cs = [n] ∧ rSl 1 rU64 g n x
theorem rRow_mono : Mono rRow := fun _ _ _ _ k ⟨n, e, x⟩ => ⟨n, e, x.mono rU64_mono k⟩
theorem flatten_at {ecs : List (List Value)} {sz : Nat} (h : ∀ e ∈ ecs, e.length = sz) {i j : Nat} {ec : List Value} (hi : ecs[i]? = some ec) {u : Value} (hj : ec[j]? = some u) : ecs.flatten[i * sz + j]? = some u := by
  induction ecs generalizing i with
  | nil => simp at hi
  | cons e es ih =>
    rw [List.flatten_cons]
    have he := h e (by simp)
    cases i with
    | zero =>
      simp at hi; subst hi
      rw [Nat.zero_mul, Nat.zero_add, List.getElem?_append_left (List.getElem?_eq_some_iff.1 hj).1]; exact hj
    | succ i =>
      rw [List.getElem?_append_right (by rw [he, Nat.succ_mul]; omega), show (i + 1) * sz + j - e.length = i * sz + j by rw [he, Nat.succ_mul]; omega]
      exact ih (fun x hx => h x (by simp [hx])) (by simpa using hi)
theorem flatten_len {ecs : List (List Value)} {sz : Nat} (h : ∀ e ∈ ecs, e.length = sz) : ecs.flatten.length = ecs.length * sz := by
  induction ecs with
  | nil => simp
  | cons e es ih => rw [List.flatten_cons, List.length_append, ih fun x hx => h x (by simp [hx]), h e (by simp), List.length_cons, Nat.succ_mul]; omega
/-- A slice whose cells are known is a slice of data. -/
theorem rSl_of {α : Type} {sz : Nat} {R : RP α} {g : GW} {v : Value} {n : Nat} {cs : List Value} (h : RdSl g sz v n cs) (l : List α) (ecs : List (List Value)) (hcs : cs = ecs.flatten) (hsz : ∀ e ∈ ecs, e.length = sz) (hl : l.length = n) (hel : ecs.length = l.length)
    (hR : ∀ (i : Nat) x ec, l[i]? = some x → ecs[i]? = some ec → R g ec x) : rSl sz R g v l := by
  subst hcs; subst hl
  obtain ⟨h1, oa, cap, rfl, h2, h3, h4, h5⟩ := h
  refine ⟨oa, cap, rfl, h2, h3, h4, fun i x hx => ?_⟩
  have hi := (List.getElem?_eq_some_iff.1 hx).1
  obtain ⟨ec, hec⟩ : ∃ ec, ecs[i]? = some ec := ⟨ecs[i]'(by omega), List.getElem?_eq_getElem (by omega)⟩
  have hlen := hsz ec (List.mem_of_getElem? hec)
  have ha : ∃ a, oa = some a := by
    cases oa with
    | some a => exact ⟨a, rfl⟩
    | none => have := (h4 rfl).1; omega
  obtain ⟨a, rfl⟩ := ha
  refine ⟨a, rfl, ec, hlen, hR i x ec hx hec, fun j u hu => ?_⟩
  obtain ⟨a', ha', hr⟩ := h5 (i * sz + j) u (flatten_at hsz hec hu)
  cases ha'
  rwa [add_add]
theorem map_flatten (l : List Value) : (l.map fun x => [x]).flatten = l := by
  induction l with
  | nil => rfl
  | cons x r ih => simp [ih]
/-- One cell an element. -/
theorem rSl_of1 {α : Type} {R : RP α} {g : GW} {v : Value} {n : Nat} {cs : List Value} (h : RdSl g 1 v n cs) (l : List α) (f : α → Value) (hcs : cs = l.map f) (hR : ∀ x ∈ l, R g [f x] x) : rSl 1 R g v l := by
  have hn : l.length = n := by have := h.1; rw [hcs, List.length_map] at this; omega
  refine rSl_of h l (cs.map fun x => [x]) (map_flatten cs).symm (fun e he => ?_) hn (by rw [List.length_map, hcs, List.length_map]) fun i x ec hx hec => ?_
  · obtain ⟨x, _, rfl⟩ := List.mem_map.1 he; rfl
  · rw [hcs] at hec
    simp only [List.getElem?_map, hx, Option.map_some] at hec
    cases hec
    exact hR x (List.mem_of_getElem? hx)

/-! ### Searching a list from the front -/
/-- Nothing ahead of place i is told by f. -/
def Pass {α β : Type} (f : Nat → α → Option β) (l : List α) (i : Nat) : Prop := ∀ j, j < i → ∀ x, l[j]? = some x → f j x = none
def firstF {α β : Type} (f : Nat → α → Option β) : Nat → List α → Option β
  | _, [] => none
  | i, x :: r => match f i x with
    | some b => some b
    | none => firstF f (i + 1) r
theorem Pass.zero {α β : Type} (f : Nat → α → Option β) (l : List α) : Pass f l 0 := fun j h => by omega
theorem Pass.succ {α β : Type} {f : Nat → α → Option β} {l : List α} {i : Nat} (h : Pass f l i) {x : α} (hx : l[i]? = some x) (hf : f i x = none) : Pass f l (i + 1) := by
  intro j hj y hy
  rcases Nat.lt_or_ge j i with k | k
  · exact h j k y hy
  · obtain rfl : j = i := by omega
    rw [hx] at hy; cases hy; exact hf
theorem firstF_gen {α β : Type} {f : Nat → α → Option β} : ∀ {l : List α} {k : Nat}, (∀ (j : Nat) x, l[j]? = some x → f (k + j) x = none) → firstF f k l = none
  | [], _, _ => rfl
  | x :: r, k, h => by
    have h0 := h 0 x rfl
    simp only [Nat.add_zero] at h0
    simp only [firstF, h0]
    exact firstF_gen fun j y hy => by have := h (j + 1) y (by simpa using hy); rwa [show k + (j + 1) = k + 1 + j by omega] at this
theorem Pass.done {α β : Type} {f : Nat → α → Option β} {l : List α} {i : Nat} (h : Pass f l i) (hi : l.length ≤ i) : firstF f 0 l = none :=
  firstF_gen fun j x hx => by
    rw [Nat.zero_add]
    refine h j ?_ x hx
    have := (List.getElem?_eq_some_iff.1 hx).1; omega
theorem firstF_hit {α β : Type} {f : Nat → α → Option β} {b : β} : ∀ {l : List α} {k i : Nat} {x : α}, (∀ j, j < i → ∀ y, l[j]? = some y → f (k + j) y = none) → l[i]? = some x → f (k + i) x = some b → firstF f k l = some b
  | [], _, _, _, _, hx, _ => by simp at hx
  | y :: r, k, 0, x, _, hx, hf => by
    simp at hx; subst hx
    simp only [Nat.add_zero] at hf
    simp only [firstF, hf]
  | y :: r, k, i + 1, x, h, hx, hf => by
    have h0 := h 0 (by omega) y rfl
    simp only [Nat.add_zero] at h0
    simp only [firstF, h0]
    refine firstF_hit (i := i) (x := x) (fun j hj z hz => ?_) (by simpa using hx) (by rwa [show k + 1 + i = k + (i + 1) by omega])
    have := h (j + 1) (by omega) z (by simpa using hz)
    rwa [show k + (j + 1) = k + 1 + j by omega] at this
theorem Pass.hit {α β : Type} {f : Nat → α → Option β} {l : List α} {i : Nat} (h : Pass f l i) {x : α} {b : β} (hx : l[i]? = some x) (hf : f i x = some b) : firstF f 0 l = some b :=
  firstF_hit (fun j hj y hy => by rw [Nat.zero_add]; exact h j hj y hy) hx (by rwa [Nat.zero_add])
theorem getL_of {α : Type} {l : List α} {i : Nat} (h : i < l.length) : ∃ x, l[i]? = some x := ⟨l[i], List.getElem?_eq_getElem h⟩
theorem wr1 {i n cap : Nat} (h : i < n) (h1 : n ≤ cap) (h2 : cap ≤ maxLen) : IntKind.i64.wrap ((i : Int) + 1) = ((i + 1 : Nat) : Int) := by
  rw [wr]
  · simp
  · unfold maxLen at h2; exact ⟨by omega, by omega⟩
theorem dec {i n : Nat} (h : i < n) : n - (i + 1) < n - i := by omega
theorem all_take {α : Type} {f : α → Bool} {l : List α} {i : Nat} (h : i < l.length) : (l.take (i + 1)).all f = ((l.take i).all f && f l[i]) := by
  rw [List.take_succ_eq_append_getElem h, List.all_append]; simp only [List.all_cons, List.all_nil, Bool.and_true]
theorem all_false {α : Type} {f : α → Bool} {l : List α} {i : Nat} (h : i < l.length) (k : f l[i] = false) : l.all f = false := by
  rw [List.all_eq_false]; exact ⟨l[i], List.getElem_mem h, by simp [k]⟩

/-- All that is there is frozen. -/
def allG (w : World) : GW := ⟨w, (· < w.heap.size), fun _ h => h⟩
end Go.Proofs.YtjaeeadfmnokeaaGreat.Sx


namespace Go
open Go.Lib
def partsL (b : UInt8) : List UInt8 → List (List UInt8)
  | [] => [[]]
  | c :: r => if c == b then [] :: partsL b r else match partsL b r with
    | p :: ps => (c :: p) :: ps
    | [] => [[c]]
theorem partsL_index (b : UInt8) : ∀ L, (indexByte L b = -1 ∧ partsL b L = [L]) ∨ (∃ i : Nat, i < L.length ∧ indexByte L b = i ∧ partsL b L = L.take i :: partsL b (L.drop (i + 1)))
  | [] => .inl ⟨rfl, rfl⟩
  | c :: r => by
    have e1 : partsL b (c :: r) = if c == b then [] :: partsL b r else match partsL b r with
      | p :: ps => (c :: p) :: ps
      | [] => [[c]] := rfl
    have e2 : indexByte (c :: r) b = if c == b then 0 else if indexByte r b == -1 then -1 else indexByte r b + 1 := rfl
    rw [e1, e2]
    cases h : c == b with
    | true => exact .inr ⟨0, by simp, by simp, by simp⟩
    | false =>
      rcases partsL_index b r with ⟨h1, h2⟩ | ⟨i, hi, h1, h2⟩
      · exact .inl ⟨by simp [h1], by simp [h2]⟩
      · refine .inr ⟨i + 1, by simp; omega, ?_, by rw [h2]; simp⟩
        have : ((i : Int) == -1) = false := by rw [beq_eq_false_iff_ne]; omega
        simp [h1, this]
end Go


/- Names, hosts, patterns, paths: plain words on rows of bytes, and what follows of them. -/
namespace Go.Proofs.YtjaeeadfmnokeaaGreat.Sx
theorem parts_cons (b c : UInt8) (z : List UInt8) : partsL b (c :: z) = if c == b then [] :: partsL b z else match partsL b z with
    | p :: ps => (c :: p) :: ps
    | [] => [[c]] := rfl
theorem parts_none {b : UInt8} : ∀ {l : List UInt8}, (∀ j : Nat, l[j]? ≠ some b) → partsL b l = [l]
  | [], _ => rfl
  | c :: l, h => by
    have hc : (c == b) = false := by simpa using fun e => h 0 (by simp [e])
    rw [parts_cons, hc, parts_none (l := l) fun j hj => h (j + 1) (by simpa using hj)]; rfl
theorem parts_at {b : UInt8} : ∀ {l : List UInt8} {k : Nat}, (∀ j : Nat, j < k → l[j]? ≠ some b) → l[k]? = some b → partsL b l = l.take k :: partsL b (l.drop (k + 1))
  | [], _, _, h => by simp at h
  | c :: l, 0, _, h => by
    simp at h; subst h
    rw [parts_cons]; simp
  | c :: l, k + 1, h, hk => by
    have hc : (c == b) = false := by simpa using fun e => h 0 (by omega) (by simp [e])
    rw [parts_cons, hc, parts_at (l := l) (k := k) (fun j hj => by simpa using h (j + 1) (by omega)) (by simpa using hk)]; rfl
def lowB (c : Int) : Bool := decide (97 ≤ c) && decide (c ≤ 122)
def wordB (c : Int) : Bool := lowB c || (decide (48 ≤ c) && decide (c ≤ 57)) || c == 45
def nameB (l : List UInt8) : Bool := decide (0 < l.length) && decide (l.length ≤ 16) && l.head?.any (fun c => lowB c.toNat) && l.all fun c => wordB c.toNat
def hostB (l : List UInt8) : Bool := decide (l.length ≤ 32) && (partsL 46 l).all nameB
abbrev preL (p s : List UInt8) : Bool := p.isPrefixOf s
theorem preL_eq (p s : List UInt8) : preL p s = (decide (p.length ≤ s.length) && s.take p.length == p) := by
  rw [Bool.eq_iff_iff]
  simp only [Bool.and_eq_true, decide_eq_true_eq, beq_iff_eq]
  rw [List.isPrefixOf_iff_prefix, List.prefix_iff_eq_take]
  constructor
  · intro h
    have := congrArg List.length h
    simp only [List.length_take] at this
    exact ⟨by omega, h.symm⟩
  · exact fun h => h.2.symm
def patternB (l : List UInt8) : Bool := if preL [42, 46] l then hostB (l.drop 2) else l == [42] || hostB l
def pathB (l : List UInt8) : Bool := decide (0 < l.length) && decide (l.length ≤ 32) && l.head?.any (fun c => (c.toNat : Int) == 47) && l.all fun c => (c.toNat : Int) == 47 || wordB c.toNat
/-- What the document says of a pattern. -/
theorem pattern_ref (l : List UInt8) : patternB l = if decide (2 < l.length) && l.take 2 == [42, 46] then hostB (l.drop 2) else l == [42] || hostB l := by
  unfold patternB
  rw [preL_eq]
  by_cases h : l.take 2 == [42, 46]
  · have h' : (l.take [(42 : UInt8), 46].length == [42, 46]) = true := h
    have hl : 2 ≤ l.length := by
      have := congrArg List.length (beq_iff_eq.1 h)
      simp at this; omega
    rw [h', h, decide_eq_true (show [(42 : UInt8), 46].length ≤ l.length from hl)]
    by_cases h2 : 2 < l.length
    · rw [decide_eq_true h2]
    · have h3 : l.length = 2 := by omega
      have : l = [42, 46] := by
        have := beq_iff_eq.1 h
        rwa [List.take_of_length_le (by omega)] at this
      subst this; decide
  · have h' : (l.take [(42 : UInt8), 46].length == [42, 46]) = false := by simpa using h
    have h'' : (l.take 2 == [42, 46]) = false := by simpa using h
    rw [h', h'']; simp
/-! ### Paths -/
/-! ### One name more ahead -/
end Go.Proofs.YtjaeeadfmnokeaaGreat.Sx


/- Slices of data: parts of them, their cells, and what is made of them. -/
namespace Go.Proofs.YtjaeeadfmnokeaaGreat.Sx
open Go.RowKit
/-- All the cells of a slice of data. -/
theorem rSl_rdE {α : Type} {sz : Nat} {R : RP α} {g : GW} {oa : Option Addr} {n cap : Nat} {l : List α} (h : rSl sz R g (.slice oa n cap) l) :
    ∃ ecs : List (List Value), RdSl g sz (.slice oa n cap) l.length ecs.flatten ∧ ecs.length = l.length ∧ (∀ e ∈ ecs, e.length = sz) ∧ ∀ (i : Nat) x ec, l[i]? = some x → ecs[i]? = some ec → R g ec x := by
  obtain ⟨oa', cap', he, h2, h3, h4, h5⟩ := h
  simp only [Value.slice.injEq] at he
  obtain ⟨rfl, rfl, rfl⟩ := he
  have h6 : ∀ i : Fin l.length, ∃ ec : List Value, ec.length = sz ∧ R g ec l[i.1] ∧ ∃ a, oa = some a ∧ Rcs g (a.add (i.1 * sz)) ec := fun i => by
    obtain ⟨a, ha, ec, k1, k2, k3⟩ := h5 i.1 l[i.1] (List.getElem?_eq_getElem i.2)
    exact ⟨ec, k1, k2, a, ha, k3⟩
  let f : Fin l.length → List Value := fun i => Classical.choose (h6 i)
  have hf : ∀ i : Fin l.length, (f i).length = sz ∧ R g (f i) l[i.1] ∧ ∃ a, oa = some a ∧ Rcs g (a.add (i.1 * sz)) (f i) := fun i => Classical.choose_spec (h6 i)
  have hget : ∀ (i : Nat) (hi : i < l.length), (List.ofFn f)[i]? = some (f ⟨i, hi⟩) := fun i hi => by
    rw [List.getElem?_eq_getElem (by simpa using hi)]; simp
  have hsz : ∀ e ∈ List.ofFn f, e.length = sz := fun e he => by
    obtain ⟨i, hi⟩ := List.mem_ofFn.1 he
    rw [← hi]; exact (hf i).1
  refine ⟨List.ofFn f, ⟨?_, oa, cap, rfl, h2, h3, h4, fun j u hu => ?_⟩, by simp, hsz, fun i x ec hx hec => ?_⟩
  · rw [flatten_len hsz]; simp
  · have hlt := (List.getElem?_eq_some_iff.1 hu).1
    rw [flatten_len hsz] at hlt
    simp only [List.length_ofFn] at hlt
    have hpos : 0 < sz := by
      rcases Nat.eq_zero_or_pos sz with h0 | h0
      · rw [h0] at hlt; omega
      · exact h0
    have hi : j / sz < l.length := (Nat.div_lt_iff_lt_mul hpos).2 hlt
    have hm := Nat.mod_lt j hpos
    obtain ⟨k1, _, a, ha, k3⟩ := hf ⟨j / sz, hi⟩
    have hj : j / sz * sz + j % sz = j := by rw [Nat.mul_comm]; exact Nat.div_add_mod j sz
    have h7 : (f ⟨j / sz, hi⟩)[j % sz]? = some u := by
      obtain ⟨u', hu'⟩ : ∃ u', (f ⟨j / sz, hi⟩)[j % sz]? = some u' := ⟨_, List.getElem?_eq_getElem (by rw [k1]; exact hm)⟩
      have := flatten_at hsz (hget _ hi) hu'
      rw [hj, hu] at this
      rw [hu', this]
    refine ⟨a, ha, ?_⟩
    have := k3 _ u h7
    rwa [show ((a.add (j / sz * sz)).add (j % sz)) = a.add j by rw [add_add, hj]] at this
  · have hi := (List.getElem?_eq_some_iff.1 hx).1
    rw [hget i hi] at hec
    cases hec
    have := (hf ⟨i, hi⟩).2.1
    rw [List.getElem?_eq_getElem hi] at hx
    cases hx
    exact this
/-- Where a datum's cells are told by the datum. -/
theorem rSl_rd {α : Type} {sz : Nat} {R : RP α} {g : GW} {oa : Option Addr} {n cap : Nat} {l : List α} (h : rSl sz R g (.slice oa n cap) l) (f : α → List Value) (hf : ∀ cs x, R g cs x → cs = f x) : RdSl g sz (.slice oa n cap) l.length ((l.map f).flatten) := by
  obtain ⟨ecs, h1, h2, h3, h4⟩ := rSl_rdE h
  have : ecs = l.map f := by
    apply List.ext_getElem?
    intro i
    rw [List.getElem?_map]
    rcases Nat.lt_or_ge i l.length with hi | hi
    · obtain ⟨x, hx⟩ := getL_of hi
      obtain ⟨ec, hec⟩ := getL_of (show i < ecs.length by omega)
      rw [hx, hec, hf _ _ (h4 i x ec hx hec)]; rfl
    · rw [List.getElem?_eq_none (by omega), List.getElem?_eq_none (by omega)]; rfl
  rw [← this]; exact h1
theorem rSl_ofE {α : Type} {sz : Nat} {R : RP α} {g : GW} {v : Value} {n : Nat} {cs : List Value} (h : RdSl g sz v n cs) (l : List α) (f : α → List Value) (hcs : cs = (l.map f).flatten) (hl : l.length = n) (hsz : ∀ x ∈ l, (f x).length = sz) (hR : ∀ x ∈ l, R g (f x) x) : rSl sz R g v l := by
  refine rSl_of h l (l.map f) hcs (fun e he => ?_) hl (by simp) fun i x ec hx hec => ?_
  · obtain ⟨x, hx, rfl⟩ := List.mem_map.1 he; exact hsz x hx
  · rw [List.getElem?_map, hx] at hec
    cases hec
    exact hR x (List.mem_of_getElem? hx)
theorem rSl.take {α : Type} {sz : Nat} {R : RP α} {g : GW} {oa : Option Addr} {n cap : Nat} {l : List α} (h : rSl sz R g (.slice oa n cap) l) {k : Nat} (hk : k ≤ l.length) : rSl sz R g (.slice oa k cap) (l.take k) := by
  obtain ⟨oa', cap', he, h2, h3, h4, h5⟩ := h
  simp only [Value.slice.injEq] at he
  obtain ⟨rfl, rfl, rfl⟩ := he
  have hl : (l.take k).length = k := by simp; omega
  refine ⟨oa, cap, by rw [hl], by omega, h3, fun h => ⟨by have := (h4 h).1; omega, (h4 h).2⟩, fun i x hx => ?_⟩
  rw [List.getElem?_take] at hx
  split at hx
  · exact h5 i x hx
  · cases hx
theorem rSl.drop {α : Type} {sz : Nat} {R : RP α} {g : GW} {oa : Option Addr} {n cap : Nat} {l : List α} (h : rSl sz R g (.slice oa n cap) l) {k : Nat} (hk : k ≤ l.length) :
    rSl sz R g (.slice (if cap = k then oa else oa.map (·.add (k * sz))) (n - k) (cap - k)) (l.drop k) := by
  obtain ⟨oa', cap', he, h2, h3, h4, h5⟩ := h
  simp only [Value.slice.injEq] at he
  obtain ⟨rfl, rfl, rfl⟩ := he
  refine ⟨_, cap - k, by rw [List.length_drop], by rw [List.length_drop]; omega, by omega, fun h => ?_, fun i x hx => ?_⟩
  · have : oa = none := by
      split at h
      · exact h
      · cases oa with
        | none => rfl
        | some a => cases h
    have := h4 this
    rw [List.length_drop]; omega
  · rw [List.getElem?_drop] at hx
    obtain ⟨a, rfl, ec, k1, k2, k3⟩ := h5 (k + i) x hx
    have hi := (List.getElem?_eq_some_iff.1 hx).1
    rw [if_neg (by omega)]
    refine ⟨_, rfl, ec, k1, k2, ?_⟩
    rwa [add_add, show k * sz + i * sz = (k + i) * sz by rw [Nat.add_mul]]
theorem RdSl.take {g : GW} {sz n k cap : Nat} {oa : Option Addr} {cs : List Value} (h : RdSl g sz (.slice oa n cap) n cs) (hk : k ≤ n) : RdSl g sz (.slice oa k cap) k (cs.take (k * sz)) := by
  obtain ⟨h1, oa', cap', he, h2, h3, h4, h5⟩ := h
  simp only [Value.slice.injEq, true_and] at he
  obtain ⟨rfl, rfl⟩ := he
  have hm : k * sz ≤ n * sz := Nat.mul_le_mul_right _ hk
  refine ⟨by rw [List.length_take]; omega, oa, cap, rfl, by omega, h3, fun h => ⟨by have := (h4 h).1; omega, (h4 h).2⟩, fun i u hu => ?_⟩
  rw [List.getElem?_take] at hu
  split at hu
  · exact h5 i u hu
  · cases hu
/-! ### Places -/
def idxO {α : Type} (f : α → Bool) (l : List α) : Option Nat := firstF (fun i x => if f x then some i else none) 0 l
def idxI : Option Nat → Int
  | some i => i
  | none => -1
abbrev idxF {α : Type} (f : α → Bool) : Nat → α → Option Nat := fun i x => if f x then some i else none
theorem idxO_hit {α : Type} {f : α → Bool} {l : List α} {i : Nat} (h : Pass (idxF f) l i) {x : α} (hx : l[i]? = some x) (hf : f x = true) : idxI (idxO f l) = i := by
  have := h.hit hx (b := i) (by simp [idxF, hf])
  rw [show idxO f l = some i from this]; rfl
theorem idxO_miss {α : Type} {f : α → Bool} {l : List α} {i : Nat} (h : Pass (idxF f) l i) (hi : l.length ≤ i) : idxI (idxO f l) = -1 := by
  rw [show idxO f l = none from h.done hi]; rfl
theorem idx_next {α : Type} {f : α → Bool} {l : List α} {i : Nat} (h : Pass (idxF f) l i) {x : α} (hx : l[i]? = some x) (hf : f x = false) : Pass (idxF f) l (i + 1) := h.succ hx (by simp [idxF, hf])
theorem firstF_cases {α β : Type} {f : Nat → α → Option β} : ∀ {l : List α} {k : Nat}, firstF f k l = none ∨ ∃ (i : Nat) (x : α) (b : β), firstF f k l = some b ∧ l[i]? = some x ∧ f (k + i) x = some b ∧ ∀ j, j < i → ∀ y, l[j]? = some y → f (k + j) y = none
  | [], _ => .inl rfl
  | x :: r, k => by
    simp only [firstF]
    cases hf : f k x with
    | some b => exact .inr ⟨0, x, b, rfl, rfl, hf, fun j hj => by omega⟩
    | none =>
      rcases firstF_cases (f := f) (l := r) (k := k + 1) with h | ⟨i, y, b, h1, h2, h3, h4⟩
      · exact .inl h
      · refine .inr ⟨i + 1, y, b, h1, by simpa using h2, by rwa [show k + (i + 1) = k + 1 + i by omega], fun j hj z hz => ?_⟩
        cases j with
        | zero => simp at hz; subst hz; exact hf
        | succ j =>
          have := h4 j (by omega) z (by simpa using hz)
          rwa [show k + (j + 1) = k + 1 + j by omega]
theorem idxO_some {α : Type} {f : α → Bool} {l : List α} {i : Nat} (h : idxO f l = some i) : ∃ x, l[i]? = some x ∧ f x = true ∧ ∀ j, j < i → ∀ y, l[j]? = some y → f y = false := by
  rcases firstF_cases (f := idxF f) (l := l) (k := 0) with h1 | ⟨j, x, b, h1, h2, h3, h4⟩
  · rw [show idxO f l = none from h1] at h; cases h
  · rw [show idxO f l = some b from h1] at h
    cases h
    simp only [idxF, Nat.zero_add] at h3
    split at h3
    · rename_i hf
      cases h3
      refine ⟨x, h2, hf, fun j hj y hy => ?_⟩
      have := h4 j hj y hy
      simp only [idxF] at this
      split at this
      · cases this
      · rename_i hn; simpa using hn
    · cases h3
theorem idxO_none {α : Type} {f : α → Bool} {l : List α} : idxO f l = none ↔ l.any f = false := by
  constructor
  · intro h
    rw [List.any_eq_false]
    intro x hx
    obtain ⟨i, hi⟩ := List.getElem?_of_mem hx
    rcases firstF_cases (f := idxF f) (l := l) (k := 0) with h1 | ⟨j, y, b, h1, _⟩
    · intro hf
      have gen : ∀ (l : List α) (k : Nat), firstF (idxF f) k l = none → ∀ x ∈ l, f x = false := by
        intro l
        induction l with
        | nil => intro k _ x hx; cases hx
        | cons y r ih =>
          intro k hk x hx
          simp only [firstF, idxF] at hk
          cases hfy : f y with
          | true => rw [hfy] at hk; cases hk
          | false =>
            rw [hfy] at hk
            rcases List.mem_cons.1 hx with rfl | hx
            · exact hfy
            · exact ih _ hk x hx
      rw [gen l 0 h1 x hx] at hf; cases hf
    · rw [show idxO f l = some b from h1] at h; cases h
  · intro h
    cases hh : idxO f l with
    | none => rfl
    | some i =>
      obtain ⟨x, h1, h2, _⟩ := idxO_some hh
      have := List.any_eq_false.1 h x (List.mem_of_getElem? h1)
      rw [h2] at this; simp at this
theorem idx_any {α : Type} (f : α → Bool) (l : List α) : decide (0 ≤ idxI (idxO f l)) = l.any f := by
  cases h : idxO f l with
  | none => rw [idxO_none.1 h]; rfl
  | some i =>
    obtain ⟨x, h1, h2, _⟩ := idxO_some h
    rw [List.any_eq_true.2 ⟨x, List.mem_of_getElem? h1, h2⟩]
    simp [idxI]
end Go.Proofs.YtjaeeadfmnokeaaGreat.Sx


/- Whether a configuration may be: plain words, and what follows. -/
namespace Go.Proofs.YtjaeeadfmnokeaaGreat.Sx
def hasS (l : List BA) (s : BA) : Bool := l.any fun x => bs x == bs s
def hasC (l : List Cluster) (s : BA) : Bool := l.any fun x => bs x.name == bs s
def eqRt (q r : Route) : Bool := bs q.listen == bs r.listen && bs q.host == bs r.host && bs q.path == bs r.path
abbrev EI := Int × Int
def sizeE (c : Config) : Option EI := if (1 ≤ c.listens.length ∧ c.listens.length ≤ 4) ∧ (1 ≤ c.routes.length ∧ c.routes.length ≤ 8) ∧ (1 ≤ c.clusters.length ∧ c.clusters.length ≤ 4) then none else some (6, 0)
def listenF (l : List BA) (i : Nat) (s : BA) : Option EI := if nameB (bs s) then (if hasS (l.take i) s then some (4, i) else none) else some (3, i)
def listensE (c : Config) : Option EI := firstF (listenF c.listens) 0 c.listens
def clusterF (l : List Cluster) (i : Nat) (x : Cluster) : Option EI :=
  if nameB (bs x.name) then (if hasC (l.take i) x.name then some (4, i) else if x.policy = 1 ∨ x.policy = 2 then (if 1 ≤ x.slots ∧ x.slots ≤ 4 then (if 1 ≤ x.health.length ∧ x.health.length ≤ 4 then none else some (6, i)) else some (10, i)) else some (9, i)) else some (3, i)
def clustersE (c : Config) : Option EI := firstF (clusterF c.clusters) 0 c.clusters
def routeF (c : Config) (i : Nat) (r : Route) : Option EI :=
  if hasS c.listens r.listen then (if patternB (bs r.host) then (if pathB (bs r.path) then (if hasC c.clusters r.cluster then (if (c.routes.take i).any fun q => eqRt q r then some (4, i) else none) else some (5, i)) else some (8, i)) else some (7, i)) else some (5, i)
def routesE (c : Config) : Option EI := firstF (routeF c) 0 c.routes
/-- The first error, and the number of the part that it is of. -/
def checkE (c : Config) : Option EI := match sizeE c with
  | some e => some e
  | none => match listensE c with
    | some e => some e
    | none => match clustersE c with
      | some e => some e
      | none => routesE c
def eiT : Option EI → Value
  | none => .tuple #[.int .i64 0, .int .i64 0]
  | some (e, i) => .tuple #[.int .i64 e, .int .i64 i]
theorem firstF_none {α β : Type} {f : Nat → α → Option β} {l : List α} : firstF f 0 l = none ↔ ∀ (i : Nat) x, l[i]? = some x → f i x = none := by
  constructor
  · intro h i
    induction i using Nat.strongRecOn with
    | ind i ih =>
      intro x hx
      cases hf : f i x with
      | none => rfl
      | some b =>
        have := Pass.hit (f := f) (l := l) (i := i) (fun j hj y hy => ih j hj y hy) hx hf
        rw [this] at h; cases h
  · intro h
    exact Pass.done (i := l.length) (fun j _ x hx => h j x hx) (Nat.le_refl _)
theorem firstF_some {α β : Type} {f : Nat → α → Option β} {l : List α} {b : β} (h : firstF f 0 l = some b) : ∃ (i : Nat) (x : α), l[i]? = some x ∧ f i x = some b := by
  have gen : ∀ {l : List α} {k : Nat}, firstF f k l = some b → ∃ (i : Nat) (x : α), l[i]? = some x ∧ f (k + i) x = some b := by
    intro l
    induction l with
    | nil => intro k h; simp [firstF] at h
    | cons x r ih =>
      intro k h
      simp only [firstF] at h
      split at h
      · rename_i c hc
        simp only [Option.some.injEq] at h
        subst h
        exact ⟨0, x, rfl, hc⟩
      · obtain ⟨i, y, h1, h2⟩ := ih h
        exact ⟨i + 1, y, by simpa using h1, by rwa [show k + (i + 1) = k + 1 + i by omega]⟩
  obtain ⟨i, x, h1, h2⟩ := gen h
  exact ⟨i, x, h1, by rwa [Nat.zero_add] at h2⟩
/-- Every error has a number that is not 0, and a place in range. -/
theorem checkE_ne {c : Config} {e i : Int} (h : checkE c = some (e, i)) : 3 ≤ e ∧ e ≤ 10 ∧ 0 ≤ i := by
  unfold checkE at h
  split at h
  · rename_i x hx
    simp only [Option.some.injEq] at h; subst h
    unfold sizeE at hx
    split at hx
    · cases hx
    · simp at hx; omega
  · split at h
    · rename_i x hx
      simp only [Option.some.injEq] at h; subst h
      obtain ⟨j, y, _, hy⟩ := firstF_some hx
      unfold listenF at hy
      (repeat' (split at hy)) <;> simp at hy <;> omega
    · split at h
      · rename_i x hx
        simp only [Option.some.injEq] at h; subst h
        obtain ⟨j, y, _, hy⟩ := firstF_some hx
        unfold clusterF at hy
        (repeat' (split at hy)) <;> simp at hy <;> omega
      · obtain ⟨j, y, _, hy⟩ := firstF_some h
        unfold routeF at hy
        (repeat' (split at hy)) <;> simp at hy <;> omega
/-- No part is there twice, ahead of it. -/
def Uniq {α : Type} (f : α → α → Bool) (l : List α) : Prop := ∀ (i j : Nat) x y, i < j → l[i]? = some x → l[j]? = some y → f x y = false
theorem any_take {α : Type} {f : α → Bool} {l : List α} {i : Nat} : (l.take i).any f = false ↔ ∀ (j : Nat) x, j < i → l[j]? = some x → f x = false := by
  rw [List.any_eq_false]
  constructor
  · intro h j x hj hx
    have : (l.take i)[j]? = some x := by rw [List.getElem?_take, if_pos hj]; exact hx
    simpa using h x (List.mem_of_getElem? this)
  · intro h x hx
    obtain ⟨j, hj⟩ := List.getElem?_of_mem hx
    rw [List.getElem?_take] at hj
    split at hj
    · rename_i hlt; simpa using h j x hlt hj
    · cases hj
structure GoodC (c : Config) : Prop where
  size : (1 ≤ c.listens.length ∧ c.listens.length ≤ 4) ∧ (1 ≤ c.routes.length ∧ c.routes.length ≤ 8) ∧ (1 ≤ c.clusters.length ∧ c.clusters.length ≤ 4)
  ln : ∀ s ∈ c.listens, nameB (bs s) = true
  lu : Uniq (fun x y => bs x == bs y) c.listens
  cl : ∀ x ∈ c.clusters, nameB (bs x.name) = true ∧ (x.policy = 1 ∨ x.policy = 2) ∧ (1 ≤ x.slots ∧ x.slots ≤ 4) ∧ (1 ≤ x.health.length ∧ x.health.length ≤ 4)
  cu : Uniq (fun (x y : Cluster) => bs x.name == bs y.name) c.clusters
  rt : ∀ r ∈ c.routes, hasS c.listens r.listen = true ∧ patternB (bs r.host) = true ∧ pathB (bs r.path) = true ∧ hasC c.clusters r.cluster = true
  ru : Uniq eqRt c.routes
theorem listensE_none {c : Config} : listensE c = none ↔ (∀ s ∈ c.listens, nameB (bs s) = true) ∧ Uniq (fun x y => bs x == bs y) c.listens := by
  unfold listensE
  rw [firstF_none]
  constructor
  · intro h
    refine ⟨fun s hs => ?_, fun i j x y hij hx hy => ?_⟩
    · obtain ⟨i, hi⟩ := List.getElem?_of_mem hs
      have := h i s hi
      unfold listenF at this
      split at this
      · assumption
      · cases this
    · have := h j y hy
      unfold listenF at this
      split at this
      · split at this
        · cases this
        · rename_i hn
          exact any_take.1 ((Bool.not_eq_true _).mp hn) i x hij hx
      · cases this
  · rintro ⟨h1, h2⟩ i x hx
    unfold listenF
    rw [if_pos (h1 x (List.mem_of_getElem? hx)), if_neg]
    have : hasS (c.listens.take i) x = false := any_take.2 fun j y hj hy => h2 j i y x hj hy hx
    rw [this]; simp
theorem clustersE_none {c : Config} : clustersE c = none ↔ (∀ x ∈ c.clusters, nameB (bs x.name) = true ∧ (x.policy = 1 ∨ x.policy = 2) ∧ (1 ≤ x.slots ∧ x.slots ≤ 4) ∧ (1 ≤ x.health.length ∧ x.health.length ≤ 4)) ∧ Uniq (fun (x y : Cluster) => bs x.name == bs y.name) c.clusters := by
  unfold clustersE
  rw [firstF_none]
  constructor
  · intro h
    refine ⟨fun s hs => ?_, fun i j x y hij hx hy => ?_⟩
    · obtain ⟨i, hi⟩ := List.getElem?_of_mem hs
      have := h i s hi
      unfold clusterF at this
      (repeat' (split at this)) <;> first | (cases this; done) | (exact ⟨by assumption, by assumption, by assumption, by assumption⟩)
    · have := h j y hy
      unfold clusterF at this
      split at this
      · split at this
        · cases this
        · rename_i hn
          exact any_take.1 ((Bool.not_eq_true _).mp hn) i x hij hx
      · cases this
  · rintro ⟨h1, h2⟩ i x hx
    obtain ⟨k1, k2, k3, k4⟩ := h1 x (List.mem_of_getElem? hx)
    unfold clusterF
    have : hasC (c.clusters.take i) x.name = false := any_take.2 fun j y hj hy => h2 j i y x hj hy hx
    rw [if_pos k1, this, if_neg (by simp), if_pos k2, if_pos k3, if_pos k4]
theorem routesE_none {c : Config} : routesE c = none ↔ (∀ r ∈ c.routes, hasS c.listens r.listen = true ∧ patternB (bs r.host) = true ∧ pathB (bs r.path) = true ∧ hasC c.clusters r.cluster = true) ∧ Uniq eqRt c.routes := by
  unfold routesE
  rw [firstF_none]
  constructor
  · intro h
    refine ⟨fun s hs => ?_, fun i j x y hij hx hy => ?_⟩
    · obtain ⟨i, hi⟩ := List.getElem?_of_mem hs
      have := h i s hi
      unfold routeF at this
      (repeat' (split at this)) <;> first | (cases this; done) | (exact ⟨by assumption, by assumption, by assumption, by assumption⟩)
    · have := h j y hy
      unfold routeF at this
      (repeat' (split at this)) <;> first | (cases this; done) | skip
      rename_i hn
      exact any_take.1 (by simpa using hn) i x hij hx
  · rintro ⟨h1, h2⟩ i x hx
    obtain ⟨k1, k2, k3, k4⟩ := h1 x (List.mem_of_getElem? hx)
    unfold routeF
    have : (c.routes.take i).any (fun q => eqRt q x) = false := any_take.2 fun j y hj hy => h2 j i y x hj hy hx
    rw [if_pos k1, if_pos k2, if_pos k3, if_pos k4, this, if_neg (by simp)]
theorem good_iff {c : Config} : checkE c = none ↔ GoodC c := by
  unfold checkE
  constructor
  · intro h
    split at h
    · cases h
    · rename_i h1
      split at h
      · cases h
      · rename_i h2
        split at h
        · cases h
        · rename_i h3
          obtain ⟨a1, a2⟩ := listensE_none.1 h2
          obtain ⟨b1, b2⟩ := clustersE_none.1 h3
          obtain ⟨c1, c2⟩ := routesE_none.1 h
          refine ⟨?_, a1, a2, b1, b2, c1, c2⟩
          unfold sizeE at h1
          split at h1
          · assumption
          · cases h1
  · intro h
    have h1 : sizeE c = none := by unfold sizeE; rw [if_pos h.size]
    rw [h1, listensE_none.2 ⟨h.ln, h.lu⟩, clustersE_none.2 ⟨h.cl, h.cu⟩]
    exact routesE_none.2 ⟨h.rt, h.ru⟩
theorem Uniq.take {α : Type} {f : α → α → Bool} {l : List α} (h : Uniq f l) (k : Nat) : Uniq f (l.take k) := fun i j x y hij hx hy => by
  rw [List.getElem?_take] at hx hy
  split at hx
  · split at hy
    · exact h i j x y hij hx hy
    · cases hy
  · cases hx
theorem beqL_symm (a b : List UInt8) : (a == b) = (b == a) := by rw [Bool.eq_iff_iff]; simp only [beq_iff_eq]; exact ⟨Eq.symm, Eq.symm⟩
end Go.Proofs.YtjaeeadfmnokeaaGreat.Sx


/- Which rule a request goes by: plain words on rows of rules, and what follows. -/
namespace Go.Proofs.YtjaeeadfmnokeaaGreat.Sx
section
variable (fit : Rule → Bool)
variable {fit}
end
end Go.Proofs.YtjaeeadfmnokeaaGreat.Sx


/- Frozen memory that the call made: it is written, and what is told of it. -/
namespace Go.Proofs.YtjaeeadfmnokeaaGreat.Sx
open Go.RowKit
theorem PbSl.dom {g : GW} {lo : Nat} {ety : TypeId} {size b n cap : Nat} {cs : List Value} (h : PbSl g lo ety size (.slice (some ⟨b, 0, none⟩) n cap) n cs) : g.g b := by
  obtain ⟨_, h2, _⟩ := h
  rcases h2 with ⟨h2, _⟩ | ⟨b', cap', rest, hv, hb, _⟩
  · cases h2
  · simp only [Value.slice.injEq, Option.some.injEq, Addr.mk.injEq] at hv
    obtain ⟨⟨rfl, _⟩, _⟩ := hv
    exact hb.2
theorem PbSl.ne {g : GW} {lo : Nat} {ety : TypeId} {size b b' n cap : Nat} {cs : List Value} (h : PbSl g lo ety size (.slice (some ⟨b, 0, none⟩) n cap) n cs) (hn : ¬ g.g b') : b ≠ b' := fun e => hn (e ▸ h.dom)
/-- Another block is written. -/
theorem PbSl.keep {g g' : GW} {lo : Nat} {ety : TypeId} {size b b' n cap : Nat} {cs : List Value} {o : Obj} (h : PbSl g lo ety size (.slice (some ⟨b', 0, none⟩) n cap) n cs) (u : Upd g b o g') (hne : b' ≠ b) : PbSl g' lo ety size (.slice (some ⟨b', 0, none⟩) n cap) n cs := by
  obtain ⟨h1, h2, h3⟩ := h
  refine ⟨h1, ?_, h3⟩
  rcases h2 with ⟨h2, _⟩ | ⟨b', cap', rest, hv, hb, ho, hr⟩
  · cases h2
  · simp only [Value.slice.injEq, Option.some.injEq, Addr.mk.injEq] at hv
    obtain ⟨⟨rfl, _⟩, _, rfl⟩ := hv
    exact .inr ⟨_, _, rest, rfl, ⟨hb.1, (u.dom _).2 hb.2⟩, (u.other _ hb.2 hne).trans ho, hr⟩
/-- It is written. -/
theorem PbSl.poke {g : GW} {lo : Nat} {ety : TypeId} {size b n cap : Nat} {cs : List Value} (h : PbSl g lo ety size (.slice (some ⟨b, 0, none⟩) n cap) n cs) :
    ∃ rest, (lo ≤ b ∧ g.g b ∧ g.w.heap[b]? = some (.cells ⟨cs ++ rest⟩ ety (0, 0))) ∧ ∀ (j m : Nat) (vs : List Value) g', j + m ≤ cs.length → m = vs.length → (∀ u ∈ vs, u.oneCell' = true) →
      Upd g b (.cells ⟨(cs ++ rest).take j ++ vs ++ (cs ++ rest).drop (j + m)⟩ ety (0, 0)) g' → PbSl g' lo ety size (.slice (some ⟨b, 0, none⟩) n cap) n (cs.take j ++ vs ++ cs.drop (j + m)) := by
  obtain ⟨h1, h2, h3⟩ := h
  rcases h2 with ⟨h2, _⟩ | ⟨b', cap', rest, hv, hb, ho, hnc, hcm, hr⟩
  · cases h2
  · simp only [Value.slice.injEq, Option.some.injEq, Addr.mk.injEq] at hv
    obtain ⟨⟨rfl, _⟩, _, rfl⟩ := hv
    refine ⟨rest, ⟨hb.1, hb.2, ho⟩, fun j m vs g' hj hm hone u => ?_⟩
    subst hm
    have e : (cs ++ rest).take j ++ vs ++ (cs ++ rest).drop (j + vs.length) = (cs.take j ++ vs ++ cs.drop (j + vs.length)) ++ rest := by
      rw [List.take_append_of_le_length (by omega), List.drop_append_of_le_length (by omega)]; simp
    rw [e] at u
    refine ⟨?_, .inr ⟨b, cap, rest, rfl, ⟨hb.1, (u.dom _).2 hb.2⟩, u.obj, hnc, hcm, ?_⟩, fun x hx => ?_⟩
    · rw [← h1]; simp; omega
    · rw [← hr]; simp; omega
    · rcases List.mem_append.1 hx with hx | hx
      · rcases List.mem_append.1 hx with hx | hx
        · exact h3 x (List.mem_of_mem_take hx)
        · exact hone x hx
      · exact h3 x (List.mem_of_mem_drop hx)
theorem oneF {α : Type} {l : List α} {f : α → List Value} (h : ∀ x ∈ l, (f x).all Value.oneCell' = true) : ∀ u ∈ (l.map f).flatten, u.oneCell' = true := fun u hu => by
  obtain ⟨c, hc, hu⟩ := List.mem_flatten.1 hu
  obtain ⟨x, hx, rfl⟩ := List.mem_map.1 hc
  exact List.all_eq_true.1 (h x hx) u hu
end Go.Proofs.YtjaeeadfmnokeaaGreat.Sx


/- Snapshots: what is built of a configuration, and the configuration of a snapshot. -/
namespace Go.Proofs.YtjaeeadfmnokeaaGreat.Sx
noncomputable def eqB {α : Type} (a b : α) : Bool := @decide (a = b) (Classical.propDecidable _)
theorem eqB_iff {α : Type} {a b : α} : eqB a b = true ↔ a = b := @decide_eq_true_iff _ (Classical.propDecidable _)
theorem eqB_t {α : Type} {a b : α} (h : a = b) : eqB a b = true := eqB_iff.2 h
theorem eqB_f {α : Type} {a b : α} (h : a ≠ b) : eqB a b = false := by
  cases e : eqB a b with
  | false => rfl
  | true => exact absurd (eqB_iff.1 e) h
theorem rule_ext {a b : Rule} (h1 : a.listen = b.listen) (h2 : a.host = b.host) (h3 : a.path = b.path) (h4 : a.cluster = b.cluster) : a = b := by
  cases a; cases b; simp_all
theorem cluster_ext {a b : Cluster} (h1 : a.name = b.name) (h2 : a.policy = b.policy) (h3 : a.slots = b.slots) (h4 : a.health = b.health) : a = b := by
  cases a; cases b; simp_all
def nameAt (l : List BA) (i : Int) : BA := if 0 ≤ i ∧ i < l.length then (l[i.toNat]?).getD ⟨#[]⟩ else ⟨#[]⟩
def clusAt (l : List Cluster) (i : Int) : BA := if 0 ≤ i ∧ i < l.length then ((l[i.toNat]?).map (·.name)).getD ⟨#[]⟩ else ⟨#[]⟩
def routeOf (s : Snap) (r : Rule) : Route := ⟨nameAt s.listens r.listen, r.host, r.path, clusAt s.clusters r.cluster⟩
def confS (s : Snap) : Config := ⟨s.listens, s.rules.map (routeOf s), s.clusters⟩
end Go.Proofs.YtjaeeadfmnokeaaGreat.Sx


/- Plain data: operations and scripts, and how they lie in frozen memory. -/
namespace Go.Proofs.YtjaeeadfmnokeaaGreat.Sx
structure OpD where
  kind : Int
  listen : BA
  host : BA
  path : BA
  d0 : Int
  d1 : Int
  n : Int
  config : Config
structure Script where
  first : Config
  threads : List (List OpD)
  picks : List Int
end Go.Proofs.YtjaeeadfmnokeaaGreat.Sx


/- Plain data: answers, events, machines, and how they lie in frozen memory. -/
namespace Go.Proofs.YtjaeeadfmnokeaaGreat.Sx
structure C6 where
  c0 : Int
  c1 : Int
  c2 : Int
  c3 : Int
  c4 : Int
  c5 : Int
abbrev C6.cs (c : C6) : List Value := [.int .u64 c.c0, .int .u64 c.c1, .int .u64 c.c2, .int .u64 c.c3, .int .u64 c.c4, .int .u64 c.c5]
def C6.set (c : C6) (n : Int) : Nat → C6
  | 0 => { c with c0 := n }
  | 1 => { c with c1 := n }
  | 2 => { c with c2 := n }
  | 3 => { c with c3 := n }
  | 4 => { c with c4 := n }
  | _ => { c with c5 := n }
structure C6.ok (c : C6) : Prop where
  k0 : InU c.c0
  k1 : InU c.c1
  k2 : InU c.c2
  k3 : InU c.c3
  k4 : InU c.c4
  k5 : InU c.c5
def c60 : C6 := ⟨0, 0, 0, 0, 0, 0⟩
structure Ans where
  kind : Int
  version : Int
  cluster : Int
  end_ : Int
  slot : Int
  listen : Int
  n : Int
  counts : C6
def ans0 : Ans := ⟨0, 0, 0, 0, 0, 0, 0, c60⟩
abbrev Ans.cs (a : Ans) : List Value := [.int .i64 a.kind, .int .i64 a.version, .int .i64 a.cluster, .int .i64 a.end_, .int .i64 a.slot, .int .i64 a.listen, .int .i64 a.n, .int .u64 a.counts.c0, .int .u64 a.counts.c1, .int .u64 a.counts.c2, .int .u64 a.counts.c3, .int .u64 a.counts.c4, .int .u64 a.counts.c5]
structure Ans.ok (a : Ans) : Prop where
  kind : InR a.kind
  version : InR a.version
  cluster : InR a.cluster
  end_ : InR a.end_
  slot : InR a.slot
  listen : InR a.listen
  n : InR a.n
  counts : a.counts.ok
structure Ev where
  thread : Int
  op : Int
  access : Int
  cell : Int
  version : Int
  freed : Bool
  value : Int
  begin_ : Bool
  point : Bool
  done : Bool
  answer : Ans
def ev0 : Ev := ⟨0, 0, 0, 0, 0, false, 0, false, false, false, ans0⟩
abbrev Ev.cs (e : Ev) : List Value := [.int .i64 e.thread, .int .i64 e.op, .int .i64 e.access, .int .i64 e.cell, .int .i64 e.version, .bool e.freed, .int .i64 e.value, .bool e.begin_, .bool e.point, .bool e.done,
  .int .i64 e.answer.kind, .int .i64 e.answer.version, .int .i64 e.answer.cluster, .int .i64 e.answer.end_, .int .i64 e.answer.slot, .int .i64 e.answer.listen, .int .i64 e.answer.n, .int .u64 e.answer.counts.c0, .int .u64 e.answer.counts.c1, .int .u64 e.answer.counts.c2, .int .u64 e.answer.counts.c3, .int .u64 e.answer.counts.c4, .int .u64 e.answer.counts.c5]
structure Mach where
  op : OpD
  thread : Int
  pc : Int
  epoch : Int
  version : Int
  listen : Int
  cluster : Int
  end_ : Int
  other : Int
  slot : Int
  word : Int
  link : Int
  i : Int
  k : Int
  sum : Int
  done : Bool
  answer : Ans
  counts : C6
structure Mach.ok (m : Mach) : Prop where
  thread : InR m.thread
  pc : InR m.pc
  epoch : InR m.epoch
  version : InR m.version
  listen : InR m.listen
  cluster : InR m.cluster
  end_ : InR m.end_
  other : InR m.other
  slot : InR m.slot
  word : InU m.word
  link : InR m.link
  i : InR m.i
  k : InR m.k
  sum : InR m.sum
  answer : m.answer.ok
  counts : m.counts.ok
/-- The cells of a machine behind its operation. -/
abbrev Mach.cs (a b d : Value) (m : Mach) : List Value := [.int .i64 m.op.kind, .string m.op.listen, .string m.op.host, .string m.op.path, .int .i64 m.op.d0, .int .i64 m.op.d1, .int .i64 m.op.n, a, b, d,
  .int .i64 m.thread, .int .i64 m.pc, .int .i64 m.epoch, .int .i64 m.version, .int .i64 m.listen, .int .i64 m.cluster, .int .i64 m.end_, .int .i64 m.other, .int .i64 m.slot, .int .u64 m.word, .int .i64 m.link, .int .i64 m.i, .int .i64 m.k, .int .i64 m.sum, .bool m.done,
  .int .i64 m.answer.kind, .int .i64 m.answer.version, .int .i64 m.answer.cluster, .int .i64 m.answer.end_, .int .i64 m.answer.slot, .int .i64 m.answer.listen, .int .i64 m.answer.n, .int .u64 m.answer.counts.c0, .int .u64 m.answer.counts.c1, .int .u64 m.answer.counts.c2, .int .u64 m.answer.counts.c3, .int .u64 m.answer.counts.c4, .int .u64 m.answer.counts.c5,
  .int .u64 m.counts.c0, .int .u64 m.counts.c1, .int .u64 m.counts.c2, .int .u64 m.counts.c3, .int .u64 m.counts.c4, .int .u64 m.counts.c5]
def rMach : RP Mach := fun g cs m => ∃ a b d, cs = m.cs a b d ∧ m.ok ∧ (InR m.op.kind ∧ InR m.op.d0 ∧ InR m.op.d1 ∧ InR m.op.n) ∧ rConfig g [a, b, d] m.op.config
theorem rMach_mono : Mono rMach := fun _ _ _ _ k ⟨a, b, d, e, h, i, c⟩ => ⟨a, b, d, e, h, i, rConfig_mono _ _ _ _ k c⟩
def rAns : RP Ans := fun _ cs a => cs = a.cs ∧ a.ok
end Go.Proofs.YtjaeeadfmnokeaaGreat.Sx


/- Plain data of worlds: slots that are free; tags. -/
namespace Go.Proofs.YtjaeeadfmnokeaaGreat.Sx
/-! ### Words with tags -/
def idxT (w : Int) : Int := w % 4294967296 - 1
def placeB (i : Int) : Bool := decide (-1 ≤ i) && decide (i ≤ 2147483646)
theorem idxT_rng (w : Int) : -1 ≤ idxT w ∧ idxT w ≤ 4294967294 := by
  unfold idxT
  have h1 := Int.emod_nonneg w (show (4294967296 : Int) ≠ 0 by decide)
  have h2 := Int.emod_lt_of_pos w (show (0 : Int) < 4294967296 by decide)
  omega

/-! ### Slots that are free -/
def nxtL (next : List Int) (i : Int) : Int := (next[i.toNat]?).getD 0
def chainL (next : List Int) : Nat → List Int → Int → Option (List Int)
  | 0, _, _ => none
  | f + 1, out, i => if i = -1 then some out else if i < 0 ∨ (next.length : Int) ≤ i ∨ i ∈ out then none else chainL next f (out ++ [i]) (nxtL next i)
def freeL (e : EndC) : Option (List Int) := chainL e.next (e.next.length + 1) [] (idxT e.head)
/-- No more places than there are. -/
theorem nodup_len {l : List Int} {n : Nat} (h : l.Nodup) (k : ∀ x ∈ l, 0 ≤ x ∧ x < n) : l.length ≤ n := by
  have h1 : (l.map Int.toNat).Nodup := by
    refine List.Pairwise.map _ ?_ (List.Pairwise.and_mem.1 h)
    intro a b ⟨ha, hb, hab⟩ he
    have := k a ha; have := k b hb
    exact hab (by omega)
  have h2 : ∀ (n : Nat) (l : List Nat), l.Nodup → (∀ x ∈ l, x < n) → l.length ≤ n := by
    intro n
    induction n with
    | zero => intro l _ hl; cases l with
      | nil => simp
      | cons x r => have := hl x (by simp); omega
    | succ n ih =>
      intro l hn hl
      by_cases hm : n ∈ l
      · have := ih (l.erase n) (hn.erase n) fun x hx => by
          have h1 := hl x (List.mem_of_mem_erase hx)
          have h2 : x ≠ n := fun e => by rw [e] at hx; exact hn.not_mem_erase hx
          omega
        rw [List.length_erase_of_mem hm] at this
        omega
      · have := ih l hn fun x hx => by
          have h1 := hl x hx
          have h2 : x ≠ n := fun e => hm (e ▸ hx)
          omega
        omega
  have := h2 n (l.map Int.toNat) h1 fun x hx => by
    obtain ⟨y, hy, rfl⟩ := List.mem_map.1 hx
    have := k y hy
    omega
  simpa using this
def endB (e : EndC) : Bool := (freeL e).isSome && decide (1 ≤ e.next.length) && decide (e.next.length ≤ 4) && decide (0 ≤ e.active)
/-- An endpoint without a request: all slots are free. -/
def freshE (n : Nat) : EndC := ⟨1, (List.range n).map fun i => if i + 1 = n then -1 else (i : Int) + 1, 0⟩
end Go.Proofs.YtjaeeadfmnokeaaGreat.Sx


/- Plain laws of worlds: what is right. -/
namespace Go.Proofs.YtjaeeadfmnokeaaGreat.Sx
/-! ### Rows of which each one is as it is to be, by its place -/
def allI {α : Type} (f : Nat → α → Bool) (l : List α) : Bool := (firstF (fun i x => if f i x then (none : Option Unit) else some ()) 0 l).isNone
theorem allI_iff {α : Type} {f : Nat → α → Bool} {l : List α} : allI f l = true ↔ ∀ (i : Nat) x, l[i]? = some x → f i x = true := by
  unfold allI
  rw [Option.isNone_iff_eq_none, firstF_none]
  constructor
  · intro h i x hx
    have := h i x hx
    split at this
    · assumption
    · cases this
  · intro h i x hx
    rw [if_pos (h i x hx)]
theorem allI_false {α : Type} {f : Nat → α → Bool} {l : List α} {i : Nat} {x : α} (hx : l[i]? = some x) (h : f i x = false) : allI f l = false := by
  rw [Bool.eq_false_iff]
  intro hh
  rw [allI_iff.1 hh i x hx] at h; cases h
/-- The first k are as they are to be. -/
def AllK {α : Type} (f : Nat → α → Bool) (l : List α) (k : Nat) : Prop := ∀ i, i < k → ∀ x, l[i]? = some x → f i x = true
theorem AllK.zero {α : Type} (f : Nat → α → Bool) (l : List α) : AllK f l 0 := fun i h => by omega
theorem AllK.succ {α : Type} {f : Nat → α → Bool} {l : List α} {k : Nat} (h : AllK f l k) {x : α} (hx : l[k]? = some x) (hf : f k x = true) : AllK f l (k + 1) := fun i hi y hy => by
  rcases Nat.lt_or_ge i k with hlt | hge
  · exact h i hlt y hy
  · obtain rfl : i = k := by omega
    rw [hx] at hy; cases hy; exact hf
theorem AllK.done {α : Type} {f : Nat → α → Bool} {l : List α} {k : Nat} (h : AllK f l k) (hk : l.length ≤ k) : allI f l = true :=
  allI_iff.2 fun i x hx => h i (by have := (List.getElem?_eq_some_iff.1 hx).1; omega) x hx

/-! ### Limbo -/
def retB (l : List Retired) (i : Nat) (r : Retired) : Bool := decide (0 ≤ r.version) && decide (0 ≤ r.at_) && !(l.take i).any fun x => x.version == r.version
def limboB (l : List Retired) : Bool := allI (retB l) l
def goneB (l : List Retired) (n : Int) : Bool := l.any fun r => r.version == n && r.gone
def mFold (l : List Retired) : List (Int × Value) := l.foldl (fun es r => mSet r.version (.bool r.gone) es) []
theorem mGet_mSet (n m : Int) (v : Value) : ∀ es : List (Int × Value), mGet n (mSet m v es) = if n = m then some v else mGet n es
  | [] => by
    simp only [mSet, mGet]
    by_cases h : n = m
    · simp [h]
    · rw [if_neg h, show (n == m) = false by simpa using h]
  | (k, u) :: r => by
    simp only [mSet]
    by_cases hmk : m = k
    · subst hmk
      simp only [beq_self_eq_true, mGet]
      by_cases h : n = m
      · simp [h]
      · rw [if_neg h, show (n == m) = false by simpa using h]
    · rw [show (m == k) = false by simpa using hmk]
      simp only [mGet]
      by_cases hnk : n = k
      · subst hnk
        rw [if_neg (fun e => hmk e.symm)]; simp
      · rw [show (n == k) = false by simpa using hnk]
        exact mGet_mSet n m v r
theorem mFold_snoc (l : List Retired) (r : Retired) : mFold (l ++ [r]) = mSet r.version (.bool r.gone) (mFold l) := by
  unfold mFold; rw [List.foldl_append]; rfl
theorem mFold_take {l : List Retired} {k : Nat} {r : Retired} (h : l[k]? = some r) : mFold (l.take (k + 1)) = mSet r.version (.bool r.gone) (mFold (l.take k)) := by
  obtain ⟨h1, h2⟩ := List.getElem?_eq_some_iff.1 h
  rw [List.take_succ_eq_append_getElem h1, h2, mFold_snoc]
def UqV (l : List Retired) : Prop := ∀ (i j : Nat) x y, i < j → l[i]? = some x → l[j]? = some y → x.version ≠ y.version
theorem limbo_uq {l : List Retired} (h : limboB l = true) : UqV l := fun i j x y hij hx hy he => by
  have := allI_iff.1 h j y hy
  simp only [retB, Bool.and_eq_true, Bool.not_eq_true'] at this
  have h2 := any_take.1 this.2 i x hij hx
  simp [he] at h2
theorem mFold_look {n : Int} : ∀ {k : Nat} {l : List Retired}, UqV l → k ≤ l.length → lookV false (.bool false) (mGet n (mFold (l.take k))) = .bool (goneB (l.take k) n)
  | 0, l, _, _ => by simp [mFold, mGet, lookV, goneB]
  | k + 1, l, hu, hk => by
    obtain ⟨r, hr⟩ := getL_of (show k < l.length by omega)
    have ih := mFold_look (n := n) (k := k) hu (by omega)
    rw [mFold_take hr, mGet_mSet]
    have ht : l.take (k + 1) = l.take k ++ [r] := by
      obtain ⟨h1, h2⟩ := List.getElem?_eq_some_iff.1 hr
      rw [List.take_succ_eq_append_getElem h1, h2]
    rw [ht]
    unfold goneB at ih ⊢
    rw [List.any_append]
    by_cases hn : n = r.version
    · have : (l.take k).any (fun r => r.version == n && r.gone) = false := by
        rw [any_take]
        intro j x hj hx
        have := hu j k x r hj hx hr
        simp [hn, this]
      rw [if_pos hn, this]
      simp [lookV, hn]
    · rw [if_neg hn, ih]
      have : (r.version == n) = false := by simpa using fun e => hn e.symm
      simp [this]

/-! ### Listeners -/
def gateB (x : Listen) : Bool := nameB (bs x.name) && decide (0 ≤ x.active) && (x.drain || !x.closed)
def placeL (l : List Listen) (s : BA) : Int := idxI (idxO (fun x => bs x.name == bs s) l)
def listenB (l : List Listen) (i : Nat) (x : Listen) : Bool := gateB x && decide (placeL l x.name = i)

/-! ### Counts -/
def shardB (c : List (List Int)) : Bool := (c.all fun r => decide (r.length = 6)) && decide (1 ≤ c.length) && decide (c.length ≤ 8)

/-! ### Versions and worlds -/
def endOkB (c : Cluster) (e : EndC) : Bool := endB e && decide ((e.next.length : Int) = c.slots)
def groupB (cl : List Cluster) (i : Nat) (g : Group) : Bool := match cl[i]? with
  | some c => decide (g.ends.length = c.health.length) && g.ends.all (endOkB c)
  | none => false
noncomputable def versionB (v : Version) : Bool := eqB (checkE (confS v.snap)) none && decide (v.groups.length = v.snap.clusters.length) && allI (groupB v.snap.clusters) v.groups
def groundB (w : Wd) : Bool := decide (1 ≤ w.pins.length) && decide (w.pins.length ≤ 8) && decide (w.counts.length = w.pins.length) && shardB w.counts && decide (0 ≤ w.epoch) && decide (w.epoch ≤ 1000000000000) && decide (w.lock = 0 ∨ w.lock = 1) && w.pins.all fun p => decide (0 ≤ p) && decide (p ≤ w.epoch + 1)
def limB (w : Wd) (r : Retired) : Bool := decide (r.version < w.versions.length) && decide (r.version ≠ w.current) && decide (r.at_ ≤ w.epoch)
noncomputable def verB (w : Wd) (i : Nat) (v : Version) : Bool := versionB v && (v.freed == goneB w.limbo i)
noncomputable def wdB (w : Wd) : Bool := groundB w && decide (0 ≤ w.current) && decide (w.current < w.versions.length) && limboB w.limbo && w.limbo.all (limB w) && allI (verB w) w.versions && allI (listenB w.listens) w.listens
end Go.Proofs.YtjaeeadfmnokeaaGreat.Sx


/- Worlds in frozen memory, with a bound for the slots that an endpoint may have. -/
namespace Go.Proofs.YtjaeeadfmnokeaaGreat.Sx
open Go.RowKit
def rEn : RP EndC := fun g cs e => rEnd g cs e ∧ e.next.length ≤ 17592186044416
theorem rEn_mono : Mono rEn := fun _ _ _ _ k ⟨a, b⟩ => ⟨rEnd_mono _ _ _ _ k a, b⟩
def rGr : RP Group := fun g cs x => ∃ n, cs = [.int .u64 x.ticket, n] ∧ InU x.ticket ∧ rSl 3 rEn g n x.ends
theorem rGr_mono : Mono rGr := fun _ _ _ _ k ⟨n, e, a, c⟩ => ⟨n, e, a, c.mono rEn_mono k⟩
def rVe : RP Version := fun g cs x => ∃ a b d n, cs = [a, b, d, n, .bool x.freed] ∧ rSnap g [a, b, d] x.snap ∧ rSl 2 rGr g n x.groups
theorem rVe_mono : Mono rVe := fun _ _ _ _ k ⟨a, b, d, n, e, x, y⟩ => ⟨a, b, d, n, e, rSnap_mono _ _ _ _ k x, y.mono rGr_mono k⟩
def rWo : RP Wd := fun g cs w => ∃ a b c d e, cs = [.int .i64 w.epoch, .int .i64 w.current, .int .i64 w.lock, a, b, c, d, e] ∧ (InR w.epoch ∧ InR w.current ∧ InR w.lock) ∧
  rSl 1 rInt g a w.pins ∧ rSl 5 rVe g b w.versions ∧ rSl 4 rListen g c w.listens ∧ rSl 1 rRow g d w.counts ∧ rSl 3 rRetired g e w.limbo
theorem rWo_mono : Mono rWo := fun _ _ _ _ k ⟨a, b, c, d, e, h, i, j, l, m, n, o⟩ => ⟨a, b, c, d, e, h, i, j.mono rInt_mono k, l.mono rVe_mono k, m.mono rListen_mono k, n.mono rRow_mono k, o.mono rRetired_mono k⟩
theorem bneT {a b : Int} (h : (a != b) = true) : a ≠ b := by simpa using h
theorem bneF {a b : Int} (h : (a != b) = false) : a = b := by simpa using h
theorem beqT {a b : Int} (h : (a == b) = true) : a = b := by simpa using h
theorem beqF {a b : Int} (h : (a == b) = false) : a ≠ b := by simpa using h
theorem nneT {a b : Nat} (h : ((a : Int) != b) = true) : a ≠ b := by have := bneT h; omega
theorem nneF {a b : Nat} (h : ((a : Int) != b) = false) : a = b := by have := bneF h; omega
/-- What stands for a place's having been seen. -/
def seenL (n : Nat) (out : List Int) : List Value := (List.range n).map fun (j : Nat) => Value.bool (out.contains (j : Int))
theorem seenL_len (n : Nat) (out : List Int) : (seenL n out).length = n := by simp [seenL]
theorem seenL_nil (n : Nat) : seenL n [] = List.replicate n (Value.bool false) := by
  unfold seenL
  apply List.ext_getElem <;> simp
theorem seenL_get {n : Nat} {out : List Int} {i : Int} (h : 0 ≤ i ∧ i < n) : (seenL n out)[i.toNat]? = some (.bool (out.contains i)) := by
  unfold seenL
  rw [List.getElem?_map, List.getElem?_range (by omega)]
  simp [Int.toNat_of_nonneg h.1]
theorem seenL_set {n : Nat} {out : List Int} {i : Int} (h : 0 ≤ i ∧ i < n) : (seenL n out).take i.toNat ++ [Value.bool true] ++ (seenL n out).drop (i.toNat + 1) = seenL n (out ++ [i]) := by
  have hl := seenL_len n out
  have : (seenL n out).take i.toNat ++ [Value.bool true] ++ (seenL n out).drop (i.toNat + 1) = (seenL n out).set i.toNat (.bool true) := by
    rw [List.set_eq_take_append_cons_drop, if_pos (by omega)]; simp
  rw [this]
  apply List.ext_getElem?
  intro j
  rw [List.getElem?_set]
  unfold seenL
  rw [List.getElem?_map, List.getElem?_map]
  by_cases hj : j < n
  · rw [List.getElem?_range hj]
    simp only [Option.map_some, List.length_map, List.length_range]
    by_cases hij : i.toNat = j
    · subst hij
      rw [if_pos rfl, if_pos (by omega)]
      simp [Int.toNat_of_nonneg h.1]
    · rw [if_neg hij]
      have : ((j : Int) == i) = false := by simpa using (show (j : Int) ≠ i by omega)
      simp only [List.contains_append, List.contains_cons, List.contains_nil, this, Bool.or_false]
  · rw [List.getElem?_eq_none (by simpa using hj)]
    simp
    omega
end Go.Proofs.YtjaeeadfmnokeaaGreat.Sx


/- Own trees: slices that the call made, whose elements lie in parts of their own; what is written into one of them leaves all others as they are. -/
namespace Go.Proofs.YtjaeeadfmnokeaaGreat.Sx
open Go.RowKit
/-- The frozen blocks of a part. -/
def GW.sub (g : GW) (S : Nat → Prop) : GW := ⟨g.w, fun n => g.g n ∧ S n, fun n h => g.wf n h.1⟩
/-- What was there at first, and a part of what came since. -/
def GW.vw (g : GW) (lo : Nat) (S : Nat → Prop) : GW := g.sub fun n => n < lo ∨ S n
def NoB : Nat → Prop := fun _ => False
theorem GW.vw_le (g : GW) (lo : Nat) (S : Nat → Prop) : g.vw lo S ≤ g := ⟨Nat.le_refl _, fun _ h => ⟨h.1, rfl⟩⟩
theorem GW.vw_mono (g : GW) {lo : Nat} {S T : Nat → Prop} (h : ∀ n, S n → T n) : g.vw lo S ≤ g.vw lo T :=
  ⟨Nat.le_refl _, fun _ k => ⟨⟨k.1, k.2.imp id (h _)⟩, rfl⟩⟩
theorem GW.vw_up {g g' : GW} (h : g ≤ g') (lo : Nat) (S : Nat → Prop) : g.vw lo S ≤ g'.vw lo S :=
  ⟨h.1, fun n k => ⟨⟨(h.2 n k.1).1, k.2⟩, (h.2 n k.1).2⟩⟩
theorem GW.le_vw {g : GW} {g' : GW} {lo : Nat} {S : Nat → Prop} (h : g ≤ g') (hlo : g.w.heap.size ≤ lo) : g ≤ g'.vw lo S :=
  ⟨h.1, fun n k => ⟨⟨(h.2 n k).1, .inl (Nat.lt_of_lt_of_le (g.wf n k) hlo)⟩, (h.2 n k).2⟩⟩
/-- A smaller part, of what is the same. -/
theorem GW.vw_res {g g' : GW} {lo : Nat} {S T : Nat → Prop} (h : g.vw lo S ≤ g'.vw lo S) (k : ∀ n, T n → S n) : g.vw lo T ≤ g'.vw lo T :=
  ⟨h.1, fun n q => ⟨⟨(h.2 n ⟨q.1, q.2.imp id (k n)⟩).1.1, q.2⟩, (h.2 n ⟨q.1, q.2.imp id (k n)⟩).2⟩⟩
theorem Upd.vw {g g' : GW} {b : Nat} {o : Obj} (u : Upd g b o g') {lo : Nat} {S : Nat → Prop} (hlo : lo ≤ b) (hS : ¬ S b) : g.vw lo S ≤ g'.vw lo S :=
  ⟨u.size, fun n k => ⟨⟨(u.dom n).2 k.1, k.2⟩, u.other n k.1 fun e => by subst e; rcases k.2 with h | h; omega; exact hS h⟩⟩
theorem PbSl.vw {g : GW} {lo lo' : Nat} {ety : TypeId} {size b n cap : Nat} {cs : List Value} {S : Nat → Prop} (h : PbSl g lo ety size (.slice (some ⟨b, 0, none⟩) n cap) n cs) (hS : S b) : PbSl (g.vw lo' S) lo ety size (.slice (some ⟨b, 0, none⟩) n cap) n cs := by
  obtain ⟨h1, h2, h3⟩ := h
  refine ⟨h1, ?_, h3⟩
  rcases h2 with h2 | ⟨b', cap', rest, hv, hb, ho, hr⟩
  · exact .inl h2
  · have hb2 := hb.2
    simp only [Value.slice.injEq, Option.some.injEq, Addr.mk.injEq] at hv
    obtain ⟨⟨rfl, _⟩, _, rfl⟩ := hv
    exact .inr ⟨b, cap, rest, rfl, ⟨hb.1, ⟨hb.2, .inr hS⟩⟩, ho, hr⟩
/-- Cells, as a datum that lies in a part. -/
abbrev OwT (α : Type) := GW → Nat → (Nat → Prop) → List Value → α → Prop
/-- What is not touched stays. -/
def Fr0 {α : Type} (R : OwT α) : Prop := ∀ g g' lo S cs x, g.vw lo S ≤ g'.vw lo S → R g lo S cs x → R g' lo S cs x
def Rd0 {α : Type} (R : OwT α) (r : RP α) : Prop := ∀ g lo S cs x, R g lo S cs x → r (g.vw lo S) cs x
/-- Cells without addresses. -/
def oLf {α : Type} (r : RP α) : OwT α := fun g _ _ cs x => r g cs x
/-- A slice that the call made. -/
def oSl {α : Type} (ety : TypeId) (sz : Nat) (R : OwT α) (g : GW) (lo : Nat) (S : Nat → Prop) (v : Value) (l : List α) : Prop :=
  (l = [] ∧ ∃ oa, v = .slice oa 0 0) ∨
  ∃ (b cap : Nat) (ecs : List (List Value)) (T : Nat → Nat → Prop), v = .slice (some ⟨b, 0, none⟩) l.length cap ∧ S b ∧ PbSl g lo ety sz (.slice (some ⟨b, 0, none⟩) l.length cap) l.length ecs.flatten ∧ (ecs.length = l.length ∧ ∀ e ∈ ecs, e.length = sz) ∧
    (∀ i n, T i n → S n ∧ n ≠ b) ∧ (∀ i j n, T i n → T j n → i = j) ∧ ∀ (i : Nat) x ec, l[i]? = some x → ecs[i]? = some ec → R g lo (T i) ec x
theorem oSl_rd {α : Type} {ety : TypeId} {sz : Nat} {R : OwT α} {r : RP α} (hr : Rd0 R r) (hm : Mono r) {g : GW} {lo : Nat} {S : Nat → Prop} {v : Value} {l : List α} (h : oSl ety sz R g lo S v l) : rSl sz r (g.vw lo S) v l := by
  rcases h with ⟨rfl, oa, rfl⟩ | ⟨b, cap, ecs, T, rfl, hS, hp, ⟨hl, hsz⟩, hT, hd, hel⟩
  · exact ⟨oa, 0, rfl, Nat.le_refl _, Nat.zero_le _, fun _ => ⟨rfl, rfl⟩, fun i x hx => by simp at hx⟩
  · exact rSl_of (hp.vw hS).rd l ecs rfl hsz rfl hl fun i x ec hx hec => hm _ _ _ _ (g.vw_mono fun n hn => (hT i n hn).1) (hr _ _ _ _ _ (hel i x ec hx hec))
theorem oSl_fr {α : Type} {ety : TypeId} {sz : Nat} {R : OwT α} (hf : Fr0 R) {g g' : GW} {lo : Nat} {S : Nat → Prop} {v : Value} {l : List α} (k : g.vw lo S ≤ g'.vw lo S) (h : oSl ety sz R g lo S v l) : oSl ety sz R g' lo S v l := by
  rcases h with h | ⟨b, cap, ecs, T, rfl, hS, hp, hl, hT, hd, hel⟩
  · exact .inl h
  · refine .inr ⟨b, cap, ecs, T, rfl, hS, ?_, hl, hT, hd, fun i x ec hx hec => hf _ _ _ _ _ _ (GW.vw_res k fun n hn => (hT i n hn).1) (hel i x ec hx hec)⟩
    have h1 := (hp.vw (lo' := lo) hS).mono k
    obtain ⟨q1, q2, q3⟩ := h1
    refine ⟨q1, ?_, q3⟩
    rcases q2 with q2 | ⟨b', cap', rest, hv, hb, ho⟩
    · exact .inl q2
    · exact .inr ⟨b', cap', rest, hv, ⟨hb.1, hb.2.1⟩, ho⟩
/-- What may be written, and what is so then. -/
def PK (g : GW) (lo : Nat) (S : Nat → Prop) (a : Addr) (vs : List Value) (Q : GW → Prop) : Prop :=
  ∃ (b j : Nat) (bc : List Value) (ty : TypeId), (a = ⟨b, j, none⟩ ∧ lo ≤ b ∧ g.g b ∧ g.w.heap[b]? = some (.cells ⟨bc⟩ ty (0, 0)) ∧ j + vs.length ≤ bc.length) ∧ S b ∧
    ∀ g', Upd g b (.cells ⟨bc.take j ++ vs ++ bc.drop (j + vs.length)⟩ ty (0, 0)) g' → Q g'
theorem PK.imp {g : GW} {lo : Nat} {S S' : Nat → Prop} {a : Addr} {vs : List Value} {Q Q' : GW → Prop} (h : PK g lo S a vs Q) (hS : ∀ n, S n → S' n) (k : ∀ g', (∀ T : Nat → Prop, (∀ n, S n → ¬ T n) → g.vw lo T ≤ g'.vw lo T) → Q g' → Q' g') : PK g lo S' a vs Q' := by
  obtain ⟨b, j, bc, ty, hf, hb, hk⟩ := h
  exact ⟨b, j, bc, ty, hf, hS b hb, fun g' u => k g' (fun T hT => u.vw hf.2.1 (hT b hb)) (hk g' u)⟩
theorem flat_set {sz : Nat} {o : Nat} {vs : List Value} : ∀ {ecs : List (List Value)} {i : Nat} {ec : List Value}, (∀ e ∈ ecs, e.length = sz) → ecs[i]? = some ec → o + vs.length ≤ sz →
    (ecs.set i (ec.take o ++ vs ++ ec.drop (o + vs.length))).flatten = ecs.flatten.take (i * sz + o) ++ vs ++ ecs.flatten.drop (i * sz + o + vs.length)
  | [], i, ec, _, h, _ => by simp at h
  | e :: es, 0, ec, hsz, h, ho => by
    simp at h; subst h
    have he := hsz e (by simp)
    simp only [List.set_cons_zero, List.flatten_cons, Nat.zero_mul, Nat.zero_add]
    rw [List.take_append_of_le_length (by omega), List.drop_append_of_le_length (by omega)]
    simp
  | e :: es, i + 1, ec, hsz, h, ho => by
    have he := hsz e (by simp)
    have ih := flat_set (ecs := es) (i := i) (fun x hx => hsz x (by simp [hx])) (by simpa using h) ho
    simp only [List.set_cons_succ, List.flatten_cons, ih]
    rw [Nat.succ_mul, show i * sz + sz + o = e.length + (i * sz + o) by omega, show e.length + (i * sz + o) + vs.length = e.length + (i * sz + o + vs.length) by omega, List.take_length_add_append, List.drop_length_add_append]
    simp
theorem set_get {α : Type} {l : List α} {i j : Nat} {x' y : α} (h : (l.set i x')[j]? = some y) : (i = j ∧ y = x') ∨ (i ≠ j ∧ l[j]? = some y) := by
  rw [List.getElem?_set] at h
  split at h
  · rename_i hij
    split at h
    · cases h; exact .inl ⟨hij, rfl⟩
    · cases h
  · rename_i hij; exact .inr ⟨hij, h⟩
/-- One element: its cells, and how it is written. -/
theorem oSl_open {α : Type} {ety : TypeId} {sz : Nat} {R : OwT α} (hf : Fr0 R) {g : GW} {lo : Nat} {S : Nat → Prop} {oa : Option Addr} {n cap : Nat} {l : List α} (h : oSl ety sz R g lo S (.slice oa n cap) l) {i : Nat} {x : α} (hx : l[i]? = some x) :
    ∃ (b : Nat) (T : Nat → Prop) (ec : List Value), (oa = some ⟨b, 0, none⟩ ∧ n = l.length) ∧ (ec.length = sz ∧ Rcs g ((⟨b, 0, none⟩ : Addr).add (i * sz)) ec) ∧ R g lo T ec x ∧
      (∀ (o : Nat) (vs : List Value) x', o + vs.length ≤ sz → (∀ u ∈ vs, u.oneCell' = true) → (∀ g', g.vw lo T ≤ g'.vw lo T → R g' lo T (ec.take o ++ vs ++ ec.drop (o + vs.length)) x') →
        PK g lo S (((⟨b, 0, none⟩ : Addr).add (i * sz)).add o) vs fun g' => oSl ety sz R g' lo S (.slice oa n cap) (l.set i x')) ∧
      ∀ (a : Addr) (vs : List Value) x', PK g lo T a vs (fun g' => R g' lo T ec x') → PK g lo S a vs fun g' => oSl ety sz R g' lo S (.slice oa n cap) (l.set i x') := by
  rcases h with ⟨rfl, _⟩ | ⟨b, cap', ecs, T, hv, hS, hp, ⟨hl, hsz⟩, hT, hd, hel⟩
  · simp at hx
  simp only [Value.slice.injEq] at hv
  obtain ⟨rfl, rfl, rfl⟩ := hv
  have hi := (List.getElem?_eq_some_iff.1 hx).1
  obtain ⟨ec, hec⟩ := getL_of (l := ecs) (i := i) (by omega)
  have hecl := hsz ec (List.mem_of_getElem? hec)
  have hflat := flatten_len hsz
  have hle : i * sz + sz ≤ ecs.flatten.length := by rw [hflat, hl, ← Nat.succ_mul]; exact Nat.mul_le_mul_right _ hi
  refine ⟨b, T i, ec, ⟨rfl, rfl⟩, ⟨hecl, fun j u hu => ?_⟩, hel i x ec hx hec, ?_, ?_⟩
  · obtain ⟨_, oa', cap'', he, _, _, _, h5⟩ := hp.rd
    obtain ⟨a', ha', hr⟩ := h5 _ _ (flatten_at hsz hec hu)
    simp only [Value.slice.injEq] at he
    rw [← he.1] at ha'
    cases ha'
    rwa [add_add]
  · intro o vs x' ho hone hnew
    obtain ⟨rest, ⟨p1, p2, p3⟩, pk⟩ := hp.poke
    refine ⟨b, i * sz + o, ecs.flatten ++ rest, ety, ⟨by rw [add_add, addr_add, Nat.zero_add], p1, p2, p3, by simp only [List.length_append]; omega⟩, hS, fun g' u => ?_⟩
    refine .inr ⟨b, cap, ecs.set i (ec.take o ++ vs ++ ec.drop (o + vs.length)), T, by simp, hS, ?_, ⟨by simp [hl], fun e he => ?_⟩, hT, hd, fun j y ec' hy hec' => ?_⟩
    · have := pk (i * sz + o) vs.length vs g' (by omega) rfl hone u
      rw [flat_set hsz hec ho]
      simpa using this
    · rcases List.mem_or_eq_of_mem_set he with he | rfl
      · exact hsz e he
      · simp; omega
    · have hb : ∀ j, ¬ T j b := fun j hj => (hT j b hj).2 rfl
      rcases set_get hy with ⟨rfl, rfl⟩ | ⟨hij, hy⟩
      · rcases set_get hec' with ⟨_, rfl⟩ | ⟨hij, _⟩
        · exact hnew g' (u.vw p1 (hb i))
        · exact absurd rfl hij
      · rcases set_get hec' with ⟨h1, _⟩ | ⟨_, hec'⟩
        · exact absurd h1 hij
        · exact hf _ _ _ _ _ _ (u.vw p1 (hb j)) (hel j y ec' hy hec')
  · rintro a vs x' ⟨b', j, bc, ty, hfa, hTb, hk⟩
    refine ⟨b', j, bc, ty, hfa, (hT i b' hTb).1, fun g' u => ?_⟩
    have hne := (hT i b' hTb).2
    refine .inr ⟨b, cap, ecs, T, by simp, hS, ?_, ⟨by simp [hl], hsz⟩, hT, hd, fun m y ec' hy hec' => ?_⟩
    · have := hp.keep u (Ne.symm hne)
      simpa using this
    · rcases set_get hy with ⟨rfl, rfl⟩ | ⟨hij, hy⟩
      · rw [hec] at hec'; cases hec'
        exact hk g' u
      · exact hf _ _ _ _ _ _ (u.vw hfa.2.1 fun hm => hij (hd _ _ _ hTb hm)) (hel m y ec' hy hec')
theorem oSl_weak {α : Type} {ety : TypeId} {sz : Nat} {R : OwT α} {g : GW} {lo : Nat} {S S' : Nat → Prop} {v : Value} {l : List α} (hS : ∀ n, S n → S' n) (h : oSl ety sz R g lo S v l) : oSl ety sz R g lo S' v l := by
  rcases h with h | ⟨b, cap, ecs, T, rfl, hb, hp, hl, hT, hd, hel⟩
  · exact .inl h
  · exact .inr ⟨b, cap, ecs, T, rfl, hS b hb, hp, hl, fun i n h => ⟨hS n (hT i n h).1, (hT i n h).2⟩, hd, hel⟩
end Go.Proofs.YtjaeeadfmnokeaaGreat.Sx


/- Worlds that the call made: own trees. -/
namespace Go.Proofs.YtjaeeadfmnokeaaGreat.Sx
open Go.RowKit
/-- The types' numbers. -/
structure WTy where
  tInt : TypeId
  tEnd : TypeId
  tGr : TypeId
  tVe : TypeId
  tLi : TypeId
  tU : TypeId
  tRo : TypeId
  tRe : TypeId
theorem oLf_fr {α : Type} {r : RP α} (h : ∀ g g' cs x, r g cs x → r g' cs x) : Fr0 (oLf r) := fun g g' _ _ cs x _ k => h g g' cs x k
theorem oLf_rd {α : Type} {r : RP α} (h : ∀ g g' cs x, r g cs x → r g' cs x) : Rd0 (oLf r) r := fun g _ _ cs x k => h g _ cs x k
theorem rInt_any : ∀ g g' cs x, rInt g cs x → rInt g' cs x := fun _ _ _ _ h => h
theorem rU64_any : ∀ g g' cs x, rU64 g cs x → rU64 g' cs x := fun _ _ _ _ h => h
theorem rListen_any : ∀ g g' cs x, rListen g cs x → rListen g' cs x := fun _ _ _ _ h => h
theorem rRetired_any : ∀ g g' cs x, rRetired g cs x → rRetired g' cs x := fun _ _ _ _ h => h
section
variable (t : WTy) (f : Bool)
/-- The slots of an endpoint: own (or, for f = false, as they were there at first). -/
def oNx (g : GW) (lo : Nat) (S : Nat → Prop) (v : Value) (l : List Int) : Prop := oSl t.tInt 1 (oLf rInt) g lo S v l ∨ (f = false ∧ rSl 1 rInt (g.vw lo NoB) v l)
def oEn : OwT EndC := fun g lo S cs e => ∃ n, cs = [.int .u64 e.head, n, .int .i64 e.active] ∧ (InU e.head ∧ InR e.active ∧ e.next.length ≤ 17592186044416) ∧ oNx t f g lo S n e.next
def oGr : OwT Group := fun g lo S cs x => ∃ n, cs = [.int .u64 x.ticket, n] ∧ InU x.ticket ∧ oSl t.tEnd 3 (oEn t f) g lo S n x.ends
def oVe : OwT Version := fun g lo S cs x => ∃ a b d n, cs = [a, b, d, n, .bool x.freed] ∧ rSnap (g.vw lo NoB) [a, b, d] x.snap ∧ oSl t.tGr 2 (oGr t f) g lo S n x.groups
def oRo : OwT (List Int) := fun g lo S cs x => ∃ n, cs = [n] ∧ oSl t.tU 1 (oLf rU64) g lo S n x
/-- A world, in five parts. -/
def oWo (g : GW) (lo : Nat) (T : Nat → Nat → Prop) (cs : List Value) (w : Wd) : Prop := ∃ a b c d e, cs = [.int .i64 w.epoch, .int .i64 w.current, .int .i64 w.lock, a, b, c, d, e] ∧ (InR w.epoch ∧ InR w.current ∧ InR w.lock) ∧ (∀ i j n, T i n → T j n → i = j) ∧
  oSl t.tInt 1 (oLf rInt) g lo (T 0) a w.pins ∧ oSl t.tVe 5 (oVe t f) g lo (T 1) b w.versions ∧ oSl t.tLi 4 (oLf rListen) g lo (T 2) c w.listens ∧ oSl t.tRo 1 (oRo t) g lo (T 3) d w.counts ∧ oSl t.tRe 3 (oLf rRetired) g lo (T 4) e w.limbo
end
section
variable {t : WTy} {f : Bool}
theorem vwNo {g g' : GW} {lo : Nat} {S : Nat → Prop} (k : g.vw lo S ≤ g'.vw lo S) : g.vw lo NoB ≤ g'.vw lo NoB := GW.vw_res k fun _ h => h.elim
theorem oNx_fr {g g' : GW} {lo : Nat} {S : Nat → Prop} {v : Value} {l : List Int} (k : g.vw lo S ≤ g'.vw lo S) (h : oNx t f g lo S v l) : oNx t f g' lo S v l :=
  h.imp (oSl_fr (oLf_fr rInt_any) k) fun ⟨h1, h2⟩ => ⟨h1, h2.mono rInt_mono (vwNo k)⟩
theorem oEn_fr : Fr0 (oEn t f) := fun _ _ _ _ _ _ k ⟨n, h1, h2, h3⟩ => ⟨n, h1, h2, oNx_fr k h3⟩
theorem oGr_fr : Fr0 (oGr t f) := fun _ _ _ _ _ _ k ⟨n, h1, h2, h3⟩ => ⟨n, h1, h2, oSl_fr oEn_fr k h3⟩
theorem oVe_fr : Fr0 (oVe t f) := fun _ _ _ _ _ _ k ⟨a, b, d, n, h1, h2, h3⟩ => ⟨a, b, d, n, h1, rSnap_mono _ _ _ _ (vwNo k) h2, oSl_fr oGr_fr k h3⟩
theorem oRo_fr : Fr0 (oRo t) := fun _ _ _ _ _ _ k ⟨n, h1, h3⟩ => ⟨n, h1, oSl_fr (oLf_fr rU64_any) k h3⟩
theorem oNx_rd {g : GW} {lo : Nat} {S : Nat → Prop} {v : Value} {l : List Int} (h : oNx t f g lo S v l) : rSl 1 rInt (g.vw lo S) v l := by
  rcases h with h | ⟨_, h⟩
  · exact oSl_rd (oLf_rd rInt_any) rInt_mono h
  · exact h.mono rInt_mono (g.vw_mono fun _ h => h.elim)
theorem oEn_rd : Rd0 (oEn t f) rEn := fun g lo S cs e ⟨n, h1, h2, h3⟩ => ⟨⟨n, h1, h2.1, h2.2.1, oNx_rd h3⟩, h2.2.2⟩
theorem oGr_rd : Rd0 (oGr t f) rGr := fun g lo S cs x ⟨n, h1, h2, h3⟩ => ⟨n, h1, h2, oSl_rd oEn_rd rEn_mono h3⟩
theorem oVe_rd : Rd0 (oVe t f) rVe := fun g lo S cs x ⟨a, b, d, n, h1, h2, h3⟩ => ⟨a, b, d, n, h1, rSnap_mono _ _ _ _ (g.vw_mono fun _ h => h.elim) h2, oSl_rd oGr_rd rGr_mono h3⟩
theorem oRo_rd : Rd0 (oRo t) rRow := fun g lo S cs x ⟨n, h1, h3⟩ => ⟨n, h1, oSl_rd (oLf_rd rU64_any) rU64_mono h3⟩
theorem oWo_rd {g : GW} {lo : Nat} {T : Nat → Nat → Prop} {cs : List Value} {w : Wd} (h : oWo t f g lo T cs w) : rWo g cs w := by
  obtain ⟨a, b, c, d, e, h1, h2, _, k0, k1, k2, k3, k4⟩ := h
  exact ⟨a, b, c, d, e, h1, h2, (oSl_rd (oLf_rd rInt_any) rInt_mono k0).mono rInt_mono (g.vw_le _ _), (oSl_rd oVe_rd rVe_mono k1).mono rVe_mono (g.vw_le _ _), (oSl_rd (oLf_rd rListen_any) rListen_mono k2).mono rListen_mono (g.vw_le _ _), (oSl_rd oRo_rd rRow_mono k3).mono rRow_mono (g.vw_le _ _), (oSl_rd (oLf_rd rRetired_any) rRetired_mono k4).mono rRetired_mono (g.vw_le _ _)⟩
/-- All other parts stay. -/
theorem other_fr {g g' : GW} {lo : Nat} {T : Nat → Nat → Prop} {i j : Nat} (hd : ∀ i j n, T i n → T j n → i = j) (hij : i ≠ j) (k : ∀ S : Nat → Prop, (∀ n, T i n → ¬ S n) → g.vw lo S ≤ g'.vw lo S) : g.vw lo (T j) ≤ g'.vw lo (T j) :=
  k _ fun n h1 h2 => hij (hd _ _ _ h1 h2)
end
end Go.Proofs.YtjaeeadfmnokeaaGreat.Sx


/- Own trees: how they are made, element for element. -/
namespace Go.Proofs.YtjaeeadfmnokeaaGreat.Sx
open Go.RowKit
/-- What came since. -/
def NEW (g g' : GW) : Nat → Prop := fun n => g'.g n ∧ ¬ g.g n
theorem NEW.up {g g' g2 : GW} (h : g' ≤ g2) {n : Nat} (k : NEW g g' n) : NEW g g2 n := ⟨(h.2 n k.1).1, k.2⟩
theorem NEW.dn {g0 g g' : GW} (h : g0 ≤ g) {n : Nat} (k : NEW g g' n) : NEW g0 g' n := ⟨k.1, fun q => k.2 (h.2 n q).1⟩
/-- Elements that the call made. -/
def oEls {α : Type} (sz : Nat) (R : OwT α) (g0 g : GW) (lo : Nat) (ecs : List (List Value)) (l : List α) : Prop :=
  ∃ T : Nat → Nat → Prop, (ecs.length = l.length ∧ ∀ e ∈ ecs, e.length = sz) ∧ (∀ i n, T i n → NEW g0 g n) ∧ (∀ i j n, T i n → T j n → i = j) ∧ ∀ (i : Nat) x ec, l[i]? = some x → ecs[i]? = some ec → R g lo (T i) ec x
theorem oEls_nil {α : Type} {sz : Nat} {R : OwT α} (g0 g : GW) (lo : Nat) : oEls sz R g0 g lo [] [] :=
  ⟨fun _ _ => False, ⟨rfl, fun _ h => by cases h⟩, fun _ _ h => h.elim, fun _ _ _ h => h.elim, fun i x ec h => by simp at h⟩
theorem oEls_snoc {α : Type} {sz : Nat} {R : OwT α} (hf : Fr0 R) {g0 g g' : GW} {lo : Nat} {ecs : List (List Value)} {l : List α} (h0 : g0 ≤ g) (k : g ≤ g') (h : oEls sz R g0 g lo ecs l) {ec : List Value} {x : α} (hec : ec.length = sz) (hR : R g' lo (NEW g g') ec x) : oEls sz R g0 g' lo (ecs ++ [ec]) (l ++ [x]) := by
  obtain ⟨T, ⟨hl, hsz⟩, hT, hd, hel⟩ := h
  refine ⟨fun i n => if i = l.length then NEW g g' n else i < l.length ∧ T i n, ⟨by simp [hl], fun e he => ?_⟩, fun i n q => ?_, fun i j n p q => ?_, fun i y e hy he => ?_⟩
  · rcases List.mem_append.1 he with he | he
    · exact hsz e he
    · simp at he; subst he; exact hec
  · simp only at q
    split at q
    · exact q.dn h0
    · exact (hT i n q.2).up k
  · simp only at p q
    split at p <;> split at q
    · rename_i h1 h2; omega
    · exact absurd (hT j n q.2).1 p.2
    · exact absurd (hT i n p.2).1 q.2
    · exact hd _ _ _ p.2 q.2
  · rcases Nat.lt_or_ge i l.length with hi | hi
    · rw [List.getElem?_append_left hi] at hy
      rw [List.getElem?_append_left (by omega)] at he
      have := hf _ g' _ _ _ _ (GW.vw_up k _ _) (hel i y e hy he)
      show R g' lo (fun n => if i = l.length then NEW g g' n else i < l.length ∧ T i n) e y
      rw [show (fun n => if i = l.length then NEW g g' n else i < l.length ∧ T i n) = T i from by funext n; rw [if_neg (by omega)]; simp [hi]]
      exact this
    · have hi2 : i = l.length := by have := (List.getElem?_eq_some_iff.1 hy).1; simp at this; omega
      subst hi2
      simp at hy
      rw [← hl] at he
      simp at he
      subst hy; subst he
      show R g' lo (fun n => if l.length = l.length then NEW g g' n else l.length < l.length ∧ T l.length n) ec x
      rw [show (fun n => if l.length = l.length then NEW g g' n else l.length < l.length ∧ T l.length n) = NEW g g' from by funext n; rw [if_pos rfl]]
      exact hR
theorem oEls_sl {α : Type} {ety : TypeId} {sz : Nat} {R : OwT α} (hf : Fr0 R) {g0 g g' : GW} {lo : Nat} {ecs : List (List Value)} {l : List α} {oa : Option Addr} {n cap : Nat} (h : oEls sz R g0 g lo ecs l) (h0 : g0 ≤ g) (k : g ≤ g') (hp : PbSl g' lo ety sz (.slice oa n cap) n ecs.flatten) (hn : n = l.length) (hnew : ∀ a, oa = some a → ¬ g.g a.block) : oSl ety sz R g' lo (NEW g0 g') (.slice oa n cap) l := by
  subst hn
  obtain ⟨T, hl, hT, hd, hel⟩ := h
  have hp0 := hp
  obtain ⟨h1, h2, h3⟩ := hp
  rcases h2 with ⟨hv, hz⟩ | ⟨b, cap', rest, hv, hb, _⟩
  · exact .inl ⟨List.length_eq_zero_iff.1 hz, none, hv⟩
  · simp only [Value.slice.injEq, true_and] at hv
    obtain ⟨rfl, rfl⟩ := hv
    have hbn := hnew _ rfl
    exact .inr ⟨b, cap, ecs, T, rfl, ⟨hb.2, fun q => hbn (h0.2 b q).1⟩, hp0, hl, fun i n q => ⟨(hT i n q).up k, fun e => hbn (e ▸ (hT i n q).1)⟩, hd, fun i x ec hx hec => hf _ _ _ _ _ _ (GW.vw_up k _ _) (hel i x ec hx hec)⟩
/-- Elements without addresses. -/
theorem oEls_leaf {α : Type} {sz : Nat} {r : RP α} (g0 g : GW) (lo : Nat) (f : α → List Value) (l : List α) (hf : ∀ x ∈ l, (f x).length = sz ∧ r g (f x) x) : oEls sz (oLf r) g0 g lo (l.map f) l := by
  refine ⟨fun _ _ => False, ⟨by simp, fun e he => ?_⟩, fun _ _ h => h.elim, fun _ _ _ h => h.elim, fun i x ec hx hec => ?_⟩
  · obtain ⟨x, hx, rfl⟩ := List.mem_map.1 he; exact (hf x hx).1
  · rw [List.getElem?_map, hx] at hec
    simp at hec; subst hec
    exact (hf x (List.mem_of_getElem? hx)).2
theorem PbSl.lo_le {g : GW} {lo lo' : Nat} {ety : TypeId} {size : Nat} {v : Value} {n : Nat} {cs : List Value} (h : PbSl g lo ety size v n cs) (k : lo' ≤ lo) : PbSl g lo' ety size v n cs := by
  obtain ⟨h1, h2, h3⟩ := h
  refine ⟨h1, h2.imp id fun ⟨b, cap, rest, hv, hb, ho⟩ => ⟨b, cap, rest, hv, ⟨Nat.le_trans k hb.1, hb.2⟩, ho⟩, h3⟩
theorem oSl_up {α : Type} {ety : TypeId} {sz : Nat} {R : OwT α} (hf : Fr0 R) {g g' g2 : GW} {lo : Nat} {v : Value} {l : List α} (k : g' ≤ g2) (h : oSl ety sz R g' lo (NEW g g') v l) : oSl ety sz R g2 lo (NEW g g2) v l :=
  oSl_weak (fun _ q => q.up k) (oSl_fr hf (GW.vw_up k _ _) h)
theorem oSl_val {α : Type} {ety : TypeId} {sz : Nat} {R : OwT α} {g : GW} {lo : Nat} {S : Nat → Prop} {v : Value} {l : List α} (h : oSl ety sz R g lo S v l) : ∃ oa cap, v = .slice oa l.length cap := by
  rcases h with ⟨rfl, oa, rfl⟩ | ⟨b, cap, _, _, rfl, _⟩
  · exact ⟨oa, 0, rfl⟩
  · exact ⟨_, cap, rfl⟩
/-- A row whose first k elements are made. -/
def rowK (ecs : List (List Value)) (z : List Value) (m : Nat) : List Value := ecs.flatten ++ (List.replicate m z).flatten
theorem rowK_len {sz : Nat} {ecs : List (List Value)} {z : List Value} {m : Nat} (h : ∀ e ∈ ecs, e.length = sz) (hz : z.length = sz) : (rowK ecs z m).length = (ecs.length + m) * sz := by
  unfold rowK
  rw [List.length_append, flatten_len h, flatten_len (sz := sz) (fun e he => by rw [List.eq_of_mem_replicate he]; exact hz), List.length_replicate, Nat.add_mul]
theorem rowK_set {sz : Nat} {ecs : List (List Value)} {z : List Value} {m : Nat} (h : ∀ e ∈ ecs, e.length = sz) (hz : z.length = sz) (hm : 0 < m) {ec : List Value} (hec : ec.length = sz) {k : Nat} (hk : k = ecs.length) :
    (rowK ecs z m).take (k * sz) ++ ec ++ (rowK ecs z m).drop (k * sz + sz) = rowK (ecs ++ [ec]) z (m - 1) := by
  subst hk
  obtain ⟨m, rfl⟩ : ∃ m', m = m' + 1 := ⟨m - 1, by omega⟩
  have hf := flatten_len h
  unfold rowK
  rw [List.replicate_succ, List.flatten_cons, ← List.append_assoc, List.append_assoc ecs.flatten]
  rw [List.take_left' hf, ← List.append_assoc ecs.flatten z, List.drop_left' (by simp [hf, hz])]
  simp
theorem rowK_done {ecs : List (List Value)} {z : List Value} : rowK ecs z 0 = ecs.flatten := by simp [rowK]
/-- A row that is given away, whose elements came earlier. -/
theorem oEls_slS {α : Type} {ety : TypeId} {sz : Nat} {R : OwT α} (hf : Fr0 R) {g0 g g' : GW} {lo : Nat} {ecs : List (List Value)} {l : List α} {oa : Option Addr} {n cap : Nat} (h : oEls sz R g0 g lo ecs l) (k : g ≤ g') (hp : PbSl g' lo ety sz (.slice oa n cap) n ecs.flatten) (hn : n = l.length) (hnew : ∀ a, oa = some a → ¬ g.g a.block) {S : Nat → Prop} (hS1 : ∀ n, NEW g0 g n → S n) (hS2 : ∀ a, oa = some a → S a.block) : oSl ety sz R g' lo S (.slice oa n cap) l := by
  subst hn
  obtain ⟨T, hl, hT, hd, hel⟩ := h
  have hp0 := hp
  obtain ⟨h1, h2, h3⟩ := hp
  rcases h2 with ⟨hv, hz⟩ | ⟨b, cap', rest, hv, hb, _⟩
  · exact .inl ⟨List.length_eq_zero_iff.1 hz, none, hv⟩
  · simp only [Value.slice.injEq, true_and] at hv
    obtain ⟨rfl, rfl⟩ := hv
    have hbn := hnew _ rfl
    exact .inr ⟨b, cap, ecs, T, rfl, hS2 _ rfl, hp0, hl, fun i n q => ⟨hS1 n (hT i n q), fun e => hbn (e ▸ (hT i n q).1)⟩, hd, fun i x ec hx hec => hf _ _ _ _ _ _ (GW.vw_up k _ _) (hel i x ec hx hec)⟩
theorem PbSl.new {g g' : GW} {lo : Nat} {ety : TypeId} {size : Nat} {oa : Option Addr} {n cap : Nat} {cs : List Value} (hp : PbSl g' lo ety size (.slice oa n cap) n cs) (hnew : ∀ a, oa = some a → ¬ g.g a.block) : ∀ a, oa = some a → NEW g g' a.block := fun a ha => by
  subst ha
  obtain ⟨h1, h2, h3⟩ := hp
  rcases h2 with ⟨hv, _⟩ | ⟨b, cap', rest, hv, hb, _⟩
  · cases hv
  · simp only [Value.slice.injEq, Option.some.injEq, true_and] at hv
    obtain ⟨rfl, _⟩ := hv
    exact ⟨hb.2, hnew _ rfl⟩
/-- Parts of a chain, by what they belong to. -/
def Ch (G : Nat → GW) (lab : Nat → Nat) (m : Nat) : Nat → Nat → Prop := fun i n => ∃ a, a < m ∧ lab a = i ∧ NEW (G a) (G (a + 1)) n
theorem Ch_disj {G : Nat → GW} {lab : Nat → Nat} {m : Nat} (h : ∀ a, a < m → G a ≤ G (a + 1)) (i j n : Nat) (p : Ch G lab m i n) (q : Ch G lab m j n) : i = j := by
  obtain ⟨a, ha, rfl, p1⟩ := p
  obtain ⟨b, hb, rfl, q1⟩ := q
  have le : ∀ d a, a + d ≤ m → G a ≤ G (a + d) := by
    intro d
    induction d with
    | zero => intro a _; exact GW.refl _
    | succ d ih => intro a hd; exact GW.trans (ih a (by omega)) (h (a + d) (by omega))
  have key : ∀ a b, a < b → b < m → NEW (G a) (G (a + 1)) n → NEW (G b) (G (b + 1)) n → False := fun a b hab hb p q => by
    have := le (b - (a + 1)) (a + 1) (by omega)
    rw [show a + 1 + (b - (a + 1)) = b by omega] at this
    exact q.2 (this.2 n p.1).1
  rcases Nat.lt_trichotomy a b with h1 | h1 | h1
  · exact (key a b h1 hb p1 q1).elim
  · rw [h1]
  · exact (key b a h1 ha q1 p1).elim
/-- Elements that lie in frozen memory. -/
def rEls {α : Type} (sz : Nat) (R : RP α) (g : GW) (ecs : List (List Value)) (l : List α) : Prop := (ecs.length = l.length ∧ ∀ e ∈ ecs, e.length = sz) ∧ ∀ (i : Nat) x ec, l[i]? = some x → ecs[i]? = some ec → R g ec x
theorem rEls_nil {α : Type} {sz : Nat} {R : RP α} (g : GW) : rEls sz R g [] [] := ⟨⟨rfl, fun _ h => by cases h⟩, fun i x ec h => by simp at h⟩
theorem rEls_up {α : Type} {sz : Nat} {R : RP α} (hm : Mono R) {g g' : GW} {ecs : List (List Value)} {l : List α} (k : g ≤ g') (h : rEls sz R g ecs l) : rEls sz R g' ecs l := ⟨h.1, fun i x ec hx hec => hm _ _ _ _ k (h.2 i x ec hx hec)⟩
theorem rEls_snoc {α : Type} {sz : Nat} {R : RP α} {g : GW} {ecs : List (List Value)} {l : List α} (h : rEls sz R g ecs l) {ec : List Value} {x : α} (hec : ec.length = sz) (hR : R g ec x) : rEls sz R g (ecs ++ [ec]) (l ++ [x]) := by
  obtain ⟨⟨hl, hsz⟩, hel⟩ := h
  refine ⟨⟨by simp [hl], fun e he => ?_⟩, fun i y e hy he => ?_⟩
  · rcases List.mem_append.1 he with he | he
    · exact hsz e he
    · simp at he; subst he; exact hec
  · rcases Nat.lt_or_ge i l.length with hi | hi
    · rw [List.getElem?_append_left hi] at hy
      rw [List.getElem?_append_left (by omega)] at he
      exact hel i y e hy he
    · have hi2 : i = l.length := by have := (List.getElem?_eq_some_iff.1 hy).1; simp at this; omega
      subst hi2
      simp at hy
      rw [← hl] at he
      simp at he
      subst hy; subst he
      exact hR
theorem rEls_sl {α : Type} {ety : TypeId} {sz lo : Nat} {R : RP α} {g : GW} {v : Value} {n : Nat} {ecs : List (List Value)} {l : List α} (h : rEls sz R g ecs l) (hp : PbSl g lo ety sz v n ecs.flatten) (hn : l.length = n) : rSl sz R g v l :=
  rSl_of hp.rd l ecs rfl h.1.2 hn h.1.1 fun i x ec hx hec => h.2 i x ec hx hec
/-- How much there may be. -/
def BgG (K : Nat) (x : Group) : Prop := x.ends.length ≤ K
def BgV (K : Nat) (x : Version) : Prop := x.groups.length ≤ K ∧ ∀ y ∈ x.groups, BgG K y
def BgW (K : Nat) (w : Wd) : Prop := (w.pins.length ≤ K ∧ w.versions.length ≤ K ∧ w.listens.length ≤ K ∧ w.counts.length ≤ K ∧ w.limbo.length ≤ K) ∧ (∀ r ∈ w.counts, r.length ≤ K) ∧ ∀ v ∈ w.versions, BgV K v
end Go.Proofs.YtjaeeadfmnokeaaGreat.Sx


/- Plain laws of machines: which ones suit a world. -/
namespace Go.Proofs.YtjaeeadfmnokeaaGreat.Sx
/-- A snapshot's cells. -/
def cellsV (s : Snap) : Version := ⟨s, s.clusters.map fun c => ⟨0, c.health.map fun _ => freshE c.slots.toNat⟩, false⟩
def zCounts (n : Nat) : List (List Int) := (List.range n).map fun _ => [0, 0, 0, 0, 0, 0]
def lisL (l : List BA) : List Listen := l.map fun n => ⟨n, false, 0, false⟩
/-- A new world. -/
def newW (s : Snap) (l : List BA) (t : Nat) : Wd := ⟨0, 0, 0, List.replicate t 0, [cellsV s], lisL l, zCounts t, []⟩
def namF (l : List BA) (i : Nat) (n : BA) : Bool := nameB (bs n) && decide (placeL (lisL (l.take i)) n < 0)
def NewOk (s : Snap) (l : List BA) (t : Int) : Prop := checkE (confS s) = none ∧ (1 ≤ t ∧ t ≤ 8) ∧ allI (namF l) l = true
theorem lisL_take {l : List BA} {k : Nat} {n : BA} (h : l[k]? = some n) : lisL (l.take (k + 1)) = lisL (l.take k) ++ [⟨n, false, 0, false⟩] := by
  obtain ⟨h1, h2⟩ := List.getElem?_eq_some_iff.1 h
  unfold lisL
  rw [List.take_succ_eq_append_getElem h1, h2, List.map_append]; rfl
def inB (i n : Int) : Bool := decide (0 ≤ i) && decide (i < n)
theorem inB_iff {i n : Int} : inB i n = true ↔ 0 ≤ i ∧ i < n := by simp [inB]
structure SuitP (w : Wd) (m : Mach) (v : Version) (gr : Group) (en : EndC) : Prop where
  right : wdB w = true
  thread : 0 ≤ m.thread ∧ m.thread < w.pins.length
  done : m.done = false
  ver : 0 ≤ m.version ∧ w.versions[m.version.toNat]? = some v
  clu : 0 ≤ m.cluster ∧ v.groups[m.cluster.toNat]? = some gr
  end_ : 0 ≤ m.end_ ∧ gr.ends[m.end_.toNat]? = some en
  other : 0 ≤ m.other ∧ m.other < gr.ends.length
  slot : 0 ≤ m.slot ∧ m.slot < en.next.length
  listen : -1 ≤ m.listen ∧ m.listen < w.listens.length
  i : 0 ≤ m.i
  k : 0 ≤ m.k
def Suit (w : Wd) (m : Mach) : Prop := ∃ v gr en, SuitP w m v gr en
noncomputable def suitB (w : Wd) (m : Mach) : Bool := @decide (Suit w m) (Classical.propDecidable _)
theorem suitB_iff {w : Wd} {m : Mach} : suitB w m = true ↔ Suit w m := @decide_eq_true_iff _ (Classical.propDecidable _)
theorem suitB_f {w : Wd} {m : Mach} (h : ¬ Suit w m) : suitB w m = false := by rw [Bool.eq_false_iff]; exact fun k => h (suitB_iff.1 k)
noncomputable def pinW (w : Wd) (m : Mach) : Wd := if suitB w m = true ∧ m.pc = 1 then { w with pins := w.pins.set m.thread.toNat (IntKind.i64.wrap (m.epoch + 1)) } else w
noncomputable def pinM (w : Wd) (m : Mach) : Mach := if suitB w m = true then (if m.pc = 0 then { m with epoch := w.epoch, pc := 1 } else if m.pc = 1 then { m with pc := 2 } else if m.pc = 2 then { m with pc := if w.epoch = m.epoch then 3 else 1, epoch := w.epoch } else m) else m
noncomputable def pinE (w : Wd) (m : Mach) : Ev := if suitB w m = true then (if m.pc = 1 then ⟨m.thread, 0, 2, 2, -1, false, IntKind.i64.wrap (m.epoch + 1), false, false, false, ans0⟩ else if m.pc = 0 ∨ m.pc = 2 then ⟨m.thread, 0, 1, 1, -1, false, w.epoch, false, false, false, ans0⟩ else ev0) else ev0
end Go.Proofs.YtjaeeadfmnokeaaGreat.Sx


/- Plain laws of worlds: a new one is right; what keeps a world right. -/
namespace Go.Proofs.YtjaeeadfmnokeaaGreat.Sx
theorem fresh_endB {n : Nat} (h : 1 ≤ n ∧ n ≤ 4) : endB (freshE n) = true := by
  obtain ⟨h1, h2⟩ := h
  match n, h1, h2 with
  | 1, _, _ => decide
  | 2, _, _ => decide
  | 3, _, _ => decide
  | 4, _, _ => decide
theorem fresh_len (n : Nat) : (freshE n).next.length = n := by simp [freshE]
theorem cells_right {s : Snap} (h : checkE (confS s) = none) : versionB (cellsV s) = true := by
  have hg := good_iff.1 h
  unfold versionB
  simp only [Bool.and_eq_true, decide_eq_true_eq]
  refine ⟨⟨eqB_t h, by simp [cellsV]⟩, ?_⟩
  rw [allI_iff]
  intro i x hx
  simp only [cellsV, List.getElem?_map, Option.map_eq_some_iff] at hx
  obtain ⟨c, hc, rfl⟩ := hx
  have hm : c ∈ (confS s).clusters := List.mem_of_getElem? hc
  obtain ⟨_, _, hsl, _⟩ := hg.cl c hm
  unfold groupB
  rw [show (cellsV s).snap.clusters[i]? = some c from hc]
  simp only [Bool.and_eq_true, decide_eq_true_eq, List.length_map, List.all_eq_true, List.mem_map, true_and]
  rintro e ⟨_, _, rfl⟩
  unfold endOkB
  rw [fresh_endB (by omega), fresh_len]
  simp; omega
theorem newW_ground {s : Snap} {l : List BA} {t : Nat} (h : 1 ≤ t ∧ t ≤ 8) : groundB (newW s l t) = true := by
  unfold groundB shardB
  simp only [newW, zCounts, List.length_replicate, List.length_map, List.length_range, Bool.and_eq_true, decide_eq_true_eq, List.all_eq_true, List.mem_map, List.mem_replicate]
  refine ⟨⟨⟨⟨⟨⟨⟨h.1, h.2⟩, trivial⟩, ⟨⟨?_, h.1⟩, h.2⟩⟩, rfl⟩, rfl⟩, .inl trivial⟩, ?_⟩
  · rintro r ⟨_, _, rfl⟩; rfl
  · rintro p ⟨_, rfl⟩; exact ⟨by first | rfl | exact Int.le_refl 0, by first | rfl | exact (by decide : (0 : Int) ≤ 0 + 1)⟩
theorem newW_listen {l : List BA} (h : allI (namF l) l = true) : allI (listenB (lisL l)) (lisL l) = true := by
  rw [allI_iff] at h ⊢
  intro i x hx
  simp only [lisL, List.getElem?_map, Option.map_eq_some_iff] at hx
  obtain ⟨n, hn, rfl⟩ := hx
  have h1 := h i n hn
  simp only [namF, Bool.and_eq_true, decide_eq_true_eq] at h1
  obtain ⟨h1, h2⟩ := h1
  unfold listenB gateB
  simp only [Bool.and_eq_true, decide_eq_true_eq, h1]
  refine ⟨⟨⟨trivial, by omega⟩, by simp⟩, ?_⟩
  have hnone : idxO (fun (x : Listen) => bs x.name == bs n) (lisL (l.take i)) = none := by
    unfold placeL at h2
    cases hh : idxO (fun (x : Listen) => bs x.name == bs n) (lisL (l.take i)) with
    | none => rfl
    | some j => rw [hh] at h2; simp only [idxI] at h2; omega
  have hany := idxO_none.1 hnone
  unfold placeL
  refine idxO_hit (x := ⟨n, false, 0, false⟩) (i := i) ?_ (by simp [lisL, hn]) (by simp)
  intro j hj y hy
  unfold idxF
  have : (bs y.name == bs n) = false := by
    rw [List.any_eq_false] at hany
    have hm : y ∈ lisL (l.take i) := by
      simp only [lisL, List.getElem?_map, Option.map_eq_some_iff] at hy
      obtain ⟨m, hm, rfl⟩ := hy
      refine List.mem_map.2 ⟨m, ?_, rfl⟩
      refine List.mem_of_getElem? (i := j) ?_
      rw [List.getElem?_take, if_pos hj]; exact hm
    simpa using hany y hm
  show (if (bs y.name == bs n) = true then some j else none) = none
  rw [this]; rfl
theorem newW_right {s : Snap} {l : List BA} {t : Int} (h : NewOk s l t) : wdB (newW s l t.toNat) = true := by
  obtain ⟨h1, h2, h3⟩ := h
  unfold wdB
  rw [newW_ground (s := s) (l := l) (t := t.toNat) (by omega)]
  have hv : allI (verB (newW s l t.toNat)) (newW s l t.toNat).versions = true := by
    rw [allI_iff]
    intro i x hx
    have : i = 0 ∧ x = cellsV s := by
      simp only [newW] at hx
      match i, hx with
      | 0, hx => simp at hx; exact ⟨rfl, hx.symm⟩
      | i + 1, hx => simp at hx
    obtain ⟨rfl, rfl⟩ := this
    unfold verB
    rw [cells_right h1]; rfl
  have hl : allI (listenB (newW s l t.toNat).listens) (newW s l t.toNat).listens = true := newW_listen h3
  rw [hv, hl]
  simp only [newW, Bool.true_and, Bool.and_true, Bool.and_eq_true, decide_eq_true_eq]
  refine ⟨⟨⟨rfl, by simp⟩, rfl⟩, rfl⟩
/-- A pin, and the epoch: a world stays right. -/
theorem wdB_ground {w w' : Wd} (h : wdB w = true) (hg : groundB w' = true) (e1 : w'.current = w.current) (e2 : w'.versions = w.versions) (e3 : w'.limbo = w.limbo) (e4 : w'.listens = w.listens) (e5 : w.epoch ≤ w'.epoch) : wdB w' = true := by
  unfold wdB at h ⊢
  simp only [Bool.and_eq_true, decide_eq_true_eq] at h ⊢
  obtain ⟨⟨⟨⟨⟨⟨h1, h2⟩, h3⟩, h4⟩, h5⟩, h6⟩, h7⟩ := h
  rw [e1, e2, e3, e4]
  refine ⟨⟨⟨⟨⟨⟨hg, h2⟩, h3⟩, h4⟩, ?_⟩, ?_⟩, h7⟩
  · rw [List.all_eq_true] at h5 ⊢
    intro r hr
    have := h5 r hr
    unfold limB at this ⊢
    simp only [Bool.and_eq_true, decide_eq_true_eq] at this ⊢
    rw [e1, e2]
    exact ⟨this.1, by omega⟩
  · rw [allI_iff] at h6 ⊢
    intro i x hx
    have := h6 i x hx
    unfold verB at this ⊢
    rw [e3]; exact this
theorem wdB_groundB {w : Wd} (h : wdB w = true) : groundB w = true := by
  unfold wdB at h
  simp only [Bool.and_eq_true] at h
  exact h.1.1.1.1.1.1
theorem wdB_pin {w : Wd} (h : wdB w = true) {i : Nat} {x : Int} (hx : 0 ≤ x ∧ x ≤ w.epoch + 1) : wdB { w with pins := w.pins.set i x } = true := by
  refine wdB_ground h ?_ rfl rfl rfl rfl (Int.le_refl _)
  have hg := wdB_groundB h
  unfold groundB at hg ⊢
  simp only [Bool.and_eq_true, List.length_set, List.all_eq_true, decide_eq_true_eq] at hg ⊢
  refine ⟨hg.1, fun p hp => ?_⟩
  rcases List.mem_or_eq_of_mem_set hp with hp | rfl
  · exact hg.2 p hp
  · exact hx
theorem wdB_epoch {w : Wd} (h : wdB w = true) (he : w.epoch < 1000000000000) : wdB { w with epoch := w.epoch + 1 } = true := by
  refine wdB_ground h ?_ rfl rfl rfl rfl (by show w.epoch ≤ w.epoch + 1; omega)
  have hg := wdB_groundB h
  unfold groundB at hg ⊢
  simp only [Bool.and_eq_true, List.all_eq_true, decide_eq_true_eq] at hg ⊢
  obtain ⟨⟨⟨⟨h1, h2⟩, h3⟩, h4⟩, h5⟩ := hg
  exact ⟨⟨⟨⟨h1, by omega⟩, by omega⟩, h4⟩, fun p hp => by have := h5 p hp; omega⟩
end Go.Proofs.YtjaeeadfmnokeaaGreat.Sx


/- The laws' own examples of worlds. -/
namespace Go.Proofs.YtjaeeadfmnokeaaGreat.Sx
open Go.RowKit
abbrev sInW : BA := ⟨#[105, 110]⟩
def snapP (n : Int) (h : List Bool) : Snap := ⟨[sInW], [⟨0, ⟨#[42]⟩, ⟨#[47]⟩, 0⟩], [⟨⟨#[97]⟩, 1, n, h⟩]⟩
theorem snapP_rd {g : GW} {lo e1 e2 e3 e4 : Nat} {n : Int} {h : List Bool} {vL vR vC vH : Value} (hL : PbSl g lo e1 1 vL 1 [.string sInW]) (hR : PbSl g lo e2 4 vR 1 [.int .i64 0, .string ⟨#[42]⟩, .string ⟨#[47]⟩, .int .i64 0])
    (hC : PbSl g lo e3 4 vC 1 [.string ⟨#[97]⟩, .int .i64 1, .int .i64 n, vH]) (hH : PbSl g lo e4 1 vH h.length (h.map .bool)) (hn : InR n) : rSnap g [vL, vR, vC] (snapP n h) := by
  refine ⟨_, _, _, rfl, rSl_of1 (R := rStr) hL.rd [sInW] .string rfl fun _ _ => rfl, rSl_of (R := rRule) hR.rd [⟨0, ⟨#[42]⟩, ⟨#[47]⟩, 0⟩] [[.int .i64 0, .string ⟨#[42]⟩, .string ⟨#[47]⟩, .int .i64 0]] (by simp) (by simp) rfl rfl fun i x ec hx hec => ?_, rSl_of (R := rCluster) hC.rd [⟨⟨#[97]⟩, 1, n, h⟩] [[.string ⟨#[97]⟩, .int .i64 1, .int .i64 n, vH]] (by simp) (by simp) rfl rfl fun i x ec hx hec => ?_⟩
  · match i, hx, hec with
    | 0, hx, hec => cases hx; cases hec; exact ⟨rfl, by decide, by decide⟩
    | i + 1, hx, hec => simp at hx
  · match i, hx, hec with
    | 0, hx, hec => cases hx; cases hec; exact ⟨_, rfl, (by decide : InR 1), hn, rSl_of1 (R := rBool) hH.rd h .bool rfl fun _ _ => rfl⟩
    | i + 1, hx, hec => simp at hx
/-- The world of law 19's example, as it goes on. -/
def wP (e : Int) (p : List Int) : Wd := { newW (snapP 2 [true, false]) [sInW] 2 with epoch := e, pins := p }
def op0 : OpD := ⟨0, ⟨#[]⟩, ⟨#[]⟩, ⟨#[]⟩, 0, 0, 0, ⟨[], [], []⟩⟩
def mP (pc ep : Int) : Mach := ⟨op0, 1, pc, ep, 0, 0, 0, 0, 0, 0, 0, 0, 0, 0, 0, false, ans0, c60⟩
theorem pinE_at {w : Wd} {m : Mach} (hs : suitB w m = true) : (m.pc = 0 ∨ m.pc = 2 → pinE w m = ⟨m.thread, 0, 1, 1, -1, false, w.epoch, false, false, false, ans0⟩) ∧ (m.pc = 1 → pinE w m = ⟨m.thread, 0, 2, 2, -1, false, IntKind.i64.wrap (m.epoch + 1), false, false, false, ans0⟩) ∧ (m.pc = 3 → pinE w m = ev0) := by
  unfold pinE
  rw [if_pos hs]
  refine ⟨fun h => ?_, fun h => ?_, fun h => ?_⟩
  · rw [if_neg (by omega), if_pos h]
  · rw [if_pos h]
  · rw [if_neg (by omega), if_neg (by omega)]
theorem pinW_at {w : Wd} {m : Mach} (hs : suitB w m = true) : (m.pc ≠ 1 → pinW w m = w) ∧ (m.pc = 1 → pinW w m = { w with pins := w.pins.set m.thread.toNat (IntKind.i64.wrap (m.epoch + 1)) }) := by
  unfold pinW
  exact ⟨fun h => by rw [if_neg fun k => h k.2], fun h => by rw [if_pos ⟨hs, h⟩]⟩
theorem pinM_at {w : Wd} {m : Mach} (hs : suitB w m = true) : (m.pc = 0 → pinM w m = { m with epoch := w.epoch, pc := 1 }) ∧ (m.pc = 1 → pinM w m = { m with pc := 2 }) ∧ (m.pc = 2 → pinM w m = { m with pc := if w.epoch = m.epoch then 3 else 1, epoch := w.epoch }) ∧ (m.pc = 3 → pinM w m = m) := by
  unfold pinM
  rw [if_pos hs]
  refine ⟨fun h => ?_, fun h => ?_, fun h => ?_, fun h => ?_⟩
  · rw [if_pos h]
  · rw [if_neg (by omega), if_pos h]
  · rw [if_neg (by omega), if_neg (by omega), if_pos h]
  · rw [if_neg (by omega), if_neg (by omega), if_neg (by omega)]
theorem rWo_open {g : GW} {cs : List Value} {w : Wd} (h : rWo g cs w) : ∃ oa ca ob cb oc cc od cd oe ce, cs = [.int .i64 w.epoch, .int .i64 w.current, .int .i64 w.lock, .slice oa w.pins.length ca, .slice ob w.versions.length cb, .slice oc w.listens.length cc, .slice od w.counts.length cd, .slice oe w.limbo.length ce] := by
  obtain ⟨a, b, c, d, e, rfl, _, ⟨oa, ca, rfl, _⟩, ⟨ob, cb, rfl, _⟩, ⟨oc, cc, rfl, _⟩, ⟨od, cd, rfl, _⟩, ⟨oe, ce, rfl, _⟩⟩ := h
  exact ⟨oa, ca, ob, cb, oc, cc, od, cd, oe, ce, rfl⟩
theorem rMach_open {g : GW} {cs : List Value} {m : Mach} (h : rMach g cs m) : ∃ o1 t1 o2 t2 o3 t3, cs = m.cs (.slice o1 m.op.config.listens.length t1) (.slice o2 m.op.config.routes.length t2) (.slice o3 m.op.config.clusters.length t3) := by
  obtain ⟨ma, mb, md, rfl, _, _, ⟨_, _, _, he, ⟨o1, t1, rfl, _⟩, ⟨o2, t2, rfl, _⟩, ⟨o3, t3, rfl, _⟩⟩⟩ := h
  cases he
  exact ⟨o1, t1, o2, t2, o3, t3, rfl⟩
theorem c60_ok : c60.ok := ⟨by decide, by decide, by decide, by decide, by decide, by decide⟩
theorem ans0_ok : ans0.ok := ⟨by decide, by decide, by decide, by decide, by decide, by decide, by decide, c60_ok⟩
theorem rConfig_nil (g : GW) : rConfig g [.slice none 0 0, .slice none 0 0, .slice none 0 0] ⟨[], [], []⟩ :=
  ⟨_, _, _, rfl, ⟨none, 0, rfl, Nat.le_refl _, Nat.zero_le _, fun _ => ⟨rfl, rfl⟩, fun i x hx => by simp at hx⟩, ⟨none, 0, rfl, Nat.le_refl _, Nat.zero_le _, fun _ => ⟨rfl, rfl⟩, fun i x hx => by simp at hx⟩, ⟨none, 0, rfl, Nat.le_refl _, Nat.zero_le _, fun _ => ⟨rfl, rfl⟩, fun i x hx => by simp at hx⟩⟩
theorem z0 : InR 0 := by decide
theorem z1 : InR 1 := by decide
theorem zu : InU 0 := by decide
end Go.Proofs.YtjaeeadfmnokeaaGreat.Sx


/- Plain laws of pinning: whole ways. -/
namespace Go.Proofs.YtjaeeadfmnokeaaGreat.Sx
theorem SuitP.keep {w w' : Wd} {m m' : Mach} {v : Version} {gr : Group} {en : EndC} (h : SuitP w m v gr en) (hr : wdB w' = true) (e1 : w'.pins.length = w.pins.length) (e2 : w'.versions = w.versions) (e3 : w'.listens = w.listens)
    (k1 : m'.thread = m.thread) (k2 : m'.done = m.done) (k3 : m'.version = m.version) (k4 : m'.cluster = m.cluster) (k5 : m'.end_ = m.end_) (k6 : m'.other = m.other) (k7 : m'.slot = m.slot) (k8 : m'.listen = m.listen) (k9 : m'.i = m.i) (k10 : m'.k = m.k) : SuitP w' m' v gr en :=
  ⟨hr, by rw [k1, e1]; exact h.thread, by rw [k2]; exact h.done, by rw [k3, e2]; exact h.ver, by rw [k4]; exact h.clu, by rw [k5]; exact h.end_, by rw [k6]; exact h.other, by rw [k7]; exact h.slot, by rw [k8, e3]; exact h.listen, by rw [k9]; exact h.i, by rw [k10]; exact h.k⟩
theorem ground_epoch {w : Wd} (h : wdB w = true) : 0 ≤ w.epoch ∧ w.epoch ≤ 1000000000000 := by
  have hg := wdB_groundB h
  unfold groundB at hg
  simp only [Bool.and_eq_true, decide_eq_true_eq] at hg
  obtain ⟨⟨⟨⟨h1, h2⟩, h3⟩, h4⟩, h5⟩ := hg
  omega
/-- What keeps on along the way of pinning. -/
structure PinInv (w : Wd) (m : Mach) : Prop where
  suit : suitB w m = true
  pc : m.pc = 0 ∨ m.pc = 1 ∨ m.pc = 2
  ep : m.pc ≠ 0 → 0 ≤ m.epoch ∧ m.epoch ≤ w.epoch
  at_ : m.pc = 2 → w.pins[m.thread.toNat]? = some (m.epoch + 1)
theorem wrE {x : Int} (h : 0 ≤ x ∧ x ≤ 1000000000000) : IntKind.i64.wrap (x + 1) = x + 1 := wr (by unfold InR; omega)
/-- One step of pinning: what is so then. -/
theorem PinInv.step {w : Wd} {m : Mach} (h : PinInv w m) : wdB (pinW w m) = true ∧ (pinW w m).epoch = w.epoch ∧ (pinM w m).thread = m.thread ∧ (pinE w m).access ≠ 0 ∧ (pinW w m).pins.length = w.pins.length ∧ (pinW w m).versions = w.versions ∧ (pinW w m).listens = w.listens ∧ (pinW w m).counts = w.counts ∧ (pinW w m).limbo = w.limbo ∧
    (PinInv (pinW w m) (pinM w m) ∨ ((pinM w m).pc = 3 ∧ (pinM w m).epoch = w.epoch ∧ (pinW w m).pins[m.thread.toNat]? = some (w.epoch + 1))) := by
  obtain ⟨v, gr, en, hS⟩ := suitB_iff.1 h.suit
  have hr := hS.right
  obtain ⟨he0, he1⟩ := ground_epoch hr
  rcases h.pc with h0 | h0 | h0
  · rw [(pinW_at h.suit).1 (by omega), (pinM_at h.suit).1 h0, (pinE_at h.suit).1 (.inl h0)]
    refine ⟨hr, rfl, rfl, (by decide : (1 : Int) ≠ 0), rfl, rfl, rfl, rfl, rfl, .inl ⟨?_, .inr (.inl rfl), fun _ => ⟨he0, Int.le_refl _⟩, fun h => absurd h (by decide : ¬ (1 : Int) = 2)⟩⟩
    exact suitB_iff.2 ⟨v, gr, en, hS.keep hr rfl rfl rfl rfl rfl rfl rfl rfl rfl rfl rfl rfl rfl⟩
  · obtain ⟨k1, k2⟩ := h.ep (by omega)
    rw [(pinW_at h.suit).2 h0, (pinM_at h.suit).2.1 h0, (pinE_at h.suit).2.1 h0, wrE ⟨k1, by omega⟩]
    have hr' := wdB_pin hr (i := m.thread.toNat) (x := m.epoch + 1) (by omega)
    refine ⟨hr', rfl, rfl, (by decide : (2 : Int) ≠ 0), by simp, rfl, rfl, rfl, rfl, .inl ⟨?_, .inr (.inr rfl), fun _ => ⟨k1, k2⟩, fun _ => ?_⟩⟩
    · exact suitB_iff.2 ⟨v, gr, en, hS.keep hr' (by simp) rfl rfl rfl rfl rfl rfl rfl rfl rfl rfl rfl rfl⟩
    · have := hS.thread
      show (w.pins.set m.thread.toNat (m.epoch + 1))[m.thread.toNat]? = some (m.epoch + 1)
      rw [List.getElem?_set_self (by omega)]
  · obtain ⟨k1, k2⟩ := h.ep (by omega)
    rw [(pinW_at h.suit).1 (by omega), (pinM_at h.suit).2.2.1 h0, (pinE_at h.suit).1 (.inr h0)]
    refine ⟨hr, rfl, rfl, (by decide : (1 : Int) ≠ 0), rfl, rfl, rfl, rfl, rfl, ?_⟩
    by_cases he : w.epoch = m.epoch
    · rw [if_pos he]
      exact .inr ⟨rfl, rfl, by rw [h.at_ h0, he]⟩
    · rw [if_neg he]
      exact .inl ⟨suitB_iff.2 ⟨v, gr, en, hS.keep hr rfl rfl rfl rfl rfl rfl rfl rfl rfl rfl rfl rfl rfl⟩, .inr (.inl rfl), fun _ => ⟨he0, Int.le_refl _⟩, fun h => absurd h (by decide : ¬ (1 : Int) = 2)⟩
/-- The epoch goes on. -/
theorem PinInv.on {w : Wd} {m : Mach} (h : PinInv w m) (he : w.epoch < 1000000000000) : PinInv { w with epoch := w.epoch + 1 } m := by
  obtain ⟨v, gr, en, hS⟩ := suitB_iff.1 h.suit
  refine ⟨suitB_iff.2 ⟨v, gr, en, hS.keep (wdB_epoch hS.right he) rfl rfl rfl rfl rfl rfl rfl rfl rfl rfl rfl rfl rfl⟩, h.pc, fun k => ?_, h.at_⟩
  obtain ⟨h1, h2⟩ := h.ep k
  exact ⟨h1, by show m.epoch ≤ w.epoch + 1; omega⟩
end Go.Proofs.YtjaeeadfmnokeaaGreat.Sx


/- Plain laws of drains: one step. -/
namespace Go.Proofs.YtjaeeadfmnokeaaGreat.Sx
abbrev drGo (w : Wd) (m : Mach) : Prop := suitB w m = true ∧ m.pc = 0
def drI (w : Wd) (m : Mach) : Int := placeL w.listens m.op.listen
def drL (x : Listen) : Listen := { x with drain := true }
def ansK (k l : Int) : Ans := ⟨k, 0, 0, 0, 0, l, 0, c60⟩
noncomputable def drW (w : Wd) (m : Mach) : Wd := if drGo w m then (match w.listens[(drI w m).toNat]? with | some x => if 0 ≤ drI w m then { w with listens := w.listens.set (drI w m).toNat (drL x) } else w | none => w) else w
noncomputable def drM (w : Wd) (m : Mach) : Mach := if drGo w m then (if drI w m < 0 then { m with done := true, answer := ansK 7 0 } else { m with listen := drI w m, done := true, answer := ansK 10 (drI w m) }) else m
noncomputable def drE (w : Wd) (m : Mach) : Ev := if drGo w m then (if drI w m < 0 then ⟨m.thread, 0, 1, 0, -1, false, 0, false, false, true, ansK 7 0⟩ else ⟨m.thread, 0, 2, 4, -1, false, 1, false, true, true, ansK 10 (drI w m)⟩) else ev0
theorem dr_no {w : Wd} {m : Mach} (h : ¬ drGo w m) : drW w m = w ∧ drM w m = m ∧ drE w m = ev0 := by
  unfold drW drM drE; rw [if_neg h, if_neg h, if_neg h]; exact ⟨rfl, rfl, rfl⟩
theorem dr_none {w : Wd} {m : Mach} (h : drGo w m) (hi : drI w m < 0) : drW w m = w ∧ drM w m = { m with done := true, answer := ansK 7 0 } ∧ drE w m = ⟨m.thread, 0, 1, 0, -1, false, 0, false, false, true, ansK 7 0⟩ := by
  unfold drW drM drE; rw [if_pos h, if_pos h, if_pos hi, if_pos h, if_pos hi]
  refine ⟨?_, rfl, rfl⟩
  split
  · rw [if_neg (by omega)]
  · rfl
theorem dr_some {w : Wd} {m : Mach} (h : drGo w m) {x : Listen} (hi : 0 ≤ drI w m) (hx : w.listens[(drI w m).toNat]? = some x) : drW w m = { w with listens := w.listens.set (drI w m).toNat (drL x) } ∧ drM w m = { m with listen := drI w m, done := true, answer := ansK 10 (drI w m) } ∧ drE w m = ⟨m.thread, 0, 2, 4, -1, false, 1, false, true, true, ansK 10 (drI w m)⟩ := by
  unfold drW drM drE
  rw [if_pos h, if_pos h, if_neg (by omega), if_pos h, if_neg (by omega), hx]
  exact ⟨by show (if 0 ≤ drI w m then _ else w) = _; rw [if_pos hi], rfl, rfl⟩
theorem place_lt {l : List Listen} {s : BA} (h : 0 ≤ placeL l s) : ∃ x, l[(placeL l s).toNat]? = some x ∧ placeL l s < l.length := by
  unfold placeL at h ⊢
  cases hh : idxO (fun (x : Listen) => bs x.name == bs s) l with
  | none => rw [hh] at h; simp [idxI] at h
  | some i =>
    obtain ⟨x, hx, _⟩ := idxO_some hh
    have := (List.getElem?_eq_some_iff.1 hx).1
    exact ⟨x, by simpa [idxI] using hx, by simp [idxI]; exact this⟩
theorem ansK_ok {k l : Int} (h : InR k ∧ InR l) : (ansK k l).ok := ⟨h.1, z0, z0, z0, z0, h.2, z0, c60_ok⟩
end Go.Proofs.YtjaeeadfmnokeaaGreat.Sx


/- Worlds that the call made: a head is written. -/
namespace Go.Proofs.YtjaeeadfmnokeaaGreat.Sx
open Go.RowKit
section
variable {t : WTy} {f : Bool}
theorem oSl_slice {α : Type} {ety : TypeId} {sz : Nat} {R : OwT α} {g : GW} {lo : Nat} {S : Nat → Prop} {v : Value} {l : List α} (h : oSl ety sz R g lo S v l) : ∃ oa n cap, v = .slice oa n cap := by
  rcases h with ⟨_, oa, rfl⟩ | ⟨b, cap, _, _, rfl, _⟩
  · exact ⟨_, _, _, rfl⟩
  · exact ⟨_, _, _, rfl⟩
end
end Go.Proofs.YtjaeeadfmnokeaaGreat.Sx


/- Worlds that the call made: a listener is written. -/
namespace Go.Proofs.YtjaeeadfmnokeaaGreat.Sx
open Go.RowKit
abbrev cLis (x : Listen) : List Value := [.string x.name, .bool x.drain, .int .i64 x.active, .bool x.closed]
section
variable {t : WTy} {f : Bool}
theorem oWo_lis {g : GW} {lo : Nat} {T : Nat → Nat → Prop} {e0 e1 e2 a b c d e : Value} {w : Wd} (h : oWo t f g lo T [e0, e1, e2, a, b, c, d, e] w) {i : Nat} {x x' : Listen} (hx : w.listens[i]? = some x) {o : Nat} {vs : List Value} (hl : o + vs.length ≤ 4) (hv : ∀ u ∈ vs, u.oneCell' = true)
    (hr : (cLis x).take o ++ vs ++ (cLis x).drop (o + vs.length) = cLis x') (hi : InR x'.active) :
    ∃ (bk cap : Nat), c = .slice (some ⟨bk, 0, none⟩) w.listens.length cap ∧ Rcs g ((⟨bk, 0, none⟩ : Addr).add (i * 4)) (cLis x) ∧ PK g lo (T 2) (((⟨bk, 0, none⟩ : Addr).add (i * 4)).add o) vs fun g' => oWo t f g' lo T [e0, e1, e2, a, b, c, d, e] { w with listens := w.listens.set i x' } := by
  obtain ⟨_, _, _, _, _, hq, h2, h3, k0, k1, k2, k3, k4⟩ := h
  simp only [List.cons.injEq, and_true] at hq
  obtain ⟨rfl, rfl, rfl, rfl, rfl, rfl, rfl, rfl⟩ := hq
  obtain ⟨oa, n, c1, rfl⟩ := oSl_slice k2
  obtain ⟨bk, T1, ec, ⟨rfl, rfl⟩, ⟨_, r1⟩, ⟨rfl, _⟩, p1, _⟩ := oSl_open (oLf_fr rListen_any) k2 hx
  refine ⟨bk, c1, rfl, r1, ?_⟩
  have q := p1 o vs x' hl hv fun g' _ => ⟨hr, hi⟩
  exact q.imp (fun _ h => h) fun g' k q => ⟨_, _, _, _, _, rfl, h2, h3, oSl_fr (oLf_fr rInt_any) (other_fr h3 (by decide) k) k0, oSl_fr oVe_fr (other_fr h3 (by decide) k) k1, q, oSl_fr oRo_fr (other_fr h3 (by decide) k) k3, oSl_fr (oLf_fr rRetired_any) (other_fr h3 (by decide) k) k4⟩
end
end Go.Proofs.YtjaeeadfmnokeaaGreat.Sx


/- Plain laws of counts that are read: one step. -/
namespace Go.Proofs.YtjaeeadfmnokeaaGreat.Sx
end Go.Proofs.YtjaeeadfmnokeaaGreat.Sx


/- Plain laws of drains: who is drained twice. -/
namespace Go.Proofs.YtjaeeadfmnokeaaGreat.Sx
end Go.Proofs.YtjaeeadfmnokeaaGreat.Sx


/- Law 23's example. -/
namespace Go.Proofs.YtjaeeadfmnokeaaGreat.Sx
open Go.RowKit
abbrev sNoW : BA := ⟨#[110, 111]⟩
def w1 : Wd := newW (snapP 1 [true]) [sInW] 1
theorem w1_ok : NewOk (snapP 1 [true]) [sInW] 1 := ⟨by decide, by decide, by decide⟩
def mD (s : BA) : Mach := { mP 0 0 with thread := 0, op := { op0 with kind := 4, listen := s } }
theorem w1_suit (s : BA) : suitB w1 (mD s) = true := suitB_iff.2 ⟨cellsV (snapP 1 [true]), ⟨0, [freshE 1]⟩, freshE 1, newW_right (t := 1) w1_ok, ⟨Int.le_refl 0, (by decide : (0 : Int) < 1)⟩, rfl, ⟨Int.le_refl 0, rfl⟩, ⟨Int.le_refl 0, rfl⟩, ⟨Int.le_refl 0, rfl⟩, ⟨Int.le_refl 0, (by decide : (0 : Int) < 1)⟩, ⟨Int.le_refl 0, (by decide : (0 : Int) < 1)⟩, ⟨(by decide : (-1 : Int) ≤ 0), (by decide : (0 : Int) < 1)⟩, Int.le_refl 0, Int.le_refl 0⟩
theorem w1_go (s : BA) : drGo w1 (mD s) := ⟨w1_suit s, rfl⟩
theorem w1_in : drI w1 (mD sInW) = 0 := by decide
theorem w1_no : drI w1 (mD sNoW) = -1 := by decide
theorem rMach_D (g : GW) (s : BA) : rMach g ((mD s).cs (.slice none 0 0) (.slice none 0 0) (.slice none 0 0)) (mD s) :=
  ⟨_, _, _, rfl, ⟨z0, z0, z0, z0, z0, z0, z0, z0, z0, zu, z0, z0, z0, z0, ans0_ok, c60_ok⟩, ⟨(by decide : InR 4), z0, z0, z0⟩, rConfig_nil g⟩
def xIn : Listen := ⟨sInW, false, 0, false⟩
theorem w1_some : drW w1 (mD sInW) = { w1 with listens := [drL xIn] } ∧ drM w1 (mD sInW) = { mD sInW with listen := 0, done := true, answer := ansK 10 0 } ∧ drE w1 (mD sInW) = ⟨0, 0, 2, 4, -1, false, 1, false, true, true, ansK 10 0⟩ := by
  have h := dr_some (w1_go sInW) (x := xIn) (by rw [w1_in]; exact Int.le_refl 0) (by rw [w1_in]; rfl)
  rw [w1_in] at h
  exact h
theorem w1_none : drW w1 (mD sNoW) = w1 ∧ drM w1 (mD sNoW) = { mD sNoW with done := true, answer := ansK 7 0 } ∧ drE w1 (mD sNoW) = ⟨0, 0, 1, 0, -1, false, 0, false, false, true, ansK 7 0⟩ :=
  dr_none (w1_go sNoW) (by rw [w1_no]; decide)
end Go.Proofs.YtjaeeadfmnokeaaGreat.Sx


/- What came in, read as data, is plain data in frozen memory: by the types' shapes. -/
namespace Go.Proofs.YtjaeeadfmnokeaaGreat.Sx
open Go.RowKit
section
variable {H : Type} {enc : TypeId × Value → H} {P : Program} {W : World}
abbrev tr (enc : TypeId × Value → H) (P : Program) (W : World) (fuel : Nat) (t : TypeId) (cs : List Value) := DataW.trod enc P W 0 (fun _ => true) true fuel t cs
/-- Whatever of type t can be read is a datum. -/
def Rds {α : Type} (enc : TypeId × Value → H) (P : Program) (W : World) (t : TypeId) (R : RP α) : Prop := ∀ fuel cs x, tr enc P W fuel t cs = some x → ∃ a, R (allG W) cs a
theorem rd_int {t : TypeId} (ht : P.underlying t = some (.int .i64)) : Rds enc P W t rInt := by
  intro fuel cs x h
  cases fuel with
  | zero => simp [tr, DataW.trod] at h
  | succ n =>
    unfold tr DataW.trod at h
    rw [ht] at h
    split at h <;> try (first | (cases h; done) | (simp_all; done))
    rename_i heq
    cases heq
    split at h
    · rename_i hc
      obtain ⟨rfl, hw⟩ := hc
      exact ⟨_, rfl, inr_of hw⟩
    · cases h
theorem rd_u64 {t : TypeId} (ht : P.underlying t = some (.int .u64)) : Rds enc P W t rU64 := by
  intro fuel cs x h
  cases fuel with
  | zero => simp [tr, DataW.trod] at h
  | succ n =>
    unfold tr DataW.trod at h
    rw [ht] at h
    split at h <;> try (first | (cases h; done) | (simp_all; done))
    rename_i heq
    cases heq
    split at h
    · rename_i hc
      obtain ⟨rfl, hw⟩ := hc
      exact ⟨_, rfl, inu_of hw⟩
    · cases h
theorem rd_bool {t : TypeId} (ht : P.underlying t = some .bool) : Rds enc P W t rBool := by
  intro fuel cs x h
  cases fuel with
  | zero => simp [tr, DataW.trod] at h
  | succ n =>
    unfold tr DataW.trod at h
    rw [ht] at h
    split at h <;> try (first | cases h; done | simp_all; done)
    exact ⟨_, rfl⟩
theorem rd_str {t : TypeId} (ht : P.underlying t = some .string) : Rds enc P W t rStr := by
  intro fuel cs x h
  cases fuel with
  | zero => simp [tr, DataW.trod] at h
  | succ n =>
    unfold tr DataW.trod at h
    rw [ht] at h
    split at h <;> simp_all
    exact ⟨_, rfl⟩
/-- A slice's one cell. -/
def rSlc {α : Type} (sz : Nat) (R : RP α) : RP (List α) := fun g cs l => ∃ v, cs = [v] ∧ rSl sz R g v l
theorem mapM_get' {α β : Type} {f : α → Option β} : ∀ {l : List α} {r : List β}, l.mapM f = some r → ∀ (i : Nat) x, l[i]? = some x → ∃ y, r[i]? = some y ∧ f x = some y := by
  intro l
  induction l with
  | nil => intro r _ i x hx; simp at hx
  | cons a l ih =>
    intro r h i x hx
    simp only [List.mapM_cons, Option.bind_eq_bind, Option.bind_eq_some_iff, Option.pure_def, Option.some.injEq] at h
    obtain ⟨y, hy, ys, hys, rfl⟩ := h
    cases i with
    | zero => simp at hx; subst hx; exact ⟨y, rfl, hy⟩
    | succ i => simpa using ih hys i x (by simpa using hx)
theorem rd_slice {α : Type} {t e : TypeId} {sz : Nat} {R : RP α} (ht : P.underlying t = some (.slice e)) (hs : P.cellsOf e = sz) (_ : 0 < sz) (hR : Rds enc P W e R) : Rds enc P W t (rSlc sz R) := by
  intro fuel cs x h
  rcases DataW.trod_slice ht h with ⟨rfl, _⟩ | ⟨a, len, cap, elems, rest, n, _, rfl, _, _, hl, hc, hel, hget, _⟩
  · exact ⟨[], _, rfl, none, 0, rfl, Nat.le_refl _, Nat.zero_le _, fun _ => ⟨rfl, rfl⟩, fun i x hx => by simp at hx⟩
  · rw [hs] at hget
    have hel' : ∀ i, i < len → ∃ (x : α) (ec : List Value), ec.length = sz ∧ R (allG W) ec x ∧ Rcs (allG W) (a.add (i * sz)) ec := fun i hi => by
      have h1 := hget i hi
      rw [List.getElem?_eq_getElem (by omega)] at h1
      obtain ⟨ec, he, hr⟩ := Option.bind_eq_some_iff.1 h1
      obtain ⟨x, hx⟩ := hR n ec _ hr
      unfold World.cells? at he
      rw [if_pos (Nat.zero_le _)] at he
      have hlen := mapM_some_length he
      refine ⟨x, ec, by simpa using hlen, hx, fun j u hu => ?_⟩
      have hj := (List.getElem?_eq_some_iff.1 hu).1
      have hsz : ec.length = sz := by simpa using hlen
      obtain ⟨y, hy1, hy2⟩ := mapM_get' he j j (List.getElem?_range (by omega))
      rw [hu] at hy1; cases hy1
      refine ⟨?_, hy2⟩
      show _ < W.heap.size
      unfold World.cell? at hy2
      cases hh : W.heap[((a.add (i * sz)).add j).block]? with
      | none => rw [hh] at hy2; cases hy2
      | some o => exact (Array.getElem?_eq_some_iff.1 hh).1
    let f : Fin len → α := fun i => Classical.choose (hel' i.1 i.2)
    have hf : ∀ i : Fin len, ∃ (ec : List Value), ec.length = sz ∧ R (allG W) ec (f i) ∧ Rcs (allG W) (a.add (i.1 * sz)) ec := fun i => Classical.choose_spec (hel' i.1 i.2)
    refine ⟨List.ofFn f, _, rfl, some a, cap, by simp, by simpa using hl, hc, (fun h => by cases h), fun i x hx => ⟨a, rfl, ?_⟩⟩
    obtain ⟨hi, he⟩ := List.getElem?_eq_some_iff.1 hx
    simp only [List.getElem_ofFn] at he
    simp only [List.length_ofFn] at hi
    have := hf ⟨i, hi⟩
    rw [← he]; exact this

/-- A struct's fields: offset, cells, type. -/
def fieldsOf (P : Program) (t : TypeId) : Option (List (Nat × Nat × TypeId)) := match P.underlying t with
  | some (.struct fs) => some (fs.toList.map fun f => (f.offset, P.cellsOf f.type, f.type))
  | _ => none
theorem fld_at {t : TypeId} {l : List (Nat × Nat × TypeId)} (hf : fieldsOf P t = some l) {fuel : Nat} {cs : List Value} {x : DataW H × List MemPlace} (h : tr enc P W fuel t cs = some x) :
    cs.length = P.cellsOf t ∧ ∀ (i o s : Nat) (u : TypeId), l[i]? = some (o, s, u) → ∃ n y, tr enc P W n u ((cs.drop o).take s) = some y := by
  unfold fieldsOf at hf
  split at hf
  · rename_i fs ht
    simp only [Option.some.injEq] at hf
    subst hf
    obtain ⟨xs, n, rfl, _, hl, hxs, hget⟩ := DataW.trod_struct ht h
    refine ⟨hl, fun i o s u hi => ?_⟩
    simp only [List.getElem?_map, Option.map_eq_some_iff, Array.getElem?_toList] at hi
    obtain ⟨f, hf, he⟩ := hi
    simp only [Prod.mk.injEq] at he
    obtain ⟨rfl, rfl, rfl⟩ := he
    have hlt := (Array.getElem?_eq_some_iff.1 hf).1
    exact ⟨n, xs[i]'(by omega), by rw [← List.getElem?_eq_getElem]; exact hget i f hf⟩
  · cases hf
/-- A field. -/
theorem Rds.fld {α : Type} {u : TypeId} {R : RP α} (hR : Rds enc P W u R) {cs : List Value} (h : ∃ n y, tr enc P W n u cs = some y) : ∃ a, R (allG W) cs a := let ⟨n, y, hy⟩ := h; hR n cs y hy
variable {tS tI tB : TypeId}
theorem rd_route {t : TypeId} (hf : fieldsOf P t = some [(0, 1, tS), (1, 1, tS), (2, 1, tS), (3, 1, tS)]) (hc : P.cellsOf t = 4) (hS : P.underlying tS = some .string) : Rds enc P W t rRoute := by
  intro fuel cs x h
  obtain ⟨hl, hg⟩ := fld_at hf h
  rw [hc] at hl
  match cs, hl with
  | [a, b, c, d], _ =>
    obtain ⟨s0, e0⟩ := (rd_str hS).fld (hg 0 _ _ _ rfl)
    obtain ⟨s1, e1⟩ := (rd_str hS).fld (hg 1 _ _ _ rfl)
    obtain ⟨s2, e2⟩ := (rd_str hS).fld (hg 2 _ _ _ rfl)
    obtain ⟨s3, e3⟩ := (rd_str hS).fld (hg 3 _ _ _ rfl)
    cases e0; cases e1; cases e2; cases e3
    exact ⟨⟨s0, s1, s2, s3⟩, rfl⟩
theorem rd_rule {t : TypeId} (hf : fieldsOf P t = some [(0, 1, tI), (1, 1, tS), (2, 1, tS), (3, 1, tI)]) (hc : P.cellsOf t = 4) (hS : P.underlying tS = some .string) (hI : P.underlying tI = some (.int .i64)) : Rds enc P W t rRule := by
  intro fuel cs x h
  obtain ⟨hl, hg⟩ := fld_at hf h
  rw [hc] at hl
  match cs, hl with
  | [a, b, c, d], _ =>
    obtain ⟨s0, e0, w0⟩ := (rd_int hI).fld (hg 0 _ _ _ rfl)
    obtain ⟨s1, e1⟩ := (rd_str hS).fld (hg 1 _ _ _ rfl)
    obtain ⟨s2, e2⟩ := (rd_str hS).fld (hg 2 _ _ _ rfl)
    obtain ⟨s3, e3, w3⟩ := (rd_int hI).fld (hg 3 _ _ _ rfl)
    cases e0; cases e1; cases e2; cases e3
    exact ⟨⟨s0, s1, s2, s3⟩, rfl, w0, w3⟩
theorem rd_cluster {t tL : TypeId} (hf : fieldsOf P t = some [(0, 1, tS), (1, 1, tI), (2, 1, tI), (3, 1, tL)]) (hc : P.cellsOf t = 4) (hS : P.underlying tS = some .string) (hI : P.underlying tI = some (.int .i64)) (hL : P.underlying tL = some (.slice tB)) (hB : P.underlying tB = some .bool) (hcB : P.cellsOf tB = 1) : Rds enc P W t rCluster := by
  intro fuel cs x h
  obtain ⟨hl, hg⟩ := fld_at hf h
  rw [hc] at hl
  match cs, hl with
  | [a, b, c, d], _ =>
    obtain ⟨s0, e0⟩ := (rd_str hS).fld (hg 0 _ _ _ rfl)
    obtain ⟨s1, e1, w1⟩ := (rd_int hI).fld (hg 1 _ _ _ rfl)
    obtain ⟨s2, e2, w2⟩ := (rd_int hI).fld (hg 2 _ _ _ rfl)
    obtain ⟨s3, v, e3, h3⟩ := (rd_slice hL hcB (by omega) (rd_bool hB)).fld (hg 3 _ _ _ rfl)
    cases e0; cases e1; cases e2; cases e3
    exact ⟨⟨s0, s1, s2, s3⟩, _, rfl, w1, w2, h3⟩
/-- Three slices. -/
theorem rd_three {α β γ : Type} {t t0 t1 t2 e0 e1 e2 : TypeId} {z0 z1 z2 : Nat} {R0 : RP α} {R1 : RP β} {R2 : RP γ} (hf : fieldsOf P t = some [(0, 1, t0), (1, 1, t1), (2, 1, t2)]) (hc : P.cellsOf t = 3)
    (h0 : P.underlying t0 = some (.slice e0)) (h1 : P.underlying t1 = some (.slice e1)) (h2 : P.underlying t2 = some (.slice e2)) (c0 : P.cellsOf e0 = z0) (c1 : P.cellsOf e1 = z1) (c2 : P.cellsOf e2 = z2) (p0 : 0 < z0) (p1 : 0 < z1) (p2 : 0 < z2)
    (r0 : Rds enc P W e0 R0) (r1 : Rds enc P W e1 R1) (r2 : Rds enc P W e2 R2) {fuel : Nat} {cs : List Value} {x : DataW H × List MemPlace} (h : tr enc P W fuel t cs = some x) :
    ∃ a b d, cs = [a, b, d] ∧ (∃ l, rSl z0 R0 (allG W) a l) ∧ (∃ l, rSl z1 R1 (allG W) b l) ∧ ∃ l, rSl z2 R2 (allG W) d l := by
  obtain ⟨hl, hg⟩ := fld_at hf h
  rw [hc] at hl
  match cs, hl with
  | [a, b, c], _ =>
    obtain ⟨s0, v0, q0, k0⟩ := (rd_slice h0 c0 p0 r0).fld (hg 0 _ _ _ rfl)
    obtain ⟨s1, v1, q1, k1⟩ := (rd_slice h1 c1 p1 r1).fld (hg 1 _ _ _ rfl)
    obtain ⟨s2, v2, q2, k2⟩ := (rd_slice h2 c2 p2 r2).fld (hg 2 _ _ _ rfl)
    cases q0; cases q1; cases q2
    exact ⟨_, _, _, rfl, ⟨s0, k0⟩, ⟨s1, k1⟩, s2, k2⟩
end
/-- A struct by value. -/
def aV {α : Type} (R : RP α) (g : GW) (v : Value) (a : α) : Prop := ∃ cs, v = .agg ⟨cs⟩ ∧ R g cs a
end Go.Proofs.YtjaeeadfmnokeaaGreat.Sx


/- What came in, read as data, is plain data: with the bound that what was handed takes no more bytes than the reach. -/
namespace Go.Proofs.YtjaeeadfmnokeaaGreat.Sx
open Go.RowKit
section
variable {H : Type} {enc : TypeId × Value → H} {P : Program} {W : World}
def Small (P : Program) (t : TypeId) (d : DataW H) : Prop := ∀ n ∈ d.weights P t, n ≤ reachBytes
theorem small_at {ts : List TypeId} {ds : List (DataW H)} (h : (DataW.weightsEach P ts ds).all (· ≤ reachBytes) = true) {j : Nat} {t : TypeId} {d : DataW H} (ht : ts[j]? = some t) (hd : ds[j]? = some d) : Small P t d :=
  fun n hn => by simpa using List.all_eq_true.1 h n (DataW.weights_mem_each ht hd n hn)
def RdsW {α : Type} (enc : TypeId × Value → H) (P : Program) (W : World) (t : TypeId) (R : RP α) : Prop := ∀ fuel cs x, tr enc P W fuel t cs = some x → Small P t x.1 → ∃ a, R (allG W) cs a
theorem Rds.w {α : Type} {t : TypeId} {R : RP α} (h : Rds enc P W t R) : RdsW enc P W t R := fun f cs x hx _ => h f cs x hx
theorem RdsW.fld {α : Type} {u : TypeId} {R : RP α} (hR : RdsW enc P W u R) {cs : List Value} (h : ∃ n y, tr enc P W n u cs = some y ∧ Small P u y.1) : ∃ a, R (allG W) cs a := let ⟨n, y, hy, hs⟩ := h; hR n cs y hy hs
theorem tr1 {cs : List Value} {u : TypeId} (h : ∃ n y, tr enc P W n u cs = some y ∧ Small P u y.1) : ∃ n y, tr enc P W n u cs = some y := let ⟨n, y, hy, _⟩ := h; ⟨n, y, hy⟩
theorem weightsAll_mem {e : TypeId} : ∀ {l : List (DataW H)} {d : DataW H}, d ∈ l → ∀ n ∈ d.weights P e, n ∈ DataW.weightsAll P e l
  | a :: r, d, h, n, hn => by
    simp only [DataW.weightsAll, List.mem_append]
    rcases List.mem_cons.1 h with rfl | h
    · exact .inl hn
    · exact .inr (weightsAll_mem h n hn)
theorem rw_slice {α : Type} {t e : TypeId} {sz : Nat} {R : RP α} (ht : P.underlying t = some (.slice e)) (hs : P.cellsOf e = sz) (hR : RdsW enc P W e R) : RdsW enc P W t fun g cs l => ∃ v, cs = [v] ∧ rSl sz R g v l ∧ l.length * P.bytesOf e ≤ reachBytes := by
  intro fuel cs x h hsm
  rcases DataW.trod_slice ht h with ⟨rfl, _⟩ | ⟨a, len, cap, elems, rest, n, _, rfl, rfl, _, hl, hc, hel, hget, _⟩
  · exact ⟨[], _, rfl, ⟨none, 0, rfl, Nat.le_refl _, Nat.zero_le _, fun _ => ⟨rfl, rfl⟩, fun i x hx => by simp at hx⟩, by simp⟩
  · rw [hs] at hget
    have hw : ∀ i (hi : i < elems.length), Small P e (elems[i]).1 := fun i hi k hk => by
      refine hsm k ?_
      simp only [DataW.weights, ht, List.mem_cons, List.mem_append]
      exact .inr (.inl (weightsAll_mem (List.mem_map.2 ⟨elems[i], List.getElem_mem _, rfl⟩) k hk))
    have hlen0 : len * P.bytesOf e ≤ reachBytes := by
      have := hsm ((elems.length + rest.length) * P.bytesOf e) (by simp [DataW.weights, ht])
      subst hel
      exact Nat.le_trans (Nat.mul_le_mul_right _ (by omega)) this
    have hel' : ∀ i, i < len → ∃ (x : α) (ec : List Value), ec.length = sz ∧ R (allG W) ec x ∧ Rcs (allG W) (a.add (i * sz)) ec := fun i hi => by
      have h1 := hget i hi
      rw [List.getElem?_eq_getElem (by omega)] at h1
      obtain ⟨ec, he, hr⟩ := Option.bind_eq_some_iff.1 h1
      obtain ⟨x, hx⟩ := hR n ec _ hr (hw i (by omega))
      unfold World.cells? at he
      rw [if_pos (Nat.zero_le _)] at he
      have hlen := mapM_some_length he
      refine ⟨x, ec, by simpa using hlen, hx, fun j u hu => ?_⟩
      have hj := (List.getElem?_eq_some_iff.1 hu).1
      have hsz : ec.length = sz := by simpa using hlen
      obtain ⟨y, hy1, hy2⟩ := mapM_get' he j j (List.getElem?_range (by omega))
      rw [hu] at hy1; cases hy1
      refine ⟨?_, hy2⟩
      show _ < W.heap.size
      unfold World.cell? at hy2
      cases hh : W.heap[((a.add (i * sz)).add j).block]? with
      | none => rw [hh] at hy2; cases hy2
      | some o => exact (Array.getElem?_eq_some_iff.1 hh).1
    let f : Fin len → α := fun i => Classical.choose (hel' i.1 i.2)
    have hf : ∀ i : Fin len, ∃ (ec : List Value), ec.length = sz ∧ R (allG W) ec (f i) ∧ Rcs (allG W) (a.add (i.1 * sz)) ec := fun i => Classical.choose_spec (hel' i.1 i.2)
    refine ⟨List.ofFn f, _, rfl, ⟨some a, cap, by simp, by simpa using hl, hc, (fun h => by cases h), fun i x hx => ⟨a, rfl, ?_⟩⟩, by simpa using hlen0⟩
    obtain ⟨hi, he⟩ := List.getElem?_eq_some_iff.1 hx
    simp only [List.getElem_ofFn] at he
    simp only [List.length_ofFn] at hi
    have := hf ⟨i, hi⟩
    rw [← he]; exact this
theorem rw_sl {α : Type} {t e : TypeId} {sz : Nat} {R : RP α} (ht : P.underlying t = some (.slice e)) (hs : P.cellsOf e = sz) (hR : RdsW enc P W e R) : RdsW enc P W t (rSlc sz R) := fun f cs x hx hs' => by
  obtain ⟨l, v, h1, h2, _⟩ := rw_slice ht hs hR f cs x hx hs'
  exact ⟨l, v, h1, h2⟩
theorem fldW_at {t : TypeId} {l : List (Nat × Nat × TypeId)} (hf : fieldsOf P t = some l) {fuel : Nat} {cs : List Value} {x : DataW H × List MemPlace} (h : tr enc P W fuel t cs = some x) (hs : Small P t x.1) :
    cs.length = P.cellsOf t ∧ ∀ (i o s : Nat) (u : TypeId), l[i]? = some (o, s, u) → ∃ n y, tr enc P W n u ((cs.drop o).take s) = some y ∧ Small P u y.1 := by
  unfold fieldsOf at hf
  split at hf
  · rename_i fs ht
    simp only [Option.some.injEq] at hf
    subst hf
    obtain ⟨xs, n, rfl, rfl, hl, hxs, hget⟩ := DataW.trod_struct ht h
    refine ⟨hl, fun i o s u hi => ?_⟩
    simp only [List.getElem?_map, Option.map_eq_some_iff, Array.getElem?_toList] at hi
    obtain ⟨f, hf, he⟩ := hi
    simp only [Prod.mk.injEq] at he
    obtain ⟨rfl, rfl, rfl⟩ := he
    have hlt := (Array.getElem?_eq_some_iff.1 hf).1
    refine ⟨n, xs[i]'(by omega), by rw [← List.getElem?_eq_getElem]; exact hget i f hf, fun k hk => hs k ?_⟩
    simp only [DataW.weights, ht]
    refine DataW.weights_mem_each (j := i) (t := f.type) (d := (xs[i]'(by omega)).1) ?_ ?_ k hk
    · rw [List.getElem?_map, Array.getElem?_toList, hf]; rfl
    · rw [List.getElem?_map, List.getElem?_eq_getElem (by omega)]; rfl
  · cases hf
theorem rd_c6 {t e : TypeId} (ht : P.underlying t = some (.array 6 e)) (he : P.underlying e = some (.int .u64)) (hc : P.cellsOf e = 1) (hc6 : P.cellsOf t = 6) : Rds enc P W t fun _ cs (c : C6) => cs = c.cs ∧ c.ok := by
  intro fuel cs x h
  obtain ⟨xs, m, _, _, hl, hxs, hget⟩ := DataW.trod_array ht h
  rw [hc6] at hl
  have hg : ∀ i, i < 6 → ∃ n y, tr enc P W n e ((cs.drop i).take 1) = some y := fun i hi => by
    have := hget i hi
    rw [hc, Nat.mul_one, List.getElem?_eq_getElem (by omega)] at this
    exact ⟨m, _, this⟩
  match cs, hl with
  | [a, b, c, d, e', f], _ =>
    obtain ⟨s0, e0, w0⟩ := (rd_u64 he).fld (hg 0 (by omega))
    obtain ⟨s1, e1, w1⟩ := (rd_u64 he).fld (hg 1 (by omega))
    obtain ⟨s2, e2, w2⟩ := (rd_u64 he).fld (hg 2 (by omega))
    obtain ⟨s3, e3, w3⟩ := (rd_u64 he).fld (hg 3 (by omega))
    obtain ⟨s4, e4, w4⟩ := (rd_u64 he).fld (hg 4 (by omega))
    obtain ⟨s5, e5, w5⟩ := (rd_u64 he).fld (hg 5 (by omega))
    cases e0; cases e1; cases e2; cases e3; cases e4; cases e5
    exact ⟨⟨s0, s1, s2, s3, s4, s5⟩, rfl, ⟨w0, w1, w2, w3, w4, w5⟩⟩
end
end Go.Proofs.YtjaeeadfmnokeaaGreat.Sx

