/- Plain data of the given program (configurations, snapshots, worlds, machines), and how they lie in frozen memory. -/
import Derived.Test.YtedjbhpocedagaaSx14
namespace Go.Proofs.Ytedjbhpocedagaa.Sx
open Go.RowKit

/-! ### Small words -/
abbrev BA := ByteArray
abbrev bs (s : BA) : List UInt8 := s.data.toList
theorem bs_ext {a b : BA} (h : bs a = bs b) : a = b := by
  cases a; cases b; simp only [bs] at h; rw [Array.toList_inj.1 h]
theorem bs_eq {a b : BA} : bs a = bs b ↔ a = b := ⟨bs_ext, fun h => h ▸ rfl⟩
theorem bs_size (s : BA) : s.size = (bs s).length := by cases s; simp [bs, ByteArray.size]
theorem bs_extract (s : BA) (l h : Nat) : bs (s.extract l h) = ((bs s).drop l).take (h - l) := by
  simp [bs, ByteArray.data_extract]
theorem bs_append (a b : BA) : bs (a ++ b) = bs a ++ bs b := by simp [bs]
abbrev InR (x : Int) : Prop := -9223372036854775808 ≤ x ∧ x ≤ 9223372036854775807
abbrev InU (x : Int) : Prop := 0 ≤ x ∧ x ≤ 18446744073709551615
theorem wr {x : Int} (h : InR x) : IntKind.i64.wrap x = x := IntWalk.i64_in x h
theorem inr_of {x : Int} (h : (Lit.int .i64 x).wf = true) : InR x := by
  simpa [Lit.wf, IntKind.min, IntKind.max, IntKind.bits, IntKind.signed] using h
theorem inu_of {x : Int} (h : (Lit.int .u64 x).wf = true) : InU x := by
  simpa [Lit.wf, IntKind.min, IntKind.max, IntKind.bits, IntKind.signed] using h

theorem nb1 {b : Bool} (h : (!b) = true) : b = false := by simpa using h
theorem nb0 {b : Bool} (h : (!b) = false) : b = true := by simpa using h
theorem OkV.to {P : Program} {f : FuncId} {args : List Value} {g : GW} {v v' : Value} (h : OkV P f args g v) (e : v = v') : OkV P f args g v' := e ▸ h

/-! ### Plain data -/
structure Route where
  listen : BA
  host : BA
  path : BA
  cluster : BA
structure Cluster where
  name : BA
  policy : Int
  slots : Int
  health : List Bool
structure Config where
  listens : List BA
  routes : List Route
  clusters : List Cluster
structure Rule where
  listen : Int
  host : BA
  path : BA
  cluster : Int
structure Snap where
  listens : List BA
  rules : List Rule
  clusters : List Cluster
structure EndC where
  head : Int
  next : List Int
  active : Int
structure Group where
  ticket : Int
  ends : List EndC
structure Version where
  snap : Snap
  groups : List Group
  freed : Bool
structure Listen where
  name : BA
  drain : Bool
  active : Int
  closed : Bool
structure Retired where
  version : Int
  at_ : Int
  gone : Bool
structure Wd where
  epoch : Int
  current : Int
  lock : Int
  pins : List Int
  versions : List Version
  listens : List Listen
  counts : List (List Int)
  limbo : List Retired

/-! ### How they lie in memory -/
abbrev RP (α : Type) := GW → List Value → α → Prop
def rInt : RP Int := fun _ cs x => cs = [.int .i64 x] ∧ InR x
def rU64 : RP Int := fun _ cs x => cs = [.int .u64 x] ∧ InU x
def rStr : RP BA := fun _ cs s => cs = [.string s]
def rBool : RP Bool := fun _ cs b => cs = [.bool b]
/-- A slice, all of whose elements lie in frozen memory. -/
def rSl {α : Type} (sz : Nat) (R : RP α) (g : GW) (v : Value) (l : List α) : Prop :=
  ∃ oa cap, v = .slice oa l.length cap ∧ l.length ≤ cap ∧ cap ≤ maxLen ∧ (oa = none → l.length = 0 ∧ cap = 0) ∧
    ∀ (i : Nat) x, l[i]? = some x → ∃ a, oa = some a ∧ ∃ ec, ec.length = sz ∧ R g ec x ∧ Rcs g (a.add (i * sz)) ec
def Mono {α : Type} (R : RP α) : Prop := ∀ g g' cs x, g ≤ g' → R g cs x → R g' cs x
theorem Rcs.mono {g g' : GW} {a : Addr} {xs : List Value} (h : Rcs g a xs) (k : g ≤ g') : Rcs g' a xs := fun i u hu => (h i u hu).mono k
theorem rSl.mono {α : Type} {sz : Nat} {R : RP α} (hR : Mono R) {g g' : GW} {v : Value} {l : List α} (h : rSl sz R g v l) (k : g ≤ g') : rSl sz R g' v l := by
  obtain ⟨oa, cap, h1, h2, h3, h4, h5⟩ := h
  refine ⟨oa, cap, h1, h2, h3, h4, fun i x hx => ?_⟩
  obtain ⟨a, ha, ec, he, hr, hc⟩ := h5 i x hx
  exact ⟨a, ha, ec, he, hR _ _ _ _ k hr, hc.mono k⟩
theorem rInt_mono : Mono rInt := fun _ _ _ _ _ h => h
theorem rU64_mono : Mono rU64 := fun _ _ _ _ _ h => h
theorem rStr_mono : Mono rStr := fun _ _ _ _ _ h => h
theorem rBool_mono : Mono rBool := fun _ _ _ _ _ h => h
def rInts (g : GW) (v : Value) (l : List Int) : Prop := rSl 1 rInt g v l
def rRoute : RP Route := fun _ cs r => cs = [.string r.listen, .string r.host, .string r.path, .string r.cluster]
theorem rRoute_mono : Mono rRoute := fun _ _ _ _ _ h => h
def rCluster : RP Cluster := fun g cs c => ∃ h, cs = [.string c.name, .int .i64 c.policy, .int .i64 c.slots, h] ∧ InR c.policy ∧ InR c.slots ∧ rSl 1 rBool g h c.health
theorem rCluster_mono : Mono rCluster := fun _ _ _ _ k ⟨h, e, a, b, c⟩ => ⟨h, e, a, b, c.mono rBool_mono k⟩
def rConfig : RP Config := fun g cs c => ∃ a b d, cs = [a, b, d] ∧ rSl 1 rStr g a c.listens ∧ rSl 4 rRoute g b c.routes ∧ rSl 4 rCluster g d c.clusters
theorem rConfig_mono : Mono rConfig := fun _ _ _ _ k ⟨a, b, d, e, x, y, z⟩ => ⟨a, b, d, e, x.mono rStr_mono k, y.mono rRoute_mono k, z.mono rCluster_mono k⟩
def rRule : RP Rule := fun _ cs r => cs = [.int .i64 r.listen, .string r.host, .string r.path, .int .i64 r.cluster] ∧ InR r.listen ∧ InR r.cluster
theorem rRule_mono : Mono rRule := fun _ _ _ _ _ h => h
def rSnap : RP Snap := fun g cs c => ∃ a b d, cs = [a, b, d] ∧ rSl 1 rStr g a c.listens ∧ rSl 4 rRule g b c.rules ∧ rSl 4 rCluster g d c.clusters
theorem rSnap_mono : Mono rSnap := fun _ _ _ _ k ⟨a, b, d, e, x, y, z⟩ => ⟨a, b, d, e, x.mono rStr_mono k, y.mono rRule_mono k, z.mono rCluster_mono k⟩
def rEnd : RP EndC := fun g cs e => ∃ n, cs = [.int .u64 e.head, n, .int .i64 e.active] ∧ InU e.head ∧ InR e.active ∧ rSl 1 rInt g n e.next
theorem rEnd_mono : Mono rEnd := fun _ _ _ _ k ⟨n, e, a, b, c⟩ => ⟨n, e, a, b, c.mono rInt_mono k⟩
def rGroup : RP Group := fun g cs x => ∃ n, cs = [.int .u64 x.ticket, n] ∧ InU x.ticket ∧ rSl 3 rEnd g n x.ends
theorem rGroup_mono : Mono rGroup := fun _ _ _ _ k ⟨n, e, a, c⟩ => ⟨n, e, a, c.mono rEnd_mono k⟩
def rVersion : RP Version := fun g cs x => ∃ a b d n, cs = [a, b, d, n, .bool x.freed] ∧ rSnap g [a, b, d] x.snap ∧ rSl 2 rGroup g n x.groups
theorem rVersion_mono : Mono rVersion := fun _ _ _ _ k ⟨a, b, d, n, e, x, y⟩ => ⟨a, b, d, n, e, rSnap_mono _ _ _ _ k x, y.mono rGroup_mono k⟩
def rListen : RP Listen := fun _ cs x => cs = [.string x.name, .bool x.drain, .int .i64 x.active, .bool x.closed] ∧ InR x.active
theorem rListen_mono : Mono rListen := fun _ _ _ _ _ h => h
def rRetired : RP Retired := fun _ cs x => cs = [.int .i64 x.version, .int .i64 x.at_, .bool x.gone] ∧ InR x.version ∧ InR x.at_
theorem rRetired_mono : Mono rRetired := fun _ _ _ _ _ h => h
def rRow : RP (List Int) := fun g cs x => ∃ n, cs = [n] ∧ rSl 1 rU64 g n x
theorem rRow_mono : Mono rRow := fun _ _ _ _ k ⟨n, e, x⟩ => ⟨n, e, x.mono rU64_mono k⟩
def rWd : RP Wd := fun g cs w => ∃ a b c d e, cs = [.int .i64 w.epoch, .int .i64 w.current, .int .i64 w.lock, a, b, c, d, e] ∧ (InR w.epoch ∧ InR w.current ∧ InR w.lock) ∧
  rSl 1 rInt g a w.pins ∧ rSl 5 rVersion g b w.versions ∧ rSl 4 rListen g c w.listens ∧ rSl 1 rRow g d w.counts ∧ rSl 3 rRetired g e w.limbo
theorem rWd_mono : Mono rWd := fun _ _ _ _ k ⟨a, b, c, d, e, h, i, j, l, m, n, o⟩ => ⟨a, b, c, d, e, h, i, j.mono rInt_mono k, l.mono rVersion_mono k, m.mono rListen_mono k, n.mono rRow_mono k, o.mono rRetired_mono k⟩

theorem flatten_at {ecs : List (List Value)} {sz : Nat} (h : ∀ e ∈ ecs, e.length = sz) {i j : Nat} {ec : List Value} (hi : ecs[i]? = some ec) {u : Value} (hj : ec[j]? = some u) : ecs.flatten[i * sz + j]? = some u := by
  induction ecs generalizing i with
  | nil => simp at hi
  | cons e es ih =>
    rw [List.flatten_cons]
    have he := h e (by simp)
    cases i with
    | zero =>
      simp at hi; subst hi
      rw [Nat.zero_mul, Nat.zero_add, List.getElem?_append_left (List.getElem?_eq_some_iff.1 hj).1]; exact hj
    | succ i =>
      rw [List.getElem?_append_right (by rw [he, Nat.succ_mul]; omega), show (i + 1) * sz + j - e.length = i * sz + j by rw [he, Nat.succ_mul]; omega]
      exact ih (fun x hx => h x (by simp [hx])) (by simpa using hi)
theorem flatten_len {ecs : List (List Value)} {sz : Nat} (h : ∀ e ∈ ecs, e.length = sz) : ecs.flatten.length = ecs.length * sz := by
  induction ecs with
  | nil => simp
  | cons e es ih => rw [List.flatten_cons, List.length_append, ih fun x hx => h x (by simp [hx]), h e (by simp), List.length_cons, Nat.succ_mul]; omega
/-- A slice whose cells are known is a slice of data. -/
theorem rSl_of {α : Type} {sz : Nat} {R : RP α} {g : GW} {v : Value} {n : Nat} {cs : List Value} (h : RdSl g sz v n cs) (l : List α) (ecs : List (List Value)) (hcs : cs = ecs.flatten) (hsz : ∀ e ∈ ecs, e.length = sz) (hl : l.length = n) (hel : ecs.length = l.length)
    (hR : ∀ (i : Nat) x ec, l[i]? = some x → ecs[i]? = some ec → R g ec x) : rSl sz R g v l := by
  subst hcs; subst hl
  obtain ⟨h1, oa, cap, rfl, h2, h3, h4, h5⟩ := h
  refine ⟨oa, cap, rfl, h2, h3, h4, fun i x hx => ?_⟩
  have hi := (List.getElem?_eq_some_iff.1 hx).1
  obtain ⟨ec, hec⟩ : ∃ ec, ecs[i]? = some ec := ⟨ecs[i]'(by omega), List.getElem?_eq_getElem (by omega)⟩
  have hlen := hsz ec (List.mem_of_getElem? hec)
  have ha : ∃ a, oa = some a := by
    cases oa with
    | some a => exact ⟨a, rfl⟩
    | none => have := (h4 rfl).1; omega
  obtain ⟨a, rfl⟩ := ha
  refine ⟨a, rfl, ec, hlen, hR i x ec hx hec, fun j u hu => ?_⟩
  obtain ⟨a', ha', hr⟩ := h5 (i * sz + j) u (flatten_at hsz hec hu)
  cases ha'
  rwa [add_add]
theorem map_flatten (l : List Value) : (l.map fun x => [x]).flatten = l := by
  induction l with
  | nil => rfl
  | cons x r ih => simp [ih]
/-- One cell an element. -/
theorem rSl_of1 {α : Type} {R : RP α} {g : GW} {v : Value} {n : Nat} {cs : List Value} (h : RdSl g 1 v n cs) (l : List α) (f : α → Value) (hcs : cs = l.map f) (hR : ∀ x ∈ l, R g [f x] x) : rSl 1 R g v l := by
  have hn : l.length = n := by have := h.1; rw [hcs, List.length_map] at this; omega
  refine rSl_of h l (cs.map fun x => [x]) (map_flatten cs).symm (fun e he => ?_) hn (by rw [List.length_map, hcs, List.length_map]) fun i x ec hx hec => ?_
  · obtain ⟨x, _, rfl⟩ := List.mem_map.1 he; rfl
  · rw [hcs] at hec
    simp only [List.getElem?_map, hx, Option.map_some] at hec
    cases hec
    exact hR x (List.mem_of_getElem? hx)

/-! ### Searching a list from the front -/
/-- Nothing ahead of place i is told by f. -/
def Pass {α β : Type} (f : Nat → α → Option β) (l : List α) (i : Nat) : Prop := ∀ j, j < i → ∀ x, l[j]? = some x → f j x = none
def firstF {α β : Type} (f : Nat → α → Option β) : Nat → List α → Option β
  | _, [] => none
  | i, x :: r => match f i x with
    | some b => some b
    | none => firstF f (i + 1) r
theorem Pass.zero {α β : Type} (f : Nat → α → Option β) (l : List α) : Pass f l 0 := fun j h => by omega
theorem Pass.succ {α β : Type} {f : Nat → α → Option β} {l : List α} {i : Nat} (h : Pass f l i) {x : α} (hx : l[i]? = some x) (hf : f i x = none) : Pass f l (i + 1) := by
  intro j hj y hy
  rcases Nat.lt_or_ge j i with k | k
  · exact h j k y hy
  · obtain rfl : j = i := by omega
    rw [hx] at hy; cases hy; exact hf
theorem firstF_gen {α β : Type} {f : Nat → α → Option β} : ∀ {l : List α} {k : Nat}, (∀ (j : Nat) x, l[j]? = some x → f (k + j) x = none) → firstF f k l = none
  | [], _, _ => rfl
  | x :: r, k, h => by
    have h0 := h 0 x rfl
    simp only [Nat.add_zero] at h0
    simp only [firstF, h0]
    exact firstF_gen fun j y hy => by have := h (j + 1) y (by simpa using hy); rwa [show k + (j + 1) = k + 1 + j by omega] at this
theorem Pass.done {α β : Type} {f : Nat → α → Option β} {l : List α} {i : Nat} (h : Pass f l i) (hi : l.length ≤ i) : firstF f 0 l = none :=
  firstF_gen fun j x hx => by
    rw [Nat.zero_add]
    refine h j ?_ x hx
    have := (List.getElem?_eq_some_iff.1 hx).1; omega
theorem firstF_hit {α β : Type} {f : Nat → α → Option β} {b : β} : ∀ {l : List α} {k i : Nat} {x : α}, (∀ j, j < i → ∀ y, l[j]? = some y → f (k + j) y = none) → l[i]? = some x → f (k + i) x = some b → firstF f k l = some b
  | [], _, _, _, _, hx, _ => by simp at hx
  | y :: r, k, 0, x, _, hx, hf => by
    simp at hx; subst hx
    simp only [Nat.add_zero] at hf
    simp only [firstF, hf]
  | y :: r, k, i + 1, x, h, hx, hf => by
    have h0 := h 0 (by omega) y rfl
    simp only [Nat.add_zero] at h0
    simp only [firstF, h0]
    refine firstF_hit (i := i) (x := x) (fun j hj z hz => ?_) (by simpa using hx) (by rwa [show k + 1 + i = k + (i + 1) by omega])
    have := h (j + 1) (by omega) z (by simpa using hz)
    rwa [show k + (j + 1) = k + 1 + j by omega] at this
theorem Pass.hit {α β : Type} {f : Nat → α → Option β} {l : List α} {i : Nat} (h : Pass f l i) {x : α} {b : β} (hx : l[i]? = some x) (hf : f i x = some b) : firstF f 0 l = some b :=
  firstF_hit (fun j hj y hy => by rw [Nat.zero_add]; exact h j hj y hy) hx (by rwa [Nat.zero_add])
theorem getL_of {α : Type} {l : List α} {i : Nat} (h : i < l.length) : ∃ x, l[i]? = some x := ⟨l[i], List.getElem?_eq_getElem h⟩
theorem wr1 {i n cap : Nat} (h : i < n) (h1 : n ≤ cap) (h2 : cap ≤ maxLen) : IntKind.i64.wrap ((i : Int) + 1) = ((i + 1 : Nat) : Int) := by
  rw [wr]
  · simp
  · unfold maxLen at h2; exact ⟨by omega, by omega⟩
theorem dec {i n : Nat} (h : i < n) : n - (i + 1) < n - i := by omega
theorem all_take {α : Type} {f : α → Bool} {l : List α} {i : Nat} (h : i < l.length) : (l.take (i + 1)).all f = ((l.take i).all f && f l[i]) := by
  rw [List.take_succ_eq_append_getElem h, List.all_append]; simp only [List.all_cons, List.all_nil, Bool.and_true]
theorem all_false {α : Type} {f : α → Bool} {l : List α} {i : Nat} (h : i < l.length) (k : f l[i] = false) : l.all f = false := by
  rw [List.all_eq_false]; exact ⟨l[i], List.getElem_mem h, by simp [k]⟩

/-- All that is there is frozen. -/
def allG (w : World) : GW := ⟨w, (· < w.heap.size), fun _ h => h⟩
end Go.Proofs.Ytedjbhpocedagaa.Sx
