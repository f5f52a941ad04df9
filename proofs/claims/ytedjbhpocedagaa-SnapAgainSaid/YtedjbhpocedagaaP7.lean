/- Snapshots: what is built of a configuration, and the configuration of a snapshot. -/
import Derived.Test.YtedjbhpocedagaaP5
namespace Go.Proofs.Ytedjbhpocedagaa.Sx
noncomputable def eqB {α : Type} (a b : α) : Bool := @decide (a = b) (Classical.propDecidable _)
theorem eqB_iff {α : Type} {a b : α} : eqB a b = true ↔ a = b := @decide_eq_true_iff _ (Classical.propDecidable _)
theorem eqB_t {α : Type} {a b : α} (h : a = b) : eqB a b = true := eqB_iff.2 h
theorem eqB_f {α : Type} {a b : α} (h : a ≠ b) : eqB a b = false := by
  cases e : eqB a b with
  | false => rfl
  | true => exact absurd (eqB_iff.1 e) h
theorem route_ext {a b : Route} (h1 : a.listen = b.listen) (h2 : a.host = b.host) (h3 : a.path = b.path) (h4 : a.cluster = b.cluster) : a = b := by
  cases a; cases b; simp_all
theorem rule_ext {a b : Rule} (h1 : a.listen = b.listen) (h2 : a.host = b.host) (h3 : a.path = b.path) (h4 : a.cluster = b.cluster) : a = b := by
  cases a; cases b; simp_all
theorem cluster_ext {a b : Cluster} (h1 : a.name = b.name) (h2 : a.policy = b.policy) (h3 : a.slots = b.slots) (h4 : a.health = b.health) : a = b := by
  cases a; cases b; simp_all
def ruleOf (c : Config) (r : Route) : Rule := ⟨idxI (idxO (fun x => bs x == bs r.listen) c.listens), r.host, r.path, idxI (idxO (fun (x : Cluster) => bs x.name == bs r.cluster) c.clusters)⟩
def builtS (c : Config) : Snap := ⟨c.listens, c.routes.map (ruleOf c), c.clusters⟩
def buildS (c : Config) : Snap := match checkE c with
  | none => builtS c
  | some _ => ⟨[], [], []⟩
def nameAt (l : List BA) (i : Int) : BA := if 0 ≤ i ∧ i < l.length then (l[i.toNat]?).getD ⟨#[]⟩ else ⟨#[]⟩
def clusAt (l : List Cluster) (i : Int) : BA := if 0 ≤ i ∧ i < l.length then ((l[i.toNat]?).map (·.name)).getD ⟨#[]⟩ else ⟨#[]⟩
def routeOf (s : Snap) (r : Rule) : Route := ⟨nameAt s.listens r.listen, r.host, r.path, clusAt s.clusters r.cluster⟩
def confS (s : Snap) : Config := ⟨s.listens, s.rules.map (routeOf s), s.clusters⟩
theorem name_ne {s : BA} (h : nameB (bs s) = true) : s ≠ ⟨#[]⟩ := fun e => by
  subst e
  exact absurd h (by decide)
/-- Where a name stands. -/
theorem nameAt_idx {l : List BA} {s : BA} (h : hasS l s = true) : nameAt l (idxI (idxO (fun x => bs x == bs s) l)) = s := by
  cases hi : idxO (fun x => bs x == bs s) l with
  | none => rw [idxO_none] at hi; rw [hasS] at h; rw [h] at hi; cases hi
  | some i =>
    obtain ⟨x, h1, h2, _⟩ := idxO_some hi
    have := (List.getElem?_eq_some_iff.1 h1).1
    unfold nameAt idxI
    simp only
    rw [if_pos ⟨by omega, by omega⟩]
    simp only [Int.toNat_natCast, h1, Option.getD_some]
    exact bs_ext (by simpa using h2)
theorem clusAt_idx {l : List Cluster} {s : BA} (h : hasC l s = true) : clusAt l (idxI (idxO (fun (x : Cluster) => bs x.name == bs s) l)) = s := by
  cases hi : idxO (fun (x : Cluster) => bs x.name == bs s) l with
  | none => rw [idxO_none] at hi; rw [hasC] at h; rw [h] at hi; cases hi
  | some i =>
    obtain ⟨x, h1, h2, _⟩ := idxO_some hi
    have := (List.getElem?_eq_some_iff.1 h1).1
    unfold clusAt idxI
    simp only
    rw [if_pos ⟨by omega, by omega⟩]
    simp only [Int.toNat_natCast, h1, Option.map_some, Option.getD_some]
    exact bs_ext (by simpa using h2)
theorem conf_built {c : Config} (h : GoodC c) : confS (builtS c) = c := by
  have : (c.routes.map (ruleOf c)).map (routeOf (builtS c)) = c.routes := by
    rw [List.map_map]
    conv => rhs; rw [← List.map_id c.routes]
    refine List.map_congr_left fun r hr => ?_
    obtain ⟨h1, _, _, h4⟩ := h.rt r hr
    have e1 := nameAt_idx h1
    have e4 := clusAt_idx h4
    exact route_ext e1 rfl rfl e4
  show (⟨c.listens, (c.routes.map (ruleOf c)).map (routeOf (builtS c)), c.clusters⟩ : Config) = c
  rw [this]
theorem uniq_idx {α : Type} {f : α → α → Bool} {l : List α} (hu : Uniq f l) {i : Nat} {x : α} (hx : l[i]? = some x) {p : α → Bool} (hp : ∀ y, p y = f y x) (hxx : f x x = true) : idxO p l = some i := by
  refine Pass.hit (fun j hj y hy => ?_) hx ?_
  · rw [hp, hu j i y x hj hy hx]; rfl
  · simp [hp, hxx]
theorem idx_nameAt {l : List BA} (hn : ∀ s ∈ l, nameB (bs s) = true) (hu : Uniq (fun x y => bs x == bs y) l) {i : Int} (h : hasS l (nameAt l i) = true) : idxI (idxO (fun x => bs x == bs (nameAt l i)) l) = i := by
  by_cases hi : 0 ≤ i ∧ i < l.length
  · obtain ⟨n, rfl⟩ := Int.eq_ofNat_of_zero_le hi.1
    have hlt : n < l.length := by omega
    have hx := List.getElem?_eq_getElem hlt
    have e : nameAt l n = l[n] := by
      unfold nameAt; rw [if_pos hi]; simp [hx]
    rw [e, uniq_idx hu hx (fun _ => rfl) (by simp)]; rfl
  · have e : nameAt l i = ⟨#[]⟩ := by unfold nameAt; rw [if_neg hi]
    rw [e] at h
    obtain ⟨x, hx, h2⟩ := List.any_eq_true.1 h
    exact absurd (bs_ext (by simpa using h2)) (name_ne (hn x hx))
theorem idx_clusAt {l : List Cluster} (hn : ∀ x ∈ l, nameB (bs x.name) = true) (hu : Uniq (fun (x y : Cluster) => bs x.name == bs y.name) l) {i : Int} (h : hasC l (clusAt l i) = true) : idxI (idxO (fun (x : Cluster) => bs x.name == bs (clusAt l i)) l) = i := by
  by_cases hi : 0 ≤ i ∧ i < l.length
  · obtain ⟨n, rfl⟩ := Int.eq_ofNat_of_zero_le hi.1
    have hlt : n < l.length := by omega
    have hx := List.getElem?_eq_getElem hlt
    have e : clusAt l n = l[n].name := by
      unfold clusAt; rw [if_pos hi]; simp [hx]
    rw [e, uniq_idx hu hx (fun _ => rfl) (by simp)]; rfl
  · have e : clusAt l i = ⟨#[]⟩ := by unfold clusAt; rw [if_neg hi]
    rw [e] at h
    obtain ⟨x, hx, h2⟩ := List.any_eq_true.1 h
    exact absurd (bs_ext (by simpa using h2)) (name_ne (hn x hx))
theorem built_conf {s : Snap} (h : GoodC (confS s)) : builtS (confS s) = s := by
  have : (s.rules.map (routeOf s)).map (ruleOf (confS s)) = s.rules := by
    rw [List.map_map]
    conv => rhs; rw [← List.map_id s.rules]
    refine List.map_congr_left fun r hr => ?_
    obtain ⟨h1, _, _, h4⟩ := h.rt (routeOf s r) (List.mem_map.2 ⟨r, hr, rfl⟩)
    have e1 := idx_nameAt h.ln h.lu h1
    have e4 := idx_clusAt (fun x hx => (h.cl x hx).1) h.cu h4
    exact rule_ext e1 rfl rfl e4
  show (⟨s.listens, (s.rules.map (routeOf s)).map (ruleOf (confS s)), s.clusters⟩ : Snap) = s
  rw [this]
theorem built_inj {c d : Config} (hc : GoodC c) (hd : GoodC d) : builtS c = builtS d ↔ c = d :=
  ⟨fun h => by rw [← conf_built hc, ← conf_built hd, h], fun h => by rw [h]⟩
end Go.Proofs.Ytedjbhpocedagaa.Sx
