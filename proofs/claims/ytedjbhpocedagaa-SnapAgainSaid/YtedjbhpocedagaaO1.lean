/- What came in, read as data, is plain data in frozen memory: by the types' shapes. -/
import Derived.Test.YtedjbhpocedagaaD1
import Derived.ChangeArms
import Derived.WideShapes
namespace Go.Proofs.Ytedjbhpocedagaa.Sx
open Go.RowKit
section
variable {H : Type} {enc : TypeId × Value → H} {P : Program} {W : World}
abbrev tr (enc : TypeId × Value → H) (P : Program) (W : World) (fuel : Nat) (t : TypeId) (cs : List Value) := DataW.trod enc P W 0 (fun _ => true) true fuel t cs
/-- Whatever of type t can be read is a datum. -/
def Rds {α : Type} (enc : TypeId × Value → H) (P : Program) (W : World) (t : TypeId) (R : RP α) : Prop := ∀ fuel cs x, tr enc P W fuel t cs = some x → ∃ a, R (allG W) cs a
theorem rd_int {t : TypeId} (ht : P.underlying t = some (.int .i64)) : Rds enc P W t rInt := by
  intro fuel cs x h
  cases fuel with
  | zero => simp [tr, DataW.trod] at h
  | succ n =>
    unfold tr DataW.trod at h
    rw [ht] at h
    split at h <;> try (first | (cases h; done) | (simp_all; done))
    rename_i heq
    cases heq
    split at h
    · rename_i hc
      obtain ⟨rfl, hw⟩ := hc
      exact ⟨_, rfl, inr_of hw⟩
    · cases h
theorem rd_u64 {t : TypeId} (ht : P.underlying t = some (.int .u64)) : Rds enc P W t rU64 := by
  intro fuel cs x h
  cases fuel with
  | zero => simp [tr, DataW.trod] at h
  | succ n =>
    unfold tr DataW.trod at h
    rw [ht] at h
    split at h <;> try (first | (cases h; done) | (simp_all; done))
    rename_i heq
    cases heq
    split at h
    · rename_i hc
      obtain ⟨rfl, hw⟩ := hc
      exact ⟨_, rfl, inu_of hw⟩
    · cases h
theorem rd_bool {t : TypeId} (ht : P.underlying t = some .bool) : Rds enc P W t rBool := by
  intro fuel cs x h
  cases fuel with
  | zero => simp [tr, DataW.trod] at h
  | succ n =>
    unfold tr DataW.trod at h
    rw [ht] at h
    split at h <;> try (first | cases h; done | simp_all; done)
    exact ⟨_, rfl⟩
theorem rd_str {t : TypeId} (ht : P.underlying t = some .string) : Rds enc P W t rStr := by
  intro fuel cs x h
  cases fuel with
  | zero => simp [tr, DataW.trod] at h
  | succ n =>
    unfold tr DataW.trod at h
    rw [ht] at h
    split at h <;> simp_all
    exact ⟨_, rfl⟩
/-- A slice's one cell. -/
def rSlc {α : Type} (sz : Nat) (R : RP α) : RP (List α) := fun g cs l => ∃ v, cs = [v] ∧ rSl sz R g v l
theorem mapM_get' {α β : Type} {f : α → Option β} : ∀ {l : List α} {r : List β}, l.mapM f = some r → ∀ (i : Nat) x, l[i]? = some x → ∃ y, r[i]? = some y ∧ f x = some y := by
  intro l
  induction l with
  | nil => intro r _ i x hx; simp at hx
  | cons a l ih =>
    intro r h i x hx
    simp only [List.mapM_cons, Option.bind_eq_bind, Option.bind_eq_some_iff, Option.pure_def, Option.some.injEq] at h
    obtain ⟨y, hy, ys, hys, rfl⟩ := h
    cases i with
    | zero => simp at hx; subst hx; exact ⟨y, rfl, hy⟩
    | succ i => simpa using ih hys i x (by simpa using hx)
theorem rd_slice {α : Type} {t e : TypeId} {sz : Nat} {R : RP α} (ht : P.underlying t = some (.slice e)) (hs : P.cellsOf e = sz) (_ : 0 < sz) (hR : Rds enc P W e R) : Rds enc P W t (rSlc sz R) := by
  intro fuel cs x h
  rcases DataW.trod_slice ht h with ⟨rfl, _⟩ | ⟨a, len, cap, elems, rest, n, _, rfl, _, _, hl, hc, hel, hget, _⟩
  · exact ⟨[], _, rfl, none, 0, rfl, Nat.le_refl _, Nat.zero_le _, fun _ => ⟨rfl, rfl⟩, fun i x hx => by simp at hx⟩
  · rw [hs] at hget
    have hel' : ∀ i, i < len → ∃ (x : α) (ec : List Value), ec.length = sz ∧ R (allG W) ec x ∧ Rcs (allG W) (a.add (i * sz)) ec := fun i hi => by
      have h1 := hget i hi
      rw [List.getElem?_eq_getElem (by omega)] at h1
      obtain ⟨ec, he, hr⟩ := Option.bind_eq_some_iff.1 h1
      obtain ⟨x, hx⟩ := hR n ec _ hr
      unfold World.cells? at he
      rw [if_pos (Nat.zero_le _)] at he
      have hlen := mapM_some_length he
      refine ⟨x, ec, by simpa using hlen, hx, fun j u hu => ?_⟩
      have hj := (List.getElem?_eq_some_iff.1 hu).1
      have hsz : ec.length = sz := by simpa using hlen
      obtain ⟨y, hy1, hy2⟩ := mapM_get' he j j (List.getElem?_range (by omega))
      rw [hu] at hy1; cases hy1
      refine ⟨?_, hy2⟩
      show _ < W.heap.size
      unfold World.cell? at hy2
      cases hh : W.heap[((a.add (i * sz)).add j).block]? with
      | none => rw [hh] at hy2; cases hy2
      | some o => exact (Array.getElem?_eq_some_iff.1 hh).1
    let f : Fin len → α := fun i => Classical.choose (hel' i.1 i.2)
    have hf : ∀ i : Fin len, ∃ (ec : List Value), ec.length = sz ∧ R (allG W) ec (f i) ∧ Rcs (allG W) (a.add (i.1 * sz)) ec := fun i => Classical.choose_spec (hel' i.1 i.2)
    refine ⟨List.ofFn f, _, rfl, some a, cap, by simp, by simpa using hl, hc, (fun h => by cases h), fun i x hx => ⟨a, rfl, ?_⟩⟩
    obtain ⟨hi, he⟩ := List.getElem?_eq_some_iff.1 hx
    simp only [List.getElem_ofFn] at he
    simp only [List.length_ofFn] at hi
    have := hf ⟨i, hi⟩
    rw [← he]; exact this

/-- A struct's fields: offset, cells, type. -/
def fieldsOf (P : Program) (t : TypeId) : Option (List (Nat × Nat × TypeId)) := match P.underlying t with
  | some (.struct fs) => some (fs.toList.map fun f => (f.offset, P.cellsOf f.type, f.type))
  | _ => none
theorem fld_at {t : TypeId} {l : List (Nat × Nat × TypeId)} (hf : fieldsOf P t = some l) {fuel : Nat} {cs : List Value} {x : DataW H × List MemPlace} (h : tr enc P W fuel t cs = some x) :
    cs.length = P.cellsOf t ∧ ∀ (i o s : Nat) (u : TypeId), l[i]? = some (o, s, u) → ∃ n y, tr enc P W n u ((cs.drop o).take s) = some y := by
  unfold fieldsOf at hf
  split at hf
  · rename_i fs ht
    simp only [Option.some.injEq] at hf
    subst hf
    obtain ⟨xs, n, rfl, _, hl, hxs, hget⟩ := DataW.trod_struct ht h
    refine ⟨hl, fun i o s u hi => ?_⟩
    simp only [List.getElem?_map, Option.map_eq_some_iff, Array.getElem?_toList] at hi
    obtain ⟨f, hf, he⟩ := hi
    simp only [Prod.mk.injEq] at he
    obtain ⟨rfl, rfl, rfl⟩ := he
    have hlt := (Array.getElem?_eq_some_iff.1 hf).1
    exact ⟨n, xs[i]'(by omega), by rw [← List.getElem?_eq_getElem]; exact hget i f hf⟩
  · cases hf
/-- A field. -/
theorem Rds.fld {α : Type} {u : TypeId} {R : RP α} (hR : Rds enc P W u R) {cs : List Value} (h : ∃ n y, tr enc P W n u cs = some y) : ∃ a, R (allG W) cs a := let ⟨n, y, hy⟩ := h; hR n cs y hy
variable {tS tI tB : TypeId}
theorem rd_route {t : TypeId} (hf : fieldsOf P t = some [(0, 1, tS), (1, 1, tS), (2, 1, tS), (3, 1, tS)]) (hc : P.cellsOf t = 4) (hS : P.underlying tS = some .string) : Rds enc P W t rRoute := by
  intro fuel cs x h
  obtain ⟨hl, hg⟩ := fld_at hf h
  rw [hc] at hl
  match cs, hl with
  | [a, b, c, d], _ =>
    obtain ⟨s0, e0⟩ := (rd_str hS).fld (hg 0 _ _ _ rfl)
    obtain ⟨s1, e1⟩ := (rd_str hS).fld (hg 1 _ _ _ rfl)
    obtain ⟨s2, e2⟩ := (rd_str hS).fld (hg 2 _ _ _ rfl)
    obtain ⟨s3, e3⟩ := (rd_str hS).fld (hg 3 _ _ _ rfl)
    cases e0; cases e1; cases e2; cases e3
    exact ⟨⟨s0, s1, s2, s3⟩, rfl⟩
theorem rd_rule {t : TypeId} (hf : fieldsOf P t = some [(0, 1, tI), (1, 1, tS), (2, 1, tS), (3, 1, tI)]) (hc : P.cellsOf t = 4) (hS : P.underlying tS = some .string) (hI : P.underlying tI = some (.int .i64)) : Rds enc P W t rRule := by
  intro fuel cs x h
  obtain ⟨hl, hg⟩ := fld_at hf h
  rw [hc] at hl
  match cs, hl with
  | [a, b, c, d], _ =>
    obtain ⟨s0, e0, w0⟩ := (rd_int hI).fld (hg 0 _ _ _ rfl)
    obtain ⟨s1, e1⟩ := (rd_str hS).fld (hg 1 _ _ _ rfl)
    obtain ⟨s2, e2⟩ := (rd_str hS).fld (hg 2 _ _ _ rfl)
    obtain ⟨s3, e3, w3⟩ := (rd_int hI).fld (hg 3 _ _ _ rfl)
    cases e0; cases e1; cases e2; cases e3
    exact ⟨⟨s0, s1, s2, s3⟩, rfl, w0, w3⟩
theorem rd_cluster {t tL : TypeId} (hf : fieldsOf P t = some [(0, 1, tS), (1, 1, tI), (2, 1, tI), (3, 1, tL)]) (hc : P.cellsOf t = 4) (hS : P.underlying tS = some .string) (hI : P.underlying tI = some (.int .i64)) (hL : P.underlying tL = some (.slice tB)) (hB : P.underlying tB = some .bool) (hcB : P.cellsOf tB = 1) : Rds enc P W t rCluster := by
  intro fuel cs x h
  obtain ⟨hl, hg⟩ := fld_at hf h
  rw [hc] at hl
  match cs, hl with
  | [a, b, c, d], _ =>
    obtain ⟨s0, e0⟩ := (rd_str hS).fld (hg 0 _ _ _ rfl)
    obtain ⟨s1, e1, w1⟩ := (rd_int hI).fld (hg 1 _ _ _ rfl)
    obtain ⟨s2, e2, w2⟩ := (rd_int hI).fld (hg 2 _ _ _ rfl)
    obtain ⟨s3, v, e3, h3⟩ := (rd_slice hL hcB (by omega) (rd_bool hB)).fld (hg 3 _ _ _ rfl)
    cases e0; cases e1; cases e2; cases e3
    exact ⟨⟨s0, s1, s2, s3⟩, _, rfl, w1, w2, h3⟩
/-- Three slices. -/
theorem rd_three {α β γ : Type} {t t0 t1 t2 e0 e1 e2 : TypeId} {z0 z1 z2 : Nat} {R0 : RP α} {R1 : RP β} {R2 : RP γ} (hf : fieldsOf P t = some [(0, 1, t0), (1, 1, t1), (2, 1, t2)]) (hc : P.cellsOf t = 3)
    (h0 : P.underlying t0 = some (.slice e0)) (h1 : P.underlying t1 = some (.slice e1)) (h2 : P.underlying t2 = some (.slice e2)) (c0 : P.cellsOf e0 = z0) (c1 : P.cellsOf e1 = z1) (c2 : P.cellsOf e2 = z2) (p0 : 0 < z0) (p1 : 0 < z1) (p2 : 0 < z2)
    (r0 : Rds enc P W e0 R0) (r1 : Rds enc P W e1 R1) (r2 : Rds enc P W e2 R2) {fuel : Nat} {cs : List Value} {x : DataW H × List MemPlace} (h : tr enc P W fuel t cs = some x) :
    ∃ a b d, cs = [a, b, d] ∧ (∃ l, rSl z0 R0 (allG W) a l) ∧ (∃ l, rSl z1 R1 (allG W) b l) ∧ ∃ l, rSl z2 R2 (allG W) d l := by
  obtain ⟨hl, hg⟩ := fld_at hf h
  rw [hc] at hl
  match cs, hl with
  | [a, b, c], _ =>
    obtain ⟨s0, v0, q0, k0⟩ := (rd_slice h0 c0 p0 r0).fld (hg 0 _ _ _ rfl)
    obtain ⟨s1, v1, q1, k1⟩ := (rd_slice h1 c1 p1 r1).fld (hg 1 _ _ _ rfl)
    obtain ⟨s2, v2, q2, k2⟩ := (rd_slice h2 c2 p2 r2).fld (hg 2 _ _ _ rfl)
    cases q0; cases q1; cases q2
    exact ⟨_, _, _, rfl, ⟨s0, k0⟩, ⟨s1, k1⟩, s2, k2⟩
end
/-- A struct by value. -/
def aV {α : Type} (R : RP α) (g : GW) (v : Value) (a : α) : Prop := ∃ cs, v = .agg ⟨cs⟩ ∧ R g cs a
end Go.Proofs.Ytedjbhpocedagaa.Sx
