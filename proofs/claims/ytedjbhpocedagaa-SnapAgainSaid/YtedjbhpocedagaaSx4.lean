/- A symbolic evaluator over the model's code, part 4: the operations that only read do what the evaluator says. -/
import Derived.Test.YtedjbhpocedagaaSx3
namespace Go.Proofs.Ytedjbhpocedagaa.Sx
open Go.RowKit

theorem run_v {P : Program} {w w' : World} {s : Sem Value} {x : Value} (h : s.run P w = .ok x w') : (do pure (Next.value (← s)) : Sem Next).run P w = .ok (.value x) w' := by
  simp [h, Result.andThen]
theorem run_u {P : Program} {w w' : World} {s : Sem Unit} (h : s.run P w = .ok () w') : (do s; pure Next.skip : Sem Next).run P w = .ok .skip w' := by
  simp [h, Result.andThen]

theorem run_sizeT {P : Program} {t : TypeId} {size : Nat} (hs : sizeT P t = some size) (w : World) : (sizeOf t).run P w = .ok size w := by
  simp only [sizeT, Option.map_eq_some_iff] at hs
  obtain ⟨i, hi, rfl⟩ := hs
  simp [sizeOf, typeInfo, Sem.run_bind, hi, Result.andThen]
theorem run_aggT {P : Program} {t : TypeId} {agg : Bool} (ha : aggT P t = some agg) (w : World) : (isAgg t).run P w = .ok agg w := by
  unfold aggT at ha
  simp only [isAgg, underlying, Sem.run_bind, run_program, Result.andThen]
  split at ha <;> rename_i hu <;> simp at ha <;> subst ha <;> simp [hu]

/-- Cells of the call's own block. -/
theorem HSim.blk_cell {fr : Fr} {hs : Hs} {w : World} (h : HSim fr hs w) {id b : Nat} {ty : TypeId} {cells : List SV} (hf : findBlk id hs.rs = some (b, ty, cells)) :
    w.heap[b]? = some (.cells (concL cells).toArray ty (0, 0)) ∧ ∀ c ∈ cells, (conc c).oneCell' = true := by
  obtain ⟨l1, l2, e⟩ := findBlk_split hf
  exact h.res (.blk id b ty cells) (by rw [e]; simp)
theorem HSim.row_own {fr : Fr} {hs : Hs} {w : World} (h : HSim fr hs w) {id : Nat} {oa : Option Addr} {n cap : Nat} {ety : TypeId} {size : Nat} {cs : List Value} (hf : findRow id hs.rs = some (oa, n, cap, ety, size, cs)) :
    w.ownsRow 0 ety size (.slice oa n cap) n cs ∧ ∀ u ∈ cs, u.oneCell' = true := by
  obtain ⟨l1, l2, e⟩ := findRow_split hf
  exact h.res (.row id oa n cap ety size cs) (by rw [e]; simp)

theorem cell_of_heap {w : World} {b : Nat} {cs : Array Value} {ty : TypeId} {fr : Nat × Nat} (h : w.heap[b]? = some (.cells cs ty fr)) (o : Nat) : w.cell? ⟨b, o, none⟩ = cs[o]? := by
  simp [World.cell?, h]

theorem addr_add (b o n : Nat) : (⟨b, o, none⟩ : Addr).add n = ⟨b, o + n, none⟩ := by
  unfold Addr.add; split
  · rename_i h; subst h; rfl
  · rfl
theorem add_add (a : Addr) (i j : Nat) : (a.add i).add j = a.add (i + j) := by
  unfold Addr.add
  split <;> split <;> split <;> first | omega | (simp_all; done) | (simp; omega)

theorem loadVar_run {P : Program} {t : TypeId} {size : Nat} {agg : Bool} (hs : sizeT P t = some size) (ha : aggT P t = some agg) {w : World} {a : Addr} :
    (∀ x, agg = false → w.cell? a = some x → (loadVar t a).run P w = .ok x w) ∧
    (∀ xs : List Value, agg = true → xs.length = size → (∀ i u, xs[i]? = some u → w.cell? (a.add i) = some u) → (loadVar t a).run P w = .ok (.agg ⟨xs⟩) w) := by
  refine ⟨fun x he hx => ?_, fun xs he hl hx => ?_⟩
  · subst he
    simp [loadVar, Sem.run_bind, run_aggT ha, Result.andThen, hx]
  · subst he
    have h1 := run_loadCells_list (P := P) (w := w) a xs (fun j v hv => hx j v hv)
    rw [hl] at h1
    simp [loadVar, Sem.run_bind, run_aggT ha, run_sizeT hs, Result.andThen, h1]

theorem loadS_spec {agg : Bool} {size : Nat} {hs : Hs} {x : SV} {K : SV → Prop} (h : loadS agg size hs x K) {P : Program} {t : TypeId} (hsz : sizeT P t = some size) (ha : aggT P t = some agg) (hps : 0 < size) :
    ∃ s, K s ∧ ∀ fr w, HSim fr hs w → (Instr.loadAt t (conc x)).run P w = .ok (conc s) w := by
  have go : ∀ {a : Addr} {w : World} {v : Value}, (loadVar t a).run P w = .ok v w → (Instr.loadAt t (.pointer (some a))).run P w = .ok v w := fun h => by
    simp [Instr.loadAt, Instr.sureAddr, h]
  unfold loadS at h
  split at h
  · rename_i id b o
    split at h
    · rename_i b' ty cells hf
      obtain ⟨rfl, h⟩ := h
      cases agg with
      | true =>
        simp only at h
        split at h
        · rename_i r hr
          obtain ⟨h1, h2⟩ := cutL_spec hr
          refine ⟨_, h, fun fr w hw => go ?_⟩
          have hb := hw.blk_cell hf
          refine (loadVar_run hsz ha (w := w)).2 (concL r) rfl (by rw [concL_length, ← h2]; simp; omega) fun i u hu => ?_
          rw [addr_add, cell_of_heap hb.1]
          rw [← h2, concL_take, concL_drop, List.getElem?_take] at hu
          split at hu
          · simpa using hu
          · cases hu
        · exact h.elim
      | false =>
        simp only at h
        split at h
        · rename_i s hr
          rw [force_eq] at h
          rw [nthL_eq] at hr
          refine ⟨_, h, fun fr w hw => go ?_⟩
          have hb := hw.blk_cell hf
          rw [conc_norm]
          exact (loadVar_run hsz ha (w := w)).1 _ rfl (by rw [cell_of_heap hb.1]; simp [concL_getElem?, hr])
        · exact h.elim
    · exact h.elim
  · rename_i id oa n cap j
    split at h
    · rename_i oa' n' cap' ety sz cs hf
      obtain ⟨⟨rfl, rfl, rfl⟩, h⟩ := h
      have cellAt : ∀ fr w, HSim fr hs w → ∀ i u, cs[i]? = some u → ∃ g, oa = some ⟨g, 0, none⟩ ∧ w.cell? ⟨g, i, none⟩ = some u := fun fr w hw i u hu => by
        obtain ⟨⟨h1, h2⟩, _⟩ := hw.row_own hf
        rcases h2 with ⟨_, rfl⟩ | ⟨g, cap', cur, he, _, hh, _, _, _, htk⟩
        · simp at h1; subst h1; simp at hu
        · simp only [Value.slice.injEq] at he
          obtain ⟨rfl, _, rfl⟩ := he
          refine ⟨g, rfl, ?_⟩
          rw [cell_of_heap hh, ← Array.getElem?_toList]
          rw [← htk, List.getElem?_take] at hu
          split at hu
          · exact hu
          · cases hu
      cases agg with
      | true =>
        obtain ⟨xs, ⟨hl, hx⟩, h⟩ := h
        refine ⟨_, h, fun fr w hw => ?_⟩
        have hpos : ∃ g, oa = some ⟨g, 0, none⟩ ∨ xs = [] := by
          cases xs with
          | nil => exact ⟨0, .inr rfl⟩
          | cons y ys => obtain ⟨g, hg, _⟩ := cellAt fr w hw (j + 0) y (hx 0 y rfl); exact ⟨g, .inl hg⟩
        obtain ⟨g, hg | hg⟩ := hpos
        · subst hg
          simp only [conc, Option.map_some]
          refine go ((loadVar_run hsz ha (w := w)).2 xs rfl hl fun i u hu => ?_)
          obtain ⟨g', hg', hc⟩ := cellAt fr w hw _ _ (hx i u hu)
          simp only [Option.some.injEq, Addr.mk.injEq, and_true] at hg'
          subst hg'
          rw [addr_add, addr_add, Nat.zero_add]; exact hc
        · subst hg
          simp at hl; omega
      | false =>
        obtain ⟨u, hu, h⟩ := h
        refine ⟨_, h, fun fr w hw => ?_⟩
        obtain ⟨g, rfl, hc⟩ := cellAt fr w hw _ _ hu
        simp only [conc, Option.map_some]
        exact go ((loadVar_run hsz ha (w := w)).1 _ rfl (by rw [addr_add, Nat.zero_add]; exact hc))
    · exact h.elim
  · rename_i a
    cases agg with
    | true =>
      obtain ⟨xs, ⟨hl, hx⟩, h⟩ := h
      exact ⟨_, h, fun fr w hw => go ((loadVar_run hsz ha (w := w)).2 xs rfl hl fun i u hu => (hx i u hu).at hw.good)⟩
    | false =>
      obtain ⟨u, hu, h⟩ := h
      exact ⟨_, h, fun fr w hw => go ((loadVar_run hsz ha (w := w)).1 _ rfl (hu.at hw.good))⟩
  · exact h.elim

theorem Opd.ko_spec {rs : List Res} {sl : Sl} {a : Act} {o : Option Operand} {k : Option SV → Prop} (h : Opd.ko rs sl (o.map trOpd) k) (hs : SlotSim sl a) : ∃ s, k s ∧ o.map a.eval = s.map conc := by
  cases o with
  | none => exact ⟨none, h, rfl⟩
  | some x => obtain ⟨s, h1, h2⟩ := Opd.k_spec (k := fun s => k (some s)) h hs; exact ⟨some s, h1, by simp [h2]⟩

theorem slcS_all {size : Nat} {x : SV} {lo hi mx : Option SV} {K : SV → Prop} (h : slcS size x lo hi mx K) {P : Program} {t e : TypeId} (hu : P.underlying t = some (.slice e)) (hsz : sizeT P e = some size) :
    ∃ s, K s ∧ ∀ w, (Instr.sliceAt t (conc x) (lo.map conc) (hi.map conc) (mx.map conc)).run P w = .ok (conc s) w := by
  have h0 : ∀ (y : Value) (lo hi mx : Option Value) w, (Instr.sliceAt t y lo hi mx).run P w = (Instr.slice t y lo hi mx).run P w := fun y lo hi mx w => by
    simp [Instr.sliceAt, run_underlying hu]
  have ez : ∀ (oa : Option Addr), Option.map (fun x : Addr => x.add 0) oa = oa := fun oa => by cases oa <;> simp [Addr.add]
  unfold slcS at h
  split at h
  · rename_i oa n cap
    split at h
    · exact ⟨_, h, fun w => by rw [h0]; simp [conc, Instr.slice, run_underlying hu, Instr.sliceBounds, run_sizeT hsz, ez]⟩
    · rename_i kl l
      obtain ⟨⟨a1, a2⟩, h⟩ := h
      exact ⟨_, h, fun w => by rw [h0]; simp [conc, Instr.slice, run_underlying hu, Instr.sliceBounds, Instr.sliceBound, asIntOf, run_sizeT hsz, a1, a2]⟩
    · rename_i kh hh
      obtain ⟨⟨a1, a2⟩, h⟩ := h
      exact ⟨_, h, fun w => by rw [h0]; simp [conc, Instr.slice, run_underlying hu, Instr.sliceBounds, Instr.sliceBound, asIntOf, run_sizeT hsz, ez, a1, a2]⟩
    · rename_i kl l kh hh
      obtain ⟨⟨a1, a2, a3⟩, h⟩ := h
      have e1 : (0 : Int) ≤ hh := by omega
      exact ⟨_, h, fun w => by rw [h0]; simp [conc, Instr.slice, run_underlying hu, Instr.sliceBounds, Instr.sliceBound, asIntOf, run_sizeT hsz, a1, a2, a3, e1, Int.toNat_of_nonneg e1]⟩
    · rename_i kh hh km m
      obtain ⟨⟨a1, a2, a3⟩, h⟩ := h
      have e1 : (0 : Int) ≤ m := by omega
      exact ⟨_, h, fun w => by rw [h0]; simp [conc, Instr.slice, run_underlying hu, Instr.sliceBounds, Instr.sliceBound, asIntOf, run_sizeT hsz, ez, a1, a2, a3, e1, Int.toNat_of_nonneg e1]⟩
    · rename_i kl l kh hh km m
      obtain ⟨⟨a1, a2, a3, a4⟩, h⟩ := h
      have e1 : (0 : Int) ≤ m := by omega
      have e2 : (0 : Int) ≤ hh := by omega
      have e3 : (m.toNat = l.toNat) ↔ m = l := by omega
      exact ⟨_, h, fun w => by rw [h0]; simp [conc, Instr.slice, run_underlying hu, Instr.sliceBounds, Instr.sliceBound, asIntOf, run_sizeT hsz, a1, a2, a3, a4, e1, e2, e3, Int.toNat_of_nonneg e1, Int.toNat_of_nonneg e2]⟩
    · exact h.elim
  · exact h.elim

theorem slcsS_all {x : SV} {lo hi : Option SV} {K : SV → Prop} (h : slcsS x lo hi K) {P : Program} {t : TypeId} (hu : P.underlying t = some .string) :
    ∃ s, K s ∧ ∀ w, (Instr.sliceAt t (conc x) (lo.map conc) (hi.map conc) none).run P w = .ok (conc s) w := by
  have h0 : ∀ (y : Value) (lo hi mx : Option Value) w, (Instr.sliceAt t y lo hi mx).run P w = (Instr.slice t y lo hi mx).run P w := fun y lo hi mx w => by
    simp [Instr.sliceAt, run_underlying hu]
  unfold slcsS at h
  split at h
  · rename_i s
    split at h
    · exact ⟨_, h, fun w => by rw [h0]; simp [conc, Instr.slice, run_underlying hu, Instr.sliceBounds]⟩
    · rename_i kl l
      obtain ⟨⟨a1, a2⟩, h⟩ := h
      exact ⟨_, h, fun w => by rw [h0]; simp [conc, Instr.slice, run_underlying hu, Instr.sliceBounds, Instr.sliceBound, asIntOf, a1, a2]⟩
    · rename_i kh hh
      obtain ⟨⟨a1, a2⟩, h⟩ := h
      exact ⟨_, h, fun w => by rw [h0]; simp [conc, Instr.slice, run_underlying hu, Instr.sliceBounds, Instr.sliceBound, asIntOf, a1, a2]⟩
    · rename_i kl l kh hh
      obtain ⟨⟨a1, a2, a3⟩, h⟩ := h
      have e1 : (0 : Int) ≤ hh := by omega
      exact ⟨_, h, fun w => by rw [h0]; simp [conc, Instr.slice, run_underlying hu, Instr.sliceBounds, Instr.sliceBound, asIntOf, a1, a2, a3, e1, Int.toNat_of_nonneg e1]⟩
    · exact h.elim
  · exact h.elim

theorem eval_map (a : Act) (l : Array Operand) : (l.map a.eval).toList = l.toList.map a.eval := by simp

theorem mapM_some {α β : Type} (f : α → Option β) : ∀ (l : List α) {r : List β}, l.mapM f = some r → l.map f = r.map some
  | [], r, h => by simp at h; subst h; rfl
  | x :: l, r, h => by
    simp only [List.mapM_cons, Option.bind_eq_bind, Option.bind_eq_some_iff] at h
    obtain ⟨y, hy, l', hl, hr⟩ := h
    simp at hr; subst hr
    simp [hy, mapM_some f l hl]

theorem zeroT_spec {P : Program} {t : TypeId} {z : List Value} (h : zeroT P t = some z) (w : World) : ∃ v, (zeroValue t).run P w = .ok v w ∧ v.cells.toList = z ∧ ∀ c ∈ z, c.oneCell' = true := by
  unfold zeroT at h
  split at h
  · rename_i v hv
    split at h
    · rename_i hall
      simp at h; subst h
      simp only [Option.bind_eq_some_iff] at hv
      obtain ⟨i, hi, hz⟩ := hv
      refine ⟨v, by simp [zeroValue, typeInfo, hi, hz], rfl, fun c hc => ?_⟩
      exact Array.all_eq_true_iff_forall_mem.1 hall c (by simpa using hc)
    · cases h
  · cases h

theorem rd_sound {P : Program} {o : Oper} {so : SOp} (ht : trOp P o = some so) (hrd : so.reads = true) {sl : Sl} {a : Act} (hsl : SlotSim sl a) {hs : Hs} {K : SV → Prop} (h : rdS so sl hs K) :
    ∃ s, K s ∧ ∀ fr w, HSim fr hs w → (execOp a.eval o).run P w = .ok (.value (conc s)) w := by
  unfold trOp at ht
  split at ht
  · -- move
    rename_i x ho
    simp at ht; subst ht
    obtain ⟨s, hk, he⟩ := Opd.k_spec h hsl
    exact ⟨s, hk, fun fr w hw => by simp [execOp, ho, he]⟩
  · rename_i x ho
    simp at ht; subst ht
    obtain ⟨s, hk, he⟩ := Opd.k_spec h hsl
    exact ⟨s, hk, fun fr w hw => by simp [execOp, ho, he]⟩
  · -- pick
    rename_i c x y ho
    simp at ht; subst ht
    simp only [rdS] at h
    obtain ⟨c', hk, he⟩ := Opd.k_spec h hsl
    have fin : ∀ (b : Bool), conc c' = .bool b → (∃ s, K s ∧ (if b then a.eval x else a.eval y) = conc s) → ∃ s, K s ∧ ∀ fr w, HSim fr hs w → (execOp a.eval o).run P w = .ok (.value (conc s)) w := by
      rintro b hb ⟨s, hs', hv⟩
      exact ⟨s, hs', fun fr w hw => by simp [execOp, ho, he, hb, asBool, hv]⟩
    split at hk
    · obtain ⟨s, h1, h2⟩ := Opd.k_spec hk hsl; exact fin true rfl ⟨s, h1, by simpa using h2⟩
    · obtain ⟨s, h1, h2⟩ := Opd.k_spec hk hsl; exact fin false rfl ⟨s, h1, by simpa using h2⟩
    · rename_i b
      cases hb : b with
      | true => obtain ⟨s, h1, h2⟩ := Opd.k_spec (hk.1 hb) hsl; exact fin true (by rw [hb]; rfl) ⟨s, h1, by simpa using h2⟩
      | false => obtain ⟨s, h1, h2⟩ := Opd.k_spec (hk.2 hb) hsl; exact fin false (by rw [hb]; rfl) ⟨s, h1, by simpa using h2⟩
    · exact hk.elim
  · -- binOp
    rename_i op t x y yt ho
    have two : ∀ {k : SV → SV → Prop}, (Opd.k hs.rs sl (trOpd x) fun x => Opd.k hs.rs sl (trOpd y) fun y => k x y) → ∃ x' y', k x' y' ∧ a.eval x = conc x' ∧ a.eval y = conc y' := fun {k} hh => by
      obtain ⟨x', h1, e1⟩ := Opd.k_spec (k := fun x => Opd.k hs.rs sl (trOpd y) fun y => k x y) hh hsl
      obtain ⟨y', h2, e2⟩ := Opd.k_spec (k := fun y => k x' y) h1 hsl
      exact ⟨x', y', h2, e1, e2⟩
    have fin : ∀ (s : SV), K s → (∀ w, (do eqGuard op t x y (a.eval x) (a.eval y); binOp op t (a.eval x) (a.eval y) : Sem Value).run P w = .ok (conc s) w) → ∃ s, K s ∧ ∀ fr w, HSim fr hs w → (execOp a.eval o).run P w = .ok (.value (conc s)) w :=
      fun s hs' hr => ⟨s, hs', fun fr w hw => by simp only [execOp, ho]; exact run_v (hr w)⟩
    have seq : ∀ {s : SV} {w : World}, (binOp op t (a.eval x) (a.eval y)).run P w = .ok (conc s) w → (eqGuard op t x y (a.eval x) (a.eval y)).run P w = .ok () w → (do eqGuard op t x y (a.eval x) (a.eval y); binOp op t (a.eval x) (a.eval y) : Sem Value).run P w = .ok (conc s) w := fun h1 h2 => by
      simp [h1, h2, Result.andThen]
    have bl : ∀ (x' y' : SV) (b1 b2 : Bool), P.underlying t = some .bool → boolOf x' = some b1 → boolOf y' = some b2 → a.eval x = conc x' → a.eval y = conc y' → ∀ w,
        ((op = .eql → (do eqGuard op t x y (a.eval x) (a.eval y); binOp op t (a.eval x) (a.eval y) : Sem Value).run P w = .ok (.bool (b1 == b2)) w) ∧
         (op = .neq → (do eqGuard op t x y (a.eval x) (a.eval y); binOp op t (a.eval x) (a.eval y) : Sem Value).run P w = .ok (.bool (!(b1 == b2))) w)) := fun x' y' b1 b2 hu e1 e2 e3 e4 w => by
      rw [e3, e4, boolOf_spec e1, boolOf_spec e2]
      refine ⟨fun ho => ?_, fun ho => ?_⟩ <;> subst ho <;> simp [eqGuard, binOp, run_equal_bool w t b1 b2 hu]
    have nl : ∀ (kind : Nat) (x' : SV) (b1 : Bool) (d : TypeDesc), P.underlying t = some d → nilT kind d → isNil kind x' = some b1 → a.eval x = conc x' → a.eval y = nilV kind → ∀ w, 
        ((op = .eql → (do eqGuard op t x y (a.eval x) (a.eval y); binOp op t (a.eval x) (a.eval y) : Sem Value).run P w = .ok (.bool b1) w) ∧
         (op = .neq → (do eqGuard op t x y (a.eval x) (a.eval y); binOp op t (a.eval x) (a.eval y) : Sem Value).run P w = .ok (.bool (!b1)) w)) := fun kind x' b1 d hu hd hn e1 e2 w => by
      rw [e1, e2]
      obtain ⟨h1, h2⟩ := isNil_spec hn hu hd w x y
      exact ⟨fun ho => by rw [ho]; exact h1, fun ho => by rw [ho]; exact h2⟩
    have bool2 : ∀ (neg : Bool), P.underlying t = some .bool → op = (if neg then .neq else .eql) → rdS (.binb neg (trOpd x) (trOpd y)) sl hs K → ∃ s, K s ∧ ∀ fr w, HSim fr hs w → (execOp a.eval o).run P w = .ok (.value (conc s)) w := fun neg hu hop h => by
      simp only [rdS] at h
      obtain ⟨x', y', hk, e1, e2⟩ := two h
      unfold binbS at hk
      split at hk
      · exact hk.elim
      · rename_i b1 hb1
        split at hk
        · exact hk.elim
        · rename_i b2 hb2
          cases neg
          · exact fin _ hk fun w => (bl x' y' b1 b2 hu hb1 hb2 e1 e2 w).1 (by simpa using hop)
          · exact fin _ hk fun w => (bl x' y' b1 b2 hu hb1 hb2 e1 e2 w).2 (by simpa using hop)
    have st2 : ∀ (neg : Bool) (ks : List Nat), aggT P t = some true → eqT P t = some ks → op = (if neg then .neq else .eql) → rdS (.binst neg ks (trOpd x) (trOpd y)) sl hs K → ∃ s, K s ∧ ∀ fr w, HSim fr hs w → (execOp a.eval o).run P w = .ok (.value (conc s)) w := fun neg ks hat hks hop h => by
      simp only [rdS] at h
      obtain ⟨x', y', hk, e1, e2⟩ := two h
      unfold eqT at hks
      split at hks
      · rename_i ks' hlv
        split at hks
        · cases hks
        · rename_i hgt
          simp only [Option.some.injEq] at hks
          subst hks
          unfold binstS at hk
          split at hk
          · rename_i hx hy
            have hk := concLK_spec _ (concLK_spec _ hk)
            have hagg : ∀ {z : SV}, isAggS z = true → conc z = .agg ⟨concL (cellsS z)⟩ := fun {z} hz => by
              have hcs := cellsS_spec z
              cases z with
              | agg l => rfl
              | v u => cases u <;> simp [isAggS] at hz; rw [hcs]; rfl
              | _ => simp [isAggS] at hz
            have hxa := hagg hx
            have hya := hagg hy
            split at hk
            · rename_i b hb
              have hrun : ∀ w, (Op.equal t (conc x') (conc y')).run P w = .ok b w := fun w => by
                rw [hxa, hya]
                exact run_eqPlain 8 10000 (by omega) t ks' hlv true hat _ _ b hb w
              have hgd : ∀ w, (eqGuard op t x y (conc x') (conc y')).run P w = .ok () w := fun w => by
                rw [hxa, hya]
                cases neg <;> simp at hop <;> subst hop <;> simp [eqGuard, hgt]
              cases neg
              · refine fin _ hk fun w => seq ?_ (by rw [e1, e2]; exact hgd w)
                simp only [Bool.false_eq_true, if_false] at hop
                subst hop
                rw [e1, e2]
                have := hrun w
                rw [hxa, hya] at this ⊢
                simp [binOp, this, conc]
              · refine fin _ hk fun w => seq ?_ (by rw [e1, e2]; exact hgd w)
                simp only [if_true] at hop
                subst hop
                rw [e1, e2]
                have := hrun w
                rw [hxa, hya] at this ⊢
                simp [binOp, this, conc]
            · exact hk.elim
          · exact hk.elim
      · cases hks
    have nil2 : ∀ (kind : Nat) (neg : Bool) (d : TypeDesc), P.underlying t = some d → nilT kind d → a.eval y = nilV kind → op = (if neg then .neq else .eql) → rdS (.binn kind neg (trOpd x)) sl hs K → ∃ s, K s ∧ ∀ fr w, HSim fr hs w → (execOp a.eval o).run P w = .ok (.value (conc s)) w := fun kind neg d hu hd hy hop h => by
      simp only [rdS] at h
      obtain ⟨x', hk, e1⟩ := Opd.k_spec h hsl
      unfold binnS at hk
      split at hk
      · exact hk.elim
      · rename_i b1 hb1
        cases neg
        · exact fin _ hk fun w => (nl kind x' b1 d hu hd hb1 e1 hy w).1 (by simpa using hop)
        · exact fin _ hk fun w => (nl kind x' b1 d hu hd hb1 e1 hy w).2 (by simpa using hop)
    split at ht
    · simp at ht; subst ht
      simp only [rdS] at h
      obtain ⟨x', y', hk, e1, e2⟩ := two h
      obtain ⟨s, h1, h2⟩ := biniS_all hk
      exact fin s h1 fun w => seq (by rw [e1, e2]; exact (h2 P t w).1) (by rw [e1, e2]; exact (h2 P t w).2 _ _)
    · simp at ht; subst ht
      simp only [rdS] at h
      obtain ⟨x', y', hk, e1, e2⟩ := two h
      obtain ⟨s, h1, h2⟩ := binsS_all hk
      exact fin s h1 fun w => seq (by rw [e1, e2]; exact (h2 P t w).1) (by rw [e1, e2]; exact (h2 P t w).2 _ _)
    · rename_i hu; simp at ht; subst ht; exact bool2 false hu rfl h
    · rename_i hu; simp at ht; subst ht; exact bool2 true hu rfl h
    · rename_i hu; split at ht <;> simp at ht; subst ht; exact nil2 0 false _ hu ⟨_, rfl⟩ rfl rfl h
    · rename_i hu; split at ht <;> simp at ht; subst ht; exact nil2 0 true _ hu ⟨_, rfl⟩ rfl rfl h
    · rename_i hu; split at ht <;> simp at ht; subst ht; exact nil2 1 false _ hu ⟨_, rfl⟩ rfl rfl h
    · rename_i hu; split at ht <;> simp at ht; subst ht; exact nil2 1 true _ hu ⟨_, rfl⟩ rfl rfl h
    · rename_i hu; split at ht <;> simp at ht; subst ht; exact nil2 2 false _ hu ⟨_, _, _, rfl⟩ rfl rfl h
    · rename_i hu; split at ht <;> simp at ht; subst ht; exact nil2 2 true _ hu ⟨_, _, _, rfl⟩ rfl rfl h
    · rename_i hu; obtain ⟨ks, hk, rfl⟩ := Option.map_eq_some_iff.1 ht; exact st2 false ks (by simp [aggT, hu]) hk rfl h
    · rename_i hu; obtain ⟨ks, hk, rfl⟩ := Option.map_eq_some_iff.1 ht; exact st2 true ks (by simp [aggT, hu]) hk rfl h
    · rename_i hu; obtain ⟨ks, hk, rfl⟩ := Option.map_eq_some_iff.1 ht; exact st2 false ks (by simp [aggT, hu]) hk rfl h
    · rename_i hu; obtain ⟨ks, hk, rfl⟩ := Option.map_eq_some_iff.1 ht; exact st2 true ks (by simp [aggT, hu]) hk rfl h
    · cases ht
  · -- not
    rename_i t x ho
    simp at ht; subst ht
    simp only [rdS] at h
    obtain ⟨x', hk, e⟩ := Opd.k_spec h hsl
    unfold notS at hk
    split at hk
    · exact ⟨_, hk, fun fr w hw => by simp [execOp, ho, e, conc, Op.unary]⟩
    · exact ⟨_, hk, fun fr w hw => by simp [execOp, ho, e, conc, Op.unary]⟩
    · exact ⟨_, hk, fun fr w hw => by simp [execOp, ho, e, conc, Op.unary]⟩
    · exact hk.elim
  · -- convert
    rename_i s d x ho
    split at ht
    · rename_i k1 k2 h1 h2
      simp at ht; subst ht
      simp only [rdS] at h
      obtain ⟨x', hk, e⟩ := Opd.k_spec h hsl
      unfold convS at hk
      split at hk
      · exact ⟨_, hk, fun fr w hw => by simp [execOp, ho, e, conc, convert, run_underlying h1, run_underlying h2, Conv.intToInt]⟩
      · exact hk.elim
    · cases ht
  · -- index
    rename_i t x i ho
    have two : ∀ {k : SV → SV → Prop}, (Opd.k hs.rs sl (trOpd x) fun x => Opd.k hs.rs sl (trOpd i) fun y => k x y) → ∃ x' y', k x' y' ∧ a.eval x = conc x' ∧ a.eval i = conc y' := fun {k} hh => by
      obtain ⟨x', h1, e1⟩ := Opd.k_spec (k := fun x => Opd.k hs.rs sl (trOpd i) fun y => k x y) hh hsl
      obtain ⟨y', h2, e2⟩ := Opd.k_spec (k := fun y => k x' y) h1 hsl
      exact ⟨x', y', h2, e1, e2⟩
    split at ht
    · rename_i hu
      simp at ht; subst ht
      simp only [rdS] at h
      obtain ⟨x', i', hk, e1, e2⟩ := two h
      unfold idxsS at hk
      split at hk
      · rename_i s k n
        obtain ⟨c, ⟨h0, hc⟩, hk⟩ := hk
        refine ⟨_, hk, fun fr w hw => ?_⟩
        have hlt : n.toNat < s.size := by
          have := (List.getElem?_eq_some_iff.1 hc).1
          simpa using this
        have hr := run_index_string w t s k n hu
        rw [dif_pos ⟨h0, by omega⟩] at hr
        simp only [execOp, ho, e1, e2, conc]
        refine run_v (hr.trans ?_)
        have : s[n.toNat] = c := by
          have := (List.getElem?_eq_some_iff.1 hc).2
          show s.data[n.toNat] = c
          simpa using this
        rw [this]
      · exact hk.elim
    · rename_i n e hu
      split at ht
      · rename_i size agg hsz hag
        simp at ht; subst ht
        simp only [rdS] at h
        obtain ⟨x', i', hk, e1, e2⟩ := two h
        unfold idxaS at hk
        split at hk
        · rename_i k m
          obtain ⟨j, ⟨rfl, hj⟩, hk⟩ := hk
          obtain ⟨s, hs', hall⟩ := partS_all hk hsz hag
          refine ⟨s, hs', fun fr w hw => ?_⟩
          obtain ⟨cs, hc, hp⟩ := hall w
          simp only [execOp, ho, e1, e2, hc]
          refine run_v ?_
          simp [Instr.index, conc, asIntOf, run_underlying hu, run_sizeT hsz, hj, hp]
        · exact hk.elim
      · cases ht
    · cases ht
  · -- fieldAddr
    rename_i t x f ho
    split at ht
    · rename_i fs hu
      split at ht
      · rename_i fd hfd
        split at ht
        · rename_i n hsz
          simp at ht; subst ht
          simp only [rdS] at h
          obtain ⟨x', hk, e⟩ := Opd.k_spec h hsl
          have go : ∀ (b : Addr) w, conc x' = .pointer (some b) → (execOp a.eval o).run P w = .ok (.value (.pointer (some (b.add fd.offset)))) w := fun b w hb => by
            simp only [execOp, ho, e, hb]
            refine run_v ?_
            simp [Instr.fieldAt, run_underlying hu, hfd, Instr.sureAddr, fieldPlace, run_sizeT hsz]
          unfold fadrS at hk
          split at hk
          · refine ⟨_, hk, fun fr w hw => ?_⟩
            rw [go _ w rfl, addr_add]; rfl
          · rename_i id oa n cap j
            refine ⟨_, hk, fun fr w hw => ?_⟩
            rw [go (oa.add j) w rfl, add_add]; rfl
          · exact ⟨_, hk, fun fr w hw => go _ w rfl⟩
          · exact hk.elim
        · cases ht
      · cases ht
    · cases ht
  · -- field
    rename_i t x f ho
    split at ht
    · rename_i fs hu
      split at ht
      · rename_i fd hfd
        split at ht
        · rename_i size agg hsz hag
          simp at ht; subst ht
          simp only [rdS] at h
          obtain ⟨x', hk, e⟩ := Opd.k_spec h hsl
          obtain ⟨s, hs', hall⟩ := partS_all hk hsz hag
          refine ⟨s, hs', fun fr w hw => ?_⟩
          obtain ⟨cs, hc, hp⟩ := hall w
          simp only [execOp, ho, e, hc]
          refine run_v ?_
          simp [Instr.field, run_underlying hu, hfd, asAgg, hp]
        · cases ht
      · cases ht
    · cases ht
  · -- indexAddr
    rename_i t x i ho
    have two : ∀ {k : SV → SV → Prop}, (Opd.k hs.rs sl (trOpd x) fun x => Opd.k hs.rs sl (trOpd i) fun y => k x y) → ∃ x' y', k x' y' ∧ a.eval x = conc x' ∧ a.eval i = conc y' := fun {k} hh => by
      obtain ⟨x', h1, e1⟩ := Opd.k_spec (k := fun x => Opd.k hs.rs sl (trOpd i) fun y => k x y) hh hsl
      obtain ⟨y', h2, e2⟩ := Opd.k_spec (k := fun y => k x' y) h1 hsl
      exact ⟨x', y', h2, e1, e2⟩
    split at ht
    · rename_i e hu
      split at ht
      · rename_i size hsz
        simp at ht; subst ht
        simp only [rdS] at h
        obtain ⟨x', i', hk, e1, e2⟩ := two h
        unfold iadrS at hk
        split at hk
        · rename_i k m
          have go : ∀ (b : Addr) (n cap : Nat) w, conc x' = .slice (some b) n cap → 0 ≤ m → m < n → (execOp a.eval o).run P w = .ok (.value (.pointer (some (b.add (m.toNat * size))))) w := fun b n cap w hx h0 h1 => by
            simp only [execOp, ho, e1, e2, hx]
            refine run_v ?_
            simp [Instr.indexAt, conc, asIntOf, run_underlying hu, run_sizeT hsz, h0, h1]
          split at hk
          · rename_i oa n cap
            obtain ⟨b, rfl, ⟨h0, h1⟩, hk⟩ := hk
            exact ⟨_, hk, fun fr w hw => go _ _ _ w rfl h0 h1⟩
          · rename_i id b o' n cap
            obtain ⟨j, ⟨rfl, hj⟩, hk⟩ := hk
            refine ⟨_, hk, fun fr w hw => ?_⟩
            rw [go _ _ _ w rfl (by omega) (by omega), addr_add]; simp [conc]
          · rename_i id oa n cap
            split at hk
            · rename_i oa' n' cap' ety size' cs hf
              obtain ⟨⟨rfl, rfl, rfl, rfl⟩, ⟨h0, h1⟩, hk⟩ := hk
              refine ⟨_, hk, fun fr w hw => ?_⟩
              cases oa with
              | none =>
                exfalso
                obtain ⟨⟨g1, g2⟩, _⟩ := hw.row_own hf
                rcases g2 with ⟨_, rfl⟩ | ⟨g, cap', cur, he, _⟩
                · omega
                · simp at he
              | some b => exact go b n cap w rfl h0 h1
            · exact hk.elim
          · exact hk.elim
        · exact hk.elim
      · cases ht
    · rename_i n e hu
      split at ht
      · rename_i size hsz
        simp at ht; subst ht
        simp only [rdS] at h
        obtain ⟨x', i', hk, e1, e2⟩ := two h
        unfold iadraS at hk
        split at hk
        · rename_i k m
          have go : ∀ (b : Addr) w, conc x' = .pointer (some b) → 0 ≤ m → m < n → (execOp a.eval o).run P w = .ok (.value (.pointer (some (b.add (m.toNat * size))))) w := fun b w hx h0 h1 => by
            simp only [execOp, ho, e1, e2, hx]
            refine run_v ?_
            simp [Instr.indexAt, conc, asIntOf, run_underlying hu, run_sizeT hsz, h0, h1, Instr.sureAddr]
          split at hk
          · obtain ⟨j, ⟨rfl, hj⟩, hk⟩ := hk
            refine ⟨_, hk, fun fr w hw => ?_⟩
            rw [go _ w rfl (by omega) (by omega), addr_add]; simp [conc]
          · obtain ⟨⟨h0, h1⟩, hk⟩ := hk
            exact ⟨_, hk, fun fr w hw => go _ w rfl h0 h1⟩
          · exact hk.elim
        · exact hk.elim
      · cases ht
    · cases ht
  · -- load
    rename_i t x ho
    split at ht
    · rename_i size agg hsz hag
      split at ht
      · rename_i hpos
        simp at ht; subst ht
        simp only [rdS] at h
        obtain ⟨x', hk, e⟩ := Opd.k_spec h hsl
        obtain ⟨s, hs', hall⟩ := loadS_spec hk hsz hag hpos
        exact ⟨s, hs', fun fr w hw => by simp only [execOp, ho, e]; exact run_v (hall fr w hw)⟩
      · cases ht
    · cases ht
  · -- nilCheck
    rename_i x ho
    simp at ht; subst ht
    simp only [rdS] at h
    obtain ⟨x', hk, e⟩ := Opd.k_spec h hsl
    unfold nckS at hk
    split at hk
    · exact ⟨_, hk, fun fr w hw => by simp [execOp, ho, e, conc]⟩
    · exact ⟨_, hk, fun fr w hw => by simp [execOp, ho, e, conc]⟩
    · exact ⟨_, hk, fun fr w hw => by simp [execOp, ho, e, conc]⟩
    · exact ⟨_, hk, fun fr w hw => by simp [execOp, ho, e, conc]⟩
    · exact ⟨_, hk, fun fr w hw => by simp [execOp, ho, e, conc]⟩
    · exact hk.elim
  · -- extract
    rename_i x i ho
    simp at ht; subst ht
    simp only [rdS] at h
    obtain ⟨x', hk, e⟩ := Opd.k_spec h hsl
    unfold extS at hk
    split at hk
    · split at hk
      · rename_i l s hn
        rw [nthL_eq] at hn
        exact ⟨_, hk, fun fr w hw => by simp only [execOp, ho, e]; exact run_v (by simp [conc, Instr.extract, concL_getElem?, hn])⟩
      · exact hk.elim
    · split at hk
      · rename_i l s hn
        rw [nthL_eq] at hn
        exact ⟨_, hk, fun fr w hw => by simp only [execOp, ho, e]; exact run_v (by simp [conc, Instr.extract, hn])⟩
      · exact hk.elim
    · exact hk.elim
  · -- makeFunc
    rename_i f first caps ho
    simp at ht; subst ht
    simp only [rdS] at h
    obtain ⟨fs, h1, e1⟩ := Opd.ks_spec hsl first.toList (k := fun a' => Opd.ks hs.rs sl (caps.toList.map trOpd) fun c => K (.fn f a' c)) h
    obtain ⟨cs, h2, e2⟩ := Opd.ks_spec hsl caps.toList h1
    refine ⟨_, h2, fun fr w hw => ?_⟩
    simp only [execOp, ho]
    refine run_v ?_
    have g1 : first.map a.eval = (concL fs).toArray := by apply Array.ext'; simp [e1]
    have g2 : caps.map a.eval = (concL cs).toArray := by apply Array.ext'; simp [e2]
    simp [Instr.makeFunc, conc, g1, g2]
  · -- slice
    rename_i t x lo hi mx ho
    split at ht
    · rename_i hu
      split at ht
      · simp at ht; subst ht
        simp only [rdS] at h
        obtain ⟨x', h1, e1⟩ := Opd.k_spec (k := fun x => Opd.ko hs.rs sl (lo.map trOpd) fun lo => Opd.ko hs.rs sl (hi.map trOpd) fun hi => slcsS x lo hi K) h hsl
        obtain ⟨lo', h2, e2⟩ := Opd.ko_spec (k := fun lo => Opd.ko hs.rs sl (hi.map trOpd) fun hi => slcsS x' lo hi K) h1 hsl
        obtain ⟨hi', h3, e3⟩ := Opd.ko_spec (k := fun hi => slcsS x' lo' hi K) h2 hsl
        obtain ⟨s, hs', hr⟩ := slcsS_all h3 hu
        exact ⟨s, hs', fun fr w hw => by simp only [execOp, ho, e1, e2, e3]; exact run_v (hr w)⟩
      · cases ht
    · rename_i e hu
      have fin : ∀ size, sizeT P e = some size → rdS (.slc size (trOpd x) (lo.map trOpd) (hi.map trOpd) (mx.map trOpd)) sl hs K → ∃ s, K s ∧ ∀ fr w, HSim fr hs w → (execOp a.eval o).run P w = .ok (.value (conc s)) w := fun size hsz h => by
        simp only [rdS] at h
        obtain ⟨x', h1, e1⟩ := Opd.k_spec (k := fun x => Opd.ko hs.rs sl (lo.map trOpd) fun lo => Opd.ko hs.rs sl (hi.map trOpd) fun hi => Opd.ko hs.rs sl (mx.map trOpd) fun mx => slcS size x lo hi mx K) h hsl
        obtain ⟨lo', h2, e2⟩ := Opd.ko_spec (k := fun lo => Opd.ko hs.rs sl (hi.map trOpd) fun hi => Opd.ko hs.rs sl (mx.map trOpd) fun mx => slcS size x' lo hi mx K) h1 hsl
        obtain ⟨hi', h3, e3⟩ := Opd.ko_spec (k := fun hi => Opd.ko hs.rs sl (mx.map trOpd) fun mx => slcS size x' lo' hi mx K) h2 hsl
        obtain ⟨mx', h4, e4⟩ := Opd.ko_spec (k := fun mx => slcS size x' lo' hi' mx K) h3 hsl
        obtain ⟨s, hs', hr⟩ := slcS_all h4 hu hsz
        exact ⟨s, hs', fun fr w hw => by simp only [execOp, ho, e1, e2, e3, e4]; exact run_v (hr w)⟩
      split at ht
      · cases ht
      · rename_i size hsz _
        simp at ht; subst ht; exact fin size hsz h
      · cases ht
    · cases ht
  · -- build
    rename_i t parts ho
    have fin : ∀ (ps : List (Nat × Nat × Opd)) (z : List Value) (place : Nat → Option (Nat × Nat)), zeroT P t = some z →
        (parts.toList.map fun (i, x) => (place i).map fun (o, s) => (o, s, trOpd x)) = ps.map some → rdS (.build (z.map SV.v) ps) sl hs K → 
        (∀ w cells', Instr.fill place z.toArray (parts.toList.map fun (i, x) => (i, a.eval x)) = some cells' → (Instr.build t (parts.map fun (i, x) => (i, a.eval x))).run P w = .ok (.agg cells') w) →
        ∃ s, K s ∧ ∀ fr w, HSim fr hs w → (execOp a.eval o).run P w = .ok (.value (conc s)) w := fun ps z place hz hps h hrun => by
      simp only [rdS] at h
      obtain ⟨cells', hk, hf⟩ := fillS_spec hsl place parts.toList ps (z.map SV.v) hps h
      refine ⟨_, hk, fun fr w hw => ?_⟩
      simp only [execOp, ho]
      refine run_v (hrun w _ ?_)
      rw [← hf]
      congr 2
      simp [concL_eq, Function.comp_def, conc]
    split at ht
    · rename_i z fs hz hu
      split at ht
      · rename_i places hpl
        split at ht
        · rename_i ps hps
          simp at ht; subst ht
          refine fin _ z (fun i => places[i]?) hz (mapM_some _ _ hps) h fun w cells' hf => ?_
          obtain ⟨v, hv, rfl, _⟩ := zeroT_spec hz w
          simp [Instr.build, hv, run_underlying hu, Array.mapM_eq_mapM_toList, run_places w _ _ hpl] at *
          simp [hf]
        · cases ht
      · cases ht
    · rename_i z n e hz hu
      split at ht
      · rename_i size hsz
        simp at ht; subst ht
        refine fin _ z (fun i => some (i * size, size)) hz (by simp) h fun w cells' hf => ?_
        obtain ⟨v, hv, rfl, _⟩ := zeroT_spec hz w
        simp [Instr.build, hv, run_underlying hu, run_sizeT hsz, hf]
      · cases ht
    · cases ht
  · split at ht <;> simp at ht
    subst ht; simp [SOp.reads] at hrd
  · split at ht <;> simp at ht
    subst ht; simp [SOp.reads] at hrd
  · simp at ht
    subst ht; simp [SOp.reads] at hrd
  · split at ht <;> try (simp at ht; done)
    split at ht <;> try (simp at ht; done)
    split at ht <;> simp at ht
    subst ht; simp [SOp.reads] at hrd
  · split at ht <;> try (simp at ht; done)
    split at ht <;> try (simp at ht; done)
    split at ht <;> simp at ht
    subst ht; simp [SOp.reads] at hrd
  · -- call
    rename_i c ho
    split at ht
    · -- len
      rename_i hc
      split at ht
      · rename_i x t hargs htys
        have hres : ∀ v w, a.eval x = v → (Builtin.len_ c.argTypes o.type #[v]).run P w = (Builtin.len_ #[t] o.type #[v]).run P w := fun v w _ => by
          have : c.argTypes = #[t] := by apply Array.ext'; simpa using htys
          rw [this]
        have hxs : c.args = #[x] := by apply Array.ext'; simpa using hargs
        have go : ∀ v n w, a.eval x = v → (Builtin.len_ #[t] o.type #[v]).run P w = .ok (.int .i64 n) w → (execOp a.eval o).run P w = .ok (.value (.int .i64 n)) w := fun v n w hv hr => by
          simp only [execOp, ho, resolve, hc, hxs]
          simp [invoke, builtin, hv, hres v w hv, hr, Result.andThen]
        split at ht
        · rename_i hu
          simp at ht; subst ht
          simp only [rdS] at h
          obtain ⟨x', hk, e⟩ := Opd.k_spec h hsl
          simp only [lenS] at hk
          split at hk
          · exact ⟨_, hk, fun fr w hw => go _ _ w e (by simp [conc, Builtin.len_, run_underlying hu, goInt])⟩
          · exact hk.elim
        · rename_i e' hu
          simp at ht; subst ht
          simp only [rdS] at h
          obtain ⟨x', hk, e⟩ := Opd.k_spec h hsl
          simp only [lenS] at hk
          split at hk
          · exact ⟨_, hk, fun fr w hw => go _ _ w e (by simp [conc, Builtin.len_, run_underlying hu, goInt])⟩
          · exact ⟨_, hk, fun fr w hw => go _ _ w e (by simp [conc, Builtin.len_, run_underlying hu, goInt])⟩
          · exact ⟨_, hk, fun fr w hw => go _ _ w e (by simp [conc, Builtin.len_, run_underlying hu, goInt])⟩
          · exact hk.elim
        · cases ht
      · cases ht
    · split at ht <;> try (simp at ht; done)
      split at ht <;> try (simp at ht; done)
      split at ht <;> try (simp at ht; done)
      split at ht <;> simp at ht
      subst ht; simp [SOp.reads] at hrd
    · split at ht <;> try (simp at ht; done)
      split at ht <;> simp at ht
      subst ht; simp [SOp.reads] at hrd
    · simp at ht
      subst ht; simp [SOp.reads] at hrd
    · cases ht
  · cases ht
end Go.Proofs.Ytedjbhpocedagaa.Sx
