/- A symbolic evaluator over the model's code, part 2e: structs and arrays of plain cells, compared. -/
import Derived.Test.YtedjbhpocedagaaSx2
import Derived.Laws.StructEq
import Derived.ChangeKeysEq
namespace Go.Proofs.Ytedjbhpocedagaa.Sx
open Go.RowKit

def eqV1 (k : Nat) (x y : Value) : Option Bool := match k, x, y with
  | 0, .int a m, .int b n => match kEq a b with
    | true => some (m == n)
    | false => none
  | 1, .string a, .string b => some (a.data.toList == b.data.toList)
  | 2, .bool a, .bool b => some (a == b)
  | _, _, _ => none
def eqV : List Nat → List Value → List Value → Option Bool
  | [], [], [] => some true
  | k :: ks, x :: xs, y :: ys => match eqV1 k x y with
    | some a => match eqV ks xs ys with
      | some b => some (a && b)
      | none => none
    | none => none
  | _, _, _ => none
theorem eqV_len : ∀ {ks : List Nat} {xs ys : List Value} {b : Bool}, eqV ks xs ys = some b → xs.length = ks.length ∧ ys.length = ks.length
  | [], [], [], _, _ => ⟨rfl, rfl⟩
  | k :: ks, x :: xs, y :: ys, b, h => by
    simp only [eqV] at h
    split at h
    · split at h
      · rename_i hb
        obtain ⟨h1, h2⟩ := eqV_len hb
        simp [h1, h2]
      · cases h
    · cases h
  | [], _ :: _, _, _, h => by simp [eqV] at h
  | [], [], _ :: _, _, h => by simp [eqV] at h
  | _ :: _, [], _, _, h => by simp [eqV] at h
  | _ :: _, _ :: _, [], _, h => by simp [eqV] at h
theorem eqV_append : ∀ {ks kt : List Nat} {xs ys : List Value} {b : Bool}, eqV (ks ++ kt) xs ys = some b →
    ∃ b1 b2, b = (b1 && b2) ∧ eqV ks (xs.take ks.length) (ys.take ks.length) = some b1 ∧ eqV kt (xs.drop ks.length) (ys.drop ks.length) = some b2
  | [], kt, xs, ys, b, h => ⟨true, b, by simp, by simp [eqV], by simpa using h⟩
  | k :: ks, kt, x :: xs, y :: ys, b, h => by
    simp only [List.cons_append, eqV] at h
    split at h
    · rename_i a ha
      split at h
      · rename_i c hc
        obtain ⟨b1, b2, rfl, h1, h2⟩ := eqV_append hc
        simp only [Option.some.injEq] at h
        refine ⟨a && b1, b2, by rw [← h, Bool.and_assoc], ?_, by simpa using h2⟩
        simp [eqV, ha, h1]
      · cases h
    · cases h
  | k :: ks, kt, [], _, b, h => by simp [eqV] at h
  | k :: ks, kt, _ :: _, [], b, h => by simp [eqV] at h

/-- A value of these cells. -/
def valC (agg : Bool) (xs : List Value) : Value := match agg with
  | true => .agg ⟨xs⟩
  | false => xs.headD undef
theorem run_isAggT {P : Program} {t : TypeId} {agg : Bool} (ha : aggT P t = some agg) (w : World) : (isAgg t).run P w = .ok agg w := by
  unfold aggT at ha
  split at ha <;> simp at ha <;> subst ha <;> rename_i hu
  · simp [isAgg, run_underlying hu]
  · simp [isAgg, run_underlying hu]
  · rename_i h1 h2
    simp only [isAgg, Sem.run_bind, run_underlying hu, Result.andThen_ok]
    rfl
theorem run_partC {P : Program} {t : TypeId} {agg : Bool} {size : Nat} (ha : aggT P t = some agg) (hs : sizeT P t = some size) (hp : agg = false → size = 1) {cs : List Value} {o : Nat} (hl : o + size ≤ cs.length) (w : World) :
    (part t ⟨cs⟩ o).run P w = .ok (valC agg ((cs.drop o).take size)) w := by
  have hsz : (sizeOf t).run P w = .ok size w := by
    unfold sizeT at hs
    cases hi : P.info? t with
    | none => simp [hi] at hs
    | some i => simp [hi] at hs; simp [sizeOf, typeInfo, hi, hs]
  unfold part
  simp only [Sem.run_bind, run_isAggT ha, Result.andThen_ok]
  cases agg with
  | true =>
    simp only [if_true, Sem.run_bind, hsz, Result.andThen_ok, Sem.run_pure]
    congr 2
    simp
  | false =>
    have h1 := hp rfl
    subst h1
    have hlt : o < cs.length := by omega
    have : (cs.drop o).take 1 = [cs[o]] := by rw [List.drop_eq_getElem_cons hlt]; rfl
    simp only [Bool.false_eq_true, if_false]
    rw [show (⟨cs⟩ : Array Value)[o]? = cs[o]? from by simp, List.getElem?_eq_getElem hlt]
    simp [this, valC]
theorem kEq_self {a b : IntKind} (h : kEq a b = true) : a = b := kEq_spec h
theorem aggT_leaf {P : Program} {d : Nat} {t : TypeId} {ks : List Nat} (h : leavesT P d t = some ks) {agg : Bool} (ha : aggT P t = some agg) : agg = false → ks.length = 1 := by
  intro hag
  subst hag
  cases d with
  | zero => cases h
  | succ d =>
    unfold leavesT at h
    unfold aggT at ha
    split at h
    · simp at h; simp [← h]
    · simp at h; simp [← h]
    · simp at h; simp [← h]
    · rename_i hu; rw [hu] at ha; simp at ha
    · rename_i hu; rw [hu] at ha; simp at ha
    · cases h
theorem run_eqFields {P : Program} {d D : Nat} (ih : ∀ t ks, leavesT P d t = some ks → ∀ agg, aggT P t = some agg → ∀ xs ys b, eqV ks xs ys = some b → ∀ w, (Op.equalIn D t (valC agg xs) (valC agg ys)).run P w = .ok b w) :
    ∀ (fs : List Field) (o : Nat) (ks : List Nat), leavesF P (leavesT P d) fs o = some ks → ∀ (xs ys : List Value) (b : Bool), o + ks.length ≤ xs.length → o + ks.length ≤ ys.length → eqV ks ((xs.drop o).take ks.length) ((ys.drop o).take ks.length) = some b → ∀ w,
      (Op.eqFields D ⟨xs⟩ ⟨ys⟩ fs).run P w = .ok b w
  | [], o, ks, h, xs, ys, b, _, _, he, w => by
    simp [leavesF] at h; subst h
    simp [eqV] at he; subst he
    simp [Op.eqFields]
  | f :: fs, o, ks, h, xs, ys, b, hx, hy, he, w => by
    simp only [leavesF] at h
    split at h
    · rename_i kt size agg h1 h2 h3
      split at h
      · rename_i hc
        obtain ⟨rfl, hn, rfl⟩ := hc
        split at h
        · rename_i l hl
          simp only [Option.some.injEq] at h
          subst h
          obtain ⟨b1, b2, rfl, e1, e2⟩ := eqV_append he
          simp only [List.length_append] at hx hy
          have p1 := run_partC (P := P) h3 h2 (aggT_leaf h1 h3) (cs := xs) (o := f.offset) (by omega) w
          have p2 := run_partC (P := P) h3 h2 (aggT_leaf h1 h3) (cs := ys) (o := f.offset) (by omega) w
          rw [List.take_take, List.take_take, List.length_append, Nat.min_eq_left (by omega)] at e1
          have q1 := ih _ _ h1 _ h3 _ _ _ e1 w
          rw [List.drop_take, List.drop_take, List.length_append, Nat.add_sub_cancel_left, List.drop_drop, List.drop_drop] at e2
          have q2 := run_eqFields ih fs (f.offset + kt.length) l hl xs ys b2 (by omega) (by omega) e2 w
          simp only [Op.eqFields, if_pos hn, Sem.run_bind, p1, p2, Result.andThen_ok, q1]
          cases b1 with
          | false => simp
          | true => simpa using q2
        · cases h
      · cases h
    · cases h
theorem run_eqItems {P : Program} {D : Nat} {e : TypeId} {ks : List Nat} {agg : Bool} {i : TypeInfo} (hi : P.info? e = some i) (hsz : i.size = ks.length) (ha : aggT P e = some agg) (hp : agg = false → ks.length = 1)
    (ih : ∀ xs ys b, eqV ks xs ys = some b → ∀ w, (Op.equalIn D e (valC agg xs) (valC agg ys)).run P w = .ok b w) :
    ∀ (n j : Nat) (xs ys : List Value) (b : Bool), (j + n) * ks.length ≤ xs.length → (j + n) * ks.length ≤ ys.length → eqV (leavesA ks n) ((xs.drop (j * ks.length)).take (n * ks.length)) ((ys.drop (j * ks.length)).take (n * ks.length)) = some b → ∀ w,
      (Op.eqItems D e (P.cellsOf e) ⟨xs⟩ ⟨ys⟩ (List.range' j n)).run P w = .ok b w
  | 0, j, xs, ys, b, _, _, he, w => by
    simp [leavesA, eqV] at he; subst he
    simp [Op.eqItems]
  | n + 1, j, xs, ys, b, hx, hy, he, w => by
    have hc : P.cellsOf e = ks.length := by simp [Program.cellsOf, hi, hsz]
    have hs : sizeT P e = some ks.length := by simp [sizeT, hi, hsz]
    have hl : (j + (n + 1)) * ks.length = j * ks.length + ks.length + n * ks.length := by rw [Nat.add_mul, Nat.add_mul]; omega
    have hl2 : (j + 1 + n) * ks.length = j * ks.length + ks.length + n * ks.length := by rw [Nat.add_mul, Nat.add_mul]; omega
    have hl3 : (n + 1) * ks.length = ks.length + n * ks.length := by rw [Nat.add_mul]; omega
    have hj : (j + 1) * ks.length = j * ks.length + ks.length := by rw [Nat.add_mul]; omega
    rw [leavesA] at he
    obtain ⟨b1, b2, rfl, e1, e2⟩ := eqV_append he
    rw [List.take_take, List.take_take, Nat.min_eq_left (by rw [hl3]; omega)] at e1
    rw [List.drop_take, List.drop_take, hl3, Nat.add_sub_cancel_left, List.drop_drop, List.drop_drop, ← hj] at e2
    have p1 := run_partC (P := P) ha hs hp (cs := xs) (o := j * ks.length) (by omega) w
    have p2 := run_partC (P := P) ha hs hp (cs := ys) (o := j * ks.length) (by omega) w
    have q1 := ih _ _ _ e1 w
    have q2 := run_eqItems hi hsz ha hp ih n (j + 1) xs ys b2 (by rw [hl2]; omega) (by rw [hl2]; omega) e2 w
    rw [List.range'_succ]
    simp only [Op.eqItems, Sem.run_bind, hc, p1, p2, Result.andThen_ok, q1]
    cases b1 with
    | false => simp
    | true => rw [hc] at q2; simpa using q2
theorem leavesA_len (ks : List Nat) : ∀ n, (leavesA ks n).length = n * ks.length
  | 0 => by simp [leavesA]
  | n + 1 => by rw [leavesA, List.length_append, leavesA_len ks n, Nat.add_mul]; omega
theorem run_eqPlain {P : Program} : ∀ (d D : Nat), d ≤ D → ∀ (t : TypeId) (ks : List Nat), leavesT P d t = some ks → ∀ agg, aggT P t = some agg → ∀ (xs ys : List Value) (b : Bool), eqV ks xs ys = some b → ∀ w, (Op.equalIn D t (valC agg xs) (valC agg ys)).run P w = .ok b w
  | 0, _, _, _, _, h, _, _, _, _, _, _, _ => by cases h
  | d + 1, 0, hd, _, _, _, _, _, _, _, _, _, _ => by omega
  | d + 1, D + 1, hd, t, ks, h, agg, ha, xs, ys, b, he, w => by
    obtain ⟨hx, hy⟩ := eqV_len he
    have h0 := h
    unfold leavesT at h
    split at h
    · rename_i k hu
      simp at h; subst h
      have : agg = false := by unfold aggT at ha; rw [hu] at ha; simpa using ha.symm
      subst this
      match xs, ys, hx, hy with
      | [x], [y], _, _ =>
        simp only [eqV] at he
        split at he
        · rename_i c hc
          simp at he; subst he
          unfold eqV1 at hc
          split at hc
          · split at hc
            · rename_i hk
              obtain rfl := kEq_spec hk
              simp at hc; subst hc
              exact run_equalIn_int w D t _ k _ _ hu
            · cases hc
          · simp_all
          · simp_all
          · cases hc
        · cases he
    · rename_i hu
      simp at h; subst h
      have : agg = false := by unfold aggT at ha; rw [hu] at ha; simpa using ha.symm
      subst this
      match xs, ys, hx, hy with
      | [x], [y], _, _ =>
        simp only [eqV] at he
        split at he
        · rename_i c hc
          simp at he; subst he
          unfold eqV1 at hc
          split at hc <;> simp_all
          subst hc
          simp [valC, Op.equalIn, run_underlying hu, beq_toListBytes, ByteArray.toList_eq]
        · cases he
    · rename_i hu
      simp at h; subst h
      have : agg = false := by unfold aggT at ha; rw [hu] at ha; simpa using ha.symm
      subst this
      match xs, ys, hx, hy with
      | [x], [y], _, _ =>
        simp only [eqV] at he
        split at he
        · rename_i c hc
          simp at he; subst he
          unfold eqV1 at hc
          split at hc <;> simp_all
          subst hc
          exact run_equalIn_bool w D t _ _ hu
        · cases he
    · rename_i fs hu
      have : agg = true := by unfold aggT at ha; rw [hu] at ha; simpa using ha.symm
      subst this
      split at h
      · cases h
      · rename_i hsi
        have hf : P.underlying t = some (.struct (P.fieldsOf t)) := by simp [Program.fieldsOf, hu]
        have hff : (P.fieldsOf t).toList = fs.toList := by simp [Program.fieldsOf, hu]
        show (Op.equalIn (D + 1) t (.agg ⟨xs⟩) (.agg ⟨ys⟩)).run P w = _
        rw [run_equalIn_struct w D t _ _ hf (by simpa using hsi), hff]
        refine run_eqFields (d := d) (fun t' ks' h' agg' ha' xs' ys' b' he' w' => run_eqPlain d D (by omega) t' ks' h' agg' ha' xs' ys' b' he' w') fs.toList 0 ks h xs ys b (by omega) (by omega) ?_ w
        rw [List.drop_zero, List.drop_zero, List.take_of_length_le (by omega), List.take_of_length_le (by omega)]; exact he
    · rename_i n e hu
      have : agg = true := by unfold aggT at ha; rw [hu] at ha; simpa using ha.symm
      subst this
      split at h
      · rename_i ks1 i agg1 h1 h2 h3
        split at h
        · rename_i hsz
          simp at h; subst h
          show (Op.equalIn (D + 1) t (.agg ⟨xs⟩) (.agg ⟨ys⟩)).run P w = _
          rw [run_equalIn_array (w := w) D _ _ hu h2, List.range_eq_range']
          have hln := leavesA_len ks1 n
          refine run_eqItems h2 hsz h3 (aggT_leaf h1 h3) (fun xs' ys' b' he' w' => run_eqPlain d D (by omega) e ks1 h1 agg1 h3 xs' ys' b' he' w') n 0 xs ys b (by rw [Nat.zero_add]; omega) (by rw [Nat.zero_add]; omega) ?_ w
          rw [Nat.zero_mul, List.drop_zero, List.drop_zero, List.take_of_length_le (by omega), List.take_of_length_le (by omega)]; exact he
        · cases h
      · cases h
    · cases h
end Go.Proofs.Ytedjbhpocedagaa.Sx
