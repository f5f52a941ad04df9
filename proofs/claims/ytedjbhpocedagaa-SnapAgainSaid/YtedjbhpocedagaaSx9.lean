/- A symbolic evaluator over the model's code, part 9: statements that leave their order open. -/
import Derived.Test.YtedjbhpocedagaaSx8
namespace Go.Proofs.Ytedjbhpocedagaa.Sx
open Go.RowKit

/-- Operations that may write what others read: they must come behind all others. -/
def isW (o : Oper) : Bool := match o.op with
  | .store .. => true
  | .call c => match c.callee with
    | .builtin .append => true
    | _ => false
  | _ => false
def WW (ops : Array Oper) (i : Nat) : Bool := match ops[i]? with
  | some o => isW o
  | none => false

def depB (ops : Array Oper) : Nat → Nat → Nat → Bool
  | 0, _, _ => false
  | n + 1, i, j => match ops[j]? with
    | none => false
    | some o => o.after.any fun e => Region.binds .any e && (e.on == i || depB ops n i e.on)

theorem depB_step {ops : Array Oper} {n i j : Nat} (h : depB ops (n + 1) i j = true) : ∃ o, ops[j]? = some o ∧ ∃ e ∈ o.after, Region.binds .any e = true ∧ (e.on = i ∨ depB ops n i e.on = true) := by
  simp only [depB] at h
  split at h
  · cases h
  · rename_i o ho
    obtain ⟨e, he, hb⟩ := Array.any_eq_true'.1 h
    simp only [Bool.and_eq_true, Bool.or_eq_true, beq_iff_eq] at hb
    exact ⟨o, ho, e, he, hb⟩

/-- What has come up is closed: all that it waits for has come up. -/
def DC (ops : Array Oper) (listed : Array Bool) : Prop := ∀ k o, listed.getD k false = true → ops[k]? = some o → ∀ e ∈ o.after, Region.binds .any e = true → listed.getD e.on false = true
theorem DC.dep {ops : Array Oper} {listed : Array Bool} (h : DC ops listed) {i : Nat} (hi : listed.getD i false = false) : ∀ (n k : Nat), listed.getD k false = true → depB ops n i k = false
  | 0, k, _ => rfl
  | n + 1, k, hk => by
    cases hd : depB ops (n + 1) i k with
    | false => rfl
    | true =>
      obtain ⟨o, ho, e, he, hb, hor⟩ := depB_step hd
      have hl := h k o hk ho e he hb
      rcases hor with rfl | hor
      · rw [hi] at hl; cases hl
      · rw [DC.dep h hi n _ hl] at hor; cases hor
theorem getD_tf {listed : Array Bool} {j : Nat} (h : listed.getD j true = false) : listed.getD j false = false := by
  rcases Nat.lt_or_ge j listed.size with h' | h'
  · simp [h'] at h ⊢; exact h
  · simp [Array.getElem?_eq_none h'] at h
theorem DC.ready {ops : Array Oper} {listed : Array Bool} (h : DC ops listed) {j : Nat} (hj : j ∈ Region.ready .any ops listed) : DC ops (listed.setIfInBounds j true) := by
  obtain ⟨hun, oj, hoj, hall⟩ := mem_ready.1 hj
  intro k o hk ho e he hb
  by_cases hkj : k = j
  · subst hkj
    rw [hoj] at ho; cases ho
    exact getD_set_true (hall e he hb)
  · rw [getD_set_ne false (Ne.symm hkj)] at hk
    exact getD_set_true (h k o hk ho e he hb)
theorem DC.notDep {ops : Array Oper} {listed : Array Bool} (h : DC ops listed) {i j : Nat} (hi : listed.getD i true = false) (hj : j ∈ Region.ready .any ops listed) (n : Nat) : depB ops n i j = false := by
  cases n with
  | zero => rfl
  | succ n =>
    cases hd : depB ops (n + 1) i j with
    | false => rfl
    | true =>
      obtain ⟨o, ho, e, he, hb, hor⟩ := depB_step hd
      obtain ⟨hun, oj, hoj, hall⟩ := mem_ready.1 hj
      rw [hoj] at ho; cases ho
      have hl := hall e he hb
      rcases hor with rfl | hor
      · rw [getD_tf hi] at hl; cases hl
      · rw [h.dep (getD_tf hi) n _ hl] at hor; cases hor

section
variable {P : Program} {ops : Array Oper} {r : Option Nat}

/-- The post of a statement that is shown to end normally. -/
def QN (K : Act → World → Prop) : Exit → Act → World → Prop
  | .normal, a, w => K a w
  | _, _, _ => False

/-- Whatever order is picked from here on; S holds behind every operation that does not write. -/
def anyK (r : Option Nat) (P : Program) (ops : Array Oper) (K : Act → World → Prop) : Nat → (World → Prop) → Array Bool → Act → World → Prop
  | 0, _, listed, a, w => Region.ready .any ops listed = [] ∧ K a w
  | fuel + 1, S, listed, a, w =>
    (Region.ready .any ops listed = [] → K a w) ∧
    ∀ i ∈ Region.ready .any ops listed, wpOpIn (FW r) 0 P ops (QN K) i (fun a' w' =>
      (WW ops i = false ∧ S w' ∧ anyK r P ops K fuel S (listed.setIfInBounds i true) a' w') ∨ (WW ops i = true ∧ ∃ S', anyK r P ops K fuel S' (listed.setIfInBounds i true) a' w')) a w

theorem anyK_any {K : Act → World → Prop} : ∀ (fuel : Nat) (S : World → Prop) (listed : Array Bool) (a : Act) (w : World), anyK r P ops K fuel S listed a w → wpAnyIn (FW r) 0 P .any ops (QN K) fuel listed a w
  | 0, _, _, _, _, h => h
  | fuel + 1, S, _, _, _, h => ⟨h.1, fun i hi => wpOpIn_mono (fun a' w' h' => by
      rcases h' with ⟨_, _, h'⟩ | ⟨_, S', h'⟩
      · exact anyK_any fuel S _ a' w' h'
      · exact anyK_any fuel S' _ a' w' h') (h.2 i hi)⟩

theorem anyK_mono {K : Act → World → Prop} {S S' : World → Prop} (hS : ∀ w, S' w → S w) : ∀ (fuel : Nat) (listed : Array Bool) (a : Act) (w : World), anyK r P ops K fuel S' listed a w → anyK r P ops K fuel S listed a w
  | 0, _, _, _, h => h
  | fuel + 1, _, _, _, h => ⟨h.1, fun i hi => wpOpIn_mono (fun a' w' h' => by
      rcases h' with ⟨h1, h2, h'⟩ | ⟨h1, S'', h'⟩
      · exact .inl ⟨h1, hS _ h2, anyK_mono hS fuel _ a' w' h'⟩
      · exact .inr ⟨h1, S'', h'⟩) (h.2 i hi)⟩

def Plain (o : Oper) : Prop := (∀ cs b, o.op ≠ .select cs b) ∧ ∀ c, o.op ≠ .defer c

theorem wpOpIn_yields {K : Act → World → Prop} {Q : Exit → Act → World → Prop} {S : World → Prop} {i : Nat} {o : Oper} {v : Value} {a : Act} (hi : ops[i]? = some o) (hp : Plain o) (hy : YieldsIf P ops S o v a) {w : World} (hS : S w) (h : K (a.put o.dst v) w) :
    wpOpIn (FW r) 0 P ops Q i K a w := by
  unfold wpOpIn
  simp only [hi]
  rcases hy with ⟨hw, hv⟩ | ⟨hw, rfl⟩
  · rw [if_pos hw]; exact wpIn_value hp.2 (hv w hS) h
  · rw [hw]; exact ⟨fun _ _ => trivial, h⟩

theorem wpOpIn_pending {S : World → Prop} {j : Nat} {oi oj : Oper} {v : Value} (hj : ops[j]? = some oj) (hap : oi.apart ops oj = true) (hpi : Plain oi) (hpj : Plain oj) {KN K : Act → World → Prop} {a : Act} {w : World}
    (hy : YieldsIf P ops S oi v a) (h : wpOpIn (FW r) 0 P ops (QN KN) j K (a.put oi.dst v) w) :
    wpOpIn (FW r) 0 P ops (QN KN) j (fun a' w' => YieldsIf P ops S oi v a' ∧ K (a'.put oi.dst v) w') a w := by
  obtain ⟨h1, h2, h3⟩ := Oper.apart_spec hap
  have keep : ∀ (a : Act), YieldsIf P ops S oi v a → ∀ u, YieldsIf P ops S oi v (a.put oj.dst u) := fun a hy u =>
    hy.of_same (execOp_put oi hpi.1 a oj.dst u h3) (wanted_put oi a oj.dst u h3)
  have keepD : ∀ d, YieldsIf P ops S oi v { a with defers := d :: a.defers } := fun d => hy.of_same rfl rfl
  unfold wpOpIn at *
  simp only [hj] at *
  rw [wanted_put oj a oi.dst v h1] at h
  split
  · rename_i hw
    simp only [hw, if_true] at h
    refine ⟨fun _ _ => trivial, ?_⟩
    have h := h.2
    rw [Oper.semAt_eq _ _ _ hpj.2] at h ⊢
    rw [execOp_put oj hpj.1 a oi.dst v h1] at h
    generalize (execOp a.eval oj).run P w = rr at *
    cases rr with
    | ok n w' =>
      cases n <;> simp only [Oper.uponIn] at h ⊢
      case value u => exact ⟨keep a hy u, by rw [← Act.put_comm a v u h2]; exact h⟩
      case skip => exact ⟨keep a hy _, by rw [← Act.put_comm a v undef h2]; exact h⟩
      case defer d =>
        refine ⟨keep _ (keepD d) _, ?_⟩
        rw [← Act.put_comm _ v undef h2, ← Act.put_defers]
        exact h
      case enter f args =>
        refine ⟨h.1, CallsIn.mono h.2 fun e w'' he => ?_⟩
        cases e with
        | returned u => exact ⟨keep a hy u, by rw [← Act.put_comm a v u h2]; exact he⟩
        | panicked c => exact (show False from he).elim
        | outgrown => exact he
      case row row args => exact ⟨h.1, RowsIn.mono h.2 fun u w'' he => ⟨keep a hy u, by rw [← Act.put_comm a v u h2]; exact he⟩⟩
      case round l f tmps asg body =>
        refine ⟨h.1, RoundIn.mono h.2 fun e w'' he => ?_⟩
        cases e with
        | returned u => exact ⟨keep a hy u, by rw [← Act.put_comm a v u h2]; exact he⟩
        | panicked c => exact (show False from he).elim
        | outgrown => exact he
    | halt x w' =>
      cases x <;> simp only [Oper.uponIn] at h ⊢
      case panic u => exact (show False from h).elim
  · rename_i hw
    simp only [hw] at h
    exact ⟨fun _ _ => trivial, keep a hy _, by rw [← Act.put_comm a v undef h2]; exact h.2⟩

/-- An operation that only reads may be taken first. -/
theorem anyK_first {K : Act → World → Prop} {S : World → Prop} {i : Nat} {oi : Oper} {v : Value} (hi : ops[i]? = some oi) (hplain : ∀ (j : Nat) (o : Oper), ops[j]? = some o → Plain o) (hWi : WW ops i = false) {nd : Nat} :
    ∀ (fuel : Nat) (listed : Array Bool) (a : Act) (w : World),
      (∀ j oj, ops[j]? = some oj → j ≠ i → listed.getD j true = false → (∀ e ∈ oj.after, Region.binds .any e = true → e.on ≠ i) → oi.apart ops oj = true) →
      (∀ j, WW ops j = true → j ≠ i → listed.getD j true = false → depB ops nd i j = true) → DC ops listed →
      i ∈ Region.ready .any ops listed → YieldsIf P ops S oi v a → S w →
      anyK r P ops K fuel S (listed.setIfInBounds i true) (a.put oi.dst v) w → anyK r P ops K (fuel + 1) S listed a w := by
  intro fuel
  induction fuel with
  | zero =>
    intro listed a w _ _ _ hr hy hS H
    refine ⟨fun h => (by rw [h] at hr; cases hr), fun j hj => ?_⟩
    by_cases hji : j = i
    · subst hji; exact wpOpIn_yields hi (hplain _ _ hi) hy hS (.inl ⟨hWi, hS, H⟩)
    · have := ready_mono hj hji
      rw [H.1] at this
      cases this
  | succ fuel ih =>
    intro listed a w hfree hW hdc hr hy hS H
    refine ⟨fun h => (by rw [h] at hr; cases hr), fun j hj => ?_⟩
    by_cases hji : j = i
    · subst hji; exact wpOpIn_yields hi (hplain _ _ hi) hy hS (.inl ⟨hWi, hS, H⟩)
    · have h1 := H.2 j (ready_mono hj hji)
      obtain ⟨hjun, oj, hoj, hall⟩ := mem_ready.1 hj
      have hiun := (mem_ready.1 hr).1
      have hnot : ∀ e ∈ oj.after, Region.binds .any e = true → e.on ≠ i := fun e he hb heq => by
        have h1 := hall e he hb
        rw [heq, getD_tf hiun] at h1
        cases h1
      have hWj : WW ops j = false := by
        cases hw : WW ops j with
        | false => rfl
        | true =>
          have := hW j hw hji hjun
          rw [hdc.notDep hiun hj nd] at this
          cases this
      have h2 := wpOpIn_pending hoj (hfree j oj hoj hji hjun hnot) (hplain _ _ hi) (hplain _ _ hoj) hy h1
      have hfree' : ∀ k ok, ops[k]? = some ok → k ≠ i → (listed.setIfInBounds j true).getD k true = false →
          (∀ e ∈ ok.after, Region.binds .any e = true → e.on ≠ i) → oi.apart ops ok = true := fun k ok hk hki hun hno => by
        refine hfree k ok hk hki ?_ hno
        by_cases hjk : j = k
        · subst hjk; exact hjun
        · rw [getD_set_ne true hjk] at hun; exact hun
      have hW' : ∀ k, WW ops k = true → k ≠ i → (listed.setIfInBounds j true).getD k true = false → depB ops nd i k = true := fun k hk hki hun => by
        refine hW k hk hki ?_
        by_cases hjk : j = k
        · subst hjk; exact hjun
        · rw [getD_set_ne true hjk] at hun; exact hun
      refine wpOpIn_mono (fun a' w' h3 => ?_) h2
      rcases h3 with ⟨hy', ⟨_, hS', h3⟩ | ⟨hWW, _⟩⟩
      · refine .inl ⟨hWj, hS', ih (listed.setIfInBounds j true) a' w' hfree' hW' (hdc.ready hj) (ready_mono hr (Ne.symm hji)) hy' hS' ?_⟩
        rw [Array.setIfInBounds_comm _ _ hji]
        exact h3
      · rw [hWj] at hWW; cases hWW
end

/-- The order in which the evaluator goes is one that serves. -/
def ordOk (ops : Array Oper) : List Nat → List SOper → Array Bool → Bool
  | [], [], listed => (Region.ready .any ops listed).isEmpty
  | i :: τ, so :: sops, listed =>
      (((Region.ready .any ops listed).contains i && Region.free .any ops listed i && !WW ops i && so.op.reads && (List.range ops.size).all fun j => !WW ops j || j == i || listed.getD j true || depB ops ops.size i j) ||
        (Region.ready .any ops listed == [i])) && ordOk ops τ sops (listed.setIfInBounds i true)
  | _, _, _ => false
def plainB (ops : Array Oper) : Bool := ops.all fun o => match o.op with
  | .select .. => false
  | .defer _ => false
  | _ => true
theorem plainB_spec {ops : Array Oper} (h : plainB ops = true) (j : Nat) (o : Oper) (ho : ops[j]? = some o) : Plain o := by
  have := Array.all_eq_true_iff_forall_mem.1 h o (Array.mem_of_getElem? ho)
  refine ⟨fun cs b heq => ?_, fun c heq => ?_⟩ <;> simp [heq] at this



def noY : Yield := fun _ _ _ _ => False
theorem chB_sound {P : Program} {fr : Fr} {H : Handler} (hH : SndB P H) {o : Oper} {so : SOp} (ht : trOp P o = some so) (hrd : so.reads = false) (hW : isW o = false) {sl : Sl} {a : Act} (hsl : SlotSim sl a) {hs : Hs} {K : SV → Hs → Prop} (h : chS P H noY so sl hs K)
    {w : World} (hw : HSim fr hs w) {next : Act → World → Prop} {Q : Exit → Act → World → Prop} {r : Option Nat} (hn : ∀ s hs' w', K s hs' → Below w.heap.size w w' → HSim fr hs' w' → next (a.put o.dst (conc s)) w') : o.wpIn (FW r) 0 P a w next Q := by
  obtain ⟨hd, _⟩ := trOp_noDefer ht
  -- calls
  have callG : ∀ (f : FuncId) (args : List SV) (A : Array Value), A = (concL args).toArray → (execOp a.eval o).run P w = .ok (.enter f A) w → H noY f args hs K → o.wpIn (FW r) 0 P a w next Q := fun f args A hA hr hc => by
    subst hA
    refine wpIn_enter hd hr ((hH noY f args hs K hc fr w hw).mono ?_)
    rintro e w'' ⟨v, hs', rfl, hb, hsim, hk⟩
    exact ⟨_, rfl, hn _ _ _ hk hb hsim⟩
  unfold trOp at ht
  split at ht
  · simp at ht; subst ht; simp [SOp.reads] at hrd
  · simp at ht; subst ht; simp [SOp.reads] at hrd
  · simp at ht; subst ht; simp [SOp.reads] at hrd
  · exfalso
    split at ht <;> (try (split at ht)) <;> first | (cases ht; done) | (simp at ht; subst ht; simp [SOp.reads] at hrd; done) | (obtain ⟨ks, _, rfl⟩ := Option.map_eq_some_iff.1 ht; simp [SOp.reads] at hrd)
  · simp at ht; subst ht; simp [SOp.reads] at hrd
  · exfalso
    split at ht <;> first | (cases ht; done) | (simp at ht; subst ht; simp [SOp.reads] at hrd; done) | (obtain ⟨ks, _, rfl⟩ := Option.map_eq_some_iff.1 ht; simp [SOp.reads] at hrd)
  · exfalso
    split at ht <;> (try (split at ht)) <;> first | (cases ht; done) | (simp at ht; subst ht; simp [SOp.reads] at hrd; done) | (obtain ⟨ks, _, rfl⟩ := Option.map_eq_some_iff.1 ht; simp [SOp.reads] at hrd)
  · exfalso
    split at ht <;> (try (split at ht)) <;> (try (split at ht)) <;> first | (cases ht; done) | (simp at ht; subst ht; simp [SOp.reads] at hrd; done) | (obtain ⟨ks, _, rfl⟩ := Option.map_eq_some_iff.1 ht; simp [SOp.reads] at hrd)
  · exfalso
    split at ht <;> (try (split at ht)) <;> (try (split at ht)) <;> first | (cases ht; done) | (simp at ht; subst ht; simp [SOp.reads] at hrd; done) | (obtain ⟨ks, _, rfl⟩ := Option.map_eq_some_iff.1 ht; simp [SOp.reads] at hrd)
  · exfalso
    split at ht <;> (try (split at ht)) <;> first | (cases ht; done) | (simp at ht; subst ht; simp [SOp.reads] at hrd; done) | (obtain ⟨ks, _, rfl⟩ := Option.map_eq_some_iff.1 ht; simp [SOp.reads] at hrd)
  · exfalso
    split at ht <;> (try (split at ht)) <;> first | (cases ht; done) | (simp at ht; subst ht; simp [SOp.reads] at hrd; done) | (obtain ⟨ks, _, rfl⟩ := Option.map_eq_some_iff.1 ht; simp [SOp.reads] at hrd)
  · simp at ht; subst ht; simp [SOp.reads] at hrd
  · simp at ht; subst ht; simp [SOp.reads] at hrd
  · simp at ht; subst ht; simp [SOp.reads] at hrd
  · exfalso
    split at ht <;> (try (split at ht)) <;> first | (cases ht; done) | (simp at ht; subst ht; simp [SOp.reads] at hrd; done) | (obtain ⟨ks, _, rfl⟩ := Option.map_eq_some_iff.1 ht; simp [SOp.reads] at hrd)
  · exfalso
    split at ht <;> (try (split at ht)) <;> (try (split at ht)) <;> first | (cases ht; done) | (simp at ht; subst ht; simp [SOp.reads] at hrd; done) | (obtain ⟨ks, _, rfl⟩ := Option.map_eq_some_iff.1 ht; simp [SOp.reads] at hrd)
  · exfalso; rename_i ho; simp [isW, ho] at hW
  · -- alloc
    rename_i t ho
    split at ht
    · rename_i z hz
      simp at ht; subst ht
      obtain ⟨w', s, hs', hr, hb, hsim, hk⟩ := allocS_spec (show allocS t (z.map SV.v) hs K from h) hz hw
      exact wpIn_value hd (by simp only [execOp, ho]; exact run_v hr) (hn _ _ _ hk hb hsim)
    · cases ht
  · -- box
    rename_i t x ho
    simp at ht; subst ht
    simp only [chS] at h
    obtain ⟨x', h1, e1⟩ := Opd.k_spec (k := fun x => boxS t x hs K) h hsl
    obtain ⟨w', s, hs', hr, hb, hsim, hk⟩ := boxS_spec (P := P) h1 hw
    exact wpIn_value hd (by simp only [execOp, ho, e1]; exact run_v hr) (hn _ _ _ hk hb hsim)
  · -- buildSlice
    rename_i t len parts ho
    split at ht
    · rename_i e hu
      split at ht
      · rename_i size z hsz hz
        split at ht
        · rename_i hc
          obtain ⟨hle, hpos, hzl⟩ := hc
          simp at ht; subst ht
          simp only [chS] at h
          obtain ⟨cells, hk, hf⟩ := fillS_spec hsl (fun i => some (i * size, size)) parts.toList _ _ (by simp) h
          obtain ⟨w', s, hs', hr, hb, hsim, hk⟩ := bslS_spec (P := P) (t := t) (parts := parts.map fun (i, x) => (i, a.eval x)) hk hu hsz hz hzl hpos hle (by
            simp only [Array.toList_map]
            rw [← hf]
            congr 2
            rw [show (List.replicate len (List.map SV.v z)).flatten = ((List.replicate len z).flatten).map SV.v by simp [List.map_flatten], concL_map_v]) hw
          exact wpIn_value hd (by simp only [execOp, ho]; exact run_v hr) (hn _ _ _ hk hb hsim)
        · cases ht
      · cases ht
    · cases ht
  · -- makeSlice
    rename_i t l c ho
    split at ht
    · rename_i e hu
      split at ht
      · rename_i i z hi hz
        split at ht
        · rename_i hc
          simp at ht; subst ht
          simp only [chS] at h
          obtain ⟨x', h1, e1⟩ := Opd.k_spec (k := fun x => Opd.k hs.rs sl (trOpd c) fun y => mslS e i.size i.bytes z x y hs K) h hsl
          obtain ⟨y', h2, e2⟩ := Opd.k_spec (k := fun y => mslS e i.size i.bytes z x' y hs K) h1 hsl
          obtain ⟨w', s, hs', hr, hb, hsim, hk⟩ := mslS_spec h2 hu hi hz hc.2 hw
          exact wpIn_value hd (by simp only [execOp, ho, e1, e2]; exact run_v hr) (hn _ _ _ hk hb hsim)
        · cases ht
      · cases ht
    · cases ht
  · -- call
    rename_i c ho
    split at ht
    · exfalso
      split at ht <;> (try (split at ht)) <;> first | (cases ht; done) | (simp at ht; subst ht; simp [SOp.reads] at hrd; done) | (obtain ⟨ks, _, rfl⟩ := Option.map_eq_some_iff.1 ht; simp [SOp.reads] at hrd)
    · exfalso; rename_i hc; simp [isW, ho, hc] at hW
    · -- a function
      rename_i f hc
      split at ht
      · rename_i fn hf
        split at ht
        · rename_i hcond
          simp at ht; subst ht
          simp only [chS] at h
          obtain ⟨args, hk, he⟩ := Opd.ks_spec hsl c.args.toList h
          have hok : FnOk P f := ⟨fn, hf, by simp at hcond; simpa using hcond.1, by simp at hcond; simpa using hcond.2⟩
          refine callG f args (c.args.map a.eval) (by apply Array.ext'; simp [he]) ?_ hk
          have := run_callFunc hok (c.args.map a.eval) w
          simp only [execOp, ho, resolve, hc]
          simp [Deferred.ofValue, Act.eval, invoke] at this ⊢
          exact this
        · cases ht
      · cases ht
    · -- a value
      rename_i g _ hc
      simp at ht; subst ht
      simp only [chS] at h
      obtain ⟨f, h1, e1⟩ := Opd.k_spec (k := fun f => Opd.ks hs.rs sl (c.args.toList.map trOpd) fun args => callvS P H noY f args hs K) h hsl
      obtain ⟨args, h2, e2⟩ := Opd.ks_spec hsl c.args.toList h1
      have hA : c.args.map a.eval = (concL args).toArray := by apply Array.ext'; simp [e2]
      unfold callvS at h2
      split at h2
      · rename_i k first caps
        obtain ⟨hok, hk⟩ := h2
        refine callG k _ ((concL first).toArray ++ (concL args).toArray ++ (concL caps).toArray) (by rw [appendL_conc]; simp) ?_ hk
        have := run_callFunc hok ((concL first).toArray ++ (concL args).toArray ++ (concL caps).toArray) w
        simp only [execOp, ho, resolve, hc, e1, hA]
        simp [Deferred.ofValue, conc, invoke] at this ⊢
        exact this
      · rename_i k first caps
        obtain ⟨hok, hk⟩ := h2
        refine callG k _ (first.toArray ++ (concL args).toArray ++ caps.toArray) (by rw [appendL_conc, concL_map_v, concL_map_v]; simp) ?_ hk
        have := run_callFunc hok (first.toArray ++ (concL args).toArray ++ caps.toArray) w
        simp only [execOp, ho, resolve, hc, e1, hA]
        simp [Deferred.ofValue, conc, invoke] at this ⊢
        exact this
      · exfalso; split at h2
        · exact h2.2
        · exact h2
      · exact h2.elim
    · cases ht
  · cases ht


theorem noY_snd (P : Program) (fr : Fr) : SndY P fr noY := fun _ _ _ _ _ _ h => h.elim

/-- A condition on worlds that memory that is made leaves true. -/
def Stable (S : World → Prop) : Prop := ∀ w w', S w → Below w.heap.size w w' → S w'
def Knows (hs : Hs) (w : World) : Prop := ∃ fr, HSim fr hs w
theorem Knows.stable (hs : Hs) : Stable (Knows hs) := fun _ _ ⟨fr, h⟩ hb => ⟨fr, h.agree hb⟩

theorem regD_any {P : Program} {fr : Fr} {H : Handler} (hH : SndB P H) {nt : Nat} {D : Pin} {ops : Array Oper} {r : Option Nat} {K : Sl → Hs → Prop} {Q : Act → World → Prop} (hpl : plainB ops = true)
    (hQ : ∀ sl hs a w, K sl hs → Sim nt D sl a → HSim fr hs w → Q a w) :
    ∀ (τ : List Nat) (sops : List SOper) (listed : Array Bool) (sl : Sl) (hs : Hs) (a : Act) (w : World) (S : World → Prop), ordOk ops τ sops listed = true → DC ops listed → trReg P nt ops τ = some sops → (∀ d ∈ regDsts sops, d ∈ D.ds) → Sim nt D sl a → HSim fr hs w →
      Stable S → S w → (∀ w, S w → Knows hs w) → regS P H noY sops sl hs K → anyK r P ops Q τ.length S listed a w
  | [], sops, listed, sl, hs, a, w, S, ho, hdc, ht, hds, hsl, hw, hst, hS, hkn, h => by
    simp [trReg] at ht; subst ht
    exact ⟨by simpa [ordOk] using ho, hQ sl hs a w h hsl hw⟩
  | i :: τ, [], listed, sl, hs, a, w, S, ho, hdc, ht, hds, hsl, hw, hst, hS, hkn, h => by simp [ordOk] at ho
  | i :: τ, so :: rest, listed, sl, hs, a, w, S, ho, hdc, ht, hds, hsl, hw, hst, hS, hkn, h => by
    simp only [ordOk, Bool.and_eq_true, Bool.or_eq_true] at ho
    obtain ⟨hstep, ho⟩ := ho
    simp only [trReg] at ht
    split at ht
    · cases ht
    · rename_i o hoi
      split at ht
      · cases ht
      · rename_i so' hso
        split at ht
        · cases ht
        · rename_i rest' hrest
          simp at ht
          obtain ⟨rfl, rfl⟩ := ht
          obtain ⟨hop, hdst, hlt0⟩ := trOper_op hso
          obtain ⟨hd0, hds⟩ := regDsts_head hds
          have hlt : ∀ d, o.dst = some d → d < nt ∧ d ∈ D.ds := fun d h => ⟨hlt0 d h, hd0 d (hdst.trans h)⟩
          have hready : i ∈ Region.ready .any ops listed := by
            rcases hstep with hstep | hstep
            · simpa using hstep.1.1.1.1
            · have : Region.ready .any ops listed = [i] := by simpa using hstep
              rw [this]; simp
          have hdc' := hdc.ready hready
          rw [regS_cons] at h
          -- the rest, at whatever comes next
          have next : ∀ sl1 s hs' w' (S' : World → Prop), Sim nt D sl1 a → (withDst so'.dst sl1 s fun sl => regS P H noY rest' sl hs' K) → HSim fr hs' w' → Stable S' → S' w' → (∀ w, S' w → Knows hs' w) →
              anyK r P ops Q τ.length S' (listed.setIfInBounds i true) (a.put o.dst (conc s)) w' := fun sl1 s hs' w' S' hsl1 hk hsim hst' hS' hkn' => by
            rw [hdst] at hk
            obtain ⟨sl2, hk2, hsl2⟩ := hsl1.putd hlt s (k := fun sl => regS P H noY rest' sl hs' K) hk
            exact regD_any hH hpl hQ τ rest' _ sl2 hs' _ w' S' ho hdc' hrest hds hsl2 hsim hst' hS' hkn' hk2
          -- an operation that only reads, or is not wanted
          have reader : ∀ (v : Value), YieldsIf P ops S o v a → anyK r P ops Q τ.length S (listed.setIfInBounds i true) (a.put o.dst v) w → anyK r P ops Q (i :: τ).length S listed a w := fun v hy hrest => by
            rcases hstep with hstep | hstep
            · obtain ⟨⟨⟨⟨h1, h2⟩, h3⟩, h4⟩, h5⟩ := hstep
              refine anyK_first hoi (plainB_spec hpl) (by simpa using h3) (nd := ops.size) τ.length listed a w (Region.free_spec hoi h2) (fun j hj hji hun => ?_) hdc hready hy hS hrest
              have hlt : j < ops.size := by
                unfold WW at hj
                cases hoj : ops[j]? with
                | none => simp [hoj] at hj
                | some oj => exact (Array.getElem?_eq_some_iff.1 hoj).1
              have := (List.all_eq_true.1 h5) j (List.mem_range.2 hlt)
              simpa [hj, hji, hun] using this
            · have hr : Region.ready .any ops listed = [i] := by simpa using hstep
              refine ⟨fun h0 => (by rw [hr] at h0; cases h0), fun j hj => ?_⟩
              rw [hr] at hj
              obtain rfl : j = i := by simpa using hj
              refine wpOpIn_yields hoi (plainB_spec hpl _ _ hoi) hy hS ?_
              cases hWW : WW ops j with
              | false => exact .inl ⟨rfl, hS, hrest⟩
              | true => exact .inr ⟨rfl, S, hrest⟩
          rcases guardS_spec hso hsl h with ⟨hwant, sl1, h1, hsl1⟩ | ⟨hwant, sl1, h1, hsl1⟩
          · unfold opS at h1
            cases hrd : so'.op.reads with
            | true =>
              simp only [hrd] at h1
              obtain ⟨s, hk, hrun⟩ := rd_sound hop hrd hsl1.slots h1
              refine reader (conc s) (.inl ⟨hwant, fun w' hw' => ?_⟩) (next sl1 s hs w S hsl1 hk hw hst hS hkn)
              obtain ⟨fr', hfr'⟩ := hkn w' hw'
              exact hrun fr' w' hfr'
            | false =>
              simp only [hrd] at h1
              have hr : Region.ready .any ops listed = [i] := by
                rcases hstep with hstep | hstep
                · simp [hrd] at hstep
                · simpa using hstep
              refine ⟨fun h0 => (by rw [hr] at h0; cases h0), fun j hj => ?_⟩
              rw [hr] at hj
              obtain rfl : j = i := by simpa using hj
              unfold wpOpIn
              simp only [hoi]
              rw [if_pos hwant]
              cases hWW : WW ops j with
              | false =>
                have hWo : isW o = false := by simpa [WW, hoi] using hWW
                refine chB_sound hH hop hrd hWo hsl1.slots h1 hw fun s hs' w' hk hb hsim => .inl ⟨rfl, hst w w' hS hb, ?_⟩
                refine anyK_mono (S' := fun w'' => S w'' ∧ Knows hs' w'') (fun _ h => h.1) _ _ _ _ (next sl1 s hs' w' _ hsl1 hk hsim (fun w1 w2 h12 hb => ⟨hst w1 w2 h12.1 hb, Knows.stable hs' w1 w2 h12.2 hb⟩) ⟨hst w w' hS hb, fr, hsim⟩ fun _ h => h.2)
              | true =>
                refine ch_sound (hH.snd fr) (noY_snd P fr) hop hrd hsl1.slots h1 hw fun s hs' w' hk hsim => .inr ⟨rfl, Knows hs', ?_⟩
                exact next sl1 s hs' w' _ hsl1 hk hsim (Knows.stable hs') ⟨fr, hsim⟩ fun _ h => h
          · exact reader undef (.inr ⟨hwant, rfl⟩) (next sl1 (.v undef) hs w S hsl1 h1 hw hst hS hkn)

theorem regD_sound {P : Program} {fr : Fr} {H : Handler} (hH : SndB P H) {nt : Nat} {D : Pin} {ops : Array Oper} {r : Option Nat} {K : Sl → Hs → Prop} {Q : Act → World → Prop} (hm : P.follows .mixedOrders = true) (hpl : plainB ops = true)
    (hQ : ∀ sl hs a w, K sl hs → Sim nt D sl a → HSim fr hs w → Q a w) {τ : List Nat} {sops : List SOper} {sl : Sl} {hs : Hs} {a : Act} {w : World} (hlen : τ.length = ops.size) (ho : ordOk ops τ sops (Array.replicate ops.size false) = true)
    (ht : trReg P nt ops τ = some sops) (hds : ∀ d ∈ regDsts sops, d ∈ D.ds) (hsl : Sim nt D sl a) (hw : HSim fr hs w) (h : regS P H noY sops sl hs K) (id : Nat) : (Code.region id ops true).wpIn (FW r) 0 P (QN Q) a w := by
  refine wpIn_region_any hm ?_
  have hw' : HSim fr hs { w with drawn := w.drawn + 1 } := hw.agree (Below.of_drew w _)
  have hdc : DC ops (Array.replicate ops.size false) := fun k o hk => by
    rw [Array.getD_eq_getD_getElem?, Array.getElem?_replicate] at hk
    split at hk <;> simp at hk
  have := regD_any (r := r) hH hpl hQ τ sops _ sl hs a _ (Knows hs) ho hdc ht hds hsl hw' (Knows.stable hs) ⟨fr, hw'⟩ (fun _ h => h) h
  rw [hlen] at this
  exact anyK_any _ _ _ _ _ this

end Go.Proofs.Ytedjbhpocedagaa.Sx
