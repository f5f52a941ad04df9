/- A symbolic evaluator over the model's code, part 8: contracts as a handler of calls; whole statements (regions) in the order of the text. -/
import Derived.Test.YtedjbhpocedagaaSx7
import Derived.OrdersIn
import Derived.OrdersHeld
namespace Go.Proofs.Ytedjbhpocedagaa.Sx
open Go.RowKit

/-! ### Calls by contract -/
theorem HSim.row_pub {fr : Fr} {g : GW} {id : Nat} {oa : Option Addr} {n cap : Nat} {ety : TypeId} {size : Nat} {cs : List Value} {rs : List Res} {nx lo : Nat} {w : World} (h : HSim fr ⟨g, .row id oa n cap ety size cs :: rs, nx, lo⟩ w) :
    ∃ g', g ≤ g' ∧ (∀ a, oa = some a → ¬ g.g a.block) ∧ PbSl g' lo ety size (.slice oa n cap) n cs ∧ HSim fr ⟨g', rs, nx, lo⟩ w := by
  obtain ⟨s, hs', ⟨g', h1, h0, h2, rfl⟩, _, hw⟩ := pub1_spec (x := .row id oa n cap) (K := fun _ hs' => ∃ g', g ≤ g' ∧ (∀ a, oa = some a → ¬ g.g a.block) ∧ PbSl g' lo ety size (.slice oa n cap) n cs ∧ hs' = ⟨g', rs, nx, lo⟩) (by
    simp only [pub1_eq, norm, findRow, updR, Nat.beq_refl]
    exact ⟨⟨trivial, trivial, trivial⟩, fun g' h1 h0 h2 => ⟨g', h1, h0, h2, rfl⟩⟩) h
  exact ⟨g', h1, h0, h2, hw⟩

mutual
def pubK (x : SV) (hs : Hs) (K : SV → Hs → Prop) : Prop := match x with
  | .agg l => pubLK l hs fun l' hs' => K (.agg l') hs'
  | .tup l => pubLK l hs fun l' hs' => K (.tup l') hs'
  | .sl a b o n m => pubD (.sl a b o n m) hs fun hs' => pub1 (.sl a b o n m) hs' K
  | x => pub1 x hs K
def pubLK (l : List SV) (hs : Hs) (K : List SV → Hs → Prop) : Prop := match l with
  | [] => K [] hs
  | x :: r => pubK x hs fun x' hs' => pubLK r hs' fun r' hs'' => K (x' :: r') hs''
end
mutual
theorem pubK_spec : ∀ (x : SV) {hs : Hs} {K : SV → Hs → Prop} {fr : Fr} {w : World}, pubK x hs K → HSim fr hs w → ∃ s hs', K s hs' ∧ conc s = conc x ∧ HSim fr hs' w
  | .agg l, hs, K, fr, w, h, hw => by
    obtain ⟨l', hs', hk, hc, hsim⟩ := pubLK_spec l (K := fun l' hs' => K (.agg l') hs') (by simpa only [pubK] using h) hw
    exact ⟨_, _, hk, by simp [conc, hc], hsim⟩
  | .tup l, hs, K, fr, w, h, hw => by
    obtain ⟨l', hs', hk, hc, hsim⟩ := pubLK_spec l (K := fun l' hs' => K (.tup l') hs') (by simpa only [pubK] using h) hw
    exact ⟨_, _, hk, by simp [conc, hc], hsim⟩
  | .v _, _, _, _, _, h, hw => pub1_spec (by simpa only [pubK] using h) hw
  | .b _, _, _, _, _, h, hw => pub1_spec (by simpa only [pubK] using h) hw
  | .p _ _ _, _, _, _, _, h, hw => pub1_spec (by simpa only [pubK] using h) hw
  | .sl a b o n m, hs, K, fr, w, h, hw => by
    obtain ⟨hs', h1, h2⟩ := pubD_spec _ _ _ _ _ (show pubD (.sl a b o n m) hs fun hs' => pub1 (.sl a b o n m) hs' K by simpa only [pubK] using h) hw
    exact pub1_spec h1 h2
  | .row _ _ _ _, _, _, _, _, h, hw => pub1_spec (by simpa only [pubK] using h) hw
  | .re _ _ _ _ _, _, _, _, _, h, hw => pub1_spec (by simpa only [pubK] using h) hw
  | .fn _ _ _, _, _, _, _, h, hw => pub1_spec (by simpa only [pubK] using h) hw
  | .yl _ _, _, _, _, _, h, hw => pub1_spec (by simpa only [pubK] using h) hw
theorem pubLK_spec : ∀ (l : List SV) {hs : Hs} {K : List SV → Hs → Prop} {fr : Fr} {w : World}, pubLK l hs K → HSim fr hs w → ∃ l' hs', K l' hs' ∧ concL l' = concL l ∧ HSim fr hs' w
  | [], hs, K, fr, w, h, hw => ⟨[], hs, by simpa only [pubLK] using h, rfl, hw⟩
  | x :: r, hs, K, fr, w, h, hw => by
    obtain ⟨x', hs', h1, hc, hw'⟩ := pubK_spec x (K := fun x' hs' => pubLK r hs' fun r' hs'' => K (x' :: r') hs'') (by simpa only [pubLK] using h) hw
    obtain ⟨r', hs'', h2, hc', hw''⟩ := pubLK_spec r h1 hw'
    exact ⟨_, _, h2, by simp [concL, hc, hc'], hw''⟩
end

/-- A call by its contract: the result is a value that is named (and the world may stay as it is in what is told of it), or one of which the contract tells. -/
def okK (P : Program) (f : FuncId) (K : SV → Hs → Prop) (args' : List SV) (hs' : Hs) : Prop := match hs' with
  | ⟨hg, hr, hn, hl⟩ => concLK args' fun vs => (∃ v, OkV P f vs hg v ∧ K (.v v) ⟨hg, hr, hn, hl⟩) ∨ Ok P f vs hg fun v g' => K (.v v) ⟨g', hr, hn, hl⟩
def okH (P : Program) : Handler := fun _ f args hs K => pubLK args hs (okK P f K)

/-- A handler of calls that only make memory. -/
def SndB (P : Program) (H : Handler) : Prop := ∀ Y f args hs K, H Y f args hs K → ∀ fr w, HSim fr hs w →
  Calls P f (concL args).toArray w fun e w' => ∃ v hs', e = .returned (conc v) ∧ Below w.heap.size w w' ∧ HSim fr hs' w' ∧ K v hs'
theorem SndB.snd {P : Program} {H : Handler} (h : SndB P H) (fr : Fr) : SndH P fr H := fun Y _ f args hs K hk w hw =>
  (h Y f args hs K hk fr w hw).mono fun _ _ ⟨v, hs', he, _, hsim, hk⟩ => ⟨v, hs', he, hsim, hk⟩

theorem okH_snd (P : Program) : SndB P (okH P) := fun Y f args hs K h fr w hw => by
  obtain ⟨args', hs', h, hc, hw'⟩ := pubLK_spec args h hw
  rw [← hc]
  obtain ⟨hg, hr, hn, hl⟩ := hs'
  unfold okK at h
  rcases concLK_spec _ h with ⟨v, hok, hk⟩ | hok
  · refine (hok w hw'.good).mono ?_
    rintro e w'' ⟨v', rfl, hb, rfl⟩
    exact ⟨.v v', _, rfl, hb, hw'.agree hb, hk⟩
  · refine (hok w hw'.good).mono ?_
    rintro e w'' ⟨v', rfl, hb, hk⟩
    exact ⟨.v v', _, rfl, hb, hw'.called hb, hk⟩

/-! ### Whole statements, in the order of the text -/
structure SOper where
  dst : Option Nat
  op : SOp
  g : Option (Nat × Bool)
  deriving Inhabited

def opS (P : Program) (H : Handler) (Y : Yield) (o : SOp) (sl : Sl) (hs : Hs) (K : SV → Hs → Prop) : Prop := match o.reads with
  | true => rdS o sl hs fun x => K x hs
  | false => chS P H Y o sl hs K

def guardS (sl : Sl) (g : Option (Nat × Bool)) (Yes No : Sl → Prop) : Prop := match g with
  | none => Yes sl
  | some (d, want) => match getS sl d with
    | some (.b true) => match want with
      | true => Yes sl
      | false => No sl
    | some (.b false) => match want with
      | true => No sl
      | false => Yes sl
    | some (.v (.bool c)) => match want with
      | true => (c = true → Yes ((d, .b true) :: sl)) ∧ (c = false → No ((d, .b false) :: sl))
      | false => (c = true → No ((d, .b true) :: sl)) ∧ (c = false → Yes ((d, .b false) :: sl))
    | some (.v (.tuple _)) => No sl
    | _ => False

def withDst (dst : Option Nat) (sl : Sl) (x : SV) (k : Sl → Prop) : Prop := match dst with
  | some d => k ((d, x) :: sl)
  | none => k sl

def regC (P : Program) (H : Handler) (Y : Yield) (o : SOper) (ih : Sl → Hs → (Sl → Hs → Prop) → Prop) (sl : Sl) (hs : Hs) (K : Sl → Hs → Prop) : Prop := guardS sl o.g
    (fun sl => opS P H Y o.op sl hs fun x hs' => withDst o.dst sl x fun sl => ih sl hs' K)
    (fun sl => withDst o.dst sl (.v undef) fun sl => ih sl hs K)
def regN (sl : Sl) (hs : Hs) (K : Sl → Hs → Prop) : Prop := K sl hs
def regS (P : Program) (H : Handler) (Y : Yield) (ops : List SOper) : Sl → Hs → (Sl → Hs → Prop) → Prop :=
  List.rec (motive := fun _ => Sl → Hs → (Sl → Hs → Prop) → Prop) regN (fun o _ ih => regC P H Y o ih) ops
theorem regS_cons {P : Program} {H : Handler} {Y : Yield} {o : SOper} {r : List SOper} {sl : Sl} {hs : Hs} {K : Sl → Hs → Prop} : regS P H Y (o :: r) sl hs K = guardS sl o.g
    (fun sl => opS P H Y o.op sl hs fun x hs' => withDst o.dst sl x fun sl => regS P H Y r sl hs' K)
    (fun sl => withDst o.dst sl (.v undef) fun sl => regS P H Y r sl hs K) := rfl

def trOper (P : Program) (nt : Nat) (ops : Array Oper) (o : Oper) : Option SOper := match trOp P o with
  | none => none
  | some so => if (o.dst.all fun d => decide (d < nt)) then match o.guard with
    | none => some ⟨o.dst, so, none⟩
    | some (j, b) => match (ops[j]?).bind (·.dst) with
      | some d => some ⟨o.dst, so, some (d, b)⟩
      | none => none
    else none
def trReg (P : Program) (nt : Nat) (ops : Array Oper) : List Nat → Option (List SOper)
  | [] => some []
  | i :: τ => match ops[i]? with
    | none => none
    | some o => match trOper P nt ops o with
      | none => none
      | some so => match trReg P nt ops τ with
        | none => none
        | some r => some (so :: r)

/-- The frame at hand is what the evaluator knows. -/
structure Pin where
  D : List Deferred
  ds : List Nat
  t : Array Value
structure Sim (nt : Nat) (D : Pin) (sl : Sl) (a : Act) : Prop where
  size : a.tmps.size = nt
  defers : a.defers = D.D
  slots : SlotSim sl a
  off : ∀ n, n ∉ D.ds → a.tmps[n]? = D.t[n]?
def regDsts : List SOper → List Nat
  | [] => []
  | o :: r => match o.dst with
    | some d => d :: regDsts r
    | none => regDsts r
theorem regDsts_head {o : SOper} {r : List SOper} {ds : List Nat} (h : ∀ d ∈ regDsts (o :: r), d ∈ ds) : (∀ d, o.dst = some d → d ∈ ds) ∧ ∀ d ∈ regDsts r, d ∈ ds := by
  simp only [regDsts] at h
  split at h
  · rename_i d hd
    exact ⟨fun d' h' => h _ (by rw [hd] at h'; cases h'; simp), fun d' h' => h _ (by simp [h'])⟩
  · rename_i hd
    exact ⟨fun d' h' => (by rw [hd] at h'; cases h'), h⟩

theorem Sim.put {nt : Nat} {D : Pin} {sl : Sl} {a : Act} (h : Sim nt D sl a) {d : Nat} (hd : d < nt) (hd2 : d ∈ D.ds) (x : SV) : Sim nt D ((d, x) :: sl) (a.put (some d) (conc x)) := by
  refine ⟨by simp [Act.put, h.size], by simp [Act.put, h.defers], fun n y hy => ?_, fun n hn => ?_⟩
  rotate_left
  · have hne : d ≠ n := fun e => hn (e ▸ hd2)
    simp only [Act.put]
    rw [Array.getElem?_setIfInBounds_ne hne]; exact h.off n hn
  simp only [getS] at hy
  cases hn : Nat.beq d n with
  | true =>
    rw [hn] at hy
    obtain rfl := Nat.eq_of_beq_eq_true hn
    simp at hy; subst hy
    have : d < a.tmps.size := by rw [h.size]; exact hd
    simp [Act.put, this]
  | false =>
    rw [hn] at hy
    have hne : d ≠ n := Nat.ne_of_beq_eq_false hn
    simp only [Act.put]
    rw [Array.getElem?_setIfInBounds_ne hne]
    exact h.slots n y hy
theorem Sim.put_none {nt : Nat} {D : Pin} {sl : Sl} {a : Act} (h : Sim nt D sl a) (v : Value) : Sim nt D sl (a.put none v) := h
theorem Sim.same {nt : Nat} {D : Pin} {sl : Sl} {a : Act} (h : Sim nt D sl a) {d : Nat} {x y : SV} (hx : getS sl d = some x) (he : conc y = conc x) : Sim nt D ((d, y) :: sl) a := by
  refine ⟨h.size, h.defers, fun n z hz => ?_, h.off⟩
  simp only [getS] at hz
  cases hn : Nat.beq d n with
  | true =>
    rw [hn] at hz
    obtain rfl := Nat.eq_of_beq_eq_true hn
    simp at hz; subst hz
    rw [he]; exact h.slots d x hx
  | false => rw [hn] at hz; exact h.slots n z hz

/-- The guard. -/
theorem guardS_spec {nt : Nat} {D : Pin} {sl : Sl} {a : Act} {Yes No : Sl → Prop} {o : Oper} {so : SOper} {ops : Array Oper} {P : Program} (ht : trOper P nt ops o = some so) (hs : Sim nt D sl a) (h : guardS sl so.g Yes No) :
    (Region.wanted o (yielded ops a.tmps) = true ∧ ∃ sl', Yes sl' ∧ Sim nt D sl' a) ∨ (Region.wanted o (yielded ops a.tmps) = false ∧ ∃ sl', No sl' ∧ Sim nt D sl' a) := by
  unfold trOper at ht
  split at ht
  · cases ht
  · split at ht
    · split at ht
      · rename_i hg
        simp at ht; subst ht
        exact .inl ⟨by simp [Region.wanted, hg], sl, h, hs⟩
      · rename_i j b hg
        split at ht
        · rename_i d hd
          simp at ht; subst ht
          have hy : ∀ v, a.tmps[d]? = some v → yielded ops a.tmps j = match v with | .bool x => some x | _ => none := fun v hv => by
            simp only [yielded, hd, Option.bind_some, hv]
            cases v <;> rfl
          have hw : Region.wanted o (yielded ops a.tmps) = (yielded ops a.tmps j == some b) := by simp [Region.wanted, hg]
          simp only [guardS] at h
          split at h
          · rename_i he
            have := hy _ (hs.slots d _ he)
            cases b with
            | true => exact .inl ⟨by rw [hw, this]; rfl, sl, h, hs⟩
            | false => exact .inr ⟨by rw [hw, this]; rfl, sl, h, hs⟩
          · rename_i he
            have := hy _ (hs.slots d _ he)
            cases b with
            | true => exact .inr ⟨by rw [hw, this]; rfl, sl, h, hs⟩
            | false => exact .inl ⟨by rw [hw, this]; rfl, sl, h, hs⟩
          · rename_i c he
            have := hy _ (hs.slots d _ he)
            cases b with
            | true =>
              cases c with
              | true => exact .inl ⟨by rw [hw, this]; rfl, _, h.1 rfl, hs.same he rfl⟩
              | false => exact .inr ⟨by rw [hw, this]; rfl, _, h.2 rfl, hs.same he rfl⟩
            | false =>
              cases c with
              | true => exact .inr ⟨by rw [hw, this]; rfl, _, h.1 rfl, hs.same he rfl⟩
              | false => exact .inl ⟨by rw [hw, this]; rfl, _, h.2 rfl, hs.same he rfl⟩
          · rename_i he
            have := hy _ (hs.slots d _ he)
            exact .inr ⟨by rw [hw, this]; rfl, sl, h, hs⟩
          · exact h.elim
        · cases ht
    · cases ht

theorem trOper_op {P : Program} {nt : Nat} {ops : Array Oper} {o : Oper} {so : SOper} (ht : trOper P nt ops o = some so) : trOp P o = some so.op ∧ so.dst = o.dst ∧ ∀ d, o.dst = some d → d < nt := by
  unfold trOper at ht
  split at ht
  · cases ht
  · rename_i s hs
    split at ht
    · rename_i hd
      have hd' : ∀ d, o.dst = some d → d < nt := fun d h => by rw [h] at hd; simpa using hd
      split at ht
      · simp at ht; subst ht; exact ⟨hs, rfl, hd'⟩
      · split at ht
        · simp at ht; subst ht; exact ⟨hs, rfl, hd'⟩
        · cases ht
    · cases ht

theorem Sim.putd {nt : Nat} {D : Pin} {sl : Sl} {a : Act} (h : Sim nt D sl a) {dst : Option Nat} (hd : ∀ d, dst = some d → d < nt ∧ d ∈ D.ds) (x : SV) {k : Sl → Prop} (hk : withDst dst sl x k) :
    ∃ sl', k sl' ∧ Sim nt D sl' (a.put dst (conc x)) := by
  cases dst with
  | none => exact ⟨sl, hk, h⟩
  | some d => exact ⟨_, hk, h.put (hd d rfl).1 (hd d rfl).2 x⟩

theorem regS_sound {P : Program} {fr : Fr} {H : Handler} {Y : Yield} (hH : SndH P fr H) (hY : SndY P fr Y) {nt : Nat} {D : Pin} {ops : Array Oper} {r : Option Nat} {K : Sl → Hs → Prop} {Q : Exit → Act → World → Prop}
    (hQ : ∀ sl hs a w, K sl hs → Sim nt D sl a → HSim fr hs w → Q .normal a w) :
    ∀ (τ : List Nat) (sops : List SOper) (sl : Sl) (hs : Hs) (a : Act) (w : World), trReg P nt ops τ = some sops → (∀ d ∈ regDsts sops, d ∈ D.ds) → Sim nt D sl a → HSim fr hs w → regS P H Y sops sl hs K → wpOpsIn (FW r) 0 P ops Q τ a w
  | [], sops, sl, hs, a, w, ht, hds, hsl, hw, h => by
    simp [trReg] at ht; subst ht
    exact hQ sl hs a w h hsl hw
  | i :: τ, sops, sl, hs, a, w, ht, hds, hsl, hw, h => by
    simp only [trReg] at ht
    split at ht
    · cases ht
    · rename_i o ho
      split at ht
      · cases ht
      · rename_i so hso
        split at ht
        · cases ht
        · rename_i rest hrest
          simp at ht; subst ht
          obtain ⟨hop, hdst, hlt0⟩ := trOper_op hso
          obtain ⟨hd0, hds⟩ := regDsts_head hds
          have hlt : ∀ d, o.dst = some d → d < nt ∧ d ∈ D.ds := fun d h => ⟨hlt0 d h, hd0 d (hdst.trans h)⟩
          have ih := regS_sound (ops := ops) (r := r) hH hY hQ τ rest
          rw [wpOpsIn_cons]
          unfold wpOpIn
          simp only [ho]
          rw [regS_cons] at h
          rcases guardS_spec hso hsl h with ⟨hwant, sl1, h1, hsl1⟩ | ⟨hwant, sl1, h1, hsl1⟩
          · rw [if_pos hwant]
            have cont : ∀ s hs' w', (withDst so.dst sl1 s fun sl => regS P H Y rest sl hs' K) → HSim fr hs' w' → wpOpsIn (FW r) 0 P ops Q τ (a.put o.dst (conc s)) w' := fun s hs' w' hk hsim => by
              rw [hdst] at hk
              obtain ⟨sl2, hk2, hsl2⟩ := hsl1.putd hlt s (k := fun sl => regS P H Y rest sl hs' K) hk
              exact ih sl2 hs' _ w' hrest hds hsl2 hsim hk2
            unfold opS at h1
            cases hrd : so.op.reads with
            | true =>
              simp only [hrd] at h1
              obtain ⟨s, hk, hrun⟩ := rd_sound hop hrd hsl1.slots h1
              exact wpIn_value (trOp_noDefer hop).1 (hrun fr w hw) (cont s hs w hk hw)
            | false =>
              simp only [hrd] at h1
              exact ch_sound hH hY hop hrd hsl1.slots h1 hw cont
          · rw [hwant]
            refine ⟨fun _ _ => trivial, ?_⟩
            rw [hdst] at h1
            obtain ⟨sl2, hk2, hsl2⟩ := hsl1.putd hlt (.v undef) (k := fun sl => regS P H Y rest sl hs K) h1
            exact ih sl2 hs _ w hrest hds hsl2 hw hk2

end Go.Proofs.Ytedjbhpocedagaa.Sx
