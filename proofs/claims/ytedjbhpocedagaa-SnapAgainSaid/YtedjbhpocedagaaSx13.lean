/- A symbolic evaluator over the model's code, part 13: functions; inlined calls; contracts. -/
import Derived.Test.YtedjbhpocedagaaSx12
import Derived.Laws.Sem
namespace Go.Proofs.Ytedjbhpocedagaa.Sx
open Go.RowKit

inductive SRes where
  | tmp (n : Nat)
  | cell (n size : Nat) (agg : Bool)
  deriving Inhabited
structure FnI where
  nt : Nat
  res : List SRes
  code : SCode
  deriving Inhabited

def retVs : List SRes → Sl → Hs → (List SV → Prop) → Prop
  | [], _, _, k => k []
  | .tmp n :: r, sl, hs, k => match getS sl n with
    | some x => force (norm hs.rs x) fun x => retVs r sl hs fun l => k (x :: l)
    | none => False
  | .cell n size agg :: r, sl, hs, k => match getS sl n with
    | some x => loadS agg size hs x fun y => retVs r sl hs fun l => k (y :: l)
    | none => False
def retS (rs : List SRes) (sl : Sl) (hs : Hs) (K : SV → Prop) : Prop := retVs rs sl hs fun l => match l with
  | [x] => K x
  | l => K (.tup l)
def initS : List SV → Nat → Sl
  | [], _ => []
  | x :: r, n => (n, x) :: initS r (n + 1)
def fnE (res : List SRes) (K : SV → Hs → Prop) : Kont := fun e sl hs => match e with
  | .normal => retS res sl hs fun v => K v hs
  | .ret => retS res sl hs fun v => K v hs
  | _ => False
def fnS (P : Program) (H : Handler) (fi : FnI) (Y : Yield) (args : List SV) (hs : Hs) (K : SV → Hs → Prop) : Prop := match Nat.ble args.length fi.nt with
  | true => S P H fi.code false Y (initS args 0) hs (fnE fi.res K)
  | false => False

def trRes (P : Program) : List ResultVar → Option (List SRes)
  | [] => some []
  | .tmp n :: r => match trRes P r with
    | some l => some (.tmp n :: l)
    | none => none
  | .cell n t :: r => match sizeT P t, aggT P t, trRes P r with
    | some size, some agg, some l => if 0 < size then some (.cell n size agg :: l) else none
    | _, _, _ => none
def trFn (P : Program) (f : FuncId) (ords lms : List (List Nat)) : Option FnI := match P.funcs[f]? with
  | some fn => match fn.body with
    | some c => match trC P fn.ntmps c (ords, lms), trRes P fn.results.toList with
      | some (sc, _), some rs => some ⟨fn.ntmps, rs, sc⟩
      | _, _ => none
    | none => none
  | none => none

def oneOr : List Value → Value
  | [x] => x
  | l => .tuple l.toArray
def resOf (tmps : Array Value) : ResultVar → Sem Value
  | .tmp t => pure (tmps.getD t undef)
  | .cell a t => do loadVar t (← asAddr (tmps.getD a undef))
theorem run_results {fn : Func} {tmps : Array Value} {P : Program} {w : World} {vs : List Value} (h : (fn.results.toList.mapM (resOf tmps)).run P w = .ok vs w) : (results fn tmps).run P w = .ok (oneOr vs) w := by
  have e : results fn tmps = (fn.results.mapM (resOf tmps) >>= fun vs => pure (if h : vs.size = 1 then vs[0] else .tuple vs)) := rfl
  rw [e, Array.mapM_eq_mapM_toList]
  rw [map_eq_pure_bind, Sem.run_bind, Sem.run_bind]
  rw [h]
  simp only [Result.andThen, Sem.run_pure]
  match vs with
  | [] => rfl
  | [x] => rfl
  | x :: y :: r => simp [oneOr]

theorem retVs_spec {P : Program} {hs : Hs} {sl : Sl} : ∀ {rvs : List ResultVar} {rs : List SRes} {k : List SV → Prop}, trRes P rvs = some rs → retVs rs sl hs k → ∃ l, k l ∧ ∀ (tmps : Array Value), (∀ n x, getS sl n = some x → tmps[n]? = some (conc x)) → ∀ fr w, HSim fr hs w →
    (rvs.mapM (resOf tmps)).run P w = .ok (concL l) w
  | [], rs, k, ht, h => by
    simp [trRes] at ht; subst ht
    exact ⟨[], h, fun tmps hs' fr w hw => by simp [Sem.run_pure, concL]⟩
  | .tmp n :: r, rs, k, ht, h => by
    simp only [trRes] at ht
    split at ht
    · rename_i l hl
      simp at ht; subst ht
      simp only [retVs, force_eq] at h
      split at h
      · rename_i x hx
        obtain ⟨l', hk, hrun⟩ := retVs_spec hl h
        refine ⟨_, hk, fun tmps hsl fr w hw => ?_⟩
        have := hsl n x hx
        rw [List.mapM_cons]
        simp only [resOf, Sem.run_bind, Sem.run_pure, Result.andThen, hrun tmps hsl fr w hw, concL, conc_norm]
        simp [Array.getD_eq_getD_getElem?, this]
      · exact h.elim
    · cases ht
  | .cell n t :: r, rs, k, ht, h => by
    simp only [trRes] at ht
    split at ht
    · rename_i size agg l hsz hag hl
      split at ht
      · rename_i hpos
        simp at ht; subst ht
        simp only [retVs] at h
        split at h
        · rename_i x hx
          obtain ⟨y, h1, hld⟩ := loadS_spec h hsz hag hpos
          obtain ⟨l', hk, hrun⟩ := retVs_spec hl h1
          refine ⟨_, hk, fun tmps hsl fr w hw => ?_⟩
          have hv := hsl n x hx
          have h2 := hld fr w hw
          have hget : tmps.getD n undef = conc x := by simp [Array.getD_eq_getD_getElem?, hv]
          have h3 : ((asAddr (tmps.getD n undef)).bind fun a => loadVar t a).run P w = .ok (conc y) w := by
            rw [hget]
            generalize conc x = v at h2
            unfold Instr.loadAt Instr.sureAddr at h2
            unfold asAddr
            split at h2
            · exact h2
            · simp [Sem.run_bind, Result.andThen] at h2
          rw [List.mapM_cons]
          have h4 : (asAddr (tmps.getD n undef) >>= fun a => loadVar t a).run P w = .ok (conc y) w := h3
          rw [show resOf tmps (.cell n t) = (asAddr (tmps.getD n undef) >>= fun a => loadVar t a) from rfl, Sem.run_bind, h4]
          simp only [Sem.run_bind, Sem.run_pure, Result.andThen, hrun tmps hsl fr w hw, concL]
        · exact h.elim
      · cases ht
    · cases ht

/-- A mark that is come to. -/
theorem HSim.shut {fr : Fr} {hs : Hs} {w : World} (h : HSim fr hs w) {b : Nat} (hp : ¬ fr.pr b) (hg : ¬ hs.g.g b) (hb : b ∉ hs.bks) (o : Obj) : HSim fr hs (w.putObj b o) := by
  refine ⟨⟨Nat.le_trans h.good.1 (by simp), fun n hn => ?_⟩, ⟨h.frm.os, h.frm.tape, h.frm.output, Nat.le_trans h.frm.size (by simp), fun n hn => ?_⟩, fun x hx => ?_, h.nod, h.fre, h.fz, h.own, Nat.le_trans h.low.1 (by simp), h.low.2⟩
  · exact (World.putObj_heap_other (k := n) (r := b) fun e => hg (e ▸ hn)).trans (h.good.2 n hn)
  · exact (World.putObj_heap_other (k := n) (r := b) fun e => hp (e ▸ hn)).trans (h.frm.block n hn)
  · exact Res.holds_of (fun c hc => World.putObj_heap_other (k := c) (r := b) fun e => hb (e ▸ List.mem_flatMap.2 ⟨x, hx, hc⟩)) (h.res x hx)

theorem leaves_marks {P : Program} {fn : Func} {tmps : Array Value} {R : Ending → World → Prop} {fr : Fr} {hs : Hs} {v : Value} (hv : ∀ w, HSim fr hs w → (results fn tmps).run P w = .ok v w ∧ R (.returned v) w) :
    ∀ (bs : List Nat) (w : World), HSim fr hs w → bs.Nodup → (∀ b ∈ bs, ¬ fr.pr b ∧ ¬ hs.g.g b ∧ b ∉ hs.bks ∧ w.heap[b]? = some (.deferred (some []))) → LeavesInM (FW none) 0 P fn tmps R (bs.map mkD) .returning w
  | [], w, hw, _, _ => ⟨v, hv w hw⟩
  | b :: bs, w, hw, hnod, hbs => by
    obtain ⟨h1, h2, h3, h4⟩ := hbs b (by simp)
    refine ⟨by simp, .inl ⟨b, _, rfl, run_takeDeferred h4, leaves_marks hv bs _ (hw.shut h1 h2 h3 _) (List.nodup_cons.1 hnod).2 fun c hc => ?_⟩⟩
    obtain ⟨k1, k2, k3, k4⟩ := hbs c (by simp [hc])
    exact ⟨k1, k2, k3, (World.putObj_heap_other (k := c) (r := b) fun e => (List.nodup_cons.1 hnod).1 (e ▸ hc)).trans k4⟩

theorem initS_spec : ∀ (args : List SV) (m n : Nat) (x : SV), getS (initS args m) n = some x → ∃ i : Nat, n = m + i ∧ args[i]? = some x
  | [], m, n, x, h => by simp [initS, getS] at h
  | y :: r, m, n, x, h => by
    simp only [initS, getS] at h
    cases hb : Nat.beq m n with
    | true => rw [hb] at h; obtain rfl := Nat.eq_of_beq_eq_true hb; simp at h; subst h; exact ⟨0, rfl, rfl⟩
    | false =>
      rw [hb] at h
      obtain ⟨i, hi, hx⟩ := initS_spec r (m + 1) n x h
      exact ⟨i + 1, by omega, hx⟩

theorem fn_sound {P : Program} {H : Handler} (hm : P.follows .mixedOrders = true) (hH : ∀ fr, SndH P fr H) {f : FuncId} {ords lms : List (List Nat)} {fi : FnI} (ht : trFn P f ords lms = some fi) {fr : Fr} {Y : Yield} (hY : SndY P fr Y) {args : List SV} {hs : Hs} {K : SV → Hs → Prop}
    (h : fnS P H fi Y args hs K) {w : World} (hw : HSim fr hs w) : Calls P f (concL args).toArray w fun e w' => ∃ v hs', e = .returned (conc v) ∧ HSim fr hs' w' ∧ K v hs' := by
  unfold trFn at ht
  split at ht
  · rename_i fn hf
    split at ht
    · rename_i c hc
      split at ht
      · rename_i sc s' rs htc htr
        simp at ht; subst ht
        unfold fnS at h
        split at h
        · rename_i hlen
          have hlen' : args.length ≤ fn.ntmps := Nat.le_of_ble_eq_true hlen
          refine (callsIn_FW none 0).1 (callsIn_of_wp_marks hf hc trivial ?_)
          have hsz : ((concL args).toArray ++ Array.replicate (fn.ntmps - (concL args).toArray.size) undef).size = fn.ntmps := by
            simp [concL_length]; omega
          have hsl : Sim fn.ntmps ⟨[], dsts sc, (concL args).toArray ++ Array.replicate (fn.ntmps - (concL args).toArray.size) undef⟩ (initS args 0) { tmps := (concL args).toArray ++ Array.replicate (fn.ntmps - (concL args).toArray.size) undef, defers := [] } := by
            refine ⟨hsz, rfl, fun n x hx => ?_, fun _ _ => rfl⟩
            obtain ⟨i, rfl, hi⟩ := initS_spec args 0 n x hx
            have hlt : i < args.length := (List.getElem?_eq_some_iff.1 hi).1
            show ((concL args).toArray ++ _)[0 + i]? = _
            rw [Array.getElem?_append_left (by simp [concL_length]; omega)]
            simp [concL_eq, hi]
          refine wpIn_mono (S_sound hm hH c fr none false Y (dsts sc) _ sc _ s' (initS args 0) hs _ _ w htc (fun d hd => hd) (fun _ => rfl) hY ⟨fr, [], Fr.refl _, hw, hsl, [], rfl, .nil, fun b hb => by cases hb⟩ h) ?_
          rintro e a w' ⟨ex, sl', hs', rfl, hk, fr', D, hle, hw', hsl', bs, hD, hnod, hbs⟩
          have fin : (retS rs sl' hs' fun v => K v hs') → LeavesInM (FW none) 0 P fn a.tmps (fun e w' => ∃ v hs', e = .returned (conc v) ∧ HSim fr hs' w' ∧ K v hs') a.defers .returning w' := fun hk => by
            rw [hsl'.defers]
            simp only [hD]
            obtain ⟨l, hk, hrun⟩ := retVs_spec (k := fun l => match l with
              | [x] => K x hs'
              | l => K (.tup l) hs') htr hk
            refine leaves_marks (fr := fr) (hs := hs') (v := oneOr (concL l)) (fun w2 hw2 => ⟨run_results (hrun a.tmps hsl'.slots fr w2 hw2), ?_⟩) bs w' (hw'.weaken hle) hnod fun b hb => ?_
            · match l, hk with
              | [], hk => exact ⟨.tup [], hs', rfl, hw2, hk⟩
              | [x], hk => exact ⟨x, hs', rfl, hw2, hk⟩
              | x :: y :: r, hk => exact ⟨.tup (x :: y :: r), hs', rfl, hw2, hk⟩
            · obtain ⟨h1, h2, h3, h4⟩ := hbs b hb
              exact ⟨h1, fun hg => h2 (hw'.fz b h3 hg), fun hmem => (hw'.fre b hmem).2 h3, (hw'.frm.block b h3).trans h4⟩
          cases ex with
          | normal => exact fin hk
          | ret => exact fin hk
          | exit n => exact hk.elim
          | goto n => exact hk.elim
        · exact h.elim
      · cases ht
    · cases ht
  · cases ht

/-! ### Inlined calls -/
def findFn (f : Nat) : List (Nat × FnI) → Option FnI
  | [] => none
  | (g, fi) :: r => match Nat.beq g f with
    | true => some fi
    | false => findFn f r
def inlH (P : Program) (tbl : List (Nat × FnI)) : Nat → Handler
  | 0 => okH P
  | d + 1 => fun Y f args hs K => match findFn f tbl with
    | some fi => fnS P (inlH P tbl d) fi Y args hs K
    | none => okH P Y f args hs K
def TblOk (P : Program) (tbl : List (Nat × FnI)) : Prop := ∀ x ∈ tbl, ∃ o l, trFn P x.1 o l = some x.2
theorem findFn_mem {f : Nat} {fi : FnI} : ∀ {tbl : List (Nat × FnI)}, findFn f tbl = some fi → (f, fi) ∈ tbl
  | [], h => by simp [findFn] at h
  | (g, fi') :: r, h => by
    simp only [findFn] at h
    cases hb : Nat.beq g f with
    | true => rw [hb] at h; obtain rfl := Nat.eq_of_beq_eq_true hb; simp at h; subst h; simp
    | false => rw [hb] at h; exact List.mem_cons_of_mem _ (findFn_mem h)
theorem inlH_snd {P : Program} (hm : P.follows .mixedOrders = true) {tbl : List (Nat × FnI)} (ht : TblOk P tbl) : ∀ (d : Nat) (fr : Fr), SndH P fr (inlH P tbl d)
  | 0, fr => (okH_snd P).snd fr
  | d + 1, fr => fun Y hY f args hs K h w hw => by
    simp only [inlH] at h
    split at h
    · rename_i fi hfi
      obtain ⟨o, l, htr⟩ := ht _ (findFn_mem hfi)
      exact fn_sound hm (fun fr => inlH_snd hm ht d fr) htr hY h hw
    · exact (okH_snd P).snd fr Y hY f args hs K h w hw

def fnOkB (P : Program) (f : FuncId) : Bool := match P.funcs[f]? with
  | some fn => fn.body.isSome && !(fn.name == "runtime.NumGoroutine")
  | none => false
theorem FnOk.of {P : Program} {f : FuncId} (h : fnOkB P f = true) : FnOk P f := by
  unfold fnOkB at h
  split at h
  · rename_i fn hf
    simp only [Bool.and_eq_true, Bool.not_eq_true'] at h
    exact ⟨fn, hf, h.1, h.2⟩
  · cases h

/-! ### Contracts -/
theorem Ok.of_fn {P : Program} (hm : P.follows .mixedOrders = true) {tbl : List (Nat × FnI)} (hT : TblOk P tbl) (d : Nat) {f : FuncId} {ords lms : List (List Nat)} {fi : FnI} (ht : trFn P f ords lms = some fi) {args : List SV} {g : GW} {Q : Value → GW → Prop}
    (h : fnS P (inlH P tbl d) fi noY args ⟨g, [], 0, g.w.heap.size⟩ fun v hs' => pubK v hs' fun v' hs'' => concK v' fun x => ∀ g2, hs''.g ≤ g2 → Q x g2) : Ok P f (concL args) g Q := by
  intro w hw
  have hsim : HSim ⟨w, (· < w.heap.size), g.g, fun _ h => h⟩ ⟨g, [], 0, g.w.heap.size⟩ w := ⟨hw, ⟨rfl, rfl, rfl, Nat.le_refl _, fun _ _ => rfl⟩, (fun r hr => by cases hr), List.nodup_nil, (fun b hb => by cases hb), (fun n _ h => h), (fun n hl hg _ => by have := g.wf n hg; exact absurd hl (Nat.not_le.2 this)), hw.1, fun b hb => by cases hb⟩
  refine (fn_sound hm (fun fr => inlH_snd hm hT d fr) ht (noY_snd P _) h hsim).mono ?_
  rintro e w' ⟨v, hs', rfl, hw', hk⟩
  obtain ⟨v', hs'', hk, hc, hw''⟩ := pubK_spec v hk hw'
  have hq := concK_spec v' hk
  rw [hc] at hq
  refine ⟨_, rfl, ⟨hw''.frm.os, hw''.frm.tape, hw''.frm.output, hw''.frm.size, fun n hn => hw''.frm.block n hn⟩, hq _ ⟨hw''.good.1, fun n hn => ⟨⟨Nat.lt_of_lt_of_le (hs''.g.wf n hn) hw''.good.1, ?_⟩, hw''.good.2 n hn⟩⟩⟩
  rcases Nat.lt_or_ge n w.heap.size with hlt | hge
  · exact .inl (hw''.fz n hlt hn)
  · exact .inr hge
end Go.Proofs.Ytedjbhpocedagaa.Sx
