/- A symbolic evaluator over the model's code, part 7: every operation of it. -/
import Derived.Test.YtedjbhpocedagaaSx6
namespace Go.Proofs.Ytedjbhpocedagaa.Sx
open Go.RowKit

theorem appendL_conc (a b c : List SV) : concL (a ++ b ++ c) = concL a ++ concL b ++ concL c := by simp [concL_append]

theorem run_callFunc {P : Program} {f : FuncId} (h : FnOk P f) (args : Array Value) (w : World) : (callFunc f args).run P w = .ok (.enter f args) w := by
  obtain ⟨fn, hf, hb, hn⟩ := h
  have hb' : fn.body.isNone = false := by cases hh : fn.body <;> simp_all
  simp only [callFunc, Sem.run_bind, run_program, Result.andThen, hf, hn, hb', Bool.false_eq_true, if_false, Sem.run_pure]

theorem roundIn_FW {P : Program} {l : Nat} {f : FuncId} {tmps : Array Value} {assign body : Code} {w : World} {R : Ending → World → Prop} (r r' : Option Nat) (n n' : Nat) (h : RoundIn (FW r) n P l f tmps assign body w R) : RoundIn (FW r') n' P l f tmps assign body w R :=
  ⟨trivial, fun c cs _ => h.2 c cs (FW_room _ _)⟩

/-- What an operation does, from what its run gives. -/
theorem wpIn_value {P : Program} {o : Oper} {a : Act} {w w' : World} {next : Act → World → Prop} {Q : Exit → Act → World → Prop} {r : Option Nat} {v : Value} (hd : ∀ c, o.op ≠ .defer c) (h : (execOp a.eval o).run P w = .ok (.value v) w') (hn : next (a.put o.dst v) w') : o.wpIn (FW r) 0 P a w next Q := by
  refine ⟨fun _ _ => trivial, ?_⟩
  rw [Oper.semAt_eq _ _ _ hd, h]
  exact hn
theorem wpIn_skip' {P : Program} {o : Oper} {a : Act} {w w' : World} {next : Act → World → Prop} {Q : Exit → Act → World → Prop} {r : Option Nat} (hd : ∀ c, o.op ≠ .defer c) (h : (execOp a.eval o).run P w = .ok .skip w') (hn : next (a.put o.dst undef) w') : o.wpIn (FW r) 0 P a w next Q := by
  refine ⟨fun _ _ => trivial, ?_⟩
  rw [Oper.semAt_eq _ _ _ hd, h]
  exact hn
theorem wpIn_enter {P : Program} {o : Oper} {a : Act} {w w' : World} {next : Act → World → Prop} {Q : Exit → Act → World → Prop} {r : Option Nat} {f : FuncId} {args : Array Value} (hd : ∀ c, o.op ≠ .defer c) (h : (execOp a.eval o).run P w = .ok (.enter f args) w')
    (hc : Calls P f args w' fun e w'' => ∃ v, e = .returned v ∧ next (a.put o.dst v) w'') : o.wpIn (FW r) 0 P a w next Q := by
  refine ⟨fun _ _ => trivial, ?_⟩
  rw [Oper.semAt_eq _ _ _ hd, h]
  refine ⟨fun h => by simp [FW] at h, (callsIn_FW r _).2 (hc.mono ?_)⟩
  rintro e w'' ⟨v, rfl, hn⟩
  exact hn
theorem wpIn_round {P : Program} {o : Oper} {a : Act} {w w' : World} {next : Act → World → Prop} {Q : Exit → Act → World → Prop} {r : Option Nat} {l : Nat} {f : FuncId} {tmps : Array Value} {assign body : Code} (hd : ∀ c, o.op ≠ .defer c) (h : (execOp a.eval o).run P w = .ok (.round l f tmps assign body) w')
    (hc : RoundIn (FW none) 0 P l f tmps assign body w' fun e w'' => ∃ v, e = .returned v ∧ next (a.put o.dst v) w'') : o.wpIn (FW r) 0 P a w next Q := by
  refine ⟨fun _ _ => trivial, ?_⟩
  rw [Oper.semAt_eq _ _ _ hd, h]
  refine ⟨fun h => by simp [FW] at h, roundIn_FW none r 0 _ (hc.mono ?_)⟩
  rintro e w'' ⟨v, rfl, hn⟩
  exact hn

theorem trOp_noDefer {P : Program} {o : Oper} {so : SOp} (ht : trOp P o = some so) : (∀ c, o.op ≠ .defer c) ∧ ∀ cs b, o.op ≠ .select cs b := by
  refine ⟨fun c h => ?_, fun cs b h => ?_⟩ <;> simp [trOp, h] at ht

theorem concL_map_v (l : List Value) : concL (l.map SV.v) = l := by simp [concL_eq, Function.comp_def, conc]

theorem ch_sound {P : Program} {fr : Fr} {H : Handler} {Y : Yield} (hH : SndH P fr H) (hY : SndY P fr Y) {o : Oper} {so : SOp} (ht : trOp P o = some so) (hrd : so.reads = false) {sl : Sl} {a : Act} (hsl : SlotSim sl a) {hs : Hs} {K : SV → Hs → Prop} (h : chS P H Y so sl hs K)
    {w : World} (hw : HSim fr hs w) {next : Act → World → Prop} {Q : Exit → Act → World → Prop} {r : Option Nat} (hn : ∀ s hs' w', K s hs' → HSim fr hs' w' → next (a.put o.dst (conc s)) w') : o.wpIn (FW r) 0 P a w next Q := by
  obtain ⟨hd, _⟩ := trOp_noDefer ht
  -- calls
  have callG : ∀ (f : FuncId) (args : List SV) (A : Array Value), A = (concL args).toArray → (execOp a.eval o).run P w = .ok (.enter f A) w → H Y f args hs K → o.wpIn (FW r) 0 P a w next Q := fun f args A hA hr hc => by
    subst hA
    refine wpIn_enter hd hr ((hH Y hY f args hs K hc w hw).mono ?_)
    rintro e w'' ⟨v, hs', rfl, hsim, hk⟩
    exact ⟨_, rfl, hn _ _ _ hk hsim⟩
  unfold trOp at ht
  split at ht
  · simp at ht; subst ht; simp [SOp.reads] at hrd
  · simp at ht; subst ht; simp [SOp.reads] at hrd
  · simp at ht; subst ht; simp [SOp.reads] at hrd
  · exfalso
    split at ht <;> (try (split at ht)) <;> first | (cases ht; done) | (simp at ht; subst ht; simp [SOp.reads] at hrd; done) | (obtain ⟨ks, _, rfl⟩ := Option.map_eq_some_iff.1 ht; simp [SOp.reads] at hrd)
  · simp at ht; subst ht; simp [SOp.reads] at hrd
  · exfalso
    split at ht <;> first | (cases ht; done) | (simp at ht; subst ht; simp [SOp.reads] at hrd; done) | (obtain ⟨ks, _, rfl⟩ := Option.map_eq_some_iff.1 ht; simp [SOp.reads] at hrd)
  · exfalso
    split at ht <;> (try (split at ht)) <;> first | (cases ht; done) | (simp at ht; subst ht; simp [SOp.reads] at hrd; done) | (obtain ⟨ks, _, rfl⟩ := Option.map_eq_some_iff.1 ht; simp [SOp.reads] at hrd)
  · exfalso
    split at ht <;> (try (split at ht)) <;> (try (split at ht)) <;> first | (cases ht; done) | (simp at ht; subst ht; simp [SOp.reads] at hrd; done) | (obtain ⟨ks, _, rfl⟩ := Option.map_eq_some_iff.1 ht; simp [SOp.reads] at hrd)
  · exfalso
    split at ht <;> (try (split at ht)) <;> (try (split at ht)) <;> first | (cases ht; done) | (simp at ht; subst ht; simp [SOp.reads] at hrd; done) | (obtain ⟨ks, _, rfl⟩ := Option.map_eq_some_iff.1 ht; simp [SOp.reads] at hrd)
  · exfalso
    split at ht <;> (try (split at ht)) <;> first | (cases ht; done) | (simp at ht; subst ht; simp [SOp.reads] at hrd; done) | (obtain ⟨ks, _, rfl⟩ := Option.map_eq_some_iff.1 ht; simp [SOp.reads] at hrd)
  · exfalso
    split at ht <;> (try (split at ht)) <;> first | (cases ht; done) | (simp at ht; subst ht; simp [SOp.reads] at hrd; done) | (obtain ⟨ks, _, rfl⟩ := Option.map_eq_some_iff.1 ht; simp [SOp.reads] at hrd)
  · simp at ht; subst ht; simp [SOp.reads] at hrd
  · simp at ht; subst ht; simp [SOp.reads] at hrd
  · simp at ht; subst ht; simp [SOp.reads] at hrd
  · exfalso
    split at ht <;> (try (split at ht)) <;> first | (cases ht; done) | (simp at ht; subst ht; simp [SOp.reads] at hrd; done) | (obtain ⟨ks, _, rfl⟩ := Option.map_eq_some_iff.1 ht; simp [SOp.reads] at hrd)
  · exfalso
    split at ht <;> (try (split at ht)) <;> (try (split at ht)) <;> first | (cases ht; done) | (simp at ht; subst ht; simp [SOp.reads] at hrd; done) | (obtain ⟨ks, _, rfl⟩ := Option.map_eq_some_iff.1 ht; simp [SOp.reads] at hrd)
  · -- store
    rename_i t x y ho
    split at ht
    · rename_i size hsz
      simp at ht; subst ht
      simp only [chS] at h
      obtain ⟨x', h1, e1⟩ := Opd.k_spec (k := fun x => Opd.k hs.rs sl (trOpd y) fun y => stoS size x y hs K) h hsl
      obtain ⟨y', h2, e2⟩ := Opd.k_spec (k := fun y => stoS size x' y hs K) h1 hsl
      obtain ⟨w', hs', hr, hsim, hk⟩ := stoS_spec h2 hsz hw
      exact wpIn_skip' hd (by simp only [execOp, ho, e1, e2]; exact run_u hr) (hn _ _ _ hk hsim)
    · cases ht
  · -- alloc
    rename_i t ho
    split at ht
    · rename_i z hz
      simp at ht; subst ht
      obtain ⟨w', s, hs', hr, _, hsim, hk⟩ := allocS_spec (show allocS t (z.map SV.v) hs K from h) hz hw
      exact wpIn_value hd (by simp only [execOp, ho]; exact run_v hr) (hn _ _ _ hk hsim)
    · cases ht
  · -- box
    rename_i t x ho
    simp at ht; subst ht
    simp only [chS] at h
    obtain ⟨x', h1, e1⟩ := Opd.k_spec (k := fun x => boxS t x hs K) h hsl
    obtain ⟨w', s, hs', hr, _, hsim, hk⟩ := boxS_spec (P := P) h1 hw
    exact wpIn_value hd (by simp only [execOp, ho, e1]; exact run_v hr) (hn _ _ _ hk hsim)
  · -- buildSlice
    rename_i t len parts ho
    split at ht
    · rename_i e hu
      split at ht
      · rename_i size z hsz hz
        split at ht
        · rename_i hc
          obtain ⟨hle, hpos, hzl⟩ := hc
          simp at ht; subst ht
          simp only [chS] at h
          obtain ⟨cells, hk, hf⟩ := fillS_spec hsl (fun i => some (i * size, size)) parts.toList _ _ (by simp) h
          obtain ⟨w', s, hs', hr, _, hsim, hk⟩ := bslS_spec (P := P) (t := t) (parts := parts.map fun (i, x) => (i, a.eval x)) hk hu hsz hz hzl hpos hle (by
            simp only [Array.toList_map]
            rw [← hf]
            congr 2
            rw [show (List.replicate len (List.map SV.v z)).flatten = ((List.replicate len z).flatten).map SV.v by simp [List.map_flatten], concL_map_v]) hw
          exact wpIn_value hd (by simp only [execOp, ho]; exact run_v hr) (hn _ _ _ hk hsim)
        · cases ht
      · cases ht
    · cases ht
  · -- makeSlice
    rename_i t l c ho
    split at ht
    · rename_i e hu
      split at ht
      · rename_i i z hi hz
        split at ht
        · rename_i hc
          simp at ht; subst ht
          simp only [chS] at h
          obtain ⟨x', h1, e1⟩ := Opd.k_spec (k := fun x => Opd.k hs.rs sl (trOpd c) fun y => mslS e i.size i.bytes z x y hs K) h hsl
          obtain ⟨y', h2, e2⟩ := Opd.k_spec (k := fun y => mslS e i.size i.bytes z x' y hs K) h1 hsl
          obtain ⟨w', s, hs', hr, _, hsim, hk⟩ := mslS_spec h2 hu hi hz hc.2 hw
          exact wpIn_value hd (by simp only [execOp, ho, e1, e2]; exact run_v hr) (hn _ _ _ hk hsim)
        · cases ht
      · cases ht
    · cases ht
  · -- call
    rename_i c ho
    split at ht
    · exfalso
      split at ht <;> (try (split at ht)) <;> first | (cases ht; done) | (simp at ht; subst ht; simp [SOp.reads] at hrd; done) | (obtain ⟨ks, _, rfl⟩ := Option.map_eq_some_iff.1 ht; simp [SOp.reads] at hrd)
    · -- append
      rename_i hc
      split at ht
      · rename_i s x t t' hargs htys
        split at ht
        · rename_i e hu
          split at ht
          · rename_i i hi
            split at ht
            · rename_i hcond
              obtain ⟨rfl, hpos, hz⟩ := hcond
              simp at ht; subst ht
              simp only [chS] at h
              obtain ⟨x', h1, e1⟩ := Opd.k_spec (k := fun s => Opd.k hs.rs sl (trOpd x) fun y => appS e i.size i.bytes s y hs K) h hsl
              obtain ⟨y', h2, e2⟩ := Opd.k_spec (k := fun y => appS e i.size i.bytes x' y hs K) h1 hsl
              obtain ⟨z, hz, hzs⟩ : ∃ z, i.zero = some z ∧ z.cells.size = i.size := by
                cases hzz : i.zero with
                | none => simp [hzz] at hz
                | some z => exact ⟨z, rfl, by simpa [hzz] using hz⟩
              obtain ⟨w', s', hs', hr, hsim, hk⟩ := appS_spec (ty := o.type) hu hi hz hzs h2 hw
              have hxs : c.args = #[s, x] := by apply Array.ext'; simpa using hargs
              have hts : c.argTypes = #[t, t] := by apply Array.ext'; simpa using htys
              refine wpIn_value hd ?_ (hn _ _ _ hk hsim)
              simp only [execOp, ho, resolve, hc, hxs, hts]
              simp [invoke, builtin, e1, e2, hr, Result.andThen]
            · cases ht
          · cases ht
        · cases ht
      · cases ht
    · -- a function
      rename_i f hc
      split at ht
      · rename_i fn hf
        split at ht
        · rename_i hcond
          simp at ht; subst ht
          simp only [chS] at h
          obtain ⟨args, hk, he⟩ := Opd.ks_spec hsl c.args.toList h
          have hok : FnOk P f := ⟨fn, hf, by simp at hcond; simpa using hcond.1, by simp at hcond; simpa using hcond.2⟩
          refine callG f args (c.args.map a.eval) (by apply Array.ext'; simp [he]) ?_ hk
          have := run_callFunc hok (c.args.map a.eval) w
          simp only [execOp, ho, resolve, hc]
          simp [Deferred.ofValue, Act.eval, invoke] at this ⊢
          exact this
        · cases ht
      · cases ht
    · -- a value
      rename_i g _ hc
      simp at ht; subst ht
      simp only [chS] at h
      obtain ⟨f, h1, e1⟩ := Opd.k_spec (k := fun f => Opd.ks hs.rs sl (c.args.toList.map trOpd) fun args => callvS P H Y f args hs K) h hsl
      obtain ⟨args, h2, e2⟩ := Opd.ks_spec hsl c.args.toList h1
      have hA : c.args.map a.eval = (concL args).toArray := by apply Array.ext'; simp [e2]
      unfold callvS at h2
      split at h2
      · rename_i k first caps
        obtain ⟨hok, hk⟩ := h2
        refine callG k _ ((concL first).toArray ++ (concL args).toArray ++ (concL caps).toArray) (by rw [appendL_conc]; simp) ?_ hk
        have := run_callFunc hok ((concL first).toArray ++ (concL args).toArray ++ (concL caps).toArray) w
        simp only [execOp, ho, resolve, hc, e1, hA]
        simp [Deferred.ofValue, conc, invoke] at this ⊢
        exact this
      · rename_i k first caps
        obtain ⟨hok, hk⟩ := h2
        refine callG k _ (first.toArray ++ (concL args).toArray ++ caps.toArray) (by rw [appendL_conc, concL_map_v, concL_map_v]; simp) ?_ hk
        have := run_callFunc hok (first.toArray ++ (concL args).toArray ++ caps.toArray) w
        simp only [execOp, ho, resolve, hc, e1, hA]
        simp [Deferred.ofValue, conc, invoke] at this ⊢
        exact this
      · rename_i id l
        split at h2
        case h_2 => exact h2.elim
        rename_i l' rr j hrr
        obtain ⟨rfl, hk⟩ := h2
        obtain ⟨hsize, hround⟩ := hY fr (Fr.refl _) id args hs K hk l rr j w hrr hw
        obtain ⟨m1, m2, hmem⟩ := findLp_mem hrr
        have hl : w.heap[l]? = some (.loop (lpRec rr j)) := hw.res (.lp id l rr j) (by rw [hmem]; simp)
        have hp1 : (lpRec rr j).params = rr.params := by cases j <;> rfl
        have hp2 : (lpRec rr j).fn = rr.fn := by cases j <;> rfl
        have hp3 : (lpRec rr j).tmps = rr.tmps := by cases j <;> rfl
        have hp4 : (lpRec rr j).assign = rr.assign := by cases j <;> rfl
        have hp5 : (lpRec rr j).body = rr.body := by cases j <;> rfl
        refine wpIn_round hd (show (execOp a.eval o).run P w = .ok (.round l rr.fn (roundTmps rr (concL args).toArray) rr.assign rr.body) w from ?_) (hround.mono ?_)
        · have := run_yield (P := P) (args := (concL args).toArray) hl (by rw [hp1]; simpa [concL_length] using hsize)
          rw [hp1, hp2, hp3, hp4, hp5] at this
          simp only [execOp, ho, resolve, hc, e1, hA]
          simp [Deferred.ofValue, conc, invoke, roundTmps] at this ⊢
          exact this
        · rintro e w'' ⟨v, hs', rfl, hsim, hk⟩
          exact ⟨_, rfl, hn _ _ _ hk hsim⟩
      · exact h2.elim
    · cases ht
  · cases ht

end Go.Proofs.Ytedjbhpocedagaa.Sx
