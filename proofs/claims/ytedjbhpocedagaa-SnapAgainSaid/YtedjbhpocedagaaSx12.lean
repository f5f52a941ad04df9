/- A symbolic evaluator over the model's code, part 12: ranges over functions. -/
import Derived.Test.YtedjbhpocedagaaSx11
namespace Go.Proofs.Ytedjbhpocedagaa.Sx
open Go.RowKit

section
variable {P : Program} {H : Handler} {nt : Nat}

theorem HSim.put {fr : Fr} {hs : Hs} {w : World} (h : HSim fr hs w) {l1 l2 : List Res} {id l : Nat} {r : Loop} {j j' : LpS} {nx : Nat} (hl : hs.rs = l1 ++ .lp id l r j :: l2) :
    HSim fr ⟨hs.g, l1 ++ .lp id l r j' :: l2, nx, hs.lo⟩ (w.putObj l (.loop (lpRec r j'))) := by
  have hh : w.heap[l]? = some (.loop (lpRec r j)) := h.res (.lp id l r j) (by rw [hl]; simp)
  have hlt : l < w.heap.size := (Array.getElem?_eq_some_iff.1 hh).1
  refine h.upd hl rfl rfl rfl (by simp) (fun k _ hk => World.putObj_heap_other (by simpa [Res.bk] using hk)) (World.putObj_heap_same hlt) (fun b hb => .inl hb) (by simp [Res.bk])
theorem HSim.lpAt {fr : Fr} {hs : Hs} {w : World} (h : HSim fr hs w) {l1 l2 : List Res} {id l : Nat} {r : Loop} {j : LpS} (hl : hs.rs = l1 ++ .lp id l r j :: l2) : w.heap[l]? = some (.loop (lpRec r j)) :=
  h.res (.lp id l r j) (by rw [hl]; simp)
/-- The record is given up. -/
theorem HSim.drop {fr : Fr} {hs : Hs} {w : World} (h : HSim fr hs w) {l1 l2 : List Res} {id l : Nat} {r : Loop} {j : LpS} {nx : Nat} (hl : hs.rs = l1 ++ .lp id l r j :: l2) (o : Loop) :
    HSim fr ⟨hs.g, l1 ++ l2, nx, hs.lo⟩ (w.putObj l (.loop o)) := by
  have hh := h.lpAt hl
  have hlt : l < w.heap.size := (Array.getElem?_eq_some_iff.1 hh).1
  have h2 := h.sub (rs := l1 ++ l2) (nx := nx) (by rw [hl]; exact List.Sublist.append (List.Sublist.refl _) (List.sublist_cons_self _ _))
  have hfree : ∀ b ∈ Hs.bks ⟨hs.g, l1 ++ l2, nx, hs.lo⟩, b ≠ l := fun b hb hbl => by
    have hnod := h.nod
    have hbk : hs.bks = l1.flatMap Res.bk ++ ([l] ++ l2.flatMap Res.bk) := by simp [Hs.bks, hl, Res.bk]
    rw [hbk] at hnod
    obtain ⟨n1, n23, d1⟩ := List.nodup_append.1 hnod
    obtain ⟨n2, n3, d2⟩ := List.nodup_append.1 n23
    have hb' : b ∈ l1.flatMap Res.bk ++ l2.flatMap Res.bk := by simpa [Hs.bks] using hb
    subst hbl
    rcases List.mem_append.1 hb' with h1 | h1
    · exact d1 b h1 b (by simp) rfl
    · exact d2 b (by simp) b h1 rfl
  have hmem : l ∈ hs.bks := List.mem_flatMap.2 ⟨.lp id l r j, by rw [hl]; simp, by simp [Res.bk]⟩
  refine ⟨⟨Nat.le_trans h.good.1 (by simp), fun n hn => ?_⟩, ⟨h.frm.os, h.frm.tape, h.frm.output, Nat.le_trans h.frm.size (by simp), fun n hn => ?_⟩, fun x hx => ?_, h2.nod, h2.fre, h2.fz, h2.own, Nat.le_trans h2.low.1 (by simp), h2.low.2⟩
  · exact (World.putObj_heap_other (k := n) (r := l) fun e => (h.fre l hmem).1 (e ▸ hn)).trans (h.good.2 n hn)
  · exact (World.putObj_heap_other (k := n) (r := l) fun e => (h.fre l hmem).2 (e ▸ hn)).trans (h.frm.block n hn)
  · exact Res.holds_of (fun b hb => World.putObj_heap_other (hfree b (List.mem_flatMap.2 ⟨x, hx, hb⟩))) (h2.res x hx)

theorem sound_iter {asg body : Code} (ha : Sound P H nt asg) (hb : Sound P H nt body) {fr0 fr : Fr} (hle : fr0.le fr) {Y : Yield} (hY : SndY P fr0 Y) {a' b' : SCode} {s s1 s2 : List (List Nat) × List (List Nat)} (hta : trC P nt asg s = some (a', s1)) (htb : trC P nt body s1 = some (b', s2))
    {ps : Array Tmp} (hps : ∀ n ∈ ps.toList, n < nt) {sl : Sl} {t : Array Value} (ht : t.size = nt) (hsl : ∀ n x, getS sl n = some x → t[n]? = some (conc x)) {rr : Loop} (hrt : rr.tmps = t) (hrp : rr.params = ps) (hra : rr.assign = asg) (hrb : rr.body = body) (id l : Nat) :
    SndY P fr (iterY id l rr ps.toList sl (S P H a' true Y) (S P H b' true Y) Y) := by
  intro fr2 hfr2 id' args hs K h lp r' j w hlp hw
  unfold iterY at h
  split at h
  · split at h
    · rename_i l' rr' j' hlp'
      rw [hlp] at hlp'
      cases hlp'
      obtain ⟨⟨rfl, rfl⟩, h⟩ := h
      have h0 : Sim nt ⟨[], ps.toList ++ (dsts a' ++ dsts b'), t⟩ sl ⟨t, []⟩ := ⟨ht, rfl, hsl, fun _ _ => rfl⟩
      obtain ⟨hlen, sl1, h1, hsl1⟩ := putArgs_spec h hps (fun n hn => by simp [hn]) h0
      refine ⟨by rw [hlen, hrp]; simp, ?_⟩
      have hrt' : roundTmps r' (concL args).toArray = (ps.toList.zip (concL args)).foldl (fun tmps (p, v) => tmps.setIfInBounds p v) t := by
        unfold roundTmps
        rw [hrp, hrt, ← Array.foldl_toList]
        simp
      rw [hrt', hra, hrb]
      have hle2 := Fr.trans hle hfr2
      have hY2 := hY.up hle2
      have hR1 : R0 fr2 nt (ps.toList ++ (dsts a' ++ dsts b')) t sl1 hs ⟨(ps.toList.zip (concL args)).foldl (fun tmps (p, v) => tmps.setIfInBounds p v) t, []⟩ w := ⟨fr2, [], Fr.refl _, hw, hsl1, [], rfl, .nil, fun b hb => by cases hb⟩
      refine roundIn_of_wpIn (F := FW none) trivial ?_
      refine wpIn_mono (ha fr2 (some lp) true Y _ t a' s s1 sl1 hs _ _ w hta (fun d hd => by simp [hd]) (by simp) hY2 hR1 h1) ?_
      rintro e a2 w2 ⟨ex, sl2, hs2, rfl, hk, hR2⟩
      cases ex with
      | normal =>
        obtain ⟨l1, l2, r2, hrs, hk2⟩ := setLp_spec hk
        obtain ⟨fr3, D3, hle3, hw3, hsl3, hmk3⟩ := hR2
        refine ⟨_, run_beginRound (hw3.lpAt hrs) rfl, ?_⟩
        have hw4 := hw3.put (j' := .busy) (nx := hs2.nx) hrs
        refine wpIn_mono (hb fr2 (some lp) true Y (ps.toList ++ (dsts a' ++ dsts b')) t b' s1 s2 sl2 _ _ _ _ htb (fun d hd => by simp [hd]) (by simp) hY2 ⟨fr3, D3, hle3, hw4, hsl3, hmk3⟩ hk2) ?_
        rintro e a4 w4 ⟨ex, sl4, hs4, rfl, hk4, hR4⟩
        obtain ⟨fr5, D5, hle5, hw5, hsl5, hmk5⟩ := hR4
        have hw5 := hw5.weaken hle5
        cases ex with
        | normal =>
          obtain ⟨m1, m2, r5, hrs5, hk5⟩ := setLp_spec hk4
          exact ⟨_, _, run_endRound none (hw5.lpAt hrs5), .b true, _, rfl, hw5.put (r := r5) (j := .busy) (j' := .ready) hrs5, hk5⟩
        | exit n =>
          obtain ⟨m1, m2, r5, hrs5, hk5⟩ := setLp_spec hk4
          exact ⟨_, _, run_endRound _ (hw5.lpAt hrs5), .b false, _, rfl, hw5.put (r := r5) (j := .busy) (j' := .jump (.exit n)) hrs5, hk5⟩
        | ret =>
          obtain ⟨m1, m2, r5, hrs5, hk5⟩ := setLp_spec hk4
          exact ⟨_, _, run_endRound _ (hw5.lpAt hrs5), .b false, _, rfl, hw5.put (r := r5) (j := .busy) (j' := .jump .ret) hrs5, hk5⟩
        | goto n =>
          obtain ⟨m1, m2, r5, hrs5, hk5⟩ := setLp_spec hk4
          exact ⟨_, _, run_endRound _ (hw5.lpAt hrs5), .b false, _, rfl, hw5.put (r := r5) (j := .busy) (j' := .jump (.goto n)) hrs5, hk5⟩
      | exit n => exact hk.elim
      | ret => exact hk.elim
      | goto n => exact hk.elim
    · exact h.elim
  · exact hY fr2 (Fr.trans hle hfr2) id' args hs K h lp r' j w hlp hw

theorem sound_rfun (hH : ∀ fr, SndH P fr H) {g : Operand} {ps : Array Tmp} {asg body : Code} (ha : Sound P H nt asg) (hb : Sound P H nt body) : Sound P H nt (.rangeFunc g ps asg body) := by
  intro fr0 r rd Y ds t sc s s' sl hs K a w ht hds hr hY hR h
  simp only [trC] at ht
  split at ht
  · rename_i a' s1 ha'
    split at ht
    · rename_i b' s2 hb'
      split at ht
      · rename_i hps
        simp at ht; obtain ⟨rfl, rfl⟩ := ht
        cases rd with
        | true => exact h.elim
        | false =>
        obtain rfl := hr rfl
        obtain ⟨fr, D, hle, hw, hsl, hmk⟩ := hR
        obtain ⟨g', h1, eg⟩ := Opd.k_spec (k := fun g' => rfunS P H g' ps.toList (S P H a' true Y) (S P H b' true Y) Y sl hs K) h hsl.slots
        unfold rfunS at h1
        split at h1
        · rename_i k first caps
          obtain ⟨hok, h1⟩ := h1
          have h1 : withNx hs.nx fun i i' => ∀ (l : Nat) (rr : Loop), H (iterY i l rr ps.toList sl (S P H a' true Y) (S P H b' true Y) Y) k (first ++ [.yl i l] ++ caps) ⟨hs.g, .lp i l rr .ready :: hs.rs, i', hs.lo⟩ fun _ hs2 =>
              endLp i l hs2.rs fun j rs' => endE K sl hs2 j rs' := by cases hs; exact h1
          obtain ⟨ix, ix', h1⟩ := withNx_spec h1
          refine wpIn_rangeFunc ?_
          intro fn hfn
          obtain ⟨rr, hrr⟩ : ∃ rr : Loop, rr = { state := .ready, pending := none, fn, tmps := a.tmps, params := ps, assign := asg, body, defers := w.heap.size } := ⟨_, rfl⟩
          have hrr' : lpRec rr .ready = rr := by rw [hrr]; rfl
          obtain ⟨w1, hw1⟩ : ∃ w1, w1 = w.alloc (.deferred (some [])) := ⟨_, rfl⟩
          obtain ⟨w2, hw2⟩ : ∃ w2, w2 = w1.alloc (.loop rr) := ⟨_, rfl⟩
          have hsz1 : w1.heap.size = w.heap.size + 1 := by rw [hw1]; simp
          have hb1 : Below w.heap.size w w1 := hw1 ▸ Below.of_alloc w _
          have hm1 : w1.heap[w.heap.size]? = some (.deferred (some [])) := hw1 ▸ World.alloc_heap_new w _
          have hwf0 : ∀ n, (fr.pr n ∨ n = w.heap.size) → n < w1.heap.size := fun n hn => by
            rcases hn with hn | rfl
            · have := fr.wf n hn; have := hw.frm.size; omega
            · omega
          obtain ⟨fr', hfr'⟩ : ∃ fr' : Fr, fr' = Fr.mk w1 (fun n => fr.pr n ∨ n = w.heap.size) (fun n => fr.g0 n ∧ n ≠ w.heap.size) hwf0 := ⟨_, rfl⟩
          have hwa := hw.agree hb1
          have hle1 : fr.le fr' := by
            refine ⟨fun W hW => ?_, fun n hn => by rw [hfr']; exact ⟨.inl hn, fun h => h.1⟩⟩
            subst hfr'
            refine ⟨hW.os.trans hwa.frm.os, hW.tape.trans hwa.frm.tape, hW.output.trans hwa.frm.output, Nat.le_trans hwa.frm.size hW.size, fun n hn => ?_⟩
            exact (hW.block n (.inl hn)).trans (hwa.frm.block n hn)
          have hwf : HSim fr' hs w1 := by
            refine ⟨hwa.good, ?_, hwa.res, hwa.nod, fun b hb => ⟨(hwa.fre b hb).1, ?_⟩, fun n hp hg => ?_, fun n hl hg => ?_, hwa.low⟩
            · rw [hfr']; exact ⟨rfl, rfl, rfl, Nat.le_refl _, fun _ _ => rfl⟩
            · rw [hfr']
              rintro (hp | rfl)
              · exact (hwa.fre b hb).2 hp
              · exact Nat.lt_irrefl _ (hw.lt hb)
            · rw [hfr'] at hp ⊢
              rcases hp with hp | rfl
              · exact ⟨hw.fz n hp hg, fun e => by have := fr.wf n hp; have := hw.frm.size; omega⟩
              · have := hs.g.wf _ hg; have := hw.good.1; omega
            · rw [hfr']
              rintro (hp | rfl)
              · exact hw.own n hl hg hp
              · have := hs.g.wf _ hg; have := hw.good.1; omega
          have hw2s : HSim fr' ⟨hs.g, .lp ix w1.heap.size rr .ready :: hs.rs, ix', hs.lo⟩ w2 := by
            refine hwf.newRes (hw2 ▸ Below.of_alloc w1 _) (r := .lp ix w1.heap.size rr .ready) ?_ (fun b hb => ?_) (by simp [Res.bk])
            · show w2.heap[w1.heap.size]? = some (.loop (lpRec rr .ready))
              rw [hrr', hw2]; exact World.alloc_heap_new w1 _
            · simp [Res.bk] at hb; omega
          have hiter := sound_iter (P := P) (H := H) (nt := nt) ha hb (Fr.trans hle hle1) hY ha' hb' (ps := ps) (fun n hn => of_decide_eq_true (List.all_eq_true.1 hps n hn)) hsl.size hsl.slots (rr := rr) (by rw [hrr]) (by rw [hrr]) (by rw [hrr]) (by rw [hrr]) ix w1.heap.size
          have hcall := hH fr' _ hiter _ _ _ _ (h1 w1.heap.size rr) w2 hw2s
          refine ⟨w1.heap.size, [mkD w.heap.size], w2, { target := .fn (.func k) (concL caps).toArray, args := (concL (first ++ [.yl ix w1.heap.size])).toArray }, w2, k, (concL (first ++ [.yl ix w1.heap.size] ++ caps)).toArray, w2, ?_, ?_, ?_, ?_, fun h => by simp [FW] at h, ?_⟩
          · have := run_enterLoop_outer (P := P) (w := w) fn a.tmps ps asg body
            rw [hw2, hrr, hsz1]
            rw [← hw1] at this
            exact this
          · simp only [resolve, eg]
            simp [conc, go_sem, concL_eq, Deferred.ofValue]
          · intro f' hf'; trivial
          · simp only [invoke]
            have := run_callFunc hok ((concL (first ++ [.yl ix w1.heap.size])).toArray ++ (concL caps).toArray) w2
            rw [this]
            simp [concL_eq]
          · refine (callsIn_FW none _).2 (hcall.mono ?_)
            rintro e w3 ⟨v, hs3, rfl, hw3, hk⟩
            obtain ⟨l1, l2, r3, j, hrs, hk⟩ := endLp_spec hk
            have hl3 := hw3.lpAt hrs
            have hR : ∀ (o : Loop), R0 fr0 nt ds t sl ⟨hs3.g, l1 ++ l2, hs3.nx, hs3.lo⟩ { a with defers := [mkD w.heap.size] ++ a.defers } (w3.putObj w1.heap.size (.loop o)) := fun o => by
              refine ⟨fr', mkD w.heap.size :: D, Fr.trans hle hle1, hw3.drop hrs o, ⟨hsl.size, by simp [hsl.defers], hsl.slots, hsl.off⟩, ?_⟩
              obtain ⟨bs, hD, hnod, hbs⟩ := hmk
              refine ⟨w.heap.size :: bs, by rw [hD]; rfl, List.nodup_cons.2 ⟨fun hmem => ?_, hnod⟩, fun b hb => ?_⟩
              · have := fr.wf _ (hbs _ hmem).2.2.1; have := hw.frm.size; omega
              · rw [hfr']
                rcases List.mem_cons.1 hb with rfl | hb
                · exact ⟨fun hp => by have := fr.wf _ (hle.2 _ hp).1; have := hw.frm.size; omega, fun h => h.2 rfl, .inr rfl, hm1⟩
                · exact ⟨(hbs b hb).1, fun h => (hbs b hb).2.1 h.1, .inl (hbs b hb).2.2.1, (hwa.frm.block b (hbs b hb).2.2.1).trans (hbs b hb).2.2.2⟩
            cases j with
            | ready => exact ⟨none, _, run_endLoop hl3 (by simp [lpRec]), .normal, sl, _, rfl, hk, hR _⟩
            | busy => exact hk.elim
            | jump ex =>
              refine ⟨some ex.code, _, run_endLoop hl3 (by simp [lpRec]), ?_⟩
              cases ex with
              | normal => exact hk.elim
              | exit n => exact wpIn_exit ⟨.exit n, sl, _, rfl, hk, hR _⟩
              | ret => exact wpIn_ret ⟨.ret, sl, _, rfl, hk, hR _⟩
              | goto n => exact wpIn_goto ⟨.goto n, sl, _, rfl, hk, hR _⟩
        · exact h1.elim
      · cases ht
    · cases ht
  · cases ht

theorem S_sound (hm : P.follows .mixedOrders = true) (hH : ∀ fr, SndH P fr H) : ∀ c, Sound P H nt c := by
  intro c
  induction c with
  | skip =>
    intro fr0 r rd Y ds t sc s s' sl hs K a w ht hds hr hY hR h
    simp [trC] at ht; obtain ⟨rfl, rfl⟩ := ht
    exact wpIn_skip ⟨.normal, sl, hs, rfl, h, hR⟩
  | region id ops d => exact sound_region hm hH id ops d
  | seq x y hx hy => exact sound_seq hx hy
  | cond c x y hx hy => exact sound_cond hx hy
  | block id x hx => exact sound_block hx
  | loop x hx => exact sound_loop hx
  | rangeFunc g ps asg body ha hb => exact sound_rfun hH ha hb
  | exit n =>
    intro fr0 r rd Y ds t sc s s' sl hs K a w ht hds hr hY hR h
    simp [trC] at ht; obtain ⟨rfl, rfl⟩ := ht
    exact wpIn_exit ⟨.exit n, sl, hs, rfl, h, hR⟩
  | ret =>
    intro fr0 r rd Y ds t sc s s' sl hs K a w ht hds hr hY hR h
    simp [trC] at ht; obtain ⟨rfl, rfl⟩ := ht
    exact wpIn_ret ⟨.ret, sl, hs, rfl, h, hR⟩
  | _ => intro fr0 r rd Y ds t sc s s' sl hs K a w ht; simp [trC] at ht
end
end Go.Proofs.Ytedjbhpocedagaa.Sx
