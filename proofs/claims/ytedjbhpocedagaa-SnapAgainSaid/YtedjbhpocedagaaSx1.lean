/- A symbolic evaluator over the model's code, part 1: its values, what it knows of memory, and how that stands to a world. -/
import Derived.RangeFuncRecord
import Derived.Below
import Derived.Laws.OwnMore
import Derived.WalkKit
namespace Go.Proofs.Ytedjbhpocedagaa.Sx
open Go.RowKit

/-! ### Symbolic values -/
inductive SV where
  | v (x : Value)
  | b (x : Bool)
  | p (id b off : Nat)
  | sl (id b off len cap : Nat)
  | row (id : Nat) (oa : Option Addr) (n cap : Nat)
  | re (id : Nat) (oa : Option Addr) (n cap : Nat) (j : Nat)
  | fn (f : Fn) (first caps : List SV)
  | yl (id l : Nat)
  | agg (l : List SV)
  | tup (l : List SV)

mutual
def conc : SV → Value
  | .v x => x
  | .b x => .bool x
  | .p _ b o => .pointer (some ⟨b, o, none⟩)
  | .sl _ b o n c => .slice (some ⟨b, o, none⟩) n c
  | .row _ oa n cap => .slice oa n cap
  | .re _ oa _ _ j => .pointer (oa.map (·.add j))
  | .fn f a c => .func f (concL a).toArray (concL c).toArray
  | .yl _ l => .func (.yield l) #[] #[]
  | .agg l => .agg (concL l).toArray
  | .tup l => .tuple (concL l).toArray
def concL : List SV → List Value
  | [] => []
  | x :: r => conc x :: concL r
end

theorem concL_eq (l : List SV) : concL l = l.map conc := by
  induction l with
  | nil => rfl
  | cons x r ih => simp [concL, ih]

abbrev Sl := List (Nat × SV)
def getS : Sl → Nat → Option SV
  | [], _ => none
  | (k, x) :: r, n => match Nat.beq k n with
    | true => some x
    | false => getS r n

/-! ### Worlds with their frozen blocks -/
structure GW where
  w : World
  g : Nat → Prop
  wf : ∀ n, g n → n < w.heap.size

def GW.le (a b : GW) : Prop := a.w.heap.size ≤ b.w.heap.size ∧ ∀ n, a.g n → b.g n ∧ b.w.heap[n]? = a.w.heap[n]?
instance : LE GW := ⟨GW.le⟩
theorem GW.refl (a : GW) : a ≤ a := ⟨Nat.le_refl _, fun _ h => ⟨h, rfl⟩⟩
theorem GW.trans {a b c : GW} (h : a ≤ b) (k : b ≤ c) : a ≤ c :=
  ⟨Nat.le_trans h.1 k.1, fun n hn => ⟨(k.2 n (h.2 n hn).1).1, (k.2 n (h.2 n hn).1).2.trans (h.2 n hn).2⟩⟩

/-- The world at hand keeps what is frozen. -/
def Good (g : GW) (w : World) : Prop := g.w.heap.size ≤ w.heap.size ∧ ∀ n, g.g n → w.heap[n]? = g.w.heap[n]?
theorem Good.refl (g : GW) : Good g g.w := ⟨Nat.le_refl _, fun _ _ => rfl⟩
theorem Good.of_le {a b : GW} {w : World} (h : a ≤ b) (k : Good b w) : Good a w :=
  ⟨Nat.le_trans h.1 k.1, fun n hn => (k.2 n (h.2 n hn).1).trans (h.2 n hn).2⟩

/-- Behind a call that only makes memory: what it made is frozen. -/
def GW.next (g : GW) (w w' : World) : GW :=
  ⟨w', fun n => n < w'.heap.size ∧ (g.g n ∨ w.heap.size ≤ n), fun _ h => h.1⟩
theorem GW.le_next {g : GW} {w w' : World} (h : Good g w) (hb : Below w.heap.size w w') : g ≤ g.next w w' := by
  refine ⟨Nat.le_trans h.1 hb.size, fun n hn => ?_⟩
  have hlt : n < w.heap.size := Nat.lt_of_lt_of_le (g.wf n hn) h.1
  exact ⟨⟨Nat.lt_of_lt_of_le hlt hb.size, .inl hn⟩, (hb.block n hlt).trans (h.2 n hn)⟩
theorem GW.good_next {g : GW} {w w' : World} : Good (g.next w w') w' := Good.refl _

/-- Frozen blocks more. -/
def GW.more (g : GW) (w : World) (bs : List Nat) : GW :=
  ⟨w, fun n => n < w.heap.size ∧ (g.g n ∨ n ∈ bs), fun _ h => h.1⟩
theorem GW.le_more {g : GW} {w : World} (h : Good g w) (bs : List Nat) : g ≤ g.more w bs :=
  ⟨h.1, fun n hn => ⟨⟨Nat.lt_of_lt_of_le (g.wf n hn) h.1, .inl hn⟩, h.2 n hn⟩⟩

/-- A cell of frozen memory. -/
def Rc (g : GW) (a : Addr) (x : Value) : Prop := g.g a.block ∧ g.w.cell? a = some x
theorem Rc.mono {g g' : GW} {a : Addr} {x : Value} (h : Rc g a x) (k : g ≤ g') : Rc g' a x :=
  ⟨(k.2 _ h.1).1, by rw [World.cell?_of_block (k.2 _ h.1).2]; exact h.2⟩
theorem Rc.at {g : GW} {a : Addr} {x : Value} (h : Rc g a x) {w : World} (k : Good g w) : w.cell? a = some x := by
  rw [World.cell?_of_block (k.2 _ h.1)]; exact h.2

/-- A slice value, all of whose cells are frozen: n elements of 'size' cells, that read 'cs'. -/
def RdSl (g : GW) (size : Nat) (x : Value) (n : Nat) (cs : List Value) : Prop :=
  cs.length = n * size ∧ ∃ oa cap, x = .slice oa n cap ∧ n ≤ cap ∧ cap ≤ maxLen ∧ (oa = none → n = 0 ∧ cap = 0) ∧ ∀ i u, cs[i]? = some u → ∃ a, oa = some a ∧ Rc g (a.add i) u
theorem RdSl.mono {g g' : GW} {size : Nat} {x : Value} {n : Nat} {cs : List Value} (h : RdSl g size x n cs) (k : g ≤ g') : RdSl g' size x n cs := by
  obtain ⟨h1, oa, cap, h2, h3, h4, h6, h5⟩ := h
  exact ⟨h1, oa, cap, h2, h3, h4, h6, fun i u hu => let ⟨a, ha, hr⟩ := h5 i u hu; ⟨a, ha, hr.mono k⟩⟩

/-! ### Contracts of calls that only make memory -/
def Ok (P : Program) (f : FuncId) (args : List Value) (g : GW) (Q : Value → GW → Prop) : Prop :=
  ∀ w, Good g w → Calls P f args.toArray w fun e w' => ∃ v, e = .returned v ∧ Below w.heap.size w w' ∧ Q v (g.next w w')
def OkV (P : Program) (f : FuncId) (args : List Value) (g : GW) (v : Value) : Prop := Ok P f args g fun v' _ => v' = v

theorem Ok.mono {P : Program} {f : FuncId} {args : List Value} {g : GW} {Q Q' : Value → GW → Prop} (h : Ok P f args g Q) (hq : ∀ v g', g ≤ g' → Q v g' → Q' v g') : Ok P f args g Q' :=
  fun w hw => (h w hw).mono fun _ _ ⟨v, he, hb, hv⟩ => ⟨v, he, hb, hq v _ (GW.le_next hw hb) hv⟩
theorem Ok.upV {P : Program} {f : FuncId} {args : List Value} {g g' : GW} {v : Value} (h : OkV P f args g v) (k : g ≤ g') : OkV P f args g' v :=
  fun w hw => (h w (Good.of_le k hw)).mono fun _ _ ⟨v, he, hb, hv⟩ => ⟨v, he, hb, hv⟩
/-- A contract of the kit's own form. -/
theorem Ok.of_same {P : Program} {f : FuncId} {args : List Value} {g : GW} {v : Value} (h : ∀ w, Calls P f args.toArray w fun e w' => e = .returned v ∧ w = w') : OkV P f args g v :=
  fun w _ => (h w).mono fun _ _ ⟨he, hw⟩ => ⟨v, he, hw ▸ Below.refl _ _, rfl⟩

/-- How a statement is left. -/
inductive Ex where
  | normal
  | exit (n : Nat)
  | ret
  | goto (n : Nat)
def Ex.to : Ex → Exit
  | .normal => .normal
  | .exit n => .exit n
  | .ret => .ret
  | .goto n => .goto n
def Ex.code : Ex → Code
  | .normal => .skip
  | .exit n => .exit n
  | .ret => .ret
  | .goto n => .goto n
/-- Where a range over a function stands. -/
inductive LpS where
  | ready
  | busy
  | jump (e : Ex)
def lpRec (r : Loop) : LpS → Loop
  | .ready => { r with state := .ready, pending := none }
  | .busy => { r with state := .busy, pending := none }
  | .jump e => { r with state := .done, pending := some e.code }

/-! ### What is known of memory -/
inductive Res where
  | blk (id b : Nat) (ty : TypeId) (cells : List SV)
  | row (id : Nat) (oa : Option Addr) (n cap : Nat) (ety : TypeId) (size : Nat) (cs : List Value)
  | lp (id l : Nat) (r : Loop) (j : LpS)
  | mk (b : Nat)

def Res.bk : Res → List Nat
  | .blk _ b _ _ => [b]
  | .row _ oa _ _ _ _ _ => match oa with
    | some a => [a.block]
    | none => []
  | .lp _ l _ _ => [l]
  | .mk b => [b]
def Res.holds : Res → World → Prop
  | .blk _ b ty cells, w => w.heap[b]? = some (.cells (concL cells).toArray ty (0, 0)) ∧ ∀ c ∈ cells, (conc c).oneCell' = true
  | .row _ oa n cap ety size cs, w => w.ownsRow 0 ety size (.slice oa n cap) n cs ∧ ∀ u ∈ cs, u.oneCell' = true
  | .lp _ l r j, w => w.heap[l]? = some (.loop (lpRec r j))
  | .mk b, w => w.heap[b]? = some (.deferred (some []))

theorem Res.holds_of {r : Res} {w w' : World} (h : ∀ b ∈ r.bk, w'.heap[b]? = w.heap[b]?) (k : r.holds w) : r.holds w' := by
  cases r with
  | blk id b ty cells => exact ⟨(h b (by simp [Res.bk])).trans k.1, k.2⟩
  | lp id l r j => exact (h l (by simp [Res.bk])).trans k
  | mk b => exact (h b (by simp [Res.bk])).trans k
  | row id oa n cap ety size cs =>
    obtain ⟨⟨h1, h2⟩, h3⟩ := k
    refine ⟨⟨h1, ?_⟩, h3⟩
    rcases h2 with h2 | ⟨g, cap', cur, he, hg, hh, r⟩
    · exact .inl h2
    · simp only [Value.slice.injEq] at he
      obtain ⟨rfl, _, rfl⟩ := he
      exact .inr ⟨g, cap, cur, rfl, hg, (h g (by simp [Res.bk])).trans hh, r⟩

theorem Res.holds_lt {r : Res} {w : World} (k : r.holds w) {b : Nat} (hb : b ∈ r.bk) : b < w.heap.size := by
  have aux : ∀ {n : Nat} {o : Obj}, w.heap[n]? = some o → n < w.heap.size := fun h => (Array.getElem?_eq_some_iff.1 h).1
  cases r with
  | blk id b ty cells => simp [Res.bk] at hb; subst hb; exact aux k.1
  | lp id l r j => simp [Res.bk] at hb; subst hb; exact aux k
  | mk b => simp [Res.bk] at hb; subst hb; exact aux k
  | row id oa n cap ety size cs =>
    obtain ⟨⟨h1, h2⟩, h3⟩ := k
    rcases h2 with ⟨he, _⟩ | ⟨g, cap', cur, he, hg, hh, r⟩
    · simp only [Value.slice.injEq] at he
      obtain ⟨rfl, _, rfl⟩ := he
      simp [Res.bk] at hb
    · simp only [Value.slice.injEq] at he
      obtain ⟨rfl, _, rfl⟩ := he
      simp [Res.bk] at hb; subst hb; exact aux hh

structure Hs where
  g : GW
  rs : List Res
  nx : Nat
  /-- Frozen blocks from here on were made by the call itself: it may still write there. -/
  lo : Nat

def Hs.bks (hs : Hs) : List Nat := hs.rs.flatMap Res.bk

/-- What the call must leave: blocks that it may not touch. -/
structure Fr where
  w : World
  pr : Nat → Prop
  g0 : Nat → Prop
  wf : ∀ n, pr n → n < w.heap.size
structure Fr.ok (fr : Fr) (w : World) : Prop where
  os : w.os = fr.w.os
  tape : w.tape = fr.w.tape
  output : w.output = fr.w.output
  size : fr.w.heap.size ≤ w.heap.size
  block : ∀ n, fr.pr n → w.heap[n]? = fr.w.heap[n]?

structure HSim (fr : Fr) (hs : Hs) (w : World) : Prop where
  good : Good hs.g w
  frm : fr.ok w
  res : ∀ r ∈ hs.rs, r.holds w
  nod : hs.bks.Nodup
  fre : ∀ b ∈ hs.bks, ¬ hs.g.g b ∧ ¬ fr.pr b
  fz : ∀ n, fr.pr n → hs.g.g n → fr.g0 n
  own : ∀ n, hs.lo ≤ n → hs.g.g n → ¬ fr.pr n
  low : hs.lo ≤ w.heap.size ∧ ∀ b ∈ hs.bks, hs.lo ≤ b

theorem HSim.lt {fr : Fr} {hs : Hs} {w : World} (h : HSim fr hs w) {b : Nat} (hb : b ∈ hs.bks) : b < w.heap.size := by
  obtain ⟨r, hr, hbr⟩ := List.mem_flatMap.1 hb
  exact Res.holds_lt (h.res r hr) hbr

/-- Two worlds that agree on what matters. -/
theorem HSim.agree {fr : Fr} {hs : Hs} {w w' : World} (h : HSim fr hs w) (hb : Below w.heap.size w w') : HSim fr hs w' := by
  refine ⟨⟨Nat.le_trans h.good.1 hb.size, fun n hn => ?_⟩, ⟨hb.os.trans h.frm.os, hb.tape.trans h.frm.tape, hb.output.trans h.frm.output, Nat.le_trans h.frm.size hb.size, fun n hn => ?_⟩, fun r hr => ?_, h.nod, h.fre, h.fz, h.own, Nat.le_trans h.low.1 hb.size, h.low.2⟩
  · exact (hb.block n (Nat.lt_of_lt_of_le (hs.g.wf n hn) h.good.1)).trans (h.good.2 n hn)
  · exact (hb.block n (Nat.lt_of_lt_of_le (fr.wf n hn) h.frm.size)).trans (h.frm.block n hn)
  · exact Res.holds_of (fun b hbr => hb.block b (Res.holds_lt (h.res r hr) hbr)) (h.res r hr)

/-- Behind a call that only makes memory. -/
theorem HSim.called {fr : Fr} {hs : Hs} {w w' : World} (h : HSim fr hs w) (hb : Below w.heap.size w w') : HSim fr { hs with g := hs.g.next w w' } w' := by
  have h' := h.agree hb
  refine ⟨Good.refl _, h'.frm, h'.res, h.nod, fun b hbr => ⟨fun hg => ?_, (h.fre b hbr).2⟩, fun n hp hg => ?_, fun n hl hg hp => ?_, h'.low⟩
  · have hlt := h.lt hbr
    rcases hg.2 with hg | hg
    · exact (h.fre b hbr).1 hg
    · omega
  · rcases hg.2 with hg | hg
    · exact h.fz n hp hg
    · have := fr.wf n hp; have := h.frm.size; omega
  · rcases hg.2 with hg | hg
    · exact h.own n hl hg hp
    · have := fr.wf n hp; have := h.frm.size; omega

/-- A draw. -/
theorem Below.of_drew (w : World) (n : Nat) : Below w.heap.size w { w with drawn := n } := ⟨rfl, rfl, rfl, Nat.le_refl _, fun _ _ => rfl⟩
theorem Below.of_alloc (w : World) (o : Obj) : Below w.heap.size w (w.alloc o) := (Below.refl _ _).alloc (Nat.le_refl _) o

/-- New memory that is the call's own. -/
theorem HSim.newRes {fr : Fr} {hs : Hs} {w w' : World} (h : HSim fr hs w) (hb : Below w.heap.size w w') {r : Res} {nx : Nat} (hr : r.holds w') (hk : ∀ b ∈ r.bk, w.heap.size ≤ b) (hn : r.bk.Nodup) :
    HSim fr { hs with rs := r :: hs.rs, nx := nx } w' := by
  have h' := h.agree hb
  refine ⟨h'.good, h'.frm, fun x hx => ?_, ?_, fun b hbr => ?_, h.fz, h.own, h'.low.1, fun b hbr => ?_⟩
  · rcases List.mem_cons.1 hx with rfl | hx
    · exact hr
    · exact h'.res x hx
  · show (r.bk ++ hs.bks).Nodup
    refine List.nodup_append.2 ⟨hn, h.nod, fun a ha b hb' hab => ?_⟩
    subst hab
    have := hk a ha; have := h.lt hb'; omega
  · rcases List.mem_append.1 (show b ∈ r.bk ++ hs.bks from hbr) with hb' | hb'
    · have := hk b hb'
      exact ⟨fun hg => by have := hs.g.wf b hg; have := h.good.1; omega, fun hp => by have := fr.wf b hp; have := h.frm.size; omega⟩
    · exact h.fre b hb'
  · rcases List.mem_append.1 (show b ∈ r.bk ++ hs.bks from hbr) with hb' | hb'
    · exact Nat.le_trans h.low.1 (hk b hb')
    · exact h.low.2 b hb'

/-- A resource is dropped. -/
theorem HSim.sub {fr : Fr} {hs : Hs} {w : World} (h : HSim fr hs w) {rs : List Res} {nx : Nat} (hsub : rs.Sublist hs.rs) : HSim fr { hs with rs := rs, nx := nx } w := by
  have hb : (rs.flatMap Res.bk).Sublist hs.bks := by
    unfold Hs.bks
    generalize hs.rs = l at hsub
    induction hsub with
    | slnil => exact .slnil
    | cons a _ ih => rw [List.flatMap_cons]; exact ih.trans (List.sublist_append_right _ _)
    | cons_cons a _ ih => rw [List.flatMap_cons, List.flatMap_cons]; exact List.Sublist.append (List.Sublist.refl _) ih
  exact ⟨h.good, h.frm, fun r hr => h.res r (hsub.subset hr), h.nod.sublist hb, fun b hb' => h.fre b (hb.subset hb'), h.fz, h.own, h.low.1, fun b hb' => h.low.2 b (hb.subset hb')⟩

/-- One resource is changed in place: the world turns only at its blocks, and beyond the heap's end. -/
theorem HSim.upd {fr : Fr} {hs : Hs} {w w' : World} (h : HSim fr hs w) {l1 l2 : List Res} {r0 r1 : Res} {nx : Nat} (hl : hs.rs = l1 ++ r0 :: l2)
    (hos : w'.os = w.os) (htape : w'.tape = w.tape) (hout : w'.output = w.output) (hsz : w.heap.size ≤ w'.heap.size)
    (hblk : ∀ k, k < w.heap.size → k ∉ r0.bk → w'.heap[k]? = w.heap[k]?) (hr : r1.holds w') (hk : ∀ b ∈ r1.bk, b ∈ r0.bk ∨ w.heap.size ≤ b) (hn : r1.bk.Nodup) :
    HSim fr { hs with rs := l1 ++ r1 :: l2, nx := nx } w' := by
  have hbk : hs.bks = l1.flatMap Res.bk ++ (r0.bk ++ l2.flatMap Res.bk) := by simp [Hs.bks, hl]
  have hnod := h.nod
  rw [hbk] at hnod
  obtain ⟨n1, n23, d1⟩ := List.nodup_append.1 hnod
  obtain ⟨n2, n3, d2⟩ := List.nodup_append.1 n23
  have out1 : ∀ b ∈ l1.flatMap Res.bk, b ∉ r0.bk := fun b hb hb' => d1 b hb b (List.mem_append.2 (.inl hb')) rfl
  have out2 : ∀ b ∈ l2.flatMap Res.bk, b ∉ r0.bk := fun b hb hb' => d2 b hb' b hb rfl
  have mem0 : ∀ b ∈ r0.bk, b ∈ hs.bks := fun b hb => by rw [hbk]; simp [hb]
  have mem1 : ∀ b ∈ l1.flatMap Res.bk, b ∈ hs.bks := fun b hb => by rw [hbk]; exact List.mem_append.2 (.inl hb)
  have mem2 : ∀ b ∈ l2.flatMap Res.bk, b ∈ hs.bks := fun b hb => by rw [hbk]; exact List.mem_append.2 (.inr (List.mem_append.2 (.inr hb)))
  have new1 : ∀ b ∈ r1.bk, b ∉ l1.flatMap Res.bk ∧ b ∉ l2.flatMap Res.bk := fun b hb => by
    rcases hk b hb with h0 | h0
    · exact ⟨fun h1 => out1 b h1 h0, fun h2 => out2 b h2 h0⟩
    · exact ⟨fun h1 => by have := h.lt (mem1 b h1); omega, fun h2 => by have := h.lt (mem2 b h2); omega⟩
  have hbk' : Hs.bks { hs with rs := l1 ++ r1 :: l2, nx := nx } = l1.flatMap Res.bk ++ (r1.bk ++ l2.flatMap Res.bk) := by simp [Hs.bks]
  refine ⟨⟨Nat.le_trans h.good.1 hsz, fun n hn' => ?_⟩, ⟨hos.trans h.frm.os, htape.trans h.frm.tape, hout.trans h.frm.output, Nat.le_trans h.frm.size hsz, fun n hn' => ?_⟩, fun r hr' => ?_, ?_, fun b hb => ?_, h.fz, h.own, Nat.le_trans h.low.1 hsz, fun b hb => ?_⟩
  · refine (hblk n (Nat.lt_of_lt_of_le (hs.g.wf n hn') h.good.1) fun h0 => ?_).trans (h.good.2 n hn')
    exact (h.fre n (mem0 n h0)).1 hn'
  · refine (hblk n (Nat.lt_of_lt_of_le (fr.wf n hn') h.frm.size) fun h0 => ?_).trans (h.frm.block n hn')
    exact (h.fre n (mem0 n h0)).2 hn'
  · rcases List.mem_append.1 hr' with h1 | h1
    · have hh := h.res r (by rw [hl]; exact List.mem_append.2 (.inl h1))
      exact Res.holds_of (fun b hb => hblk b (Res.holds_lt hh hb) (out1 b (List.mem_flatMap.2 ⟨r, h1, hb⟩))) hh
    · rcases List.mem_cons.1 h1 with rfl | h1
      · exact hr
      · have hh := h.res r (by rw [hl]; exact List.mem_append.2 (.inr (List.mem_cons.2 (.inr h1))))
        exact Res.holds_of (fun b hb => hblk b (Res.holds_lt hh hb) (out2 b (List.mem_flatMap.2 ⟨r, h1, hb⟩))) hh
  · rw [hbk']
    refine List.nodup_append.2 ⟨n1, List.nodup_append.2 ⟨hn, n3, fun a ha b hb hab => (new1 a ha).2 (hab ▸ hb)⟩, fun a ha b hb hab => ?_⟩
    subst hab
    rcases List.mem_append.1 hb with hb | hb
    · exact (new1 a hb).1 ha
    · exact d1 a ha a (List.mem_append.2 (.inr hb)) rfl
  · rw [hbk'] at hb
    rcases List.mem_append.1 hb with hb | hb
    · exact h.fre b (mem1 b hb)
    · rcases List.mem_append.1 hb with hb | hb
      · rcases hk b hb with h0 | h0
        · exact h.fre b (mem0 b h0)
        · exact ⟨fun hg => by have := hs.g.wf b hg; have := h.good.1; omega, fun hp => by have := fr.wf b hp; have := h.frm.size; omega⟩
      · exact h.fre b (mem2 b hb)
  · rw [hbk'] at hb
    rcases List.mem_append.1 hb with hb | hb
    · exact h.low.2 b (mem1 b hb)
    · rcases List.mem_append.1 hb with hb | hb
      · rcases hk b hb with h0 | h0
        · exact h.low.2 b (mem0 b h0)
        · exact Nat.le_trans h.low.1 h0
      · exact h.low.2 b (mem2 b hb)

/-- A resource's blocks are frozen from here on. -/
theorem HSim.freeze {fr : Fr} {hs : Hs} {w : World} (h : HSim fr hs w) {l1 l2 : List Res} {r0 : Res} {nx : Nat} (hl : hs.rs = l1 ++ r0 :: l2) :
    HSim fr { g := hs.g.more w r0.bk, rs := l1 ++ l2, nx := nx, lo := hs.lo } w := by
  have hbk : hs.bks = l1.flatMap Res.bk ++ (r0.bk ++ l2.flatMap Res.bk) := by simp [Hs.bks, hl]
  have hnod := h.nod
  rw [hbk] at hnod
  obtain ⟨n1, n23, d1⟩ := List.nodup_append.1 hnod
  obtain ⟨n2, n3, d2⟩ := List.nodup_append.1 n23
  have hs2 := h.sub (rs := l1 ++ l2) (nx := nx) (by rw [hl]; exact List.Sublist.append (List.Sublist.refl _) (List.sublist_cons_self _ _))
  refine ⟨Good.refl _, h.frm, hs2.res, hs2.nod, fun b hb => ⟨fun hg => ?_, (hs2.fre b hb).2⟩, fun n hp hg => ?_, fun n hl hg hp => ?_, hs2.low⟩
  · rcases hg.2 with hg | hg
    · exact (hs2.fre b hb).1 hg
    · have hb' : b ∈ l1.flatMap Res.bk ++ l2.flatMap Res.bk := by simpa [Hs.bks] using hb
      rcases List.mem_append.1 hb' with h1 | h1
      · exact d1 b h1 b (List.mem_append.2 (.inl hg)) rfl
      · exact d2 b hg b h1 rfl
  · rcases hg.2 with hg | hg
    · exact h.fz n hp hg
    · exact absurd hp (h.fre n (by rw [hbk]; simp [hg])).2
  · rcases hg.2 with hg | hg
    · exact h.own n hl hg hp
    · exact absurd hp (h.fre n (by rw [hbk]; simp [hg])).2

/-- A stronger frame. -/
def Fr.le (a b : Fr) : Prop := (∀ w, b.ok w → a.ok w) ∧ (∀ n, a.pr n → b.pr n ∧ (b.g0 n → a.g0 n))
theorem Fr.refl (a : Fr) : a.le a := ⟨fun _ h => h, fun _ h => ⟨h, fun h => h⟩⟩
theorem Fr.trans {a b c : Fr} (h : a.le b) (k : b.le c) : a.le c := ⟨fun w hw => h.1 w (k.1 w hw), fun n hn => ⟨(k.2 n (h.2 n hn).1).1, fun hg => (h.2 n hn).2 ((k.2 n (h.2 n hn).1).2 hg)⟩⟩
theorem HSim.weaken {a b : Fr} {hs : Hs} {w : World} (h : HSim b hs w) (k : a.le b) : HSim a hs w :=
  ⟨h.good, k.1 w h.frm, h.res, h.nod, fun n hn => ⟨(h.fre n hn).1, fun hp => (h.fre n hn).2 (k.2 n hp).1⟩, fun n hp hg => (k.2 n hp).2 (h.fz n (k.2 n hp).1 hg), fun n hl hg hp => h.own n hl hg (k.2 n hp).1, h.low⟩

/-! ### Memory that the call made and gave away: it may still be written -/
/-- The frozen blocks, one of which has changed. -/
structure Upd (g : GW) (b : Nat) (o : Obj) (g' : GW) : Prop where
  dom : ∀ n, g'.g n ↔ g.g n
  obj : g'.w.heap[b]? = some o
  other : ∀ n, g.g n → n ≠ b → g'.w.heap[n]? = g.w.heap[n]?
  size : g.w.heap.size ≤ g'.w.heap.size
theorem Upd.le {g g' g0 : GW} {b : Nat} {o : Obj} (h : Upd g b o g') (k : g0 ≤ g) (hb : ¬ g0.g b) : g0 ≤ g' :=
  ⟨Nat.le_trans k.1 h.size, fun n hn => ⟨(h.dom n).2 (k.2 n hn).1, (h.other n (k.2 n hn).1 fun e => hb (e ▸ hn)).trans (k.2 n hn).2⟩⟩
/-- The frozen blocks but one. -/
structure Less (g : GW) (b : Nat) (g' : GW) : Prop where
  dom : ∀ n, g'.g n ↔ g.g n ∧ n ≠ b
  other : ∀ n : Nat, g'.w.heap[n]? = g.w.heap[n]?
  size : g.w.heap.size = g'.w.heap.size
theorem Less.le {g g' g0 : GW} {b : Nat} (h : Less g b g') (k : g0 ≤ g) (hb : ¬ g0.g b) : g0 ≤ g' :=
  ⟨h.size ▸ k.1, fun n hn => ⟨(h.dom n).2 ⟨(k.2 n hn).1, fun e => hb (e ▸ hn)⟩, (h.other n).trans (k.2 n hn).2⟩⟩
def GW.less (g : GW) (b : Nat) : GW := ⟨g.w, fun n => g.g n ∧ n ≠ b, fun n h => g.wf n h.1⟩
theorem GW.less_spec (g : GW) (b : Nat) : Less g b (g.less b) := ⟨fun _ => Iff.rfl, fun _ => rfl, rfl⟩
/-- Frozen memory is written that the call made. -/
theorem HSim.poke {fr : Fr} {hs : Hs} {w w' : World} (h : HSim fr hs w) {b : Nat} {o : Obj} (hlo : hs.lo ≤ b) (hg : hs.g.g b) (hos : w'.os = w.os) (htape : w'.tape = w.tape) (hout : w'.output = w.output) (hsz : w'.heap.size = w.heap.size)
    (hb : w'.heap[b]? = some o) (hblk : ∀ k, k ≠ b → w'.heap[k]? = w.heap[k]?) : ∃ g', Upd hs.g b o g' ∧ HSim fr ⟨g', hs.rs, hs.nx, hs.lo⟩ w' := by
  have hnb : b ∉ hs.bks := fun hm => (h.fre b hm).1 hg
  refine ⟨⟨w', hs.g.g, fun n hn => by have := hs.g.wf n hn; have := h.good.1; omega⟩, ⟨fun _ => Iff.rfl, hb, fun n hn hne => (hblk n hne).trans (h.good.2 n hn), by rw [hsz]; exact h.good.1⟩, ?_⟩
  refine ⟨Good.refl _, ⟨hos.trans h.frm.os, htape.trans h.frm.tape, hout.trans h.frm.output, by rw [hsz]; exact h.frm.size, fun n hn => ?_⟩, fun r hr => ?_, h.nod, h.fre, h.fz, h.own, by show hs.lo ≤ w'.heap.size; rw [hsz]; exact h.low.1, h.low.2⟩
  · exact (hblk n fun e => h.own b hlo hg (e ▸ hn)).trans (h.frm.block n hn)
  · exact Res.holds_of (fun k hk => hblk k fun e => hnb (e ▸ List.mem_flatMap.2 ⟨r, hr, hk⟩)) (h.res r hr)
/-- Frozen memory that the call made is taken back. -/
theorem HSim.thaw {fr : Fr} {hs : Hs} {w : World} (h : HSim fr hs w) {r : Res} {b nx : Nat} (hbk : r.bk = [b]) (hlo : hs.lo ≤ b) (hg : hs.g.g b) (hr : r.holds w) : HSim fr ⟨hs.g.less b, r :: hs.rs, nx, hs.lo⟩ w := by
  have hnb : b ∉ hs.bks := fun hm => (h.fre b hm).1 hg
  have hb' : Hs.bks ⟨hs.g.less b, r :: hs.rs, nx, hs.lo⟩ = b :: hs.bks := by simp [Hs.bks, hbk]
  refine ⟨⟨h.good.1, fun n hn => h.good.2 n hn.1⟩, h.frm, fun x hx => ?_, ?_, fun c hc => ?_, fun n hp hg' => h.fz n hp hg'.1, fun n hl hg' => h.own n hl hg'.1, h.low.1, fun c hc => ?_⟩
  · rcases List.mem_cons.1 hx with rfl | hx
    · exact hr
    · exact h.res x hx
  · rw [hb']; exact List.nodup_cons.2 ⟨hnb, h.nod⟩
  · rw [hb'] at hc
    rcases List.mem_cons.1 hc with rfl | hc
    · exact ⟨fun hh => hh.2 rfl, h.own _ hlo hg⟩
    · exact ⟨fun hh => (h.fre c hc).1 hh.1, (h.fre c hc).2⟩
  · rw [hb'] at hc
    rcases List.mem_cons.1 hc with rfl | hc
    · exact hlo
    · exact h.low.2 c hc
/-- A slice whose cells are all known and lie in a block of their own that may be written. -/
def PbSl (g : GW) (lo : Nat) (ety : TypeId) (size : Nat) (v : Value) (n : Nat) (cs : List Value) : Prop :=
  cs.length = n * size ∧ ((v = .slice none 0 0 ∧ n = 0) ∨ ∃ b cap rest, v = .slice (some ⟨b, 0, none⟩) n cap ∧ (lo ≤ b ∧ g.g b) ∧ g.w.heap[b]? = some (.cells ⟨cs ++ rest⟩ ety (0, 0)) ∧ n ≤ cap ∧ cap ≤ maxLen ∧ (cs ++ rest).length = cap * size) ∧ ∀ u ∈ cs, u.oneCell' = true
theorem PbSl.mono {g g' : GW} {lo : Nat} {ety : TypeId} {size : Nat} {v : Value} {n : Nat} {cs : List Value} (h : PbSl g lo ety size v n cs) (k : g ≤ g') : PbSl g' lo ety size v n cs := by
  obtain ⟨h1, h2, h3⟩ := h
  refine ⟨h1, ?_, h3⟩
  rcases h2 with h2 | ⟨b, cap, rest, hv, hb, ho, hr⟩
  · exact .inl h2
  · exact .inr ⟨b, cap, rest, hv, ⟨hb.1, (k.2 b hb.2).1⟩, (k.2 b hb.2).2.trans ho, hr⟩

end Go.Proofs.Ytedjbhpocedagaa.Sx
