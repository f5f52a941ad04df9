/- Whether a configuration may be: what is too big to be looked at. -/
import Derived.Test.YtedjbhpocedagaaLK5b
import Derived.Test.YtedjbhpocedagaaPl
namespace Go.Proofs.Ytedjbhpocedagaa
open Go.Proofs.Ytedjbhpocedagaa.Sx
abbrev cRoute (r : Route) : List Value := [.string r.listen, .string r.host, .string r.path, .string r.cluster]
abbrev cClus (k : Cluster) (h : Value) : List Value := [.string k.name, .int .i64 k.policy, .int .i64 k.slots, h]
def bigCl (x : Cluster) : Bool := decide (50 < x.health.length) || decide (100 < x.name.size)
def bigRt (r : Route) : Bool := decide (100 < r.host.size) || decide (100 < r.path.size)
def bigC (c : Config) : Bool := decide (50 < c.listens.length) || decide (50 < c.routes.length) || decide (50 < c.clusters.length) || c.clusters.any bigCl || c.routes.any bigRt
theorem any_step {α : Type} {f : α → Bool} {l : List α} {k : Nat} {x : α} (h : (l.take k).any f = false) (hx : l[k]? = some x) (hf : f x = false) : (l.take (k + 1)).any f = false := by
  obtain ⟨hlt, hge⟩ := List.getElem?_eq_some_iff.1 hx
  rw [List.take_succ_eq_append_getElem hlt, List.any_append, h, hge]; simp [hf]
theorem ok_cBig (g : GW) {cs : List Value} {c : Config} (hc : rConfig g cs c) : OkV Try.prog n_hydrantref05_Big [.agg ⟨cs⟩] g (.bool (bigC c)) := by
  obtain ⟨a, b, d, rfl, hl, hr, hk⟩ := hc
  obtain ⟨oa, ca, rfl, a1, a2, a0, hl1⟩ := id hl
  obtain ⟨ob, cb, rfl, b1, b2, b0, hr1⟩ := id hr
  obtain ⟨od, cd, rfl, d1, d2, d0, hk1⟩ := id hk
  exact Ok.of_fn hm noT 0 t_hydrantref05_Big (args := [.v (.agg ⟨[.slice oa c.listens.length ca, .slice ob c.routes.length cb, .slice od c.clusters.length cd]⟩)]) (by
    repeat ((conv => whnf); first | refine ⟨Eq.refl _, ?_⟩ | refine ⟨⟨Eq.refl _, Eq.refl _⟩, ?_⟩ | refine ⟨⟨Eq.refl _, Eq.refl _, Eq.refl _⟩, ?_⟩ | refine ⟨⟨Eq.refl _, Eq.refl _, Eq.refl _, Eq.refl _⟩, ?_⟩ | refine ⟨⟨Eq.refl _, Eq.refl _, Eq.refl _, Eq.refl _, Eq.refl _⟩, ?_⟩ | refine fun (_ : Nat) => ?_ | refine fun (_ : Option Addr) (_ : Nat) => ?_ | fail)
    conv => whnf
    refine ⟨fun z1 => ?_, fun z1 => ?_⟩
    · conv => whnf
      intro g2 hg
      simp at z1; rw [bigC, decide_eq_true (show 50 < c.listens.length by omega)]; rfl
    repeat ((conv => whnf); first | refine ⟨Eq.refl _, ?_⟩ | refine ⟨⟨Eq.refl _, Eq.refl _⟩, ?_⟩ | refine ⟨⟨Eq.refl _, Eq.refl _, Eq.refl _⟩, ?_⟩ | refine ⟨⟨Eq.refl _, Eq.refl _, Eq.refl _, Eq.refl _⟩, ?_⟩ | refine ⟨⟨Eq.refl _, Eq.refl _, Eq.refl _, Eq.refl _, Eq.refl _⟩, ?_⟩ | refine fun (_ : Nat) => ?_ | refine fun (_ : Option Addr) (_ : Nat) => ?_ | fail)
    conv => whnf
    refine ⟨fun z2 => ?_, fun z2 => ?_⟩
    · conv => whnf
      intro g2 hg
      simp at z2; rw [bigC, decide_eq_true (show 50 < c.routes.length by omega)]; simp
    repeat ((conv => whnf); first | refine ⟨Eq.refl _, ?_⟩ | refine ⟨⟨Eq.refl _, Eq.refl _⟩, ?_⟩ | refine ⟨⟨Eq.refl _, Eq.refl _, Eq.refl _⟩, ?_⟩ | refine ⟨⟨Eq.refl _, Eq.refl _, Eq.refl _, Eq.refl _⟩, ?_⟩ | refine ⟨⟨Eq.refl _, Eq.refl _, Eq.refl _, Eq.refl _, Eq.refl _⟩, ?_⟩ | refine fun (_ : Nat) => ?_ | refine fun (_ : Option Addr) (_ : Nat) => ?_ | fail)
    conv => whnf
    refine ⟨fun z3 => ?_, fun z3 => ?_⟩
    · conv => whnf
      intro g2 hg
      simp at z3; rw [bigC, decide_eq_true (show 50 < c.clusters.length by omega)]; simp
    have hz : bigC c = (c.clusters.any bigCl || c.routes.any bigRt) := by
      simp at z1 z2 z3
      rw [bigC, decide_eq_false (show ¬50 < c.listens.length by omega), decide_eq_false (show ¬50 < c.routes.length by omega), decide_eq_false (show ¬50 < c.clusters.length by omega)]; rfl
    repeat ((conv => whnf); first | refine ⟨Eq.refl _, ?_⟩ | refine ⟨⟨Eq.refl _, Eq.refl _⟩, ?_⟩ | refine ⟨⟨Eq.refl _, Eq.refl _, Eq.refl _⟩, ?_⟩ | refine ⟨⟨Eq.refl _, Eq.refl _, Eq.refl _, Eq.refl _⟩, ?_⟩ | refine ⟨⟨Eq.refl _, Eq.refl _, Eq.refl _, Eq.refl _, Eq.refl _⟩, ?_⟩ | refine fun (_ : Nat) => ?_ | refine fun (_ : Option Addr) (_ : Nat) => ?_ | fail)
    conv => whnf
    refine ⟨Nat, fun k => [.v (.int .i64 k)], fun k => ⟨g, [.blk 0 _ _ [.v (.slice oa c.listens.length ca), .v (.slice ob c.routes.length cb), .v (.slice od c.clusters.length cd)]], _, _⟩, fun k => k ≤ c.clusters.length ∧ (c.clusters.take k).any bigCl = false, fun k => c.clusters.length - k, loop_here 0 rfl ⟨Nat.zero_le _, rfl⟩ rfl, ?_⟩
    rintro k ⟨hkk, hp⟩
    repeat ((conv => whnf); first | refine ⟨Eq.refl _, ?_⟩ | refine ⟨⟨Eq.refl _, Eq.refl _⟩, ?_⟩ | refine ⟨⟨Eq.refl _, Eq.refl _, Eq.refl _⟩, ?_⟩ | refine ⟨⟨Eq.refl _, Eq.refl _, Eq.refl _, Eq.refl _⟩, ?_⟩ | refine ⟨⟨Eq.refl _, Eq.refl _, Eq.refl _, Eq.refl _, Eq.refl _⟩, ?_⟩ | refine fun (_ : Nat) => ?_ | refine fun (_ : Option Addr) (_ : Nat) => ?_ | fail)
    conv => whnf
    refine ⟨fun hlt => ?_, fun hlt => ?_⟩
    · have h' : k < c.clusters.length := by have := of_decide_eq_true hlt; omega
      obtain ⟨x, hx⟩ := getL_of h'
      obtain ⟨a, rfl, ec, hec, ⟨hv, rfl, _, _, oh, ch, rfl, _⟩, hc⟩ := hk1 k x hx
      have hbe : bigCl x = true → bigC c = true := fun hb => by rw [hz, List.any_eq_true.2 ⟨x, List.mem_of_getElem? hx, hb⟩, Bool.true_or]
      repeat ((conv => whnf); first | refine ⟨Eq.refl _, ?_⟩ | refine ⟨⟨Eq.refl _, Eq.refl _⟩, ?_⟩ | refine ⟨⟨Eq.refl _, Eq.refl _, Eq.refl _⟩, ?_⟩ | refine ⟨⟨Eq.refl _, Eq.refl _, Eq.refl _, Eq.refl _⟩, ?_⟩ | refine ⟨⟨Eq.refl _, Eq.refl _, Eq.refl _, Eq.refl _, Eq.refl _⟩, ?_⟩ | refine fun (_ : Nat) => ?_ | refine fun (_ : Option Addr) (_ : Nat) => ?_ | fail)
      conv => whnf
      refine ⟨a, rfl, ⟨by omega, by omega⟩, ?_⟩
      conv => whnf
      refine ⟨_, hc 3 _ rfl, ?_⟩
      repeat ((conv => whnf); first | refine ⟨Eq.refl _, ?_⟩ | refine ⟨⟨Eq.refl _, Eq.refl _⟩, ?_⟩ | refine ⟨⟨Eq.refl _, Eq.refl _, Eq.refl _⟩, ?_⟩ | refine ⟨⟨Eq.refl _, Eq.refl _, Eq.refl _, Eq.refl _⟩, ?_⟩ | refine ⟨⟨Eq.refl _, Eq.refl _, Eq.refl _, Eq.refl _, Eq.refl _⟩, ?_⟩ | refine fun (_ : Nat) => ?_ | refine fun (_ : Option Addr) (_ : Nat) => ?_ | fail)
      conv => whnf
      refine ⟨fun ha => ?_, fun ha => ?_⟩
      · conv => whnf
        intro g2 hg
        rw [hbe (by simp at ha; simp [bigCl]; omega)]
      repeat ((conv => whnf); first | refine ⟨Eq.refl _, ?_⟩ | refine ⟨⟨Eq.refl _, Eq.refl _⟩, ?_⟩ | refine ⟨⟨Eq.refl _, Eq.refl _, Eq.refl _⟩, ?_⟩ | refine ⟨⟨Eq.refl _, Eq.refl _, Eq.refl _, Eq.refl _⟩, ?_⟩ | refine ⟨⟨Eq.refl _, Eq.refl _, Eq.refl _, Eq.refl _, Eq.refl _⟩, ?_⟩ | refine fun (_ : Nat) => ?_ | refine fun (_ : Option Addr) (_ : Nat) => ?_ | fail)
      conv => whnf
      refine ⟨a, rfl, ⟨by omega, by omega⟩, ?_⟩
      conv => whnf
      refine ⟨_, hc 0 _ rfl, ?_⟩
      repeat ((conv => whnf); first | refine ⟨Eq.refl _, ?_⟩ | refine ⟨⟨Eq.refl _, Eq.refl _⟩, ?_⟩ | refine ⟨⟨Eq.refl _, Eq.refl _, Eq.refl _⟩, ?_⟩ | refine ⟨⟨Eq.refl _, Eq.refl _, Eq.refl _, Eq.refl _⟩, ?_⟩ | refine ⟨⟨Eq.refl _, Eq.refl _, Eq.refl _, Eq.refl _, Eq.refl _⟩, ?_⟩ | refine fun (_ : Nat) => ?_ | refine fun (_ : Option Addr) (_ : Nat) => ?_ | fail)
      conv => whnf
      refine ⟨fun hb => ?_, fun hb => ?_⟩
      · conv => whnf
        intro g2 hg
        rw [hbe (by simp at hb; simp [bigCl]; omega)]
      conv => whnf
      refine fun fr w hw => ⟨k + 1, congrArg (fun z => [Value.int .i64 z]) (wr1 h' d1 d2).symm, ⟨h', any_step hp hx (by simp at ha hb; simp [bigCl]; omega)⟩, dec h', ?_⟩
      exact hw.fit (by simp [fitL, Res.eqv, concL, conc])
    have hcl : c.clusters.any bigCl = false := by
      have := of_decide_eq_false hlt
      rwa [List.take_of_length_le (by omega)] at hp
    repeat ((conv => whnf); first | refine ⟨Eq.refl _, ?_⟩ | refine ⟨⟨Eq.refl _, Eq.refl _⟩, ?_⟩ | refine ⟨⟨Eq.refl _, Eq.refl _, Eq.refl _⟩, ?_⟩ | refine ⟨⟨Eq.refl _, Eq.refl _, Eq.refl _, Eq.refl _⟩, ?_⟩ | refine ⟨⟨Eq.refl _, Eq.refl _, Eq.refl _, Eq.refl _, Eq.refl _⟩, ?_⟩ | refine fun (_ : Nat) => ?_ | refine fun (_ : Option Addr) (_ : Nat) => ?_ | fail)
    conv => whnf
    refine ⟨Nat, fun k => [.v (.int .i64 k)], fun k => ⟨g, [.blk 0 _ _ [.v (.slice oa c.listens.length ca), .v (.slice ob c.routes.length cb), .v (.slice od c.clusters.length cd)]], _, _⟩, fun k => k ≤ c.routes.length ∧ (c.routes.take k).any bigRt = false, fun k => c.routes.length - k, loop_here 0 rfl ⟨Nat.zero_le _, rfl⟩ rfl, ?_⟩
    clear hp hlt hkk
    rintro k ⟨hkk, hp⟩
    repeat ((conv => whnf); first | refine ⟨Eq.refl _, ?_⟩ | refine ⟨⟨Eq.refl _, Eq.refl _⟩, ?_⟩ | refine ⟨⟨Eq.refl _, Eq.refl _, Eq.refl _⟩, ?_⟩ | refine ⟨⟨Eq.refl _, Eq.refl _, Eq.refl _, Eq.refl _⟩, ?_⟩ | refine ⟨⟨Eq.refl _, Eq.refl _, Eq.refl _, Eq.refl _, Eq.refl _⟩, ?_⟩ | refine fun (_ : Nat) => ?_ | refine fun (_ : Option Addr) (_ : Nat) => ?_ | fail)
    conv => whnf
    refine ⟨fun hlt => ?_, fun hlt => ?_⟩
    · have h' : k < c.routes.length := by have := of_decide_eq_true hlt; omega
      obtain ⟨x, hx⟩ := getL_of h'
      obtain ⟨a, rfl, ec, hec, rfl, hc⟩ := hr1 k x hx
      have hbe : bigRt x = true → bigC c = true := fun hb => by rw [hz, List.any_eq_true.2 ⟨x, List.mem_of_getElem? hx, hb⟩, Bool.or_true]
      repeat ((conv => whnf); first | refine ⟨Eq.refl _, ?_⟩ | refine ⟨⟨Eq.refl _, Eq.refl _⟩, ?_⟩ | refine ⟨⟨Eq.refl _, Eq.refl _, Eq.refl _⟩, ?_⟩ | refine ⟨⟨Eq.refl _, Eq.refl _, Eq.refl _, Eq.refl _⟩, ?_⟩ | refine ⟨⟨Eq.refl _, Eq.refl _, Eq.refl _, Eq.refl _, Eq.refl _⟩, ?_⟩ | refine fun (_ : Nat) => ?_ | refine fun (_ : Option Addr) (_ : Nat) => ?_ | fail)
      conv => whnf
      refine ⟨a, rfl, ⟨by omega, by omega⟩, ?_⟩
      conv => whnf
      refine ⟨_, hc 1 _ rfl, ?_⟩
      repeat ((conv => whnf); first | refine ⟨Eq.refl _, ?_⟩ | refine ⟨⟨Eq.refl _, Eq.refl _⟩, ?_⟩ | refine ⟨⟨Eq.refl _, Eq.refl _, Eq.refl _⟩, ?_⟩ | refine ⟨⟨Eq.refl _, Eq.refl _, Eq.refl _, Eq.refl _⟩, ?_⟩ | refine ⟨⟨Eq.refl _, Eq.refl _, Eq.refl _, Eq.refl _, Eq.refl _⟩, ?_⟩ | refine fun (_ : Nat) => ?_ | refine fun (_ : Option Addr) (_ : Nat) => ?_ | fail)
      conv => whnf
      refine ⟨fun ha => ?_, fun ha => ?_⟩
      · conv => whnf
        intro g2 hg
        rw [hbe (by simp at ha; simp [bigRt]; omega)]
      repeat ((conv => whnf); first | refine ⟨Eq.refl _, ?_⟩ | refine ⟨⟨Eq.refl _, Eq.refl _⟩, ?_⟩ | refine ⟨⟨Eq.refl _, Eq.refl _, Eq.refl _⟩, ?_⟩ | refine ⟨⟨Eq.refl _, Eq.refl _, Eq.refl _, Eq.refl _⟩, ?_⟩ | refine ⟨⟨Eq.refl _, Eq.refl _, Eq.refl _, Eq.refl _, Eq.refl _⟩, ?_⟩ | refine fun (_ : Nat) => ?_ | refine fun (_ : Option Addr) (_ : Nat) => ?_ | fail)
      conv => whnf
      refine ⟨a, rfl, ⟨by omega, by omega⟩, ?_⟩
      conv => whnf
      refine ⟨_, hc 2 _ rfl, ?_⟩
      repeat ((conv => whnf); first | refine ⟨Eq.refl _, ?_⟩ | refine ⟨⟨Eq.refl _, Eq.refl _⟩, ?_⟩ | refine ⟨⟨Eq.refl _, Eq.refl _, Eq.refl _⟩, ?_⟩ | refine ⟨⟨Eq.refl _, Eq.refl _, Eq.refl _, Eq.refl _⟩, ?_⟩ | refine ⟨⟨Eq.refl _, Eq.refl _, Eq.refl _, Eq.refl _, Eq.refl _⟩, ?_⟩ | refine fun (_ : Nat) => ?_ | refine fun (_ : Option Addr) (_ : Nat) => ?_ | fail)
      conv => whnf
      refine ⟨fun hb => ?_, fun hb => ?_⟩
      · conv => whnf
        intro g2 hg
        rw [hbe (by simp at hb; simp [bigRt]; omega)]
      conv => whnf
      refine fun fr w hw => ⟨k + 1, congrArg (fun z => [Value.int .i64 z]) (wr1 h' b1 b2).symm, ⟨h', any_step hp hx (by simp at ha hb; simp [bigRt]; omega)⟩, dec h', ?_⟩
      exact hw.fit (by simp [fitL, Res.eqv, concL, conc])
    conv => whnf
    intro g2 hg
    have := of_decide_eq_false hlt
    rw [List.take_of_length_le (by omega)] at hp
    rw [hz, hcl, hp]; rfl)
theorem smC_of {c : Config} (h : bigC c = false) : SmC c ∧ c.listens.length ≤ 50 ∧ c.routes.length ≤ 50 ∧ c.clusters.length ≤ 50 := by
  simp only [bigC, Bool.or_eq_false_iff, decide_eq_false_iff_not] at h
  obtain ⟨⟨⟨⟨h1, h2⟩, h3⟩, h4⟩, h5⟩ := h
  refine ⟨fun r hr => ?_, by omega, by omega, by omega⟩
  have := List.any_eq_false.1 h5 r hr
  simp [bigRt] at this
  omega
end Go.Proofs.Ytedjbhpocedagaa

/- Scripts: numbers as bytes, the program's way and the document's. -/
namespace Go.Proofs.Ytedjbhpocedagaa
open Go.Proofs.Ytedjbhpocedagaa.Sx Go.RowKit
abbrev cB (b : List Nat) : List Value := b.map fun (x : Nat) => Value.int .u8 x
/-- What is answered. -/
def BytesP (l : List Int) (v : Value) (g' : GW) : Prop :=
  (4000 < l.length ∧ v = .tuple #[.slice none 0 0, .int .i64 6]) ∨ (l.length ≤ 4000 ∧ bytesL l = none ∧ v = .tuple #[.slice none 0 0, .int .i64 1]) ∨
  (l.length ≤ 4000 ∧ ∃ b oa cap, bytesL l = some b ∧ v = .tuple #[.slice oa b.length cap, .int .i64 0] ∧ RdSl g' 1 (.slice oa b.length cap) b.length (cB b))
theorem ok_Bytes (g : GW) {v : Value} {l : List Int} (hl : rSl 1 rInt g v l) : Ok Try.prog n_script_Bytes [v] g (BytesP l) := by
  obtain ⟨oa, ca, rfl, a1, a2, a0, hl1⟩ := id hl
  exact Ok.of_fn hm noT 0 t_script_Bytes (args := [.v (.slice oa l.length ca)]) (by
    repeat ((conv => whnf); first | refine ⟨Eq.refl _, ?_⟩ | refine ⟨⟨Eq.refl _, Eq.refl _⟩, ?_⟩ | refine ⟨⟨Eq.refl _, Eq.refl _, Eq.refl _⟩, ?_⟩ | refine ⟨⟨Eq.refl _, Eq.refl _, Eq.refl _, Eq.refl _⟩, ?_⟩ | refine ⟨⟨Eq.refl _, Eq.refl _, Eq.refl _, Eq.refl _, Eq.refl _⟩, ?_⟩ | refine fun (_ : Nat) => ?_ | refine fun (_ : Option Addr) (_ : Nat) => ?_ | fail)
    conv => whnf
    refine ⟨fun z1 => ?_, fun z1 => ?_⟩
    · conv => whnf
      intro g2 hg
      exact .inl ⟨by have := of_decide_eq_true z1; omega, rfl⟩
    have z1 : l.length ≤ 4000 := by have := of_decide_eq_false z1; omega
    repeat ((conv => whnf); first | refine ⟨Eq.refl _, ?_⟩ | refine ⟨⟨Eq.refl _, Eq.refl _⟩, ?_⟩ | refine ⟨⟨Eq.refl _, Eq.refl _, Eq.refl _⟩, ?_⟩ | refine ⟨⟨Eq.refl _, Eq.refl _, Eq.refl _, Eq.refl _⟩, ?_⟩ | refine ⟨⟨Eq.refl _, Eq.refl _, Eq.refl _, Eq.refl _, Eq.refl _⟩, ?_⟩ | refine fun (_ : Nat) => ?_ | refine fun (_ : Option Addr) (_ : Nat) => ?_ | fail)
    conv => whnf
    refine ⟨Nat × List Nat × Option Addr × Nat, fun (k, b, oR, cR) => [.row 0 oR b.length cR, .v (.int .i64 k)], fun (k, b, oR, cR) => ⟨g, [.row 0 oR b.length cR ty_uint8 1 (cB b)], 40, g.w.heap.size⟩, fun (k, b, _, _) => k ≤ l.length ∧ bytesL (l.take k) = some b ∧ b.length ≤ 10 * k, fun (k, _, _, _) => l.length - k, ?_, ?_⟩
    · intro fr w hw
      exact ⟨(0, [], none, 0), rfl, ⟨Nat.zero_le _, rfl, Nat.le_refl _⟩, (hw.nil_row (nx' := 40) 0 ty_uint8 1).fit (by simp [fitL, Res.eqv])⟩
    rintro ⟨k, b, oR, cR⟩ ⟨hk, hb, hbl⟩
    repeat ((conv => whnf); first | refine ⟨Eq.refl _, ?_⟩ | refine ⟨⟨Eq.refl _, Eq.refl _⟩, ?_⟩ | refine ⟨⟨Eq.refl _, Eq.refl _, Eq.refl _⟩, ?_⟩ | refine ⟨⟨Eq.refl _, Eq.refl _, Eq.refl _, Eq.refl _⟩, ?_⟩ | refine ⟨⟨Eq.refl _, Eq.refl _, Eq.refl _, Eq.refl _, Eq.refl _⟩, ?_⟩ | refine fun (_ : Nat) => ?_ | refine fun (_ : Option Addr) (_ : Nat) => ?_ | fail)
    conv => whnf
    refine ⟨fun hlt => ?_, fun hlt => ?_⟩
    · have h' : k < l.length := by have := of_decide_eq_true hlt; omega
      obtain ⟨x, hx⟩ := getL_of h'
      obtain ⟨a, rfl, ec, hec, ⟨rfl, hI⟩, hc⟩ := hl1 k x hx
      repeat ((conv => whnf); first | refine ⟨Eq.refl _, ?_⟩ | refine ⟨⟨Eq.refl _, Eq.refl _⟩, ?_⟩ | refine ⟨⟨Eq.refl _, Eq.refl _, Eq.refl _⟩, ?_⟩ | refine ⟨⟨Eq.refl _, Eq.refl _, Eq.refl _, Eq.refl _⟩, ?_⟩ | refine ⟨⟨Eq.refl _, Eq.refl _, Eq.refl _, Eq.refl _, Eq.refl _⟩, ?_⟩ | refine fun (_ : Nat) => ?_ | refine fun (_ : Option Addr) (_ : Nat) => ?_ | fail)
      conv => whnf
      refine ⟨a, rfl, ⟨by omega, by omega⟩, ?_⟩
      conv => whnf
      refine ⟨_, hc 0 _ rfl, ?_⟩
      repeat ((conv => whnf); first | refine ⟨Eq.refl _, ?_⟩ | refine ⟨⟨Eq.refl _, Eq.refl _⟩, ?_⟩ | refine ⟨⟨Eq.refl _, Eq.refl _, Eq.refl _⟩, ?_⟩ | refine ⟨⟨Eq.refl _, Eq.refl _, Eq.refl _, Eq.refl _⟩, ?_⟩ | refine ⟨⟨Eq.refl _, Eq.refl _, Eq.refl _, Eq.refl _, Eq.refl _⟩, ?_⟩ | refine fun (_ : Nat) => ?_ | refine fun (_ : Option Addr) (_ : Nat) => ?_ | fail)
      conv => whnf
      refine ⟨fun hneg => ?_, fun hneg => ?_⟩
      · conv => whnf
        intro g2 hg
        refine .inr (.inl ⟨z1, bytesL_neg.2 ⟨x, List.mem_of_getElem? hx, of_decide_eq_true hneg⟩, rfl⟩)
      repeat ((conv => whnf); first | refine ⟨Eq.refl _, ?_⟩ | refine ⟨⟨Eq.refl _, Eq.refl _⟩, ?_⟩ | refine ⟨⟨Eq.refl _, Eq.refl _, Eq.refl _⟩, ?_⟩ | refine ⟨⟨Eq.refl _, Eq.refl _, Eq.refl _, Eq.refl _⟩, ?_⟩ | refine ⟨⟨Eq.refl _, Eq.refl _, Eq.refl _, Eq.refl _, Eq.refl _⟩, ?_⟩ | refine fun (_ : Nat) => ?_ | refine fun (_ : Option Addr) (_ : Nat) => ?_ | fail)
      obtain ⟨n, rfl⟩ := Int.eq_ofNat_of_zero_le (show 0 ≤ x by have := of_decide_eq_false hneg; omega)
      have hn9 : n < 128 ^ 9 := by have := hI.2; omega
      have hl9 := encN_len hn9 (by omega)
      conv => whnf
      refine ⟨Nat × List Nat × Option Addr × Nat, fun (m, P, oR, cR) => [.row 0 oR P.length cR, .v (.int .i64 m)], fun (m, P, oR, cR) => ⟨g, [.row 0 oR P.length cR ty_uint8 1 (cB P)], 40, g.w.heap.size⟩, fun (m, P, _, _) => m ≤ n ∧ P ++ encN m = b ++ encN n, fun (m, _, _, _) => m, loop_here (n, b, oR, cR) rfl ⟨Nat.le_refl _, rfl⟩ rfl, ?_⟩
      rintro ⟨m, P, oR2, cR2⟩ ⟨hmn, hP⟩
      have hPl : P.length + (encN m).length = b.length + (encN n).length := by rw [← List.length_append, hP, List.length_append]
      repeat ((conv => whnf); first | refine ⟨Eq.refl _, ?_⟩ | refine ⟨⟨Eq.refl _, Eq.refl _⟩, ?_⟩ | refine ⟨⟨Eq.refl _, Eq.refl _, Eq.refl _⟩, ?_⟩ | refine ⟨⟨Eq.refl _, Eq.refl _, Eq.refl _, Eq.refl _⟩, ?_⟩ | refine ⟨⟨Eq.refl _, Eq.refl _, Eq.refl _, Eq.refl _, Eq.refl _⟩, ?_⟩ | refine fun (_ : Nat) => ?_ | refine fun (_ : Option Addr) (_ : Nat) => ?_ | fail)
      conv => whnf
      refine ⟨fun hm => ?_, fun hm => ?_⟩
      · have hm' : ¬ m < 128 := by have := of_decide_eq_true hm; omega
        have he := encN_ge hm'
        have hlen : (encN m).length = (encN (m / 128)).length + 1 := by rw [he]; rfl
        repeat ((conv => whnf); first | refine ⟨Eq.refl _, ?_⟩ | refine ⟨⟨Eq.refl _, Eq.refl _⟩, ?_⟩ | refine ⟨⟨Eq.refl _, Eq.refl _, Eq.refl _⟩, ?_⟩ | refine ⟨⟨Eq.refl _, Eq.refl _, Eq.refl _, Eq.refl _⟩, ?_⟩ | refine ⟨⟨Eq.refl _, Eq.refl _, Eq.refl _, Eq.refl _, Eq.refl _⟩, ?_⟩ | refine fun (_ : Nat) => ?_ | refine fun (_ : Option Addr) (_ : Nat) => ?_ | fail)
        conv => whnf
        refine ⟨⟨by unfold maxLen; omega, by omega⟩, fun oa3 cap3 => ?_⟩
        repeat ((conv => whnf); first | refine ⟨Eq.refl _, ?_⟩ | refine ⟨⟨Eq.refl _, Eq.refl _⟩, ?_⟩ | refine ⟨⟨Eq.refl _, Eq.refl _, Eq.refl _⟩, ?_⟩ | refine ⟨⟨Eq.refl _, Eq.refl _, Eq.refl _, Eq.refl _⟩, ?_⟩ | refine ⟨⟨Eq.refl _, Eq.refl _, Eq.refl _, Eq.refl _, Eq.refl _⟩, ?_⟩ | refine fun (_ : Nat) => ?_ | refine fun (_ : Option Addr) (_ : Nat) => ?_ | fail)
        conv => whnf
        refine ⟨by decide, ?_⟩
        repeat ((conv => whnf); first | refine ⟨Eq.refl _, ?_⟩ | refine ⟨⟨Eq.refl _, Eq.refl _⟩, ?_⟩ | refine ⟨⟨Eq.refl _, Eq.refl _, Eq.refl _⟩, ?_⟩ | refine ⟨⟨Eq.refl _, Eq.refl _, Eq.refl _, Eq.refl _⟩, ?_⟩ | refine ⟨⟨Eq.refl _, Eq.refl _, Eq.refl _, Eq.refl _, Eq.refl _⟩, ?_⟩ | refine fun (_ : Nat) => ?_ | refine fun (_ : Option Addr) (_ : Nat) => ?_ | fail)
        conv => whnf
        refine fun fr w hw => ⟨(m / 128, P ++ [m % 128 + 128], oa3, cap3), ?_, ⟨by omega, by rw [← hP, he]; simp⟩, show m / 128 < m from by omega, hw.fit ?_⟩
        · have h7 := shr7 m
          simp [concL, conc] at h7 ⊢
          exact h7.symm
        · simp [fitL, Res.eqv, concL, conc, or128]
      have hm' : m < 128 := by have := of_decide_eq_false hm; omega
      have he := encN_lt hm'
      have hlen : (encN m).length = 1 := by rw [he]; rfl
      have hbn : bytesL (l.take (k + 1)) = some (P ++ [m]) := by
        obtain ⟨h3, h4⟩ := List.getElem?_eq_some_iff.1 hx
        rw [List.take_succ_eq_append_getElem h3, h4, bytesL_snoc hb (by omega), ← he, hP]; rfl
      repeat ((conv => whnf); first | refine ⟨Eq.refl _, ?_⟩ | refine ⟨⟨Eq.refl _, Eq.refl _⟩, ?_⟩ | refine ⟨⟨Eq.refl _, Eq.refl _, Eq.refl _⟩, ?_⟩ | refine ⟨⟨Eq.refl _, Eq.refl _, Eq.refl _, Eq.refl _⟩, ?_⟩ | refine ⟨⟨Eq.refl _, Eq.refl _, Eq.refl _, Eq.refl _, Eq.refl _⟩, ?_⟩ | refine fun (_ : Nat) => ?_ | refine fun (_ : Option Addr) (_ : Nat) => ?_ | fail)
      conv => whnf
      refine ⟨⟨by unfold maxLen; omega, by omega⟩, fun oa3 cap3 => ?_⟩
      repeat ((conv => whnf); first | refine ⟨Eq.refl _, ?_⟩ | refine ⟨⟨Eq.refl _, Eq.refl _⟩, ?_⟩ | refine ⟨⟨Eq.refl _, Eq.refl _, Eq.refl _⟩, ?_⟩ | refine ⟨⟨Eq.refl _, Eq.refl _, Eq.refl _, Eq.refl _⟩, ?_⟩ | refine ⟨⟨Eq.refl _, Eq.refl _, Eq.refl _, Eq.refl _, Eq.refl _⟩, ?_⟩ | refine fun (_ : Nat) => ?_ | refine fun (_ : Option Addr) (_ : Nat) => ?_ | fail)
      conv => whnf
      refine fun fr w hw => ⟨(k + 1, P ++ [m], oa3, cap3), ?_, ⟨h', hbn, by simp; omega⟩, dec h', hw.fit ?_⟩
      · simp [concL, conc]; rw [wr1 h' a1 a2]; simp
      · simp [fitL, Res.eqv, concL, conc, u8lt hm']
    have hz : k = l.length := by have := of_decide_eq_false hlt; omega
    rw [List.take_of_length_le (by omega)] at hb
    repeat ((conv => whnf); first | refine ⟨Eq.refl _, ?_⟩ | refine ⟨⟨Eq.refl _, Eq.refl _⟩, ?_⟩ | refine ⟨⟨Eq.refl _, Eq.refl _, Eq.refl _⟩, ?_⟩ | refine ⟨⟨Eq.refl _, Eq.refl _, Eq.refl _, Eq.refl _⟩, ?_⟩ | refine ⟨⟨Eq.refl _, Eq.refl _, Eq.refl _, Eq.refl _, Eq.refl _⟩, ?_⟩ | refine fun (_ : Nat) => ?_ | refine fun (_ : Option Addr) (_ : Nat) => ?_ | fail)
    conv => whnf
    refine fun g1 hg1 hn1 hp1 => ?_
    conv => whnf
    intro g2 hg
    exact .inr (.inr ⟨z1, b, oR, cR, hb, rfl, hp1.rd.mono hg⟩))
theorem ok_rBytes (g : GW) {v : Value} {l : List Int} (hl : rSl 1 rInt g v l) : Ok Try.prog n_hydrantref08_Bytes [v] g (BytesP l) := by
  obtain ⟨oa, ca, rfl, a1, a2, a0, hl1⟩ := id hl
  exact Ok.of_fn hm noT 0 t_hydrantref08_Bytes (args := [.v (.slice oa l.length ca)]) (by
    repeat ((conv => whnf); first | refine ⟨Eq.refl _, ?_⟩ | refine ⟨⟨Eq.refl _, Eq.refl _⟩, ?_⟩ | refine ⟨⟨Eq.refl _, Eq.refl _, Eq.refl _⟩, ?_⟩ | refine ⟨⟨Eq.refl _, Eq.refl _, Eq.refl _, Eq.refl _⟩, ?_⟩ | refine ⟨⟨Eq.refl _, Eq.refl _, Eq.refl _, Eq.refl _, Eq.refl _⟩, ?_⟩ | refine fun (_ : Nat) => ?_ | refine fun (_ : Option Addr) (_ : Nat) => ?_ | fail)
    conv => whnf
    refine ⟨fun z1 => ?_, fun z1 => ?_⟩
    · conv => whnf
      intro g2 hg
      exact .inl ⟨by have := of_decide_eq_true z1; omega, rfl⟩
    have z1 : l.length ≤ 4000 := by have := of_decide_eq_false z1; omega
    repeat ((conv => whnf); first | refine ⟨Eq.refl _, ?_⟩ | refine ⟨⟨Eq.refl _, Eq.refl _⟩, ?_⟩ | refine ⟨⟨Eq.refl _, Eq.refl _, Eq.refl _⟩, ?_⟩ | refine ⟨⟨Eq.refl _, Eq.refl _, Eq.refl _, Eq.refl _⟩, ?_⟩ | refine ⟨⟨Eq.refl _, Eq.refl _, Eq.refl _, Eq.refl _, Eq.refl _⟩, ?_⟩ | refine fun (_ : Nat) => ?_ | refine fun (_ : Option Addr) (_ : Nat) => ?_ | fail)
    conv => whnf
    refine ⟨Nat × List Nat × Option Addr × Nat, fun (k, b, oR, cR) => [.row 0 oR b.length cR, .v (.int .i64 k)], fun (k, b, oR, cR) => ⟨g, [.row 0 oR b.length cR ty_uint8 1 (cB b)], 40, g.w.heap.size⟩, fun (k, b, _, _) => k ≤ l.length ∧ bytesL (l.take k) = some b ∧ b.length ≤ 10 * k, fun (k, _, _, _) => l.length - k, ?_, ?_⟩
    · intro fr w hw
      exact ⟨(0, [], some ⟨_, 0, none⟩, 0), rfl, ⟨Nat.zero_le _, rfl, Nat.le_refl _⟩, hw.blk_row 0 1 rfl (Nat.zero_le _)⟩
    rintro ⟨k, b, oR, cR⟩ ⟨hk, hb, hbl⟩
    repeat ((conv => whnf); first | refine ⟨Eq.refl _, ?_⟩ | refine ⟨⟨Eq.refl _, Eq.refl _⟩, ?_⟩ | refine ⟨⟨Eq.refl _, Eq.refl _, Eq.refl _⟩, ?_⟩ | refine ⟨⟨Eq.refl _, Eq.refl _, Eq.refl _, Eq.refl _⟩, ?_⟩ | refine ⟨⟨Eq.refl _, Eq.refl _, Eq.refl _, Eq.refl _, Eq.refl _⟩, ?_⟩ | refine fun (_ : Nat) => ?_ | refine fun (_ : Option Addr) (_ : Nat) => ?_ | fail)
    conv => whnf
    refine ⟨fun hlt => ?_, fun hlt => ?_⟩
    · have h' : k < l.length := by have := of_decide_eq_true hlt; omega
      obtain ⟨x, hx⟩ := getL_of h'
      obtain ⟨a, rfl, ec, hec, ⟨rfl, hI⟩, hc⟩ := hl1 k x hx
      repeat ((conv => whnf); first | refine ⟨Eq.refl _, ?_⟩ | refine ⟨⟨Eq.refl _, Eq.refl _⟩, ?_⟩ | refine ⟨⟨Eq.refl _, Eq.refl _, Eq.refl _⟩, ?_⟩ | refine ⟨⟨Eq.refl _, Eq.refl _, Eq.refl _, Eq.refl _⟩, ?_⟩ | refine ⟨⟨Eq.refl _, Eq.refl _, Eq.refl _, Eq.refl _, Eq.refl _⟩, ?_⟩ | refine fun (_ : Nat) => ?_ | refine fun (_ : Option Addr) (_ : Nat) => ?_ | fail)
      conv => whnf
      refine ⟨a, rfl, ⟨by omega, by omega⟩, ?_⟩
      conv => whnf
      refine ⟨_, hc 0 _ rfl, ?_⟩
      repeat ((conv => whnf); first | refine ⟨Eq.refl _, ?_⟩ | refine ⟨⟨Eq.refl _, Eq.refl _⟩, ?_⟩ | refine ⟨⟨Eq.refl _, Eq.refl _, Eq.refl _⟩, ?_⟩ | refine ⟨⟨Eq.refl _, Eq.refl _, Eq.refl _, Eq.refl _⟩, ?_⟩ | refine ⟨⟨Eq.refl _, Eq.refl _, Eq.refl _, Eq.refl _, Eq.refl _⟩, ?_⟩ | refine fun (_ : Nat) => ?_ | refine fun (_ : Option Addr) (_ : Nat) => ?_ | fail)
      conv => whnf
      refine ⟨fun hneg => ?_, fun hneg => ?_⟩
      · conv => whnf
        intro g2 hg
        refine .inr (.inl ⟨z1, bytesL_neg.2 ⟨x, List.mem_of_getElem? hx, of_decide_eq_true hneg⟩, rfl⟩)
      repeat ((conv => whnf); first | refine ⟨Eq.refl _, ?_⟩ | refine ⟨⟨Eq.refl _, Eq.refl _⟩, ?_⟩ | refine ⟨⟨Eq.refl _, Eq.refl _, Eq.refl _⟩, ?_⟩ | refine ⟨⟨Eq.refl _, Eq.refl _, Eq.refl _, Eq.refl _⟩, ?_⟩ | refine ⟨⟨Eq.refl _, Eq.refl _, Eq.refl _, Eq.refl _, Eq.refl _⟩, ?_⟩ | refine fun (_ : Nat) => ?_ | refine fun (_ : Option Addr) (_ : Nat) => ?_ | fail)
      obtain ⟨n, rfl⟩ := Int.eq_ofNat_of_zero_le (show 0 ≤ x by have := of_decide_eq_false hneg; omega)
      have hn9 : n < 128 ^ 9 := by have := hI.2; omega
      have hl9 := encN_len hn9 (by omega)
      conv => whnf
      refine ⟨Nat × List Nat × Option Addr × Nat, fun (m, P, oR, cR) => [.row 0 oR P.length cR, .v (.int .i64 m)], fun (m, P, oR, cR) => ⟨g, [.row 0 oR P.length cR ty_uint8 1 (cB P)], 40, g.w.heap.size⟩, fun (m, P, _, _) => m ≤ n ∧ P ++ encN m = b ++ encN n, fun (m, _, _, _) => m, loop_here (n, b, oR, cR) rfl ⟨Nat.le_refl _, rfl⟩ rfl, ?_⟩
      rintro ⟨m, P, oR2, cR2⟩ ⟨hmn, hP⟩
      have hPl : P.length + (encN m).length = b.length + (encN n).length := by rw [← List.length_append, hP, List.length_append]
      repeat ((conv => whnf); first | refine ⟨Eq.refl _, ?_⟩ | refine ⟨⟨Eq.refl _, Eq.refl _⟩, ?_⟩ | refine ⟨⟨Eq.refl _, Eq.refl _, Eq.refl _⟩, ?_⟩ | refine ⟨⟨Eq.refl _, Eq.refl _, Eq.refl _, Eq.refl _⟩, ?_⟩ | refine ⟨⟨Eq.refl _, Eq.refl _, Eq.refl _, Eq.refl _, Eq.refl _⟩, ?_⟩ | refine fun (_ : Nat) => ?_ | refine fun (_ : Option Addr) (_ : Nat) => ?_ | fail)
      conv => whnf
      refine ⟨fun hm => ?_, fun hm => ?_⟩
      · have hm' : ¬ m < 128 := by have := of_decide_eq_true hm; omega
        have he := encN_ge hm'
        have hlen : (encN m).length = (encN (m / 128)).length + 1 := by rw [he]; rfl
        repeat ((conv => whnf); first | refine ⟨Eq.refl _, ?_⟩ | refine ⟨⟨Eq.refl _, Eq.refl _⟩, ?_⟩ | refine ⟨⟨Eq.refl _, Eq.refl _, Eq.refl _⟩, ?_⟩ | refine ⟨⟨Eq.refl _, Eq.refl _, Eq.refl _, Eq.refl _⟩, ?_⟩ | refine ⟨⟨Eq.refl _, Eq.refl _, Eq.refl _, Eq.refl _, Eq.refl _⟩, ?_⟩ | refine fun (_ : Nat) => ?_ | refine fun (_ : Option Addr) (_ : Nat) => ?_ | fail)
        conv => whnf
        refine ⟨by decide, ?_⟩
        repeat ((conv => whnf); first | refine ⟨Eq.refl _, ?_⟩ | refine ⟨⟨Eq.refl _, Eq.refl _⟩, ?_⟩ | refine ⟨⟨Eq.refl _, Eq.refl _, Eq.refl _⟩, ?_⟩ | refine ⟨⟨Eq.refl _, Eq.refl _, Eq.refl _, Eq.refl _⟩, ?_⟩ | refine ⟨⟨Eq.refl _, Eq.refl _, Eq.refl _, Eq.refl _, Eq.refl _⟩, ?_⟩ | refine fun (_ : Nat) => ?_ | refine fun (_ : Option Addr) (_ : Nat) => ?_ | fail)
        conv => whnf
        refine ⟨⟨by unfold maxLen; omega, by omega⟩, fun oa3 cap3 => ?_⟩
        repeat ((conv => whnf); first | refine ⟨Eq.refl _, ?_⟩ | refine ⟨⟨Eq.refl _, Eq.refl _⟩, ?_⟩ | refine ⟨⟨Eq.refl _, Eq.refl _, Eq.refl _⟩, ?_⟩ | refine ⟨⟨Eq.refl _, Eq.refl _, Eq.refl _, Eq.refl _⟩, ?_⟩ | refine ⟨⟨Eq.refl _, Eq.refl _, Eq.refl _, Eq.refl _, Eq.refl _⟩, ?_⟩ | refine fun (_ : Nat) => ?_ | refine fun (_ : Option Addr) (_ : Nat) => ?_ | fail)
        conv => whnf
        refine ⟨by decide, ?_⟩
        repeat ((conv => whnf); first | refine ⟨Eq.refl _, ?_⟩ | refine ⟨⟨Eq.refl _, Eq.refl _⟩, ?_⟩ | refine ⟨⟨Eq.refl _, Eq.refl _, Eq.refl _⟩, ?_⟩ | refine ⟨⟨Eq.refl _, Eq.refl _, Eq.refl _, Eq.refl _⟩, ?_⟩ | refine ⟨⟨Eq.refl _, Eq.refl _, Eq.refl _, Eq.refl _, Eq.refl _⟩, ?_⟩ | refine fun (_ : Nat) => ?_ | refine fun (_ : Option Addr) (_ : Nat) => ?_ | fail)
        conv => whnf
        refine fun fr w hw => ⟨(m / 128, P ++ [m % 128 + 128], oa3, cap3), ?_, ⟨by omega, by rw [← hP, he]; simp⟩, show m / 128 < m from by omega, hw.fit ?_⟩
        · have h7 := quow m (by omega)
          simp [concL, conc] at h7 ⊢
          exact h7.symm
        · simp [fitL, Res.eqv, concL, conc, remw m (by omega)]
      have hm' : m < 128 := by have := of_decide_eq_false hm; omega
      have he := encN_lt hm'
      have hlen : (encN m).length = 1 := by rw [he]; rfl
      have hbn : bytesL (l.take (k + 1)) = some (P ++ [m]) := by
        obtain ⟨h3, h4⟩ := List.getElem?_eq_some_iff.1 hx
        rw [List.take_succ_eq_append_getElem h3, h4, bytesL_snoc hb (by omega), ← he, hP]; rfl
      repeat ((conv => whnf); first | refine ⟨Eq.refl _, ?_⟩ | refine ⟨⟨Eq.refl _, Eq.refl _⟩, ?_⟩ | refine ⟨⟨Eq.refl _, Eq.refl _, Eq.refl _⟩, ?_⟩ | refine ⟨⟨Eq.refl _, Eq.refl _, Eq.refl _, Eq.refl _⟩, ?_⟩ | refine ⟨⟨Eq.refl _, Eq.refl _, Eq.refl _, Eq.refl _, Eq.refl _⟩, ?_⟩ | refine fun (_ : Nat) => ?_ | refine fun (_ : Option Addr) (_ : Nat) => ?_ | fail)
      conv => whnf
      refine ⟨⟨by unfold maxLen; omega, by omega⟩, fun oa3 cap3 => ?_⟩
      repeat ((conv => whnf); first | refine ⟨Eq.refl _, ?_⟩ | refine ⟨⟨Eq.refl _, Eq.refl _⟩, ?_⟩ | refine ⟨⟨Eq.refl _, Eq.refl _, Eq.refl _⟩, ?_⟩ | refine ⟨⟨Eq.refl _, Eq.refl _, Eq.refl _, Eq.refl _⟩, ?_⟩ | refine ⟨⟨Eq.refl _, Eq.refl _, Eq.refl _, Eq.refl _, Eq.refl _⟩, ?_⟩ | refine fun (_ : Nat) => ?_ | refine fun (_ : Option Addr) (_ : Nat) => ?_ | fail)
      conv => whnf
      refine fun fr w hw => ⟨(k + 1, P ++ [m], oa3, cap3), ?_, ⟨h', hbn, by simp; omega⟩, dec h', hw.fit ?_⟩
      · simp [concL, conc]; rw [wr1 h' a1 a2]; simp
      · simp [fitL, Res.eqv, concL, conc, u8lt hm']
    have hz : k = l.length := by have := of_decide_eq_false hlt; omega
    rw [List.take_of_length_le (by omega)] at hb
    repeat ((conv => whnf); first | refine ⟨Eq.refl _, ?_⟩ | refine ⟨⟨Eq.refl _, Eq.refl _⟩, ?_⟩ | refine ⟨⟨Eq.refl _, Eq.refl _, Eq.refl _⟩, ?_⟩ | refine ⟨⟨Eq.refl _, Eq.refl _, Eq.refl _, Eq.refl _⟩, ?_⟩ | refine ⟨⟨Eq.refl _, Eq.refl _, Eq.refl _, Eq.refl _, Eq.refl _⟩, ?_⟩ | refine fun (_ : Nat) => ?_ | refine fun (_ : Option Addr) (_ : Nat) => ?_ | fail)
    conv => whnf
    refine fun g1 hg1 hn1 hp1 => ?_
    conv => whnf
    intro g2 hg
    exact .inr (.inr ⟨z1, b, oR, cR, hb, rfl, hp1.rd.mono hg⟩))
end Go.Proofs.Ytedjbhpocedagaa

/- Scripts: bytes as numbers, the program's way. -/
namespace Go.Proofs.Ytedjbhpocedagaa
open Go.Proofs.Ytedjbhpocedagaa.Sx Go.RowKit
def rByt : RP Nat := fun _ cs x => cs = [.int .u8 (x : Nat)] ∧ x < 256
abbrev cI (l : List Nat) : List Value := l.map fun (x : Nat) => Value.int .i64 x
def PicksP (b : List Nat) (v : Value) (g' : GW) : Prop :=
  (∃ e, picksL b.length [] b = .error e ∧ v = .tuple #[.slice none 0 0, .int .i64 e]) ∨
  ∃ l oa cap, picksL b.length [] b = .ok l ∧ v = .tuple #[.slice oa l.length cap, .int .i64 0] ∧ RdSl g' 1 (.slice oa l.length cap) l.length (cI l)
theorem ok_Picks (g : GW) {v : Value} {b : List Nat} (hl : rSl 1 rByt g v b) : Ok Try.prog n_script_Picks [v] g (PicksP b) := by
  obtain ⟨oa, ca, rfl, a1, a2, a0, _⟩ := id hl
  exact Ok.of_fn hm noT 0 t_script_Picks (args := [.v (.slice oa b.length ca)]) (by
    repeat ((conv => whnf); first | refine ⟨Eq.refl _, ?_⟩ | refine ⟨⟨Eq.refl _, Eq.refl _⟩, ?_⟩ | refine ⟨⟨Eq.refl _, Eq.refl _, Eq.refl _⟩, ?_⟩ | refine ⟨⟨Eq.refl _, Eq.refl _, Eq.refl _, Eq.refl _⟩, ?_⟩ | refine ⟨⟨Eq.refl _, Eq.refl _, Eq.refl _, Eq.refl _, Eq.refl _⟩, ?_⟩ | refine fun (_ : Nat) => ?_ | refine fun (_ : Option Addr) (_ : Nat) => ?_ | fail)
    conv => whnf
    refine ⟨(List Nat × Option Addr × Nat) × List Nat × Option Addr × Nat, fun ((r, oX, cX), out, oR, cR) => [.v (.slice oX r.length cX), .row 0 oR out.length cR], fun (_, out, oR, cR) => ⟨g, [.row 0 oR out.length cR ty_int 1 (cI out)], 40, g.w.heap.size⟩, fun ((r, oX, cX), out, _, _) => rSl 1 rByt g (.slice oX r.length cX) r ∧ picksL r.length out r = picksL b.length [] b ∧ out.length ≤ 4000, fun ((r, _, _), _, _, _) => r.length, ?_, ?_⟩
    · intro fr w hw
      exact ⟨((b, oa, ca), [], none, 0), rfl, ⟨hl, rfl, Nat.zero_le _⟩, (hw.nil_row (nx' := 40) 0 ty_int 1).fit (by simp [fitL, Res.eqv])⟩
    rintro ⟨⟨r, oX, cX⟩, out, oR, cR⟩ ⟨hr, hp, ho⟩
    repeat ((conv => whnf); first | refine ⟨Eq.refl _, ?_⟩ | refine ⟨⟨Eq.refl _, Eq.refl _⟩, ?_⟩ | refine ⟨⟨Eq.refl _, Eq.refl _, Eq.refl _⟩, ?_⟩ | refine ⟨⟨Eq.refl _, Eq.refl _, Eq.refl _, Eq.refl _⟩, ?_⟩ | refine ⟨⟨Eq.refl _, Eq.refl _, Eq.refl _, Eq.refl _, Eq.refl _⟩, ?_⟩ | refine fun (_ : Nat) => ?_ | refine fun (_ : Option Addr) (_ : Nat) => ?_ | fail)
    conv => whnf
    refine ⟨fun hlt => ?_, fun hlt => ?_⟩
    rotate_left
    · repeat ((conv => whnf); first | refine ⟨Eq.refl _, ?_⟩ | refine ⟨⟨Eq.refl _, Eq.refl _⟩, ?_⟩ | refine ⟨⟨Eq.refl _, Eq.refl _, Eq.refl _⟩, ?_⟩ | refine ⟨⟨Eq.refl _, Eq.refl _, Eq.refl _, Eq.refl _⟩, ?_⟩ | refine ⟨⟨Eq.refl _, Eq.refl _, Eq.refl _, Eq.refl _, Eq.refl _⟩, ?_⟩ | refine fun (_ : Nat) => ?_ | refine fun (_ : Option Addr) (_ : Nat) => ?_ | fail)
      conv => whnf
      refine fun g1 hg1 hn1 hp1 => ?_
      conv => whnf
      intro g2 hg
      have hr0 : r = [] := by have := of_decide_eq_false hlt; exact List.length_eq_zero_iff.1 (by omega)
      subst hr0
      refine .inr ⟨out, oR, cR, by rw [← hp]; rfl, rfl, hp1.rd.mono hg⟩
    have h0 : 0 < r.length := by have := of_decide_eq_true hlt; omega
    have hmin : (if (r.length : Int) < 9 then (r.length : Int) else 9) = ((min 9 r.length : Nat) : Int) := by split <;> omega
    obtain ⟨oX', cX', he, c1, c2, c0, hr1⟩ := id hr
    cases he
    conv => whnf
    rw [hmin]
    conv => whnf
    refine ⟨⟨by omega, by omega⟩, ?_⟩
    repeat ((conv => whnf); first | refine ⟨Eq.refl _, ?_⟩ | refine ⟨⟨Eq.refl _, Eq.refl _⟩, ?_⟩ | refine ⟨⟨Eq.refl _, Eq.refl _, Eq.refl _⟩, ?_⟩ | refine ⟨⟨Eq.refl _, Eq.refl _, Eq.refl _, Eq.refl _⟩, ?_⟩ | refine ⟨⟨Eq.refl _, Eq.refl _, Eq.refl _, Eq.refl _, Eq.refl _⟩, ?_⟩ | refine fun (_ : Nat) => ?_ | refine fun (_ : Option Addr) (_ : Nat) => ?_ | fail)
    conv => whnf
    refine ⟨Nat, fun i => [.v (.slice oX r.length cX), .row 0 oR out.length cR, .v (.int .i64 (accN (r.take i) : Nat)), .v (.int .i64 i)], fun _ => ⟨g, [.row 0 oR out.length cR ty_int 1 (cI out)], 40, g.w.heap.size⟩, fun i => i ≤ min 9 r.length ∧ ∀ x ∈ r.take i, 128 ≤ x, fun i => 9 - i, loop_here 0 rfl ⟨Nat.zero_le _, by simp⟩ rfl, ?_⟩
    rintro i ⟨hi, hge⟩
    repeat ((conv => whnf); first | refine ⟨Eq.refl _, ?_⟩ | refine ⟨⟨Eq.refl _, Eq.refl _⟩, ?_⟩ | refine ⟨⟨Eq.refl _, Eq.refl _, Eq.refl _⟩, ?_⟩ | refine ⟨⟨Eq.refl _, Eq.refl _, Eq.refl _, Eq.refl _⟩, ?_⟩ | refine ⟨⟨Eq.refl _, Eq.refl _, Eq.refl _, Eq.refl _, Eq.refl _⟩, ?_⟩ | refine fun (_ : Nat) => ?_ | refine fun (_ : Option Addr) (_ : Nat) => ?_ | fail)
    conv => whnf
    refine ⟨fun hli => ?_, fun hli => ?_⟩
    · have hi' : i < min 9 r.length := by have := of_decide_eq_true hli; omega
      obtain ⟨y, hy⟩ := getL_of (show i < r.length by omega)
      obtain ⟨a, rfl, ec, hec, ⟨rfl, hy2⟩, hc⟩ := hr1 i y hy
      repeat ((conv => whnf); first | refine ⟨Eq.refl _, ?_⟩ | refine ⟨⟨Eq.refl _, Eq.refl _⟩, ?_⟩ | refine ⟨⟨Eq.refl _, Eq.refl _, Eq.refl _⟩, ?_⟩ | refine ⟨⟨Eq.refl _, Eq.refl _, Eq.refl _, Eq.refl _⟩, ?_⟩ | refine ⟨⟨Eq.refl _, Eq.refl _, Eq.refl _, Eq.refl _, Eq.refl _⟩, ?_⟩ | refine fun (_ : Nat) => ?_ | refine fun (_ : Option Addr) (_ : Nat) => ?_ | fail)
      conv => whnf
      refine ⟨a, rfl, ⟨by omega, by omega⟩, ?_⟩
      conv => whnf
      refine ⟨_, hc 0 _ rfl, ?_⟩
      have hlen : (r.take i).length = i := by simp; omega
      have hb256 : ∀ x ∈ r.take i, x < 256 := fun x hx => by
        obtain ⟨j, hj⟩ := List.getElem?_of_mem (List.mem_of_mem_take hx)
        obtain ⟨_, _, _, _, ⟨_, h2⟩, _⟩ := hr1 j x hj
        exact h2
      have hacc := accN_lt hb256
      rw [hlen] at hacc
      have hor := orN hacc hy2 (by omega)
      have hdrop : r = r.take i ++ (y :: r.drop (i + 1)) := by
        obtain ⟨h3, h4⟩ := List.getElem?_eq_some_iff.1 hy
        rw [← h4, List.getElem_cons_drop, List.take_append_drop]
      have hdec := dec_go (p := r.take i) (r := y :: r.drop (i + 1)) (fuel := 9) (i := 0) hge (by omega)
      rw [← hdrop, hlen, Nat.zero_add] at hdec
      repeat ((conv => whnf); first | refine ⟨Eq.refl _, ?_⟩ | refine ⟨⟨Eq.refl _, Eq.refl _⟩, ?_⟩ | refine ⟨⟨Eq.refl _, Eq.refl _, Eq.refl _⟩, ?_⟩ | refine ⟨⟨Eq.refl _, Eq.refl _, Eq.refl _, Eq.refl _⟩, ?_⟩ | refine ⟨⟨Eq.refl _, Eq.refl _, Eq.refl _, Eq.refl _, Eq.refl _⟩, ?_⟩ | refine fun (_ : Nat) => ?_ | refine fun (_ : Option Addr) (_ : Nat) => ?_ | fail)
      conv => whnf
      refine ⟨by rw [wr (show InR (7 * (i : Int)) by unfold InR; omega)]; omega, ?_⟩
      conv => whnf
      rw [hor]
      repeat ((conv => whnf); first | refine ⟨Eq.refl _, ?_⟩ | refine ⟨⟨Eq.refl _, Eq.refl _⟩, ?_⟩ | refine ⟨⟨Eq.refl _, Eq.refl _, Eq.refl _⟩, ?_⟩ | refine ⟨⟨Eq.refl _, Eq.refl _, Eq.refl _, Eq.refl _⟩, ?_⟩ | refine ⟨⟨Eq.refl _, Eq.refl _, Eq.refl _, Eq.refl _, Eq.refl _⟩, ?_⟩ | refine fun (_ : Nat) => ?_ | refine fun (_ : Option Addr) (_ : Nat) => ?_ | fail)
      conv => whnf
      refine ⟨fun hc1 => ?_, fun hc1 => ?_⟩
      · have hy1 : 128 ≤ y := by have := of_decide_eq_true hc1; omega
        conv => whnf
        refine fun fr w hw => ⟨i + 1, ?_, ⟨by omega, ?_⟩, by show 9 - (i + 1) < 9 - i; omega, hw⟩
        · have h128 : y % 128 = y - 128 := by omega
          have := accN_snoc (r.take i) y
          rw [hlen] at this
          have hT : accN (r.take (i + 1)) = accN (r.take i) + y % 128 * 128 ^ i := by
            rw [List.take_succ_eq_append_getElem (by omega), (List.getElem?_eq_some_iff.1 hy).2, this, h128]
          show concL [_, _, SV.v (Value.int .i64 (accN (r.take (i + 1)) : Nat)), _] = _
          rw [hT]
          simp [concL, conc]
          rw [wr (show InR ((i : Int) + 1) by unfold InR; omega)]
        · rw [List.take_succ_eq_append_getElem (by omega), (List.getElem?_eq_some_iff.1 hy).2]
          intro x hx
          rcases List.mem_append.1 hx with hx | hx
          · exact hge x hx
          · simp at hx; omega
      have hy1 : y < 128 := by have := of_decide_eq_false hc1; omega
      have hdy : decN (9 - i) i (y :: r.drop (i + 1)) = if 0 < i ∧ y = 0 then none else some (y, 1) := by
        obtain ⟨f, hf⟩ : ∃ f, 9 - i = f + 1 := ⟨8 - i, by omega⟩
        rw [hf]; simp only [decN]; rw [if_neg (by omega)]
      rw [hdy] at hdec
      by_cases hbad : 0 < i ∧ y = 0
      · rw [if_pos hbad] at hdec
        repeat ((conv => whnf); first | refine ⟨Eq.refl _, ?_⟩ | refine ⟨⟨Eq.refl _, Eq.refl _⟩, ?_⟩ | refine ⟨⟨Eq.refl _, Eq.refl _, Eq.refl _⟩, ?_⟩ | refine ⟨⟨Eq.refl _, Eq.refl _, Eq.refl _, Eq.refl _⟩, ?_⟩ | refine ⟨⟨Eq.refl _, Eq.refl _, Eq.refl _, Eq.refl _, Eq.refl _⟩, ?_⟩ | refine fun (_ : Nat) => ?_ | refine fun (_ : Option Addr) (_ : Nat) => ?_ | fail)
        conv => whnf
        refine ⟨fun _ => ?_, fun hx => absurd (((decide_eq_true (by omega))).symm.trans hx) (by decide)⟩
        repeat ((conv => whnf); first | refine ⟨Eq.refl _, ?_⟩ | refine ⟨⟨Eq.refl _, Eq.refl _⟩, ?_⟩ | refine ⟨⟨Eq.refl _, Eq.refl _, Eq.refl _⟩, ?_⟩ | refine ⟨⟨Eq.refl _, Eq.refl _, Eq.refl _, Eq.refl _⟩, ?_⟩ | refine ⟨⟨Eq.refl _, Eq.refl _, Eq.refl _, Eq.refl _, Eq.refl _⟩, ?_⟩ | refine fun (_ : Nat) => ?_ | refine fun (_ : Option Addr) (_ : Nat) => ?_ | fail)
        conv => whnf
        refine ⟨fun _ => ?_, fun hx => absurd (((show (((y : Nat) : Int) == 0) = true by simp; omega)).symm.trans hx) (by decide)⟩
        conv => whnf
        intro g2 hg
        exact .inl ⟨11, by rw [← hp]; exact picks_bad (fun e => by rw [e] at h0; simp at h0) hdec, rfl⟩
      rw [if_neg hbad] at hdec
      simp only at hdec
      by_cases hi0 : 0 < i
      · repeat ((conv => whnf); first | refine ⟨Eq.refl _, ?_⟩ | refine ⟨⟨Eq.refl _, Eq.refl _⟩, ?_⟩ | refine ⟨⟨Eq.refl _, Eq.refl _, Eq.refl _⟩, ?_⟩ | refine ⟨⟨Eq.refl _, Eq.refl _, Eq.refl _, Eq.refl _⟩, ?_⟩ | refine ⟨⟨Eq.refl _, Eq.refl _, Eq.refl _, Eq.refl _, Eq.refl _⟩, ?_⟩ | refine fun (_ : Nat) => ?_ | refine fun (_ : Option Addr) (_ : Nat) => ?_ | fail)
        conv => whnf
        refine ⟨fun _ => ?_, fun hx => absurd (((decide_eq_true (by omega))).symm.trans hx) (by decide)⟩
        repeat ((conv => whnf); first | refine ⟨Eq.refl _, ?_⟩ | refine ⟨⟨Eq.refl _, Eq.refl _⟩, ?_⟩ | refine ⟨⟨Eq.refl _, Eq.refl _, Eq.refl _⟩, ?_⟩ | refine ⟨⟨Eq.refl _, Eq.refl _, Eq.refl _, Eq.refl _⟩, ?_⟩ | refine ⟨⟨Eq.refl _, Eq.refl _, Eq.refl _, Eq.refl _, Eq.refl _⟩, ?_⟩ | refine fun (_ : Nat) => ?_ | refine fun (_ : Option Addr) (_ : Nat) => ?_ | fail)
        conv => whnf
        refine ⟨fun hx => absurd (hx.symm.trans ((show (((y : Nat) : Int) == 0) = false by simp; omega))) (by decide), fun _ => ?_⟩
        repeat ((conv => whnf); first | refine ⟨Eq.refl _, ?_⟩ | refine ⟨⟨Eq.refl _, Eq.refl _⟩, ?_⟩ | refine ⟨⟨Eq.refl _, Eq.refl _, Eq.refl _⟩, ?_⟩ | refine ⟨⟨Eq.refl _, Eq.refl _, Eq.refl _, Eq.refl _⟩, ?_⟩ | refine ⟨⟨Eq.refl _, Eq.refl _, Eq.refl _, Eq.refl _, Eq.refl _⟩, ?_⟩ | refine fun (_ : Nat) => ?_ | refine fun (_ : Option Addr) (_ : Nat) => ?_ | fail)
        conv => whnf
        refine ⟨fun hc4 => ?_, fun hc4 => ?_⟩
        · conv => whnf
          intro g2 hg
          exact .inl ⟨6, by rw [← hp]; exact picks_many hdec (by simp at hc4; omega), rfl⟩
        have ho4 : out.length ≠ 4000 := by simp at hc4; omega
        repeat ((conv => whnf); first | refine ⟨Eq.refl _, ?_⟩ | refine ⟨⟨Eq.refl _, Eq.refl _⟩, ?_⟩ | refine ⟨⟨Eq.refl _, Eq.refl _, Eq.refl _⟩, ?_⟩ | refine ⟨⟨Eq.refl _, Eq.refl _, Eq.refl _, Eq.refl _⟩, ?_⟩ | refine ⟨⟨Eq.refl _, Eq.refl _, Eq.refl _, Eq.refl _, Eq.refl _⟩, ?_⟩ | refine fun (_ : Nat) => ?_ | refine fun (_ : Option Addr) (_ : Nat) => ?_ | fail)
        conv => whnf
        refine ⟨⟨by unfold maxLen; omega, by omega⟩, fun oa3 cap3 => ?_⟩
        have hw1 : IntKind.i64.wrap ((i : Int) + 1) = ((i + 1 : Nat) : Int) := by rw [wr (show InR _ by unfold InR; omega)]; simp
        conv => whnf
        rw [hw1]
        conv => whnf
        refine ⟨⟨by omega, by omega⟩, ?_⟩
        repeat ((conv => whnf); first | refine ⟨Eq.refl _, ?_⟩ | refine ⟨⟨Eq.refl _, Eq.refl _⟩, ?_⟩ | refine ⟨⟨Eq.refl _, Eq.refl _, Eq.refl _⟩, ?_⟩ | refine ⟨⟨Eq.refl _, Eq.refl _, Eq.refl _, Eq.refl _⟩, ?_⟩ | refine ⟨⟨Eq.refl _, Eq.refl _, Eq.refl _, Eq.refl _, Eq.refl _⟩, ?_⟩ | refine fun (_ : Nat) => ?_ | refine fun (_ : Option Addr) (_ : Nat) => ?_ | fail)
        conv => whnf
        refine fun fr w hw => ⟨((r.drop (i + 1), if cX = i + 1 then some a else (some a).map (·.add ((i + 1) * 1)), cX - (i + 1)), out ++ [accN (r.take i) + y % 128 * 128 ^ i], oa3, cap3), ?_, ⟨?_, ?_, by simp; omega⟩, ?_, hw.fit ?_⟩
        · simp [concL, conc]
        · have := hr.drop (k := i + 1) (by omega)
          rwa [← List.length_drop] at this
        · have hst := picks_step hdec ho4
          rw [show 1 + i = i + 1 by omega, show accN (r.take i) + 128 ^ i * y = accN (r.take i) + y % 128 * 128 ^ i by rw [show y % 128 = y by omega, Nat.mul_comm]] at hst
          rw [← hst]; exact hp
        · show (r.drop (i + 1)).length < r.length
          rw [List.length_drop]; omega
        · simp [fitL, Res.eqv, concL, conc]
      · repeat ((conv => whnf); first | refine ⟨Eq.refl _, ?_⟩ | refine ⟨⟨Eq.refl _, Eq.refl _⟩, ?_⟩ | refine ⟨⟨Eq.refl _, Eq.refl _, Eq.refl _⟩, ?_⟩ | refine ⟨⟨Eq.refl _, Eq.refl _, Eq.refl _, Eq.refl _⟩, ?_⟩ | refine ⟨⟨Eq.refl _, Eq.refl _, Eq.refl _, Eq.refl _, Eq.refl _⟩, ?_⟩ | refine fun (_ : Nat) => ?_ | refine fun (_ : Option Addr) (_ : Nat) => ?_ | fail)
        conv => whnf
        refine ⟨fun hx => absurd (hx.symm.trans ((decide_eq_false (by omega)))) (by decide), fun _ => ?_⟩
        repeat ((conv => whnf); first | refine ⟨Eq.refl _, ?_⟩ | refine ⟨⟨Eq.refl _, Eq.refl _⟩, ?_⟩ | refine ⟨⟨Eq.refl _, Eq.refl _, Eq.refl _⟩, ?_⟩ | refine ⟨⟨Eq.refl _, Eq.refl _, Eq.refl _, Eq.refl _⟩, ?_⟩ | refine ⟨⟨Eq.refl _, Eq.refl _, Eq.refl _, Eq.refl _, Eq.refl _⟩, ?_⟩ | refine fun (_ : Nat) => ?_ | refine fun (_ : Option Addr) (_ : Nat) => ?_ | fail)
        conv => whnf
        refine ⟨fun hc4 => ?_, fun hc4 => ?_⟩
        · conv => whnf
          intro g2 hg
          exact .inl ⟨6, by rw [← hp]; exact picks_many hdec (by simp at hc4; omega), rfl⟩
        have ho4 : out.length ≠ 4000 := by simp at hc4; omega
        repeat ((conv => whnf); first | refine ⟨Eq.refl _, ?_⟩ | refine ⟨⟨Eq.refl _, Eq.refl _⟩, ?_⟩ | refine ⟨⟨Eq.refl _, Eq.refl _, Eq.refl _⟩, ?_⟩ | refine ⟨⟨Eq.refl _, Eq.refl _, Eq.refl _, Eq.refl _⟩, ?_⟩ | refine ⟨⟨Eq.refl _, Eq.refl _, Eq.refl _, Eq.refl _, Eq.refl _⟩, ?_⟩ | refine fun (_ : Nat) => ?_ | refine fun (_ : Option Addr) (_ : Nat) => ?_ | fail)
        conv => whnf
        refine ⟨⟨by unfold maxLen; omega, by omega⟩, fun oa3 cap3 => ?_⟩
        have hw1 : IntKind.i64.wrap ((i : Int) + 1) = ((i + 1 : Nat) : Int) := by rw [wr (show InR _ by unfold InR; omega)]; simp
        conv => whnf
        rw [hw1]
        conv => whnf
        refine ⟨⟨by omega, by omega⟩, ?_⟩
        repeat ((conv => whnf); first | refine ⟨Eq.refl _, ?_⟩ | refine ⟨⟨Eq.refl _, Eq.refl _⟩, ?_⟩ | refine ⟨⟨Eq.refl _, Eq.refl _, Eq.refl _⟩, ?_⟩ | refine ⟨⟨Eq.refl _, Eq.refl _, Eq.refl _, Eq.refl _⟩, ?_⟩ | refine ⟨⟨Eq.refl _, Eq.refl _, Eq.refl _, Eq.refl _, Eq.refl _⟩, ?_⟩ | refine fun (_ : Nat) => ?_ | refine fun (_ : Option Addr) (_ : Nat) => ?_ | fail)
        conv => whnf
        refine fun fr w hw => ⟨((r.drop (i + 1), if cX = i + 1 then some a else (some a).map (·.add ((i + 1) * 1)), cX - (i + 1)), out ++ [accN (r.take i) + y % 128 * 128 ^ i], oa3, cap3), ?_, ⟨?_, ?_, by simp; omega⟩, ?_, hw.fit ?_⟩
        · simp [concL, conc]
        · have := hr.drop (k := i + 1) (by omega)
          rwa [← List.length_drop] at this
        · have hst := picks_step hdec ho4
          rw [show 1 + i = i + 1 by omega, show accN (r.take i) + 128 ^ i * y = accN (r.take i) + y % 128 * 128 ^ i by rw [show y % 128 = y by omega, Nat.mul_comm]] at hst
          rw [← hst]; exact hp
        · show (r.drop (i + 1)).length < r.length
          rw [List.length_drop]; omega
        · simp [fitL, Res.eqv, concL, conc]
    conv => whnf
    intro g2 hg
    refine .inl ⟨11, ?_, rfl⟩
    have hi9 : i = min 9 r.length := by have := of_decide_eq_false hli; omega
    rw [← hp]
    refine picks_bad (fun e => by rw [e] at h0; simp at h0) ?_
    have hdec := dec_go (p := r.take i) (r := r.drop i) (fuel := 9) (i := 0) hge (by simp; omega)
    rw [List.take_append_drop] at hdec
    rw [hdec]
    have : decN (9 - (r.take i).length) (0 + (r.take i).length) (r.drop i) = none := by
      rcases Nat.lt_or_ge r.length 9 with h | h
      · rw [List.drop_of_length_le (by omega)]
        cases 9 - (r.take i).length <;> rfl
      · rw [show 9 - (r.take i).length = 0 by simp; omega]; rfl
    rw [this])
end Go.Proofs.Ytedjbhpocedagaa
