/- Scripts: what is the same; what the laws ask first. -/
import Derived.Test.YtedjbhpocedagaaLW8c
import Derived.Test.YtedjbhpocedagaaLS7b
import Derived.Test.YtedjbhpocedagaaPl
namespace Go.Proofs.Ytedjbhpocedagaa
open Go.Proofs.Ytedjbhpocedagaa.Sx Go.RowKit
theorem strB_data (l : List Nat) (h : ∀ x ∈ l, x < 256) : (strB (l.map fun (x : Nat) => (x : Int))).data.toList = l.map fun x => UInt8.ofNat x := by
  have gen : ∀ (l : List Nat) (s : ByteArray), ((l.map fun (x : Nat) => (x : Int)).foldl (fun r n => r.push (UInt8.ofNat n.toNat)) s).data.toList = s.data.toList ++ l.map fun x => UInt8.ofNat x := by
    intro l
    induction l with
    | nil => intro s; simp
    | cons x r ih => intro s; simp only [List.map_cons, List.foldl_cons]; rw [ih]; simp [ByteArray.push]
  unfold strB
  rw [gen]; rfl
theorem ok_sameBytes (g : GW) {v v' : Value} {a b : List Nat} (ha : rSl 1 rByt g v a) (hb : rSl 1 rByt g v' b) : OkV Try.prog n_hydrantlaw08_sameBytes [v, v'] g (.bool (eqB a b)) := by
  obtain ⟨oa, ca, rfl, a1, a2, a0, ha1⟩ := id ha
  obtain ⟨ob, cb, rfl, b1, b2, b0, hb1⟩ := id hb
  exact Ok.of_fn hm noT 0 t_hydrantlaw08_sameBytes (args := [.v (.slice oa a.length ca), .v (.slice ob b.length cb)]) (by
    have ra := rSl_rd ha (fun x => [.int .u8 (x : Nat)]) fun _ _ h => h.1
    have rb := rSl_rd hb (fun x => [.int .u8 (x : Nat)]) fun _ _ h => h.1
    have la : ∀ x ∈ a, x < 256 := fun x hx => by
      obtain ⟨i, hi⟩ := List.getElem?_of_mem hx
      obtain ⟨_, _, _, _, ⟨_, h2⟩, _⟩ := ha1 i x hi
      exact h2
    have lb : ∀ x ∈ b, x < 256 := fun x hx => by
      obtain ⟨i, hi⟩ := List.getElem?_of_mem hx
      obtain ⟨_, _, _, _, ⟨_, h2⟩, _⟩ := hb1 i x hi
      exact h2
    have e1 : ∀ l : List Nat, (l.map fun x => [Value.int .u8 (x : Nat)]).flatten = (l.map fun (x : Nat) => (x : Int)).map (Value.int .u8) := fun l => by
      induction l with
      | nil => rfl
      | cons x r ih => simp only [List.map_cons, List.flatten_cons, ih]; rfl
    rw [e1] at ra rb
    repeat ((conv => whnf); first | refine ⟨Eq.refl _, ?_⟩ | refine ⟨⟨Eq.refl _, Eq.refl _⟩, ?_⟩ | refine ⟨⟨Eq.refl _, Eq.refl _, Eq.refl _⟩, ?_⟩ | refine ⟨⟨Eq.refl _, Eq.refl _, Eq.refl _, Eq.refl _⟩, ?_⟩ | refine ⟨⟨Eq.refl _, Eq.refl _, Eq.refl _, Eq.refl _, Eq.refl _⟩, ?_⟩ | refine fun (_ : Nat) => ?_ | refine fun (_ : Option Addr) (_ : Nat) => ?_ | fail)
    conv => whnf
    refine ⟨_, ra, ?_⟩
    repeat ((conv => whnf); first | refine ⟨Eq.refl _, ?_⟩ | refine ⟨⟨Eq.refl _, Eq.refl _⟩, ?_⟩ | refine ⟨⟨Eq.refl _, Eq.refl _, Eq.refl _⟩, ?_⟩ | refine ⟨⟨Eq.refl _, Eq.refl _, Eq.refl _, Eq.refl _⟩, ?_⟩ | refine ⟨⟨Eq.refl _, Eq.refl _, Eq.refl _, Eq.refl _, Eq.refl _⟩, ?_⟩ | refine fun (_ : Nat) => ?_ | refine fun (_ : Option Addr) (_ : Nat) => ?_ | fail)
    conv => whnf
    refine ⟨_, rb, ?_⟩
    conv => whnf
    intro g2 hg
    refine congrArg Value.bool ?_
    show ((strB _).data.toList == (strB _).data.toList) = _
    rw [strB_data a la, strB_data b lb, Bool.eq_iff_iff, beq_iff_eq, eqB_iff]
    constructor
    · intro h
      apply List.ext_getElem?
      intro i
      have := congrArg (fun l => l[i]?) h
      simp only [List.getElem?_map] at this
      cases hx : a[i]? with
      | none =>
        cases hy : b[i]? with
        | none => rfl
        | some y => rw [hx, hy] at this; simp at this
      | some x =>
        rw [hx] at this
        cases hy : b[i]? with
        | none => rw [hy] at this; simp at this
        | some y =>
          rw [hy] at this
          simp only [Option.map_some, Option.some.injEq] at this
          have h1 := la x (List.mem_of_getElem? hx)
          have h2 := lb y (List.mem_of_getElem? hy)
          have := congrArg UInt8.toNat this
          simp at this
          rw [Nat.mod_eq_of_lt h1, Nat.mod_eq_of_lt h2] at this
          rw [this]
    · rintro rfl; rfl)
theorem ok_Same3 (g : GW) {v v' : Value} {l m : List BA} (hl : rSl 1 rStr g v l) (hm' : rSl 1 rStr g v' m) : OkV Try.prog n_hydrantref03_Same [v, v'] g (.bool (eqB l m)) := by
  obtain ⟨oa, ca, rfl, a1, a2, a0, hl1⟩ := id hl
  obtain ⟨ob, cb, rfl, b1, b2, b0, hr1⟩ := id hm'
  exact Ok.of_fn hm noT 0 t_hydrantref03_Same (args := [.v (.slice oa l.length ca), .v (.slice ob m.length cb)]) (by
    repeat ((conv => whnf); first | refine ⟨Eq.refl _, ?_⟩ | refine ⟨⟨Eq.refl _, Eq.refl _⟩, ?_⟩ | refine ⟨⟨Eq.refl _, Eq.refl _, Eq.refl _⟩, ?_⟩ | refine ⟨⟨Eq.refl _, Eq.refl _, Eq.refl _, Eq.refl _⟩, ?_⟩ | refine ⟨⟨Eq.refl _, Eq.refl _, Eq.refl _, Eq.refl _, Eq.refl _⟩, ?_⟩ | refine fun (_ : Nat) => ?_ | refine fun (_ : Option Addr) (_ : Nat) => ?_ | fail)
    conv => whnf
    refine ⟨fun k3 => ?_, fun k3 => ?_⟩
    · conv => whnf
      intro g2 hg
      rw [eqB_f (fun e => by rw [e] at k3; simp at k3)]
    have k3 : l.length = m.length := by simp at k3; omega
    repeat ((conv => whnf); first | refine ⟨Eq.refl _, ?_⟩ | refine ⟨⟨Eq.refl _, Eq.refl _⟩, ?_⟩ | refine ⟨⟨Eq.refl _, Eq.refl _, Eq.refl _⟩, ?_⟩ | refine ⟨⟨Eq.refl _, Eq.refl _, Eq.refl _, Eq.refl _⟩, ?_⟩ | refine ⟨⟨Eq.refl _, Eq.refl _, Eq.refl _, Eq.refl _, Eq.refl _⟩, ?_⟩ | refine fun (_ : Nat) => ?_ | refine fun (_ : Option Addr) (_ : Nat) => ?_ | fail)
    conv => whnf
    refine ⟨Nat, fun k => [.v (.int .i64 k)], fun _ => ⟨g, [], _, _⟩, fun k => k ≤ l.length ∧ l.take k = m.take k, fun k => l.length - k, loop_here 0 rfl ⟨Nat.zero_le _, rfl⟩ rfl, ?_⟩
    rintro k ⟨hkk, hp⟩
    repeat ((conv => whnf); first | refine ⟨Eq.refl _, ?_⟩ | refine ⟨⟨Eq.refl _, Eq.refl _⟩, ?_⟩ | refine ⟨⟨Eq.refl _, Eq.refl _, Eq.refl _⟩, ?_⟩ | refine ⟨⟨Eq.refl _, Eq.refl _, Eq.refl _, Eq.refl _⟩, ?_⟩ | refine ⟨⟨Eq.refl _, Eq.refl _, Eq.refl _, Eq.refl _, Eq.refl _⟩, ?_⟩ | refine fun (_ : Nat) => ?_ | refine fun (_ : Option Addr) (_ : Nat) => ?_ | fail)
    conv => whnf
    refine ⟨fun hlt => ?_, fun hlt => ?_⟩
    · have h' : k < l.length := by have := of_decide_eq_true hlt; omega
      obtain ⟨u, hu⟩ := getL_of h'
      obtain ⟨v, hv⟩ := getL_of (show k < m.length by omega)
      obtain ⟨a, rfl, ec, hec, rfl, hc⟩ := hl1 k u hu
      obtain ⟨a', rfl, ec', hec', rfl, hc'⟩ := hr1 k v hv
      repeat ((conv => whnf); first | refine ⟨Eq.refl _, ?_⟩ | refine ⟨⟨Eq.refl _, Eq.refl _⟩, ?_⟩ | refine ⟨⟨Eq.refl _, Eq.refl _, Eq.refl _⟩, ?_⟩ | refine ⟨⟨Eq.refl _, Eq.refl _, Eq.refl _, Eq.refl _⟩, ?_⟩ | refine ⟨⟨Eq.refl _, Eq.refl _, Eq.refl _, Eq.refl _, Eq.refl _⟩, ?_⟩ | refine fun (_ : Nat) => ?_ | refine fun (_ : Option Addr) (_ : Nat) => ?_ | fail)
      conv => whnf
      refine ⟨a, rfl, ⟨by omega, by omega⟩, ?_⟩
      conv => whnf
      refine ⟨_, hc 0 _ rfl, ?_⟩
      repeat ((conv => whnf); first | refine ⟨Eq.refl _, ?_⟩ | refine ⟨⟨Eq.refl _, Eq.refl _⟩, ?_⟩ | refine ⟨⟨Eq.refl _, Eq.refl _, Eq.refl _⟩, ?_⟩ | refine ⟨⟨Eq.refl _, Eq.refl _, Eq.refl _, Eq.refl _⟩, ?_⟩ | refine ⟨⟨Eq.refl _, Eq.refl _, Eq.refl _, Eq.refl _, Eq.refl _⟩, ?_⟩ | refine fun (_ : Nat) => ?_ | refine fun (_ : Option Addr) (_ : Nat) => ?_ | fail)
      conv => whnf
      refine ⟨a', rfl, ⟨by omega, by omega⟩, ?_⟩
      conv => whnf
      refine ⟨_, hc' 0 _ rfl, ?_⟩
      repeat ((conv => whnf); first | refine ⟨Eq.refl _, ?_⟩ | refine ⟨⟨Eq.refl _, Eq.refl _⟩, ?_⟩ | refine ⟨⟨Eq.refl _, Eq.refl _, Eq.refl _⟩, ?_⟩ | refine ⟨⟨Eq.refl _, Eq.refl _, Eq.refl _, Eq.refl _⟩, ?_⟩ | refine ⟨⟨Eq.refl _, Eq.refl _, Eq.refl _, Eq.refl _, Eq.refl _⟩, ?_⟩ | refine fun (_ : Nat) => ?_ | refine fun (_ : Option Addr) (_ : Nat) => ?_ | fail)
      conv => whnf
      refine ⟨fun he => ?_, fun he => ?_⟩
      · conv => whnf
        intro g2 hg
        rw [eqB_f (fun e => ?_)]
        rw [← e, hu] at hv
        cases hv
        simp at he
      · have huv : u = v := bs_ext (by simpa using he)
        conv => whnf
        refine fun fr w hw => ⟨k + 1, congrArg (fun z => [Value.int .i64 z]) (wr1 h' a1 a2).symm, ⟨h', take_eq hp hu hv huv⟩, dec h', hw⟩
    · conv => whnf
      intro g2 hg
      have := of_decide_eq_false hlt
      rw [List.take_of_length_le (by omega), List.take_of_length_le (by omega)] at hp
      rw [eqB_t hp])
theorem ok_Same2 (g : GW) {v v' : Value} {l m : List Int} (hl : rSl 1 rInt g v l) (hm' : rSl 1 rInt g v' m) : OkV Try.prog n_hydrantref02_Same [v, v'] g (.bool (eqB l m)) := by
  obtain ⟨oa, ca, rfl, a1, a2, a0, hl1⟩ := id hl
  obtain ⟨ob, cb, rfl, b1, b2, b0, hr1⟩ := id hm'
  exact Ok.of_fn hm noT 0 t_hydrantref02_Same (args := [.v (.slice oa l.length ca), .v (.slice ob m.length cb)]) (by
    repeat ((conv => whnf); first | refine ⟨Eq.refl _, ?_⟩ | refine ⟨⟨Eq.refl _, Eq.refl _⟩, ?_⟩ | refine ⟨⟨Eq.refl _, Eq.refl _, Eq.refl _⟩, ?_⟩ | refine ⟨⟨Eq.refl _, Eq.refl _, Eq.refl _, Eq.refl _⟩, ?_⟩ | refine ⟨⟨Eq.refl _, Eq.refl _, Eq.refl _, Eq.refl _, Eq.refl _⟩, ?_⟩ | refine fun (_ : Nat) => ?_ | refine fun (_ : Option Addr) (_ : Nat) => ?_ | fail)
    conv => whnf
    refine ⟨fun k3 => ?_, fun k3 => ?_⟩
    · conv => whnf
      intro g2 hg
      rw [eqB_f (fun e => by rw [e] at k3; simp at k3)]
    have k3 : l.length = m.length := by simp at k3; omega
    repeat ((conv => whnf); first | refine ⟨Eq.refl _, ?_⟩ | refine ⟨⟨Eq.refl _, Eq.refl _⟩, ?_⟩ | refine ⟨⟨Eq.refl _, Eq.refl _, Eq.refl _⟩, ?_⟩ | refine ⟨⟨Eq.refl _, Eq.refl _, Eq.refl _, Eq.refl _⟩, ?_⟩ | refine ⟨⟨Eq.refl _, Eq.refl _, Eq.refl _, Eq.refl _, Eq.refl _⟩, ?_⟩ | refine fun (_ : Nat) => ?_ | refine fun (_ : Option Addr) (_ : Nat) => ?_ | fail)
    conv => whnf
    refine ⟨Nat, fun k => [.v (.int .i64 k)], fun _ => ⟨g, [], _, _⟩, fun k => k ≤ l.length ∧ l.take k = m.take k, fun k => l.length - k, loop_here 0 rfl ⟨Nat.zero_le _, rfl⟩ rfl, ?_⟩
    rintro k ⟨hkk, hp⟩
    repeat ((conv => whnf); first | refine ⟨Eq.refl _, ?_⟩ | refine ⟨⟨Eq.refl _, Eq.refl _⟩, ?_⟩ | refine ⟨⟨Eq.refl _, Eq.refl _, Eq.refl _⟩, ?_⟩ | refine ⟨⟨Eq.refl _, Eq.refl _, Eq.refl _, Eq.refl _⟩, ?_⟩ | refine ⟨⟨Eq.refl _, Eq.refl _, Eq.refl _, Eq.refl _, Eq.refl _⟩, ?_⟩ | refine fun (_ : Nat) => ?_ | refine fun (_ : Option Addr) (_ : Nat) => ?_ | fail)
    conv => whnf
    refine ⟨fun hlt => ?_, fun hlt => ?_⟩
    · have h' : k < l.length := by have := of_decide_eq_true hlt; omega
      obtain ⟨u, hu⟩ := getL_of h'
      obtain ⟨v, hv⟩ := getL_of (show k < m.length by omega)
      obtain ⟨a, rfl, ec, hec, ⟨rfl, _⟩, hc⟩ := hl1 k u hu
      obtain ⟨a', rfl, ec', hec', ⟨rfl, _⟩, hc'⟩ := hr1 k v hv
      repeat ((conv => whnf); first | refine ⟨Eq.refl _, ?_⟩ | refine ⟨⟨Eq.refl _, Eq.refl _⟩, ?_⟩ | refine ⟨⟨Eq.refl _, Eq.refl _, Eq.refl _⟩, ?_⟩ | refine ⟨⟨Eq.refl _, Eq.refl _, Eq.refl _, Eq.refl _⟩, ?_⟩ | refine ⟨⟨Eq.refl _, Eq.refl _, Eq.refl _, Eq.refl _, Eq.refl _⟩, ?_⟩ | refine fun (_ : Nat) => ?_ | refine fun (_ : Option Addr) (_ : Nat) => ?_ | fail)
      conv => whnf
      refine ⟨a, rfl, ⟨by omega, by omega⟩, ?_⟩
      conv => whnf
      refine ⟨_, hc 0 _ rfl, ?_⟩
      repeat ((conv => whnf); first | refine ⟨Eq.refl _, ?_⟩ | refine ⟨⟨Eq.refl _, Eq.refl _⟩, ?_⟩ | refine ⟨⟨Eq.refl _, Eq.refl _, Eq.refl _⟩, ?_⟩ | refine ⟨⟨Eq.refl _, Eq.refl _, Eq.refl _, Eq.refl _⟩, ?_⟩ | refine ⟨⟨Eq.refl _, Eq.refl _, Eq.refl _, Eq.refl _, Eq.refl _⟩, ?_⟩ | refine fun (_ : Nat) => ?_ | refine fun (_ : Option Addr) (_ : Nat) => ?_ | fail)
      conv => whnf
      refine ⟨a', rfl, ⟨by omega, by omega⟩, ?_⟩
      conv => whnf
      refine ⟨_, hc' 0 _ rfl, ?_⟩
      repeat ((conv => whnf); first | refine ⟨Eq.refl _, ?_⟩ | refine ⟨⟨Eq.refl _, Eq.refl _⟩, ?_⟩ | refine ⟨⟨Eq.refl _, Eq.refl _, Eq.refl _⟩, ?_⟩ | refine ⟨⟨Eq.refl _, Eq.refl _, Eq.refl _, Eq.refl _⟩, ?_⟩ | refine ⟨⟨Eq.refl _, Eq.refl _, Eq.refl _, Eq.refl _, Eq.refl _⟩, ?_⟩ | refine fun (_ : Nat) => ?_ | refine fun (_ : Option Addr) (_ : Nat) => ?_ | fail)
      conv => whnf
      refine ⟨fun he => ?_, fun he => ?_⟩
      · conv => whnf
        intro g2 hg
        rw [eqB_f (fun e => ?_)]
        rw [← e, hu] at hv
        cases hv
        simp at he
      · have huv : u = v := by simpa using he
        conv => whnf
        refine fun fr w hw => ⟨k + 1, congrArg (fun z => [Value.int .i64 z]) (wr1 h' a1 a2).symm, ⟨h', take_eq hp hu hv huv⟩, dec h', hw⟩
    · conv => whnf
      intro g2 hg
      have := of_decide_eq_false hlt
      rw [List.take_of_length_le (by omega), List.take_of_length_le (by omega)] at hp
      rw [eqB_t hp])
end Go.Proofs.Ytedjbhpocedagaa

/- Scripts: whether one is right. -/
namespace Go.Proofs.Ytedjbhpocedagaa
open Go.Proofs.Ytedjbhpocedagaa.Sx Go.RowKit
theorem ok_right (g : GW) {cs : List Value} {c : Config} (hc : rConfig g cs c) : OkV Try.prog n_script_right [.agg ⟨cs⟩] g (.bool (eqB (checkE c) none)) := by
  have hc0 := hc
  obtain ⟨a, b, d, rfl, hl, hr, hk⟩ := hc
  obtain ⟨oa, ca, rfl, a1, a2, a0, hl1⟩ := id hl
  obtain ⟨ob, cb, rfl, b1, b2, b0, hr1⟩ := id hr
  obtain ⟨od, cd, rfl, d1, d2, d0, hk1⟩ := id hk
  exact Ok.of_fn hm noT 0 t_script_right (args := [.v (.agg ⟨[.slice oa c.listens.length ca, .slice ob c.routes.length cb, .slice od c.clusters.length cd]⟩)]) (by
    rcases ei_val (checkE c) with ⟨hz, hv⟩ | ⟨e, i, hz, hv⟩
    · repeat ((conv => whnf); first | refine ⟨Eq.refl _, ?_⟩ | refine ⟨⟨Eq.refl _, Eq.refl _⟩, ?_⟩ | refine ⟨⟨Eq.refl _, Eq.refl _, Eq.refl _⟩, ?_⟩ | refine ⟨⟨Eq.refl _, Eq.refl _, Eq.refl _, Eq.refl _⟩, ?_⟩ | refine ⟨⟨Eq.refl _, Eq.refl _, Eq.refl _, Eq.refl _, Eq.refl _⟩, ?_⟩ | refine fun (_ : Nat) => ?_ | refine fun (_ : Option Addr) (_ : Nat) => ?_ | fail)
      conv => whnf
      refine .inl ⟨_, (ok_Check _ hc0).to hv, ?_⟩
      conv => whnf
      intro g2 hg
      rw [eqB_t hz]; rfl
    · have hne := checkE_ne hz
      repeat ((conv => whnf); first | refine ⟨Eq.refl _, ?_⟩ | refine ⟨⟨Eq.refl _, Eq.refl _⟩, ?_⟩ | refine ⟨⟨Eq.refl _, Eq.refl _, Eq.refl _⟩, ?_⟩ | refine ⟨⟨Eq.refl _, Eq.refl _, Eq.refl _, Eq.refl _⟩, ?_⟩ | refine ⟨⟨Eq.refl _, Eq.refl _, Eq.refl _, Eq.refl _, Eq.refl _⟩, ?_⟩ | refine fun (_ : Nat) => ?_ | refine fun (_ : Option Addr) (_ : Nat) => ?_ | fail)
      conv => whnf
      refine .inl ⟨_, (ok_Check _ hc0).to hv, ?_⟩
      conv => whnf
      intro g2 hg
      rw [eqB_f (by rw [hz]; simp)]
      exact congrArg Value.bool (by simp; omega))
def kindOk (o : OpD) : Bool := decide (1 ≤ o.kind) && decide (o.kind ≤ 6)
noncomputable def isB (s : Script) : Bool := eqB (checkE s.first) none && decide (1 ≤ s.threads.length) && decide (s.threads.length ≤ 8) && decide (s.picks.length ≤ 4000) && (s.threads.all fun l => decide (l.length ≤ 16) && l.all kindOk) && s.picks.all fun n => decide (0 ≤ n)
end Go.Proofs.Ytedjbhpocedagaa

/- Scripts: whether one is right, the program's answer. -/
namespace Go.Proofs.Ytedjbhpocedagaa
open Go.Proofs.Ytedjbhpocedagaa.Sx Go.RowKit
def tI : List (Nat × FnI) := [(n_slices_ContainsFunc___api_Op_api_Op, f_slices_ContainsFunc___api_Op_api_Op), (n_slices_IndexFunc___api_Op_api_Op, f_slices_IndexFunc___api_Op_api_Op), (n_script_Is_1, f_script_Is_1), (n_slices_ContainsFunc___int_int, f_slices_ContainsFunc___int_int), (n_slices_IndexFunc___int_int, f_slices_IndexFunc___int_int), (n_script_Is_2, f_script_Is_2)]
theorem tI_ok : TblOk Try.prog tI := by
  intro x hx
  simp only [tI, List.mem_cons, List.not_mem_nil, or_false] at hx
  rcases hx with rfl | rfl | rfl | rfl | rfl | rfl
  · exact ⟨_, _, t_slices_ContainsFunc___api_Op_api_Op⟩
  · exact ⟨_, _, t_slices_IndexFunc___api_Op_api_Op⟩
  · exact ⟨_, _, t_script_Is_1⟩
  · exact ⟨_, _, t_slices_ContainsFunc___int_int⟩
  · exact ⟨_, _, t_slices_IndexFunc___int_int⟩
  · exact ⟨_, _, t_script_Is_2⟩
theorem ok_scIs (g : GW) {cs : List Value} {s : Script} (hs : rScript g cs s) : OkV Try.prog n_script_Is [.agg ⟨cs⟩] g (.bool (isB s)) := by
  obtain ⟨a, b, d, t, p, rfl, hc, ht, hp⟩ := hs
  have hc0 := hc
  obtain ⟨_, _, _, he, ⟨oa, ca, rfl, _⟩, ⟨ob, cb, rfl, _⟩, od, cd, rfl, _⟩ := hc
  cases he
  obtain ⟨ot, ct, rfl, t1, t2, t0, ht1⟩ := id ht
  obtain ⟨op, cp, rfl, p1, p2, p0, hp1⟩ := id hp
  exact Ok.of_fn hm tI_ok 3 t_script_Is (args := [.v (.agg ⟨[.slice oa s.first.listens.length ca, .slice ob s.first.routes.length cb, .slice od s.first.clusters.length cd, .slice ot s.threads.length ct, .slice op s.picks.length cp]⟩)]) (by
    repeat ((conv => whnf); first | refine ⟨Eq.refl _, ?_⟩ | refine ⟨⟨Eq.refl _, Eq.refl _⟩, ?_⟩ | refine ⟨⟨Eq.refl _, Eq.refl _, Eq.refl _⟩, ?_⟩ | refine ⟨⟨Eq.refl _, Eq.refl _, Eq.refl _, Eq.refl _⟩, ?_⟩ | refine ⟨⟨Eq.refl _, Eq.refl _, Eq.refl _, Eq.refl _, Eq.refl _⟩, ?_⟩ | refine fun (_ : Nat) => ?_ | refine fun (_ : Option Addr) (_ : Nat) => ?_ | fail)
    conv => whnf
    refine .inl ⟨_, ok_right _ hc0, ?_⟩
    conv => whnf
    refine ⟨fun z1 => ?_, fun z1 => ?_⟩
    · conv => whnf
      intro g2 hg
      rw [isB, nb1 z1]; rfl
    have z1 := nb0 z1
    repeat ((conv => whnf); first | refine ⟨Eq.refl _, ?_⟩ | refine ⟨⟨Eq.refl _, Eq.refl _⟩, ?_⟩ | refine ⟨⟨Eq.refl _, Eq.refl _, Eq.refl _⟩, ?_⟩ | refine ⟨⟨Eq.refl _, Eq.refl _, Eq.refl _, Eq.refl _⟩, ?_⟩ | refine ⟨⟨Eq.refl _, Eq.refl _, Eq.refl _, Eq.refl _, Eq.refl _⟩, ?_⟩ | refine fun (_ : Nat) => ?_ | refine fun (_ : Option Addr) (_ : Nat) => ?_ | fail)
    conv => whnf
    refine ⟨fun z2 => ?_, fun z2 => ?_⟩
    · conv => whnf
      intro g2 hg
      rw [isB, decide_eq_false (show ¬ 1 ≤ s.threads.length by have := of_decide_eq_true z2; omega)]; simp
    have z2 : 1 ≤ s.threads.length := by have := of_decide_eq_false z2; omega
    repeat ((conv => whnf); first | refine ⟨Eq.refl _, ?_⟩ | refine ⟨⟨Eq.refl _, Eq.refl _⟩, ?_⟩ | refine ⟨⟨Eq.refl _, Eq.refl _, Eq.refl _⟩, ?_⟩ | refine ⟨⟨Eq.refl _, Eq.refl _, Eq.refl _, Eq.refl _⟩, ?_⟩ | refine ⟨⟨Eq.refl _, Eq.refl _, Eq.refl _, Eq.refl _, Eq.refl _⟩, ?_⟩ | refine fun (_ : Nat) => ?_ | refine fun (_ : Option Addr) (_ : Nat) => ?_ | fail)
    conv => whnf
    refine ⟨fun z3 => ?_, fun z3 => ?_⟩
    · conv => whnf
      intro g2 hg
      rw [isB, decide_eq_false (show ¬ s.threads.length ≤ 8 by have := of_decide_eq_true z3; omega)]; simp
    have z3 : s.threads.length ≤ 8 := by have := of_decide_eq_false z3; omega
    repeat ((conv => whnf); first | refine ⟨Eq.refl _, ?_⟩ | refine ⟨⟨Eq.refl _, Eq.refl _⟩, ?_⟩ | refine ⟨⟨Eq.refl _, Eq.refl _, Eq.refl _⟩, ?_⟩ | refine ⟨⟨Eq.refl _, Eq.refl _, Eq.refl _, Eq.refl _⟩, ?_⟩ | refine ⟨⟨Eq.refl _, Eq.refl _, Eq.refl _, Eq.refl _, Eq.refl _⟩, ?_⟩ | refine fun (_ : Nat) => ?_ | refine fun (_ : Option Addr) (_ : Nat) => ?_ | fail)
    conv => whnf
    refine ⟨fun z4 => ?_, fun z4 => ?_⟩
    · conv => whnf
      intro g2 hg
      rw [isB, decide_eq_false (show ¬ s.picks.length ≤ 4000 by have := of_decide_eq_true z4; omega)]; simp
    have z4 : s.picks.length ≤ 4000 := by have := of_decide_eq_false z4; omega
    have hB : isB s = ((s.threads.all fun l => decide (l.length ≤ 16) && l.all kindOk) && s.picks.all fun n => decide (0 ≤ n)) := by
      rw [isB, z1, decide_eq_true z2, decide_eq_true z3, decide_eq_true z4]; simp
    repeat ((conv => whnf); first | refine ⟨Eq.refl _, ?_⟩ | refine ⟨⟨Eq.refl _, Eq.refl _⟩, ?_⟩ | refine ⟨⟨Eq.refl _, Eq.refl _, Eq.refl _⟩, ?_⟩ | refine ⟨⟨Eq.refl _, Eq.refl _, Eq.refl _, Eq.refl _⟩, ?_⟩ | refine ⟨⟨Eq.refl _, Eq.refl _, Eq.refl _, Eq.refl _, Eq.refl _⟩, ?_⟩ | refine fun (_ : Nat) => ?_ | refine fun (_ : Option Addr) (_ : Nat) => ?_ | fail)
    conv => whnf
    refine ⟨Nat, fun k => [.v (.int .i64 k)], fun _ => ⟨g, [.blk 0 _ _ [.v (.slice oa s.first.listens.length ca), .v (.slice ob s.first.routes.length cb), .v (.slice od s.first.clusters.length cd), .v (.slice ot s.threads.length ct), .v (.slice op s.picks.length cp)]], _, _⟩, fun k => k ≤ s.threads.length ∧ (s.threads.take k).all (fun l => decide (l.length ≤ 16) && l.all kindOk) = true, fun k => s.threads.length - k, loop_here 0 rfl ⟨Nat.zero_le _, rfl⟩ rfl, ?_⟩
    rintro k ⟨hk, hall⟩
    conv => whnf
    refine ⟨fun hlt => ?_, fun hlt => ?_⟩
    · have h' : k < s.threads.length := by have := of_decide_eq_true hlt; omega
      obtain ⟨l, hl⟩ := getL_of h'
      have hle := (List.getElem?_eq_some_iff.1 hl).2
      obtain ⟨aT, rfl, ec, hec, ⟨v, rfl, hv⟩, hc⟩ := ht1 k l hl
      obtain ⟨oo, co, rfl, o1, o2, o0, hv1⟩ := id hv
      have hbad : (decide (l.length ≤ 16) && l.all kindOk) = false → isB s = false := fun hb => by
        rw [hB, all_false h' (by rw [hle]; exact hb)]; rfl
      conv => whnf
      refine ⟨aT, rfl, ⟨by omega, by omega⟩, ?_⟩
      conv => whnf
      refine ⟨_, hc 0 _ rfl, ?_⟩
      repeat ((conv => whnf); first | refine ⟨Eq.refl _, ?_⟩ | refine ⟨⟨Eq.refl _, Eq.refl _⟩, ?_⟩ | refine ⟨⟨Eq.refl _, Eq.refl _, Eq.refl _⟩, ?_⟩ | refine ⟨⟨Eq.refl _, Eq.refl _, Eq.refl _, Eq.refl _⟩, ?_⟩ | refine ⟨⟨Eq.refl _, Eq.refl _, Eq.refl _, Eq.refl _, Eq.refl _⟩, ?_⟩ | refine fun (_ : Nat) => ?_ | refine fun (_ : Option Addr) (_ : Nat) => ?_ | fail)
      conv => whnf
      refine ⟨fun z5 => ?_, fun z5 => ?_⟩
      · conv => whnf
        intro g2 hg
        rw [hbad (by rw [decide_eq_false (show ¬ l.length ≤ 16 by have := of_decide_eq_true z5; omega)]; rfl)]
      have z5 : l.length ≤ 16 := by have := of_decide_eq_false z5; omega
      repeat ((conv => whnf); first | refine ⟨Eq.refl _, ?_⟩ | refine ⟨⟨Eq.refl _, Eq.refl _⟩, ?_⟩ | refine ⟨⟨Eq.refl _, Eq.refl _, Eq.refl _⟩, ?_⟩ | refine ⟨⟨Eq.refl _, Eq.refl _, Eq.refl _, Eq.refl _⟩, ?_⟩ | refine ⟨⟨Eq.refl _, Eq.refl _, Eq.refl _, Eq.refl _, Eq.refl _⟩, ?_⟩ | refine fun (_ : Nat) => ?_ | refine fun (_ : Option Addr) (_ : Nat) => ?_ | fail)
      conv => whnf
      refine ⟨Nat, fun n => [.v (.int .i64 n)], fun _ => ⟨g, [.blk 0 _ _ [.v (.slice oa s.first.listens.length ca), .v (.slice ob s.first.routes.length cb), .v (.slice od s.first.clusters.length cd), .v (.slice (some aT) s.threads.length ct), .v (.slice op s.picks.length cp)]], _, _⟩, fun n => n ≤ l.length ∧ (l.take n).all kindOk = true, fun n => l.length - n, loop_here 0 rfl ⟨Nat.zero_le _, rfl⟩ rfl, ?_⟩
      rintro n ⟨hn, hok⟩
      repeat ((conv => whnf); first | refine ⟨Eq.refl _, ?_⟩ | refine ⟨⟨Eq.refl _, Eq.refl _⟩, ?_⟩ | refine ⟨⟨Eq.refl _, Eq.refl _, Eq.refl _⟩, ?_⟩ | refine ⟨⟨Eq.refl _, Eq.refl _, Eq.refl _, Eq.refl _⟩, ?_⟩ | refine ⟨⟨Eq.refl _, Eq.refl _, Eq.refl _, Eq.refl _, Eq.refl _⟩, ?_⟩ | refine fun (_ : Nat) => ?_ | refine fun (_ : Option Addr) (_ : Nat) => ?_ | fail)
      conv => whnf
      refine ⟨fun hln => ?_, fun hln => ?_⟩
      · have hn' : n < l.length := by have := of_decide_eq_true hln; omega
        obtain ⟨o, ho⟩ := getL_of hn'
        have hoe := (List.getElem?_eq_some_iff.1 ho).2
        obtain ⟨aO, rfl, eo, heo, ⟨x1, x2, x3, rfl, _, hcf⟩, hco⟩ := hv1 n o ho
        obtain ⟨_, _, _, he, ⟨y1, y2, rfl, _⟩, ⟨y3, y4, rfl, _⟩, y5, y6, rfl, _⟩ := hcf
        cases he
        conv => whnf
        refine ⟨aO, rfl, ⟨by omega, by omega⟩, ?_⟩
        conv => whnf
        refine ⟨_, ⟨rfl, hco⟩, ?_⟩
        repeat ((conv => whnf); first | refine ⟨Eq.refl _, ?_⟩ | refine ⟨⟨Eq.refl _, Eq.refl _⟩, ?_⟩ | refine ⟨⟨Eq.refl _, Eq.refl _, Eq.refl _⟩, ?_⟩ | refine ⟨⟨Eq.refl _, Eq.refl _, Eq.refl _, Eq.refl _⟩, ?_⟩ | refine ⟨⟨Eq.refl _, Eq.refl _, Eq.refl _, Eq.refl _, Eq.refl _⟩, ?_⟩ | refine fun (_ : Nat) => ?_ | refine fun (_ : Option Addr) (_ : Nat) => ?_ | fail)
        conv => whnf
        refine ⟨k_script_Is_1, ?_⟩
        have hbo : kindOk o = false → isB s = false := fun hb => hbad (by rw [all_false hn' (by rw [hoe]; exact hb), Bool.and_false])
        repeat ((conv => whnf); first | refine ⟨Eq.refl _, ?_⟩ | refine ⟨⟨Eq.refl _, Eq.refl _⟩, ?_⟩ | refine ⟨⟨Eq.refl _, Eq.refl _, Eq.refl _⟩, ?_⟩ | refine ⟨⟨Eq.refl _, Eq.refl _, Eq.refl _, Eq.refl _⟩, ?_⟩ | refine ⟨⟨Eq.refl _, Eq.refl _, Eq.refl _, Eq.refl _, Eq.refl _⟩, ?_⟩ | refine fun (_ : Nat) => ?_ | refine fun (_ : Option Addr) (_ : Nat) => ?_ | fail)
        conv => whnf
        refine ⟨fun q1 => ?_, fun q1 => ?_⟩
        · repeat ((conv => whnf); first | refine ⟨Eq.refl _, ?_⟩ | refine ⟨⟨Eq.refl _, Eq.refl _⟩, ?_⟩ | refine ⟨⟨Eq.refl _, Eq.refl _, Eq.refl _⟩, ?_⟩ | refine ⟨⟨Eq.refl _, Eq.refl _, Eq.refl _, Eq.refl _⟩, ?_⟩ | refine ⟨⟨Eq.refl _, Eq.refl _, Eq.refl _, Eq.refl _, Eq.refl _⟩, ?_⟩ | refine fun (_ : Nat) => ?_ | refine fun (_ : Option Addr) (_ : Nat) => ?_ | fail)
          conv => whnf
          refine ⟨fun _ => ?_, fun hx => absurd (((decide_eq_true (by omega))).symm.trans hx) (by decide)⟩
          conv => whnf
          intro g2 hg
          rw [hbo (by rw [kindOk, decide_eq_false (show ¬ 1 ≤ o.kind by have := of_decide_eq_true q1; omega)]; rfl)]
        have q1 : 1 ≤ o.kind := by have := of_decide_eq_false q1; omega
        repeat ((conv => whnf); first | refine ⟨Eq.refl _, ?_⟩ | refine ⟨⟨Eq.refl _, Eq.refl _⟩, ?_⟩ | refine ⟨⟨Eq.refl _, Eq.refl _, Eq.refl _⟩, ?_⟩ | refine ⟨⟨Eq.refl _, Eq.refl _, Eq.refl _, Eq.refl _⟩, ?_⟩ | refine ⟨⟨Eq.refl _, Eq.refl _, Eq.refl _, Eq.refl _, Eq.refl _⟩, ?_⟩ | refine fun (_ : Nat) => ?_ | refine fun (_ : Option Addr) (_ : Nat) => ?_ | fail)
        conv => whnf
        refine ⟨fun q2 => ?_, fun q2 => ?_⟩
        · repeat ((conv => whnf); first | refine ⟨Eq.refl _, ?_⟩ | refine ⟨⟨Eq.refl _, Eq.refl _⟩, ?_⟩ | refine ⟨⟨Eq.refl _, Eq.refl _, Eq.refl _⟩, ?_⟩ | refine ⟨⟨Eq.refl _, Eq.refl _, Eq.refl _, Eq.refl _⟩, ?_⟩ | refine ⟨⟨Eq.refl _, Eq.refl _, Eq.refl _, Eq.refl _, Eq.refl _⟩, ?_⟩ | refine fun (_ : Nat) => ?_ | refine fun (_ : Option Addr) (_ : Nat) => ?_ | fail)
          conv => whnf
          refine ⟨fun _ => ?_, fun hx => absurd (((decide_eq_true (by omega))).symm.trans hx) (by decide)⟩
          conv => whnf
          intro g2 hg
          rw [hbo (by rw [kindOk, decide_eq_false (show ¬ o.kind ≤ 6 by have := of_decide_eq_true q2; omega), Bool.and_false])]
        have q2 : o.kind ≤ 6 := by have := of_decide_eq_false q2; omega
        conv => whnf
        refine fun fr w hw => ⟨n + 1, congrArg (fun z => [Value.int .i64 z]) (wr1 hn' o1 o2).symm, ⟨hn', by rw [all_take hn', hok, hoe, kindOk, decide_eq_true q1, decide_eq_true q2]; rfl⟩, dec hn', ?_⟩
        exact hw.fit (by simp [fitL, Res.eqv, concL, conc])
      have hokl : l.all kindOk = true := by
        have := of_decide_eq_false hln
        rwa [List.take_of_length_le (by omega)] at hok
      repeat ((conv => whnf); first | refine ⟨Eq.refl _, ?_⟩ | refine ⟨⟨Eq.refl _, Eq.refl _⟩, ?_⟩ | refine ⟨⟨Eq.refl _, Eq.refl _, Eq.refl _⟩, ?_⟩ | refine ⟨⟨Eq.refl _, Eq.refl _, Eq.refl _, Eq.refl _⟩, ?_⟩ | refine ⟨⟨Eq.refl _, Eq.refl _, Eq.refl _, Eq.refl _, Eq.refl _⟩, ?_⟩ | refine fun (_ : Nat) => ?_ | refine fun (_ : Option Addr) (_ : Nat) => ?_ | fail)
      conv => whnf
      refine ⟨fun h => (nomatch h), fun _ => ?_⟩
      conv => whnf
      refine fun fr w hw => ⟨k + 1, congrArg (fun z => [Value.int .i64 z]) (wr1 h' t1 t2).symm, ⟨h', by rw [all_take h', hall, hle, decide_eq_true z5, hokl]; rfl⟩, dec h', ?_⟩
      exact hw.fit (by simp [fitL, Res.eqv, concL, conc])
    have hallT : (s.threads.all fun l => decide (l.length ≤ 16) && l.all kindOk) = true := by
      have := of_decide_eq_false hlt
      rwa [List.take_of_length_le (by omega)] at hall
    rw [hallT, Bool.true_and] at hB
    repeat ((conv => whnf); first | refine ⟨Eq.refl _, ?_⟩ | refine ⟨⟨Eq.refl _, Eq.refl _⟩, ?_⟩ | refine ⟨⟨Eq.refl _, Eq.refl _, Eq.refl _⟩, ?_⟩ | refine ⟨⟨Eq.refl _, Eq.refl _, Eq.refl _, Eq.refl _⟩, ?_⟩ | refine ⟨⟨Eq.refl _, Eq.refl _, Eq.refl _, Eq.refl _, Eq.refl _⟩, ?_⟩ | refine fun (_ : Nat) => ?_ | refine fun (_ : Option Addr) (_ : Nat) => ?_ | fail)
    conv => whnf
    refine ⟨Nat, fun n => [.v (.int .i64 n)], fun _ => ⟨g, [.blk 0 _ _ [.v (.slice oa s.first.listens.length ca), .v (.slice ob s.first.routes.length cb), .v (.slice od s.first.clusters.length cd), .v (.slice ot s.threads.length ct), .v (.slice op s.picks.length cp)]], _, _⟩, fun n => n ≤ s.picks.length ∧ (s.picks.take n).all (fun n => decide (0 ≤ n)) = true, fun n => s.picks.length - n, loop_here 0 rfl ⟨Nat.zero_le _, rfl⟩ rfl, ?_⟩
    rintro n ⟨hn, hok⟩
    repeat ((conv => whnf); first | refine ⟨Eq.refl _, ?_⟩ | refine ⟨⟨Eq.refl _, Eq.refl _⟩, ?_⟩ | refine ⟨⟨Eq.refl _, Eq.refl _, Eq.refl _⟩, ?_⟩ | refine ⟨⟨Eq.refl _, Eq.refl _, Eq.refl _, Eq.refl _⟩, ?_⟩ | refine ⟨⟨Eq.refl _, Eq.refl _, Eq.refl _, Eq.refl _, Eq.refl _⟩, ?_⟩ | refine fun (_ : Nat) => ?_ | refine fun (_ : Option Addr) (_ : Nat) => ?_ | fail)
    conv => whnf
    refine ⟨fun hln => ?_, fun hln => ?_⟩
    · have hn' : n < s.picks.length := by have := of_decide_eq_true hln; omega
      obtain ⟨o, ho⟩ := getL_of hn'
      have hoe := (List.getElem?_eq_some_iff.1 ho).2
      obtain ⟨aO, rfl, eo, heo, ⟨rfl, _⟩, hco⟩ := hp1 n o ho
      conv => whnf
      refine ⟨aO, rfl, ⟨by omega, by omega⟩, ?_⟩
      conv => whnf
      refine ⟨_, hco 0 _ rfl, ?_⟩
      repeat ((conv => whnf); first | refine ⟨Eq.refl _, ?_⟩ | refine ⟨⟨Eq.refl _, Eq.refl _⟩, ?_⟩ | refine ⟨⟨Eq.refl _, Eq.refl _, Eq.refl _⟩, ?_⟩ | refine ⟨⟨Eq.refl _, Eq.refl _, Eq.refl _, Eq.refl _⟩, ?_⟩ | refine ⟨⟨Eq.refl _, Eq.refl _, Eq.refl _, Eq.refl _, Eq.refl _⟩, ?_⟩ | refine fun (_ : Nat) => ?_ | refine fun (_ : Option Addr) (_ : Nat) => ?_ | fail)
      conv => whnf
      refine ⟨k_script_Is_2, ?_⟩
      repeat ((conv => whnf); first | refine ⟨Eq.refl _, ?_⟩ | refine ⟨⟨Eq.refl _, Eq.refl _⟩, ?_⟩ | refine ⟨⟨Eq.refl _, Eq.refl _, Eq.refl _⟩, ?_⟩ | refine ⟨⟨Eq.refl _, Eq.refl _, Eq.refl _, Eq.refl _⟩, ?_⟩ | refine ⟨⟨Eq.refl _, Eq.refl _, Eq.refl _, Eq.refl _, Eq.refl _⟩, ?_⟩ | refine fun (_ : Nat) => ?_ | refine fun (_ : Option Addr) (_ : Nat) => ?_ | fail)
      conv => whnf
      refine ⟨fun q1 => ?_, fun q1 => ?_⟩
      · repeat ((conv => whnf); first | refine ⟨Eq.refl _, ?_⟩ | refine ⟨⟨Eq.refl _, Eq.refl _⟩, ?_⟩ | refine ⟨⟨Eq.refl _, Eq.refl _, Eq.refl _⟩, ?_⟩ | refine ⟨⟨Eq.refl _, Eq.refl _, Eq.refl _, Eq.refl _⟩, ?_⟩ | refine ⟨⟨Eq.refl _, Eq.refl _, Eq.refl _, Eq.refl _, Eq.refl _⟩, ?_⟩ | refine fun (_ : Nat) => ?_ | refine fun (_ : Option Addr) (_ : Nat) => ?_ | fail)
        conv => whnf
        intro g2 hg
        rw [hB, all_false hn' (by rw [hoe]; exact decide_eq_false (by have := of_decide_eq_true q1; omega))]
        exact congrArg Value.bool (by simp)
      have q1 : 0 ≤ o := by have := of_decide_eq_false q1; omega
      conv => whnf
      refine fun fr w hw => ⟨n + 1, congrArg (fun z => [Value.int .i64 z]) (wr1 hn' p1 p2).symm, ⟨hn', by rw [all_take hn', hok, hoe, decide_eq_true q1]; rfl⟩, dec hn', ?_⟩
      exact hw.fit (by simp [fitL, Res.eqv, concL, conc])
    conv => whnf
    intro g2 hg
    have := of_decide_eq_false hln
    rw [List.take_of_length_le (by omega)] at hok
    rw [hB, hok]; rfl)
end Go.Proofs.Ytedjbhpocedagaa

/- Scripts: whether one is right, the document's answer. -/
namespace Go.Proofs.Ytedjbhpocedagaa
open Go.Proofs.Ytedjbhpocedagaa.Sx Go.RowKit
theorem ok_rscIs (g : GW) {cs : List Value} {s : Script} (hs : rScript g cs s) (hsm : SmC s.first) : OkV Try.prog n_hydrantref08_Is [.agg ⟨cs⟩] g (.bool (isB s)) := by
  obtain ⟨a, b, d, t, p, rfl, hc, ht, hp⟩ := hs
  have hc0 := hc
  obtain ⟨_, _, _, he, ⟨oa, ca, rfl, _⟩, ⟨ob, cb, rfl, _⟩, od, cd, rfl, _⟩ := hc
  cases he
  obtain ⟨ot, ct, rfl, t1, t2, t0, ht1⟩ := id ht
  obtain ⟨op, cp, rfl, p1, p2, p0, hp1⟩ := id hp
  exact Ok.of_fn hm noT 0 t_hydrantref08_Is (args := [.v (.agg ⟨[.slice oa s.first.listens.length ca, .slice ob s.first.routes.length cb, .slice od s.first.clusters.length cd, .slice ot s.threads.length ct, .slice op s.picks.length cp]⟩)]) (by
    rcases ei_val (checkE s.first) with ⟨hz, hv⟩ | ⟨e, i, hz, hv⟩
    rotate_left
    · have hne := checkE_ne hz
      repeat ((conv => whnf); first | refine ⟨Eq.refl _, ?_⟩ | refine ⟨⟨Eq.refl _, Eq.refl _⟩, ?_⟩ | refine ⟨⟨Eq.refl _, Eq.refl _, Eq.refl _⟩, ?_⟩ | refine ⟨⟨Eq.refl _, Eq.refl _, Eq.refl _, Eq.refl _⟩, ?_⟩ | refine ⟨⟨Eq.refl _, Eq.refl _, Eq.refl _, Eq.refl _, Eq.refl _⟩, ?_⟩ | refine fun (_ : Nat) => ?_ | refine fun (_ : Option Addr) (_ : Nat) => ?_ | fail)
      conv => whnf
      refine .inl ⟨_, (ok_rCheck _ hc0 hsm).to hv, ?_⟩
      repeat ((conv => whnf); first | refine ⟨Eq.refl _, ?_⟩ | refine ⟨⟨Eq.refl _, Eq.refl _⟩, ?_⟩ | refine ⟨⟨Eq.refl _, Eq.refl _, Eq.refl _⟩, ?_⟩ | refine ⟨⟨Eq.refl _, Eq.refl _, Eq.refl _, Eq.refl _⟩, ?_⟩ | refine ⟨⟨Eq.refl _, Eq.refl _, Eq.refl _, Eq.refl _, Eq.refl _⟩, ?_⟩ | refine fun (_ : Nat) => ?_ | refine fun (_ : Option Addr) (_ : Nat) => ?_ | fail)
      conv => whnf
      refine ⟨fun _ => ?_, fun hx => absurd (((show (e != 0) = true by simp; omega)).symm.trans hx) (by decide)⟩
      conv => whnf
      intro g2 hg
      rw [isB, eqB_f (by rw [hz]; simp)]; rfl
    have z1 := eqB_t hz
    repeat ((conv => whnf); first | refine ⟨Eq.refl _, ?_⟩ | refine ⟨⟨Eq.refl _, Eq.refl _⟩, ?_⟩ | refine ⟨⟨Eq.refl _, Eq.refl _, Eq.refl _⟩, ?_⟩ | refine ⟨⟨Eq.refl _, Eq.refl _, Eq.refl _, Eq.refl _⟩, ?_⟩ | refine ⟨⟨Eq.refl _, Eq.refl _, Eq.refl _, Eq.refl _, Eq.refl _⟩, ?_⟩ | refine fun (_ : Nat) => ?_ | refine fun (_ : Option Addr) (_ : Nat) => ?_ | fail)
    conv => whnf
    refine .inl ⟨_, (ok_rCheck _ hc0 hsm).to hv, ?_⟩
    repeat ((conv => whnf); first | refine ⟨Eq.refl _, ?_⟩ | refine ⟨⟨Eq.refl _, Eq.refl _⟩, ?_⟩ | refine ⟨⟨Eq.refl _, Eq.refl _, Eq.refl _⟩, ?_⟩ | refine ⟨⟨Eq.refl _, Eq.refl _, Eq.refl _, Eq.refl _⟩, ?_⟩ | refine ⟨⟨Eq.refl _, Eq.refl _, Eq.refl _, Eq.refl _, Eq.refl _⟩, ?_⟩ | refine fun (_ : Nat) => ?_ | refine fun (_ : Option Addr) (_ : Nat) => ?_ | fail)
    conv => whnf
    refine ⟨fun h => (nomatch h), fun _ => ?_⟩
    repeat ((conv => whnf); first | refine ⟨Eq.refl _, ?_⟩ | refine ⟨⟨Eq.refl _, Eq.refl _⟩, ?_⟩ | refine ⟨⟨Eq.refl _, Eq.refl _, Eq.refl _⟩, ?_⟩ | refine ⟨⟨Eq.refl _, Eq.refl _, Eq.refl _, Eq.refl _⟩, ?_⟩ | refine ⟨⟨Eq.refl _, Eq.refl _, Eq.refl _, Eq.refl _, Eq.refl _⟩, ?_⟩ | refine fun (_ : Nat) => ?_ | refine fun (_ : Option Addr) (_ : Nat) => ?_ | fail)
    conv => whnf
    refine ⟨fun z2 => ?_, fun z2 => ?_⟩
    · conv => whnf
      intro g2 hg
      rw [isB, decide_eq_false (show ¬ 1 ≤ s.threads.length by have := of_decide_eq_true z2; omega)]; simp
    have z2 : 1 ≤ s.threads.length := by have := of_decide_eq_false z2; omega
    repeat ((conv => whnf); first | refine ⟨Eq.refl _, ?_⟩ | refine ⟨⟨Eq.refl _, Eq.refl _⟩, ?_⟩ | refine ⟨⟨Eq.refl _, Eq.refl _, Eq.refl _⟩, ?_⟩ | refine ⟨⟨Eq.refl _, Eq.refl _, Eq.refl _, Eq.refl _⟩, ?_⟩ | refine ⟨⟨Eq.refl _, Eq.refl _, Eq.refl _, Eq.refl _, Eq.refl _⟩, ?_⟩ | refine fun (_ : Nat) => ?_ | refine fun (_ : Option Addr) (_ : Nat) => ?_ | fail)
    conv => whnf
    refine ⟨fun z3 => ?_, fun z3 => ?_⟩
    · conv => whnf
      intro g2 hg
      rw [isB, decide_eq_false (show ¬ s.threads.length ≤ 8 by have := of_decide_eq_true z3; omega)]; simp
    have z3 : s.threads.length ≤ 8 := by have := of_decide_eq_false z3; omega
    repeat ((conv => whnf); first | refine ⟨Eq.refl _, ?_⟩ | refine ⟨⟨Eq.refl _, Eq.refl _⟩, ?_⟩ | refine ⟨⟨Eq.refl _, Eq.refl _, Eq.refl _⟩, ?_⟩ | refine ⟨⟨Eq.refl _, Eq.refl _, Eq.refl _, Eq.refl _⟩, ?_⟩ | refine ⟨⟨Eq.refl _, Eq.refl _, Eq.refl _, Eq.refl _, Eq.refl _⟩, ?_⟩ | refine fun (_ : Nat) => ?_ | refine fun (_ : Option Addr) (_ : Nat) => ?_ | fail)
    conv => whnf
    refine ⟨fun z4 => ?_, fun z4 => ?_⟩
    · conv => whnf
      intro g2 hg
      rw [isB, decide_eq_false (show ¬ s.picks.length ≤ 4000 by have := of_decide_eq_true z4; omega)]; simp
    have z4 : s.picks.length ≤ 4000 := by have := of_decide_eq_false z4; omega
    have hB : isB s = ((s.threads.all fun l => decide (l.length ≤ 16) && l.all kindOk) && s.picks.all fun n => decide (0 ≤ n)) := by
      rw [isB, z1, decide_eq_true z2, decide_eq_true z3, decide_eq_true z4]; simp
    repeat ((conv => whnf); first | refine ⟨Eq.refl _, ?_⟩ | refine ⟨⟨Eq.refl _, Eq.refl _⟩, ?_⟩ | refine ⟨⟨Eq.refl _, Eq.refl _, Eq.refl _⟩, ?_⟩ | refine ⟨⟨Eq.refl _, Eq.refl _, Eq.refl _, Eq.refl _⟩, ?_⟩ | refine ⟨⟨Eq.refl _, Eq.refl _, Eq.refl _, Eq.refl _, Eq.refl _⟩, ?_⟩ | refine fun (_ : Nat) => ?_ | refine fun (_ : Option Addr) (_ : Nat) => ?_ | fail)
    conv => whnf
    refine ⟨Nat, fun k => [.v (.int .i64 k)], fun _ => ⟨g, [.blk 0 _ _ [.v (.slice oa s.first.listens.length ca), .v (.slice ob s.first.routes.length cb), .v (.slice od s.first.clusters.length cd), .v (.slice ot s.threads.length ct), .v (.slice op s.picks.length cp)]], _, _⟩, fun k => k ≤ s.threads.length ∧ (s.threads.take k).all (fun l => decide (l.length ≤ 16) && l.all kindOk) = true, fun k => s.threads.length - k, loop_here 0 rfl ⟨Nat.zero_le _, rfl⟩ rfl, ?_⟩
    rintro k ⟨hk, hall⟩
    repeat ((conv => whnf); first | refine ⟨Eq.refl _, ?_⟩ | refine ⟨⟨Eq.refl _, Eq.refl _⟩, ?_⟩ | refine ⟨⟨Eq.refl _, Eq.refl _, Eq.refl _⟩, ?_⟩ | refine ⟨⟨Eq.refl _, Eq.refl _, Eq.refl _, Eq.refl _⟩, ?_⟩ | refine ⟨⟨Eq.refl _, Eq.refl _, Eq.refl _, Eq.refl _, Eq.refl _⟩, ?_⟩ | refine fun (_ : Nat) => ?_ | refine fun (_ : Option Addr) (_ : Nat) => ?_ | fail)
    conv => whnf
    refine ⟨fun hlt => ?_, fun hlt => ?_⟩
    · have h' : k < s.threads.length := by have := of_decide_eq_true hlt; omega
      obtain ⟨l, hl⟩ := getL_of h'
      have hle := (List.getElem?_eq_some_iff.1 hl).2
      obtain ⟨aT, rfl, ec, hec, ⟨v, rfl, hv'⟩, hc⟩ := ht1 k l hl
      obtain ⟨oo, co, rfl, o1, o2, o0, hv1⟩ := id hv'
      have hbad : (decide (l.length ≤ 16) && l.all kindOk) = false → isB s = false := fun hb => by
        rw [hB, all_false h' (by rw [hle]; exact hb)]; rfl
      repeat ((conv => whnf); first | refine ⟨Eq.refl _, ?_⟩ | refine ⟨⟨Eq.refl _, Eq.refl _⟩, ?_⟩ | refine ⟨⟨Eq.refl _, Eq.refl _, Eq.refl _⟩, ?_⟩ | refine ⟨⟨Eq.refl _, Eq.refl _, Eq.refl _, Eq.refl _⟩, ?_⟩ | refine ⟨⟨Eq.refl _, Eq.refl _, Eq.refl _, Eq.refl _, Eq.refl _⟩, ?_⟩ | refine fun (_ : Nat) => ?_ | refine fun (_ : Option Addr) (_ : Nat) => ?_ | fail)
      conv => whnf
      refine ⟨aT, rfl, ⟨by omega, by omega⟩, ?_⟩
      conv => whnf
      refine ⟨_, hc 0 _ rfl, ?_⟩
      repeat ((conv => whnf); first | refine ⟨Eq.refl _, ?_⟩ | refine ⟨⟨Eq.refl _, Eq.refl _⟩, ?_⟩ | refine ⟨⟨Eq.refl _, Eq.refl _, Eq.refl _⟩, ?_⟩ | refine ⟨⟨Eq.refl _, Eq.refl _, Eq.refl _, Eq.refl _⟩, ?_⟩ | refine ⟨⟨Eq.refl _, Eq.refl _, Eq.refl _, Eq.refl _, Eq.refl _⟩, ?_⟩ | refine fun (_ : Nat) => ?_ | refine fun (_ : Option Addr) (_ : Nat) => ?_ | fail)
      conv => whnf
      refine ⟨fun z5 => ?_, fun z5 => ?_⟩
      · conv => whnf
        intro g2 hg
        rw [hbad (by rw [decide_eq_false (show ¬ l.length ≤ 16 by have := of_decide_eq_true z5; omega)]; rfl)]
      have z5 : l.length ≤ 16 := by have := of_decide_eq_false z5; omega
      repeat ((conv => whnf); first | refine ⟨Eq.refl _, ?_⟩ | refine ⟨⟨Eq.refl _, Eq.refl _⟩, ?_⟩ | refine ⟨⟨Eq.refl _, Eq.refl _, Eq.refl _⟩, ?_⟩ | refine ⟨⟨Eq.refl _, Eq.refl _, Eq.refl _, Eq.refl _⟩, ?_⟩ | refine ⟨⟨Eq.refl _, Eq.refl _, Eq.refl _, Eq.refl _, Eq.refl _⟩, ?_⟩ | refine fun (_ : Nat) => ?_ | refine fun (_ : Option Addr) (_ : Nat) => ?_ | fail)
      conv => whnf
      refine ⟨Nat, fun n => [.v (.int .i64 n)], fun _ => ⟨g, [.blk 0 _ _ [.v (.slice oa s.first.listens.length ca), .v (.slice ob s.first.routes.length cb), .v (.slice od s.first.clusters.length cd), .v (.slice (some aT) s.threads.length ct), .v (.slice op s.picks.length cp)]], _, _⟩, fun n => n ≤ l.length ∧ (l.take n).all kindOk = true, fun n => l.length - n, loop_here 0 rfl ⟨Nat.zero_le _, rfl⟩ rfl, ?_⟩
      rintro n ⟨hn, hok⟩
      repeat ((conv => whnf); first | refine ⟨Eq.refl _, ?_⟩ | refine ⟨⟨Eq.refl _, Eq.refl _⟩, ?_⟩ | refine ⟨⟨Eq.refl _, Eq.refl _, Eq.refl _⟩, ?_⟩ | refine ⟨⟨Eq.refl _, Eq.refl _, Eq.refl _, Eq.refl _⟩, ?_⟩ | refine ⟨⟨Eq.refl _, Eq.refl _, Eq.refl _, Eq.refl _, Eq.refl _⟩, ?_⟩ | refine fun (_ : Nat) => ?_ | refine fun (_ : Option Addr) (_ : Nat) => ?_ | fail)
      conv => whnf
      refine ⟨aT, rfl, ⟨by omega, by omega⟩, ?_⟩
      conv => whnf
      refine ⟨_, hc 0 _ rfl, ?_⟩
      repeat ((conv => whnf); first | refine ⟨Eq.refl _, ?_⟩ | refine ⟨⟨Eq.refl _, Eq.refl _⟩, ?_⟩ | refine ⟨⟨Eq.refl _, Eq.refl _, Eq.refl _⟩, ?_⟩ | refine ⟨⟨Eq.refl _, Eq.refl _, Eq.refl _, Eq.refl _⟩, ?_⟩ | refine ⟨⟨Eq.refl _, Eq.refl _, Eq.refl _, Eq.refl _, Eq.refl _⟩, ?_⟩ | refine fun (_ : Nat) => ?_ | refine fun (_ : Option Addr) (_ : Nat) => ?_ | fail)
      conv => whnf
      refine ⟨fun hln => ?_, fun hln => ?_⟩
      · have hn' : n < l.length := by have := of_decide_eq_true hln; omega
        obtain ⟨o, ho⟩ := getL_of hn'
        have hoe := (List.getElem?_eq_some_iff.1 ho).2
        obtain ⟨aO, rfl, eo, heo, ⟨x1, x2, x3, rfl, _, hcf⟩, hco⟩ := hv1 n o ho
        have hbo : kindOk o = false → isB s = false := fun hb => hbad (by rw [all_false hn' (by rw [hoe]; exact hb), Bool.and_false])
        repeat ((conv => whnf); first | refine ⟨Eq.refl _, ?_⟩ | refine ⟨⟨Eq.refl _, Eq.refl _⟩, ?_⟩ | refine ⟨⟨Eq.refl _, Eq.refl _, Eq.refl _⟩, ?_⟩ | refine ⟨⟨Eq.refl _, Eq.refl _, Eq.refl _, Eq.refl _⟩, ?_⟩ | refine ⟨⟨Eq.refl _, Eq.refl _, Eq.refl _, Eq.refl _, Eq.refl _⟩, ?_⟩ | refine fun (_ : Nat) => ?_ | refine fun (_ : Option Addr) (_ : Nat) => ?_ | fail)
        conv => whnf
        refine ⟨aT, rfl, ⟨by omega, by omega⟩, ?_⟩
        conv => whnf
        refine ⟨_, hc 0 _ rfl, ?_⟩
        repeat ((conv => whnf); first | refine ⟨Eq.refl _, ?_⟩ | refine ⟨⟨Eq.refl _, Eq.refl _⟩, ?_⟩ | refine ⟨⟨Eq.refl _, Eq.refl _, Eq.refl _⟩, ?_⟩ | refine ⟨⟨Eq.refl _, Eq.refl _, Eq.refl _, Eq.refl _⟩, ?_⟩ | refine ⟨⟨Eq.refl _, Eq.refl _, Eq.refl _, Eq.refl _, Eq.refl _⟩, ?_⟩ | refine fun (_ : Nat) => ?_ | refine fun (_ : Option Addr) (_ : Nat) => ?_ | fail)
        conv => whnf
        refine ⟨aO, rfl, ⟨by omega, by omega⟩, ?_⟩
        conv => whnf
        refine ⟨_, hco 0 _ rfl, ?_⟩
        repeat ((conv => whnf); first | refine ⟨Eq.refl _, ?_⟩ | refine ⟨⟨Eq.refl _, Eq.refl _⟩, ?_⟩ | refine ⟨⟨Eq.refl _, Eq.refl _, Eq.refl _⟩, ?_⟩ | refine ⟨⟨Eq.refl _, Eq.refl _, Eq.refl _, Eq.refl _⟩, ?_⟩ | refine ⟨⟨Eq.refl _, Eq.refl _, Eq.refl _, Eq.refl _, Eq.refl _⟩, ?_⟩ | refine fun (_ : Nat) => ?_ | refine fun (_ : Option Addr) (_ : Nat) => ?_ | fail)
        conv => whnf
        refine ⟨fun q1 => ?_, fun q1 => ?_⟩
        · conv => whnf
          intro g2 hg
          rw [hbo (by rw [kindOk, decide_eq_false (show ¬ 1 ≤ o.kind by have := of_decide_eq_true q1; omega)]; rfl)]
        have q1 : 1 ≤ o.kind := by have := of_decide_eq_false q1; omega
        repeat ((conv => whnf); first | refine ⟨Eq.refl _, ?_⟩ | refine ⟨⟨Eq.refl _, Eq.refl _⟩, ?_⟩ | refine ⟨⟨Eq.refl _, Eq.refl _, Eq.refl _⟩, ?_⟩ | refine ⟨⟨Eq.refl _, Eq.refl _, Eq.refl _, Eq.refl _⟩, ?_⟩ | refine ⟨⟨Eq.refl _, Eq.refl _, Eq.refl _, Eq.refl _, Eq.refl _⟩, ?_⟩ | refine fun (_ : Nat) => ?_ | refine fun (_ : Option Addr) (_ : Nat) => ?_ | fail)
        conv => whnf
        refine ⟨aT, rfl, ⟨by omega, by omega⟩, ?_⟩
        conv => whnf
        refine ⟨_, hc 0 _ rfl, ?_⟩
        repeat ((conv => whnf); first | refine ⟨Eq.refl _, ?_⟩ | refine ⟨⟨Eq.refl _, Eq.refl _⟩, ?_⟩ | refine ⟨⟨Eq.refl _, Eq.refl _, Eq.refl _⟩, ?_⟩ | refine ⟨⟨Eq.refl _, Eq.refl _, Eq.refl _, Eq.refl _⟩, ?_⟩ | refine ⟨⟨Eq.refl _, Eq.refl _, Eq.refl _, Eq.refl _, Eq.refl _⟩, ?_⟩ | refine fun (_ : Nat) => ?_ | refine fun (_ : Option Addr) (_ : Nat) => ?_ | fail)
        conv => whnf
        refine ⟨aO, rfl, ⟨by omega, by omega⟩, ?_⟩
        conv => whnf
        refine ⟨_, hco 0 _ rfl, ?_⟩
        repeat ((conv => whnf); first | refine ⟨Eq.refl _, ?_⟩ | refine ⟨⟨Eq.refl _, Eq.refl _⟩, ?_⟩ | refine ⟨⟨Eq.refl _, Eq.refl _, Eq.refl _⟩, ?_⟩ | refine ⟨⟨Eq.refl _, Eq.refl _, Eq.refl _, Eq.refl _⟩, ?_⟩ | refine ⟨⟨Eq.refl _, Eq.refl _, Eq.refl _, Eq.refl _, Eq.refl _⟩, ?_⟩ | refine fun (_ : Nat) => ?_ | refine fun (_ : Option Addr) (_ : Nat) => ?_ | fail)
        conv => whnf
        refine ⟨fun q2 => ?_, fun q2 => ?_⟩
        · conv => whnf
          intro g2 hg
          rw [hbo (by rw [kindOk, decide_eq_false (show ¬ o.kind ≤ 6 by have := of_decide_eq_true q2; omega), Bool.and_false])]
        have q2 : o.kind ≤ 6 := by have := of_decide_eq_false q2; omega
        conv => whnf
        refine fun fr w hw => ⟨n + 1, congrArg (fun z => [Value.int .i64 z]) (wr1 hn' o1 o2).symm, ⟨hn', by rw [all_take hn', hok, hoe, kindOk, decide_eq_true q1, decide_eq_true q2]; rfl⟩, dec hn', ?_⟩
        exact hw.fit (by simp [fitL, Res.eqv, concL, conc])
      have hokl : l.all kindOk = true := by
        have := of_decide_eq_false hln
        rwa [List.take_of_length_le (by omega)] at hok
      conv => whnf
      refine fun fr w hw => ⟨k + 1, congrArg (fun z => [Value.int .i64 z]) (wr1 h' t1 t2).symm, ⟨h', by rw [all_take h', hall, hle, decide_eq_true z5, hokl]; rfl⟩, dec h', ?_⟩
      exact hw.fit (by simp [fitL, Res.eqv, concL, conc])
    have hallT : (s.threads.all fun l => decide (l.length ≤ 16) && l.all kindOk) = true := by
      have := of_decide_eq_false hlt
      rwa [List.take_of_length_le (by omega)] at hall
    rw [hallT, Bool.true_and] at hB
    repeat ((conv => whnf); first | refine ⟨Eq.refl _, ?_⟩ | refine ⟨⟨Eq.refl _, Eq.refl _⟩, ?_⟩ | refine ⟨⟨Eq.refl _, Eq.refl _, Eq.refl _⟩, ?_⟩ | refine ⟨⟨Eq.refl _, Eq.refl _, Eq.refl _, Eq.refl _⟩, ?_⟩ | refine ⟨⟨Eq.refl _, Eq.refl _, Eq.refl _, Eq.refl _, Eq.refl _⟩, ?_⟩ | refine fun (_ : Nat) => ?_ | refine fun (_ : Option Addr) (_ : Nat) => ?_ | fail)
    conv => whnf
    refine ⟨Nat, fun n => [.v (.int .i64 n)], fun _ => ⟨g, [.blk 0 _ _ [.v (.slice oa s.first.listens.length ca), .v (.slice ob s.first.routes.length cb), .v (.slice od s.first.clusters.length cd), .v (.slice ot s.threads.length ct), .v (.slice op s.picks.length cp)]], _, _⟩, fun n => n ≤ s.picks.length ∧ (s.picks.take n).all (fun n => decide (0 ≤ n)) = true, fun n => s.picks.length - n, loop_here 0 rfl ⟨Nat.zero_le _, rfl⟩ rfl, ?_⟩
    rintro n ⟨hn, hok⟩
    repeat ((conv => whnf); first | refine ⟨Eq.refl _, ?_⟩ | refine ⟨⟨Eq.refl _, Eq.refl _⟩, ?_⟩ | refine ⟨⟨Eq.refl _, Eq.refl _, Eq.refl _⟩, ?_⟩ | refine ⟨⟨Eq.refl _, Eq.refl _, Eq.refl _, Eq.refl _⟩, ?_⟩ | refine ⟨⟨Eq.refl _, Eq.refl _, Eq.refl _, Eq.refl _, Eq.refl _⟩, ?_⟩ | refine fun (_ : Nat) => ?_ | refine fun (_ : Option Addr) (_ : Nat) => ?_ | fail)
    conv => whnf
    refine ⟨fun hln => ?_, fun hln => ?_⟩
    · have hn' : n < s.picks.length := by have := of_decide_eq_true hln; omega
      obtain ⟨o, ho⟩ := getL_of hn'
      have hoe := (List.getElem?_eq_some_iff.1 ho).2
      obtain ⟨aO, rfl, eo, heo, ⟨rfl, _⟩, hco⟩ := hp1 n o ho
      repeat ((conv => whnf); first | refine ⟨Eq.refl _, ?_⟩ | refine ⟨⟨Eq.refl _, Eq.refl _⟩, ?_⟩ | refine ⟨⟨Eq.refl _, Eq.refl _, Eq.refl _⟩, ?_⟩ | refine ⟨⟨Eq.refl _, Eq.refl _, Eq.refl _, Eq.refl _⟩, ?_⟩ | refine ⟨⟨Eq.refl _, Eq.refl _, Eq.refl _, Eq.refl _, Eq.refl _⟩, ?_⟩ | refine fun (_ : Nat) => ?_ | refine fun (_ : Option Addr) (_ : Nat) => ?_ | fail)
      conv => whnf
      refine ⟨aO, rfl, ⟨by omega, by omega⟩, ?_⟩
      conv => whnf
      refine ⟨_, hco 0 _ rfl, ?_⟩
      repeat ((conv => whnf); first | refine ⟨Eq.refl _, ?_⟩ | refine ⟨⟨Eq.refl _, Eq.refl _⟩, ?_⟩ | refine ⟨⟨Eq.refl _, Eq.refl _, Eq.refl _⟩, ?_⟩ | refine ⟨⟨Eq.refl _, Eq.refl _, Eq.refl _, Eq.refl _⟩, ?_⟩ | refine ⟨⟨Eq.refl _, Eq.refl _, Eq.refl _, Eq.refl _, Eq.refl _⟩, ?_⟩ | refine fun (_ : Nat) => ?_ | refine fun (_ : Option Addr) (_ : Nat) => ?_ | fail)
      conv => whnf
      refine ⟨fun q1 => ?_, fun q1 => ?_⟩
      · conv => whnf
        intro g2 hg
        rw [hB, all_false hn' (by rw [hoe]; exact decide_eq_false (by have := of_decide_eq_true q1; omega))]
      have q1 : 0 ≤ o := by have := of_decide_eq_false q1; omega
      conv => whnf
      refine fun fr w hw => ⟨n + 1, congrArg (fun z => [Value.int .i64 z]) (wr1 hn' p1 p2).symm, ⟨hn', by rw [all_take hn', hok, hoe, decide_eq_true q1]; rfl⟩, dec hn', ?_⟩
      exact hw.fit (by simp [fitL, Res.eqv, concL, conc])
    conv => whnf
    intro g2 hg
    have := of_decide_eq_false hln
    rw [List.take_of_length_le (by omega)] at hok
    rw [hB, hok])
end Go.Proofs.Ytedjbhpocedagaa
