/- Whether a configuration may be: what the laws ask first. -/
import Derived.Test.YtedjbhpocedagaaK5d
import Derived.Test.YtedjbhpocedagaaD3
namespace Go.Proofs.Ytedjbhpocedagaa
open Go.Proofs.Ytedjbhpocedagaa.Sx Go.RowKit
theorem cfg_of {g : GW} {lo e1 e2 e3 e4 : Nat} (l : List BA) (r : List Route) (k1 k2 : Cluster) {h1 h2 vL vR vC : Value} (hL : PbSl g lo e1 1 vL l.length (l.map .string)) (hR : PbSl g lo e2 4 vR r.length (r.map cRoute).flatten)
    (hC : PbSl g lo e3 4 vC 2 (cClus k1 h1 ++ cClus k2 h2)) (hH1 : PbSl g lo e4 1 h1 k1.health.length (k1.health.map .bool)) (hH2 : PbSl g lo e4 1 h2 k2.health.length (k2.health.map .bool))
    (hI : (InR k1.policy ∧ InR k1.slots) ∧ InR k2.policy ∧ InR k2.slots) : rConfig g [vL, vR, vC] ⟨l, r, [k1, k2]⟩ := by
  refine ⟨_, _, _, rfl, rSl_of1 hL.rd l .string rfl fun _ _ => rfl, rSl_ofE hR.rd r cRoute rfl rfl (fun _ _ => rfl) fun _ _ => rfl, rSl_of hC.rd [k1, k2] [cClus k1 h1, cClus k2 h2] (by simp) (by simp) rfl rfl fun i x ec hx hec => ?_⟩
  have b1 := rSl_of1 (R := rBool) hH1.rd k1.health .bool rfl fun _ _ => rfl
  have b2 := rSl_of1 (R := rBool) hH2.rd k2.health .bool rfl fun _ _ => rfl
  match i, hx, hec with
  | 0, hx, hec => cases hx; cases hec; exact ⟨_, rfl, hI.1.1, hI.1.2, b1⟩
  | 1, hx, hec => cases hx; cases hec; exact ⟨_, rfl, hI.2.1, hI.2.2, b2⟩
  | i + 2, hx, hec => simp at hx
abbrev sIn : BA := ⟨#[105, 110]⟩
abbrev sA : BA := ⟨#[97]⟩
abbrev sB : BA := ⟨#[98]⟩
abbrev pR1 : Route := ⟨sIn, ⟨#[42]⟩, ⟨#[47]⟩, sA⟩
abbrev pR2 : Route := ⟨sIn, ⟨#[120]⟩, ⟨#[47]⟩, sB⟩
abbrev pC1 : Cluster := ⟨sA, 1, 1, [true]⟩
abbrev pC2 : Cluster := ⟨sB, 2, 4, [false, true]⟩
end Go.Proofs.Ytedjbhpocedagaa
