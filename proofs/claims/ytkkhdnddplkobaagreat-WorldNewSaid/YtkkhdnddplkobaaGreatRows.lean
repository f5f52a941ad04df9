/-
  No cell of these rows narrows 'for every input' (looked for: loops, veiled, ifaces, maps, wideKeys, modest, calm, conditions, laid).
  DERIVED. THE GIVEN ROWS OF THIS SEAT. 4 by the template 'for every input the law returns true; each argument reads behind the call as it read before'; 0 by the template 'total and deterministic' (their statements: YtkkhdnddplkobaaGreatTotals.lean).
  GIVEN WITH THE SEED: the statements are not yours to turn. If you find one false, say at which input.
  Laid BY PROGRAM, IN A SANDBOX (cutbox-rows.mjs): the forced cells as the released guide's own fill.sh prints them over the translation 7f4e9545f6919080… (all of the seat's roots in one cut). By AI agents, Wed Nov 11 2026. No macro, syntax, notation, axiom, sorry.
-/
import Derived.Test.YtkkhdnddplkobaaGreatChecked
import GoSem.Claim
import GoSem.ClaimJoined
import GoSem.ClaimMapViews
import Derived.JoinedTies
import Derived.KernelRfl
namespace Go.Proofs.YtkkhdnddplkobaaGreat
/- THE CELL 'sum', in the pinned program and in every row, IS THE sha256 OF THE DUMP (.gsa) THAT YtkkhdnddplkobaaGreatProg.lean LOADS. Nothing in Lean hashes anything: it is a label: what it is worth is what the hold of that sum in a sandbox is worth. -/
noncomputable def Tryz.pinned : Pinned := { name := "ytkkhdnddplkobaagreat", sum := "7f4e9545f691908078e5e45663983c065524d6250996fd181ad6e7f85bdbf075", checked := Tryz.checked }
namespace Rows
def none {H : Type} : Left H := { results := [], args := [] }

/-- 'hydrantlaw18.WorldNew': WHATEVER THE INPUT: true; the input reads as it did. -/
def worldNewSpec : ChangeSpec := { name := "worldNew", fn := fun _ => fun
  | [d1, d2, d3] => { results := [.lit (.bool true)], args := [d1, d2, d3] }
  | _ => none }
def worldNewRow : OpenClaim := { program := "ytkkhdnddplkobaagreat", sum := "7f4e9545f691908078e5e45663983c065524d6250996fd181ad6e7f85bdbf075", func := "hydrant/hydrantlaw18.WorldNew", spec := "worldNew", inPlace := ["internal/bytealg.IndexByteString"], unfollowed := true, recurses := true, apart := false }
def WorldNewSaid : Prop := worldNewRow.holds Tryz.pinned (OpenSpec.ofChange worldNewSpec)

/-- ITS FALSE NEIGHBOUR: 'it returns false'. Refute it at one input. -/
def worldNewWrong : ChangeSpec := { name := "worldNew", fn := fun _ => fun
  | [d1, d2, d3] => { results := [.lit (.bool false)], args := [d1, d2, d3] }
  | _ => none }
def WorldNewWrongFalsely : Prop := worldNewRow.holds Tryz.pinned (OpenSpec.ofChange worldNewWrong)

/-- 'hydrantlaw25.StatsSteps': WHATEVER THE INPUT: true; the input reads as it did. -/
def statsStepsSpec : ChangeSpec := { name := "statsSteps", fn := fun _ => fun
  | [d1, d2] => { results := [.lit (.bool true)], args := [d1, d2] }
  | _ => none }
def statsStepsRow : OpenClaim := { program := "ytkkhdnddplkobaagreat", sum := "7f4e9545f691908078e5e45663983c065524d6250996fd181ad6e7f85bdbf075", func := "hydrant/hydrantlaw25.StatsSteps", spec := "statsSteps", inPlace := ["internal/bytealg.IndexByteString"], unfollowed := true, recurses := true, apart := false }
def StatsStepsSaid : Prop := statsStepsRow.holds Tryz.pinned (OpenSpec.ofChange statsStepsSpec)

/-- ITS FALSE NEIGHBOUR: 'it returns false'. Refute it at one input. -/
def statsStepsWrong : ChangeSpec := { name := "statsSteps", fn := fun _ => fun
  | [d1, d2] => { results := [.lit (.bool false)], args := [d1, d2] }
  | _ => none }
def StatsStepsWrongFalsely : Prop := statsStepsRow.holds Tryz.pinned (OpenSpec.ofChange statsStepsWrong)

/-- 'hydrantlaw19.PinSteps': WHATEVER THE INPUT: true; the input reads as it did. -/
def pinStepsSpec : ChangeSpec := { name := "pinSteps", fn := fun _ => fun
  | [d1, d2] => { results := [.lit (.bool true)], args := [d1, d2] }
  | _ => none }
def pinStepsRow : OpenClaim := { program := "ytkkhdnddplkobaagreat", sum := "7f4e9545f691908078e5e45663983c065524d6250996fd181ad6e7f85bdbf075", func := "hydrant/hydrantlaw19.PinSteps", spec := "pinSteps", inPlace := ["internal/bytealg.IndexByteString"], unfollowed := true, recurses := true, apart := false }
def PinStepsSaid : Prop := pinStepsRow.holds Tryz.pinned (OpenSpec.ofChange pinStepsSpec)

/-- ITS FALSE NEIGHBOUR: 'it returns false'. Refute it at one input. -/
def pinStepsWrong : ChangeSpec := { name := "pinSteps", fn := fun _ => fun
  | [d1, d2] => { results := [.lit (.bool false)], args := [d1, d2] }
  | _ => none }
def PinStepsWrongFalsely : Prop := pinStepsRow.holds Tryz.pinned (OpenSpec.ofChange pinStepsWrong)

/-- 'hydrantlaw19.PinOff': WHATEVER THE INPUT: true; the input reads as it did. -/
def pinOffSpec : ChangeSpec := { name := "pinOff", fn := fun _ => fun
  | [d1, d2] => { results := [.lit (.bool true)], args := [d1, d2] }
  | _ => none }
def pinOffRow : OpenClaim := { program := "ytkkhdnddplkobaagreat", sum := "7f4e9545f691908078e5e45663983c065524d6250996fd181ad6e7f85bdbf075", func := "hydrant/hydrantlaw19.PinOff", spec := "pinOff", inPlace := ["internal/bytealg.IndexByteString"], unfollowed := true, recurses := true, apart := false }
def PinOffSaid : Prop := pinOffRow.holds Tryz.pinned (OpenSpec.ofChange pinOffSpec)

/-- ITS FALSE NEIGHBOUR: 'it returns false'. Refute it at one input. -/
def pinOffWrong : ChangeSpec := { name := "pinOff", fn := fun _ => fun
  | [d1, d2] => { results := [.lit (.bool false)], args := [d1, d2] }
  | _ => none }
def PinOffWrongFalsely : Prop := pinOffRow.holds Tryz.pinned (OpenSpec.ofChange pinOffWrong)

/- THE SECOND FORM. 'bulk': how many values and letters a reading holds, each counted each time it is reached (what is shared counts as often as it is met; a slice's spare places count too). A statement '..UptoSaid' is the law's where the arguments, and the package variables that the reading takes, are together of bulk at most 1048576: NARROWER than '..Said'. Prove '..Said' where nothing that the law and all that it calls make is longer than what came in: it says more and counts as full. Else prove '..UptoSaid'. A law counts once. -/
mutual
def uptoBulk {H : Type} : DataW H → Nat
  | .lit (.string bytes) => bytes.length + 1
  | .lit _ => 1
  | .nil => 1
  | .ptr d => uptoBulk d + 1
  | .slice elems spare => uptoBulkAll elems + uptoBulkAll spare + 1
  | .agg parts => uptoBulkAll parts + 1
  | .iface _ d => uptoBulk d + 1
  | .map entries => uptoBulkEntries entries + 1
  | .held _ => 1
def uptoBulkAll {H : Type} : List (DataW H) → Nat
  | [] => 0
  | d :: r => uptoBulk d + uptoBulkAll r
def uptoBulkEntries {H : Type} : List (Lit × DataW H) → Nat
  | [] => 0
  | x :: r => uptoBulkEntry x + uptoBulkEntries r
def uptoBulkEntry {H : Type} : Lit × DataW H → Nat
  | (.string bytes, d) => bytes.length + uptoBulk d + 1
  | (_, d) => uptoBulk d + 1
 end
def uptoSmall : (H : Type) → List (DataW H) → Bool := fun _ ds => decide (uptoBulkAll ds ≤ 1048576)
def OpenSpec.upto (s : _root_.Go.ChangeSpec) : _root_.Go.OpenSpec := { _root_.Go.OpenSpec.ofChange s with cond := some uptoSmall }

/-- 'hydrantlaw18.WorldNew', WHERE WHAT IT READS IS OF BULK AT MOST 1048576: true; the input reads as it did. -/
def worldNewUptoRow : OpenClaim := { program := "ytkkhdnddplkobaagreat", sum := "7f4e9545f691908078e5e45663983c065524d6250996fd181ad6e7f85bdbf075", func := "hydrant/hydrantlaw18.WorldNew", spec := "worldNew", inPlace := ["internal/bytealg.IndexByteString"], unfollowed := true, recurses := true, apart := false, narrowed := true }
def WorldNewUptoSaid : Prop := worldNewUptoRow.holds Tryz.pinned (OpenSpec.upto worldNewSpec)

/-- 'hydrantlaw25.StatsSteps', WHERE WHAT IT READS IS OF BULK AT MOST 1048576: true; the input reads as it did. -/
def statsStepsUptoRow : OpenClaim := { program := "ytkkhdnddplkobaagreat", sum := "7f4e9545f691908078e5e45663983c065524d6250996fd181ad6e7f85bdbf075", func := "hydrant/hydrantlaw25.StatsSteps", spec := "statsSteps", inPlace := ["internal/bytealg.IndexByteString"], unfollowed := true, recurses := true, apart := false, narrowed := true }
def StatsStepsUptoSaid : Prop := statsStepsUptoRow.holds Tryz.pinned (OpenSpec.upto statsStepsSpec)

/-- 'hydrantlaw19.PinSteps', WHERE WHAT IT READS IS OF BULK AT MOST 1048576: true; the input reads as it did. -/
def pinStepsUptoRow : OpenClaim := { program := "ytkkhdnddplkobaagreat", sum := "7f4e9545f691908078e5e45663983c065524d6250996fd181ad6e7f85bdbf075", func := "hydrant/hydrantlaw19.PinSteps", spec := "pinSteps", inPlace := ["internal/bytealg.IndexByteString"], unfollowed := true, recurses := true, apart := false, narrowed := true }
def PinStepsUptoSaid : Prop := pinStepsUptoRow.holds Tryz.pinned (OpenSpec.upto pinStepsSpec)

/-- 'hydrantlaw19.PinOff', WHERE WHAT IT READS IS OF BULK AT MOST 1048576: true; the input reads as it did. -/
def pinOffUptoRow : OpenClaim := { program := "ytkkhdnddplkobaagreat", sum := "7f4e9545f691908078e5e45663983c065524d6250996fd181ad6e7f85bdbf075", func := "hydrant/hydrantlaw19.PinOff", spec := "pinOff", inPlace := ["internal/bytealg.IndexByteString"], unfollowed := true, recurses := true, apart := false, narrowed := true }
def PinOffUptoSaid : Prop := pinOffUptoRow.holds Tryz.pinned (OpenSpec.upto pinOffSpec)

end Rows
end Go.Proofs.YtkkhdnddplkobaaGreat
