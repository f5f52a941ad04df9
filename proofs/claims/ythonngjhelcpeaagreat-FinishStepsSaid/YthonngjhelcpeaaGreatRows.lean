/-
  No cell of these rows narrows 'for every input' (looked for: loops, veiled, ifaces, maps, wideKeys, modest, calm, conditions, laid).
  DERIVED. THE GIVEN ROWS OF THIS SEAT. 11 by the template 'for every input the law returns true; each argument reads behind the call as it read before'; 0 by the template 'total and deterministic' (their statements: YthonngjhelcpeaaGreatTotals.lean).
  GIVEN WITH THE SEED: the statements are not yours to turn. If you find one false, say at which input.
  Laid BY PROGRAM, IN A SANDBOX (cutbox-rows.mjs): the forced cells as the released guide's own fill.sh prints them over the translation 45b300ff97a9da1f… (all of the seat's roots in one cut). By AI agents, Wed Nov 11 2026. No macro, syntax, notation, axiom, sorry.
-/
import Derived.Test.YthonngjhelcpeaaGreatChecked
import GoSem.Claim
import GoSem.ClaimJoined
import GoSem.ClaimMapViews
import Derived.JoinedTies
import Derived.KernelRfl
namespace Go.Proofs.YthonngjhelcpeaaGreat
/- THE CELL 'sum', in the pinned program and in every row, IS THE sha256 OF THE DUMP (.gsa) THAT YthonngjhelcpeaaGreatProg.lean LOADS. Nothing in Lean hashes anything: it is a label: what it is worth is what the hold of that sum in a sandbox is worth. -/
noncomputable def Tryz.pinned : Pinned := { name := "ythonngjhelcpeaagreat", sum := "45b300ff97a9da1fd3a6d210861b6311590a5e576294e0a849c3dd4eed1bd2d3", checked := Tryz.checked }
namespace Rows
def none {H : Type} : Left H := { results := [], args := [] }

/-- 'hydrantlaw20.HandleSteps': WHATEVER THE INPUT: true; the input reads as it did. -/
def handleStepsSpec : ChangeSpec := { name := "handleSteps", fn := fun _ => fun
  | [d1, d2] => { results := [.lit (.bool true)], args := [d1, d2] }
  | _ => none }
def handleStepsRow : OpenClaim := { program := "ythonngjhelcpeaagreat", sum := "45b300ff97a9da1fd3a6d210861b6311590a5e576294e0a849c3dd4eed1bd2d3", func := "hydrant/hydrantlaw20.HandleSteps", spec := "handleSteps", inPlace := ["internal/bytealg.IndexByteString"], unfollowed := true, recurses := true, apart := false }
def HandleStepsSaid : Prop := handleStepsRow.holds Tryz.pinned (OpenSpec.ofChange handleStepsSpec)

/-- ITS FALSE NEIGHBOUR: 'it returns false'. Refute it at one input. -/
def handleStepsWrong : ChangeSpec := { name := "handleSteps", fn := fun _ => fun
  | [d1, d2] => { results := [.lit (.bool false)], args := [d1, d2] }
  | _ => none }
def HandleStepsWrongFalsely : Prop := handleStepsRow.holds Tryz.pinned (OpenSpec.ofChange handleStepsWrong)

/-- 'hydrantlaw20.HandleAlone': WHATEVER THE INPUT: true; the input reads as it did. -/
def handleAloneSpec : ChangeSpec := { name := "handleAlone", fn := fun _ => fun
  | [d1, d2, d3] => { results := [.lit (.bool true)], args := [d1, d2, d3] }
  | _ => none }
def handleAloneRow : OpenClaim := { program := "ythonngjhelcpeaagreat", sum := "45b300ff97a9da1fd3a6d210861b6311590a5e576294e0a849c3dd4eed1bd2d3", func := "hydrant/hydrantlaw20.HandleAlone", spec := "handleAlone", inPlace := ["internal/bytealg.IndexByteString"], unfollowed := true, recurses := true, apart := false }
def HandleAloneSaid : Prop := handleAloneRow.holds Tryz.pinned (OpenSpec.ofChange handleAloneSpec)

/-- ITS FALSE NEIGHBOUR: 'it returns false'. Refute it at one input. -/
def handleAloneWrong : ChangeSpec := { name := "handleAlone", fn := fun _ => fun
  | [d1, d2, d3] => { results := [.lit (.bool false)], args := [d1, d2, d3] }
  | _ => none }
def HandleAloneWrongFalsely : Prop := handleAloneRow.holds Tryz.pinned (OpenSpec.ofChange handleAloneWrong)

/-- 'hydrantlaw20.HandleRight': WHATEVER THE INPUT: true; the input reads as it did. -/
def handleRightSpec : ChangeSpec := { name := "handleRight", fn := fun _ => fun
  | [d1, d2, d3, d4] => { results := [.lit (.bool true)], args := [d1, d2, d3, d4] }
  | _ => none }
def handleRightRow : OpenClaim := { program := "ythonngjhelcpeaagreat", sum := "45b300ff97a9da1fd3a6d210861b6311590a5e576294e0a849c3dd4eed1bd2d3", func := "hydrant/hydrantlaw20.HandleRight", spec := "handleRight", inPlace := ["internal/bytealg.IndexByteString"], unfollowed := true, recurses := true, apart := false }
def HandleRightSaid : Prop := handleRightRow.holds Tryz.pinned (OpenSpec.ofChange handleRightSpec)

/-- ITS FALSE NEIGHBOUR: 'it returns false'. Refute it at one input. -/
def handleRightWrong : ChangeSpec := { name := "handleRight", fn := fun _ => fun
  | [d1, d2, d3, d4] => { results := [.lit (.bool false)], args := [d1, d2, d3, d4] }
  | _ => none }
def HandleRightWrongFalsely : Prop := handleRightRow.holds Tryz.pinned (OpenSpec.ofChange handleRightWrong)

/-- 'hydrantlaw20.HandleTurn': WHATEVER THE INPUT: true; the input reads as it did. -/
def handleTurnSpec : ChangeSpec := { name := "handleTurn", fn := fun _ => fun
  | [d1, d2, d3] => { results := [.lit (.bool true)], args := [d1, d2, d3] }
  | _ => none }
def handleTurnRow : OpenClaim := { program := "ythonngjhelcpeaagreat", sum := "45b300ff97a9da1fd3a6d210861b6311590a5e576294e0a849c3dd4eed1bd2d3", func := "hydrant/hydrantlaw20.HandleTurn", spec := "handleTurn", inPlace := ["internal/bytealg.IndexByteString"], unfollowed := true, recurses := true, apart := false }
def HandleTurnSaid : Prop := handleTurnRow.holds Tryz.pinned (OpenSpec.ofChange handleTurnSpec)

/-- ITS FALSE NEIGHBOUR: 'it returns false'. Refute it at one input. -/
def handleTurnWrong : ChangeSpec := { name := "handleTurn", fn := fun _ => fun
  | [d1, d2, d3] => { results := [.lit (.bool false)], args := [d1, d2, d3] }
  | _ => none }
def HandleTurnWrongFalsely : Prop := handleTurnRow.holds Tryz.pinned (OpenSpec.ofChange handleTurnWrong)

/-- 'hydrantlaw20.HandleFull': WHATEVER THE INPUT: true; the input reads as it did. -/
def handleFullSpec : ChangeSpec := { name := "handleFull", fn := fun _ => fun
  | [d1, d2, d3] => { results := [.lit (.bool true)], args := [d1, d2, d3] }
  | _ => none }
def handleFullRow : OpenClaim := { program := "ythonngjhelcpeaagreat", sum := "45b300ff97a9da1fd3a6d210861b6311590a5e576294e0a849c3dd4eed1bd2d3", func := "hydrant/hydrantlaw20.HandleFull", spec := "handleFull", inPlace := ["internal/bytealg.IndexByteString"], unfollowed := true, recurses := true, apart := false }
def HandleFullSaid : Prop := handleFullRow.holds Tryz.pinned (OpenSpec.ofChange handleFullSpec)

/-- ITS FALSE NEIGHBOUR: 'it returns false'. Refute it at one input. -/
def handleFullWrong : ChangeSpec := { name := "handleFull", fn := fun _ => fun
  | [d1, d2, d3] => { results := [.lit (.bool false)], args := [d1, d2, d3] }
  | _ => none }
def HandleFullWrongFalsely : Prop := handleFullRow.holds Tryz.pinned (OpenSpec.ofChange handleFullWrong)

/-- 'hydrantlaw20.HandleLeast': WHATEVER THE INPUT: true; the input reads as it did. -/
def handleLeastSpec : ChangeSpec := { name := "handleLeast", fn := fun _ => fun
  | [d1, d2, d3] => { results := [.lit (.bool true)], args := [d1, d2, d3] }
  | _ => none }
def handleLeastRow : OpenClaim := { program := "ythonngjhelcpeaagreat", sum := "45b300ff97a9da1fd3a6d210861b6311590a5e576294e0a849c3dd4eed1bd2d3", func := "hydrant/hydrantlaw20.HandleLeast", spec := "handleLeast", inPlace := ["internal/bytealg.IndexByteString"], unfollowed := true, recurses := true, apart := false }
def HandleLeastSaid : Prop := handleLeastRow.holds Tryz.pinned (OpenSpec.ofChange handleLeastSpec)

/-- ITS FALSE NEIGHBOUR: 'it returns false'. Refute it at one input. -/
def handleLeastWrong : ChangeSpec := { name := "handleLeast", fn := fun _ => fun
  | [d1, d2, d3] => { results := [.lit (.bool false)], args := [d1, d2, d3] }
  | _ => none }
def HandleLeastWrongFalsely : Prop := handleLeastRow.holds Tryz.pinned (OpenSpec.ofChange handleLeastWrong)

/-- 'hydrantlaw21.FinishSteps': WHATEVER THE INPUT: true; the input reads as it did. -/
def finishStepsSpec : ChangeSpec := { name := "finishSteps", fn := fun _ => fun
  | [d1, d2] => { results := [.lit (.bool true)], args := [d1, d2] }
  | _ => none }
def finishStepsRow : OpenClaim := { program := "ythonngjhelcpeaagreat", sum := "45b300ff97a9da1fd3a6d210861b6311590a5e576294e0a849c3dd4eed1bd2d3", func := "hydrant/hydrantlaw21.FinishSteps", spec := "finishSteps", inPlace := ["internal/bytealg.IndexByteString"], unfollowed := true, recurses := true, apart := false }
def FinishStepsSaid : Prop := finishStepsRow.holds Tryz.pinned (OpenSpec.ofChange finishStepsSpec)

/-- ITS FALSE NEIGHBOUR: 'it returns false'. Refute it at one input. -/
def finishStepsWrong : ChangeSpec := { name := "finishSteps", fn := fun _ => fun
  | [d1, d2] => { results := [.lit (.bool false)], args := [d1, d2] }
  | _ => none }
def FinishStepsWrongFalsely : Prop := finishStepsRow.holds Tryz.pinned (OpenSpec.ofChange finishStepsWrong)

/-- 'hydrantlaw21.FinishBegins': WHATEVER THE INPUT: true; the input reads as it did. -/
def finishBeginsSpec : ChangeSpec := { name := "finishBegins", fn := fun _ => fun
  | [d1, d2] => { results := [.lit (.bool true)], args := [d1, d2] }
  | _ => none }
def finishBeginsRow : OpenClaim := { program := "ythonngjhelcpeaagreat", sum := "45b300ff97a9da1fd3a6d210861b6311590a5e576294e0a849c3dd4eed1bd2d3", func := "hydrant/hydrantlaw21.FinishBegins", spec := "finishBegins", inPlace := ["internal/bytealg.IndexByteString"], unfollowed := true, recurses := true, apart := false }
def FinishBeginsSaid : Prop := finishBeginsRow.holds Tryz.pinned (OpenSpec.ofChange finishBeginsSpec)

/-- ITS FALSE NEIGHBOUR: 'it returns false'. Refute it at one input. -/
def finishBeginsWrong : ChangeSpec := { name := "finishBegins", fn := fun _ => fun
  | [d1, d2] => { results := [.lit (.bool false)], args := [d1, d2] }
  | _ => none }
def FinishBeginsWrongFalsely : Prop := finishBeginsRow.holds Tryz.pinned (OpenSpec.ofChange finishBeginsWrong)

/-- 'hydrantlaw21.FinishBack': WHATEVER THE INPUT: true; the input reads as it did. -/
def finishBackSpec : ChangeSpec := { name := "finishBack", fn := fun _ => fun
  | [d1, d2, d3] => { results := [.lit (.bool true)], args := [d1, d2, d3] }
  | _ => none }
def finishBackRow : OpenClaim := { program := "ythonngjhelcpeaagreat", sum := "45b300ff97a9da1fd3a6d210861b6311590a5e576294e0a849c3dd4eed1bd2d3", func := "hydrant/hydrantlaw21.FinishBack", spec := "finishBack", inPlace := ["internal/bytealg.IndexByteString"], unfollowed := true, recurses := true, apart := false }
def FinishBackSaid : Prop := finishBackRow.holds Tryz.pinned (OpenSpec.ofChange finishBackSpec)

/-- ITS FALSE NEIGHBOUR: 'it returns false'. Refute it at one input. -/
def finishBackWrong : ChangeSpec := { name := "finishBack", fn := fun _ => fun
  | [d1, d2, d3] => { results := [.lit (.bool false)], args := [d1, d2, d3] }
  | _ => none }
def FinishBackWrongFalsely : Prop := finishBackRow.holds Tryz.pinned (OpenSpec.ofChange finishBackWrong)

/-- 'hydrantlaw21.FinishFirst': WHATEVER THE INPUT: true; the input reads as it did. -/
def finishFirstSpec : ChangeSpec := { name := "finishFirst", fn := fun _ => fun
  | [d1, d2, d3] => { results := [.lit (.bool true)], args := [d1, d2, d3] }
  | _ => none }
def finishFirstRow : OpenClaim := { program := "ythonngjhelcpeaagreat", sum := "45b300ff97a9da1fd3a6d210861b6311590a5e576294e0a849c3dd4eed1bd2d3", func := "hydrant/hydrantlaw21.FinishFirst", spec := "finishFirst", inPlace := ["internal/bytealg.IndexByteString"], unfollowed := true, recurses := true, apart := false }
def FinishFirstSaid : Prop := finishFirstRow.holds Tryz.pinned (OpenSpec.ofChange finishFirstSpec)

/-- ITS FALSE NEIGHBOUR: 'it returns false'. Refute it at one input. -/
def finishFirstWrong : ChangeSpec := { name := "finishFirst", fn := fun _ => fun
  | [d1, d2, d3] => { results := [.lit (.bool false)], args := [d1, d2, d3] }
  | _ => none }
def FinishFirstWrongFalsely : Prop := finishFirstRow.holds Tryz.pinned (OpenSpec.ofChange finishFirstWrong)

/-- 'hydrantlaw21.FinishTwo': WHATEVER THE INPUT: true; the input reads as it did. -/
def finishTwoSpec : ChangeSpec := { name := "finishTwo", fn := fun _ => fun
  | [d1, d2, d3, d4] => { results := [.lit (.bool true)], args := [d1, d2, d3, d4] }
  | _ => none }
def finishTwoRow : OpenClaim := { program := "ythonngjhelcpeaagreat", sum := "45b300ff97a9da1fd3a6d210861b6311590a5e576294e0a849c3dd4eed1bd2d3", func := "hydrant/hydrantlaw21.FinishTwo", spec := "finishTwo", inPlace := ["internal/bytealg.IndexByteString"], unfollowed := true, recurses := true, apart := false }
def FinishTwoSaid : Prop := finishTwoRow.holds Tryz.pinned (OpenSpec.ofChange finishTwoSpec)

/-- ITS FALSE NEIGHBOUR: 'it returns false'. Refute it at one input. -/
def finishTwoWrong : ChangeSpec := { name := "finishTwo", fn := fun _ => fun
  | [d1, d2, d3, d4] => { results := [.lit (.bool false)], args := [d1, d2, d3, d4] }
  | _ => none }
def FinishTwoWrongFalsely : Prop := finishTwoRow.holds Tryz.pinned (OpenSpec.ofChange finishTwoWrong)

/- THE SECOND FORM. 'bulk': how many values and letters a reading holds, each counted each time it is reached (what is shared counts as often as it is met; a slice's spare places count too). A statement '..UptoSaid' is the law's where the arguments, and the package variables that the reading takes, are together of bulk at most 1048576: NARROWER than '..Said'. Prove '..Said' where nothing that the law and all that it calls make is longer than what came in: it says more and counts as full. Else prove '..UptoSaid'. A law counts once. -/
mutual
def uptoBulk {H : Type} : DataW H → Nat
  | .lit (.string bytes) => bytes.length + 1
  | .lit _ => 1
  | .nil => 1
  | .ptr d => uptoBulk d + 1
  | .slice elems spare => uptoBulkAll elems + uptoBulkAll spare + 1
  | .agg parts => uptoBulkAll parts + 1
  | .iface _ d => uptoBulk d + 1
  | .map entries => uptoBulkEntries entries + 1
  | .held _ => 1
def uptoBulkAll {H : Type} : List (DataW H) → Nat
  | [] => 0
  | d :: r => uptoBulk d + uptoBulkAll r
def uptoBulkEntries {H : Type} : List (Lit × DataW H) → Nat
  | [] => 0
  | x :: r => uptoBulkEntry x + uptoBulkEntries r
def uptoBulkEntry {H : Type} : Lit × DataW H → Nat
  | (.string bytes, d) => bytes.length + uptoBulk d + 1
  | (_, d) => uptoBulk d + 1
 end
def uptoSmall : (H : Type) → List (DataW H) → Bool := fun _ ds => decide (uptoBulkAll ds ≤ 1048576)
def OpenSpec.upto (s : _root_.Go.ChangeSpec) : _root_.Go.OpenSpec := { _root_.Go.OpenSpec.ofChange s with cond := some uptoSmall }

/-- 'hydrantlaw20.HandleSteps', WHERE WHAT IT READS IS OF BULK AT MOST 1048576: true; the input reads as it did. -/
def handleStepsUptoRow : OpenClaim := { program := "ythonngjhelcpeaagreat", sum := "45b300ff97a9da1fd3a6d210861b6311590a5e576294e0a849c3dd4eed1bd2d3", func := "hydrant/hydrantlaw20.HandleSteps", spec := "handleSteps", inPlace := ["internal/bytealg.IndexByteString"], unfollowed := true, recurses := true, apart := false, narrowed := true }
def HandleStepsUptoSaid : Prop := handleStepsUptoRow.holds Tryz.pinned (OpenSpec.upto handleStepsSpec)

/-- 'hydrantlaw20.HandleAlone', WHERE WHAT IT READS IS OF BULK AT MOST 1048576: true; the input reads as it did. -/
def handleAloneUptoRow : OpenClaim := { program := "ythonngjhelcpeaagreat", sum := "45b300ff97a9da1fd3a6d210861b6311590a5e576294e0a849c3dd4eed1bd2d3", func := "hydrant/hydrantlaw20.HandleAlone", spec := "handleAlone", inPlace := ["internal/bytealg.IndexByteString"], unfollowed := true, recurses := true, apart := false, narrowed := true }
def HandleAloneUptoSaid : Prop := handleAloneUptoRow.holds Tryz.pinned (OpenSpec.upto handleAloneSpec)

/-- 'hydrantlaw20.HandleRight', WHERE WHAT IT READS IS OF BULK AT MOST 1048576: true; the input reads as it did. -/
def handleRightUptoRow : OpenClaim := { program := "ythonngjhelcpeaagreat", sum := "45b300ff97a9da1fd3a6d210861b6311590a5e576294e0a849c3dd4eed1bd2d3", func := "hydrant/hydrantlaw20.HandleRight", spec := "handleRight", inPlace := ["internal/bytealg.IndexByteString"], unfollowed := true, recurses := true, apart := false, narrowed := true }
def HandleRightUptoSaid : Prop := handleRightUptoRow.holds Tryz.pinned (OpenSpec.upto handleRightSpec)

/-- 'hydrantlaw20.HandleTurn', WHERE WHAT IT READS IS OF BULK AT MOST 1048576: true; the input reads as it did. -/
def handleTurnUptoRow : OpenClaim := { program := "ythonngjhelcpeaagreat", sum := "45b300ff97a9da1fd3a6d210861b6311590a5e576294e0a849c3dd4eed1bd2d3", func := "hydrant/hydrantlaw20.HandleTurn", spec := "handleTurn", inPlace := ["internal/bytealg.IndexByteString"], unfollowed := true, recurses := true, apart := false, narrowed := true }
def HandleTurnUptoSaid : Prop := handleTurnUptoRow.holds Tryz.pinned (OpenSpec.upto handleTurnSpec)

/-- 'hydrantlaw20.HandleFull', WHERE WHAT IT READS IS OF BULK AT MOST 1048576: true; the input reads as it did. -/
def handleFullUptoRow : OpenClaim := { program := "ythonngjhelcpeaagreat", sum := "45b300ff97a9da1fd3a6d210861b6311590a5e576294e0a849c3dd4eed1bd2d3", func := "hydrant/hydrantlaw20.HandleFull", spec := "handleFull", inPlace := ["internal/bytealg.IndexByteString"], unfollowed := true, recurses := true, apart := false, narrowed := true }
def HandleFullUptoSaid : Prop := handleFullUptoRow.holds Tryz.pinned (OpenSpec.upto handleFullSpec)

/-- 'hydrantlaw20.HandleLeast', WHERE WHAT IT READS IS OF BULK AT MOST 1048576: true; the input reads as it did. -/
def handleLeastUptoRow : OpenClaim := { program := "ythonngjhelcpeaagreat", sum := "45b300ff97a9da1fd3a6d210861b6311590a5e576294e0a849c3dd4eed1bd2d3", func := "hydrant/hydrantlaw20.HandleLeast", spec := "handleLeast", inPlace := ["internal/bytealg.IndexByteString"], unfollowed := true, recurses := true, apart := false, narrowed := true }
def HandleLeastUptoSaid : Prop := handleLeastUptoRow.holds Tryz.pinned (OpenSpec.upto handleLeastSpec)

/-- 'hydrantlaw21.FinishSteps', WHERE WHAT IT READS IS OF BULK AT MOST 1048576: true; the input reads as it did. -/
def finishStepsUptoRow : OpenClaim := { program := "ythonngjhelcpeaagreat", sum := "45b300ff97a9da1fd3a6d210861b6311590a5e576294e0a849c3dd4eed1bd2d3", func := "hydrant/hydrantlaw21.FinishSteps", spec := "finishSteps", inPlace := ["internal/bytealg.IndexByteString"], unfollowed := true, recurses := true, apart := false, narrowed := true }
def FinishStepsUptoSaid : Prop := finishStepsUptoRow.holds Tryz.pinned (OpenSpec.upto finishStepsSpec)

/-- 'hydrantlaw21.FinishBegins', WHERE WHAT IT READS IS OF BULK AT MOST 1048576: true; the input reads as it did. -/
def finishBeginsUptoRow : OpenClaim := { program := "ythonngjhelcpeaagreat", sum := "45b300ff97a9da1fd3a6d210861b6311590a5e576294e0a849c3dd4eed1bd2d3", func := "hydrant/hydrantlaw21.FinishBegins", spec := "finishBegins", inPlace := ["internal/bytealg.IndexByteString"], unfollowed := true, recurses := true, apart := false, narrowed := true }
def FinishBeginsUptoSaid : Prop := finishBeginsUptoRow.holds Tryz.pinned (OpenSpec.upto finishBeginsSpec)

/-- 'hydrantlaw21.FinishBack', WHERE WHAT IT READS IS OF BULK AT MOST 1048576: true; the input reads as it did. -/
def finishBackUptoRow : OpenClaim := { program := "ythonngjhelcpeaagreat", sum := "45b300ff97a9da1fd3a6d210861b6311590a5e576294e0a849c3dd4eed1bd2d3", func := "hydrant/hydrantlaw21.FinishBack", spec := "finishBack", inPlace := ["internal/bytealg.IndexByteString"], unfollowed := true, recurses := true, apart := false, narrowed := true }
def FinishBackUptoSaid : Prop := finishBackUptoRow.holds Tryz.pinned (OpenSpec.upto finishBackSpec)

/-- 'hydrantlaw21.FinishFirst', WHERE WHAT IT READS IS OF BULK AT MOST 1048576: true; the input reads as it did. -/
def finishFirstUptoRow : OpenClaim := { program := "ythonngjhelcpeaagreat", sum := "45b300ff97a9da1fd3a6d210861b6311590a5e576294e0a849c3dd4eed1bd2d3", func := "hydrant/hydrantlaw21.FinishFirst", spec := "finishFirst", inPlace := ["internal/bytealg.IndexByteString"], unfollowed := true, recurses := true, apart := false, narrowed := true }
def FinishFirstUptoSaid : Prop := finishFirstUptoRow.holds Tryz.pinned (OpenSpec.upto finishFirstSpec)

/-- 'hydrantlaw21.FinishTwo', WHERE WHAT IT READS IS OF BULK AT MOST 1048576: true; the input reads as it did. -/
def finishTwoUptoRow : OpenClaim := { program := "ythonngjhelcpeaagreat", sum := "45b300ff97a9da1fd3a6d210861b6311590a5e576294e0a849c3dd4eed1bd2d3", func := "hydrant/hydrantlaw21.FinishTwo", spec := "finishTwo", inPlace := ["internal/bytealg.IndexByteString"], unfollowed := true, recurses := true, apart := false, narrowed := true }
def FinishTwoUptoSaid : Prop := finishTwoUptoRow.holds Tryz.pinned (OpenSpec.upto finishTwoSpec)

end Rows
end Go.Proofs.YthonngjhelcpeaaGreat
