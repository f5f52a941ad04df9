/-
  No cell of these rows narrows 'for every input' (looked for: loops, veiled, ifaces, maps, wideKeys, modest, calm, conditions, laid).
  DERIVED. THE GIVEN ROWS OF THIS SEAT. 9 by the template 'for every input the law returns true; each argument reads behind the call as it read before'; 0 by the template 'total and deterministic' (their statements: YtedjbhpocedagaaTotals.lean).
  GIVEN WITH THE SEED: the statements are not yours to turn. If you find one false, say at which input.
  Laid BY PROGRAM, IN A SANDBOX (cutbox-rows.mjs): the forced cells as the released guide's own fill.sh prints them over the translation 11c5a2ef326645f6… (all of the seat's roots in one cut). By AI agents, Wed Nov 11 2026. No macro, syntax, notation, axiom, sorry.
-/
import Derived.Test.YtedjbhpocedagaaChecked
import GoSem.Claim
import GoSem.ClaimJoined
import GoSem.ClaimMapViews
import Derived.JoinedTies
import Derived.KernelRfl
namespace Go.Proofs.Ytedjbhpocedagaa
/- THE CELL 'sum', in the pinned program and in every row, IS THE sha256 OF THE DUMP (.gsa) THAT YtedjbhpocedagaaProg.lean LOADS. Nothing in Lean hashes anything: it is a label: what it is worth is what the hold of that sum in a sandbox is worth. -/
noncomputable def Try.pinned : Pinned := { name := "ytedjbhpocedagaa", sum := "11c5a2ef326645f680f0ed334d9c7d802e93b261c38224a6a856a31d62b3fc74", checked := Try.checked }
namespace Rows
def none {H : Type} : Left H := { results := [], args := [] }

/-- 'hydrantlaw08.ScriptIs': WHATEVER THE INPUT: true; the input reads as it did. -/
def scriptIsSpec : ChangeSpec := { name := "scriptIs", fn := fun _ => fun
  | [d] => { results := [.lit (.bool true)], args := [d] }
  | _ => none }
def scriptIsRow : OpenClaim := { program := "ytedjbhpocedagaa", sum := "11c5a2ef326645f680f0ed334d9c7d802e93b261c38224a6a856a31d62b3fc74", func := "hydrant/hydrantlaw08.ScriptIs", spec := "scriptIs", inPlace := ["internal/bytealg.IndexByteString"], unfollowed := true, recurses := true, apart := false }
def ScriptIsSaid : Prop := scriptIsRow.holds Try.pinned (OpenSpec.ofChange scriptIsSpec)

/-- ITS FALSE NEIGHBOUR: 'it returns false'. Refute it at one input. -/
def scriptIsWrong : ChangeSpec := { name := "scriptIs", fn := fun _ => fun
  | [d] => { results := [.lit (.bool false)], args := [d] }
  | _ => none }
def ScriptIsWrongFalsely : Prop := scriptIsRow.holds Try.pinned (OpenSpec.ofChange scriptIsWrong)

/-- 'hydrantlaw08.ScriptBytes': WHATEVER THE INPUT: true; the input reads as it did. -/
def scriptBytesSpec : ChangeSpec := { name := "scriptBytes", fn := fun _ => fun
  | [d1, d2] => { results := [.lit (.bool true)], args := [d1, d2] }
  | _ => none }
def scriptBytesRow : OpenClaim := { program := "ytedjbhpocedagaa", sum := "11c5a2ef326645f680f0ed334d9c7d802e93b261c38224a6a856a31d62b3fc74", func := "hydrant/hydrantlaw08.ScriptBytes", spec := "scriptBytes", inPlace := ["internal/bytealg.IndexByteString"], unfollowed := true, recurses := true, apart := false }
def ScriptBytesSaid : Prop := scriptBytesRow.holds Try.pinned (OpenSpec.ofChange scriptBytesSpec)

/-- ITS FALSE NEIGHBOUR: 'it returns false'. Refute it at one input. -/
def scriptBytesWrong : ChangeSpec := { name := "scriptBytes", fn := fun _ => fun
  | [d1, d2] => { results := [.lit (.bool false)], args := [d1, d2] }
  | _ => none }
def ScriptBytesWrongFalsely : Prop := scriptBytesRow.holds Try.pinned (OpenSpec.ofChange scriptBytesWrong)

/-- 'hydrantlaw08.ScriptBack': WHATEVER THE INPUT: true; the input reads as it did. -/
def scriptBackSpec : ChangeSpec := { name := "scriptBack", fn := fun _ => fun
  | [d1, d2] => { results := [.lit (.bool true)], args := [d1, d2] }
  | _ => none }
def scriptBackRow : OpenClaim := { program := "ytedjbhpocedagaa", sum := "11c5a2ef326645f680f0ed334d9c7d802e93b261c38224a6a856a31d62b3fc74", func := "hydrant/hydrantlaw08.ScriptBack", spec := "scriptBack", inPlace := ["internal/bytealg.IndexByteString"], unfollowed := true, recurses := true, apart := false }
def ScriptBackSaid : Prop := scriptBackRow.holds Try.pinned (OpenSpec.ofChange scriptBackSpec)

/-- ITS FALSE NEIGHBOUR: 'it returns false'. Refute it at one input. -/
def scriptBackWrong : ChangeSpec := { name := "scriptBack", fn := fun _ => fun
  | [d1, d2] => { results := [.lit (.bool false)], args := [d1, d2] }
  | _ => none }
def ScriptBackWrongFalsely : Prop := scriptBackRow.holds Try.pinned (OpenSpec.ofChange scriptBackWrong)

/-- 'hydrantlaw08.ScriptNames': WHATEVER THE INPUT: true; the input reads as it did. -/
def scriptNamesSpec : ChangeSpec := { name := "scriptNames", fn := fun _ => fun
  | [d] => { results := [.lit (.bool true)], args := [d] }
  | _ => none }
def scriptNamesRow : OpenClaim := { program := "ytedjbhpocedagaa", sum := "11c5a2ef326645f680f0ed334d9c7d802e93b261c38224a6a856a31d62b3fc74", func := "hydrant/hydrantlaw08.ScriptNames", spec := "scriptNames", inPlace := ["internal/bytealg.IndexByteString"], unfollowed := true, recurses := true, apart := false }
def ScriptNamesSaid : Prop := scriptNamesRow.holds Try.pinned (OpenSpec.ofChange scriptNamesSpec)

/-- ITS FALSE NEIGHBOUR: 'it returns false'. Refute it at one input. -/
def scriptNamesWrong : ChangeSpec := { name := "scriptNames", fn := fun _ => fun
  | [d] => { results := [.lit (.bool false)], args := [d] }
  | _ => none }
def ScriptNamesWrongFalsely : Prop := scriptNamesRow.holds Try.pinned (OpenSpec.ofChange scriptNamesWrong)

/-- 'hydrantlaw08.ScriptLess': WHATEVER THE INPUT: true; the input reads as it did. -/
def scriptLessSpec : ChangeSpec := { name := "scriptLess", fn := fun _ => fun
  | [d] => { results := [.lit (.bool true)], args := [d] }
  | _ => none }
def scriptLessRow : OpenClaim := { program := "ytedjbhpocedagaa", sum := "11c5a2ef326645f680f0ed334d9c7d802e93b261c38224a6a856a31d62b3fc74", func := "hydrant/hydrantlaw08.ScriptLess", spec := "scriptLess", inPlace := ["internal/bytealg.IndexByteString"], unfollowed := true, recurses := true, apart := false }
def ScriptLessSaid : Prop := scriptLessRow.holds Try.pinned (OpenSpec.ofChange scriptLessSpec)

/-- ITS FALSE NEIGHBOUR: 'it returns false'. Refute it at one input. -/
def scriptLessWrong : ChangeSpec := { name := "scriptLess", fn := fun _ => fun
  | [d] => { results := [.lit (.bool false)], args := [d] }
  | _ => none }
def ScriptLessWrongFalsely : Prop := scriptLessRow.holds Try.pinned (OpenSpec.ofChange scriptLessWrong)

/-- 'hydrantlaw07.SnapBuilds': WHATEVER THE INPUT: true; the input reads as it did. -/
def snapBuildsSpec : ChangeSpec := { name := "snapBuilds", fn := fun _ => fun
  | [d] => { results := [.lit (.bool true)], args := [d] }
  | _ => none }
def snapBuildsRow : OpenClaim := { program := "ytedjbhpocedagaa", sum := "11c5a2ef326645f680f0ed334d9c7d802e93b261c38224a6a856a31d62b3fc74", func := "hydrant/hydrantlaw07.SnapBuilds", spec := "snapBuilds", inPlace := ["internal/bytealg.IndexByteString"], unfollowed := true, recurses := true, apart := false }
def SnapBuildsSaid : Prop := snapBuildsRow.holds Try.pinned (OpenSpec.ofChange snapBuildsSpec)

/-- ITS FALSE NEIGHBOUR: 'it returns false'. Refute it at one input. -/
def snapBuildsWrong : ChangeSpec := { name := "snapBuilds", fn := fun _ => fun
  | [d] => { results := [.lit (.bool false)], args := [d] }
  | _ => none }
def SnapBuildsWrongFalsely : Prop := snapBuildsRow.holds Try.pinned (OpenSpec.ofChange snapBuildsWrong)

/-- 'hydrantlaw07.SnapBack': WHATEVER THE INPUT: true; the input reads as it did. -/
def snapBackSpec : ChangeSpec := { name := "snapBack", fn := fun _ => fun
  | [d] => { results := [.lit (.bool true)], args := [d] }
  | _ => none }
def snapBackRow : OpenClaim := { program := "ytedjbhpocedagaa", sum := "11c5a2ef326645f680f0ed334d9c7d802e93b261c38224a6a856a31d62b3fc74", func := "hydrant/hydrantlaw07.SnapBack", spec := "snapBack", inPlace := ["internal/bytealg.IndexByteString"], unfollowed := true, recurses := true, apart := false }
def SnapBackSaid : Prop := snapBackRow.holds Try.pinned (OpenSpec.ofChange snapBackSpec)

/-- ITS FALSE NEIGHBOUR: 'it returns false'. Refute it at one input. -/
def snapBackWrong : ChangeSpec := { name := "snapBack", fn := fun _ => fun
  | [d] => { results := [.lit (.bool false)], args := [d] }
  | _ => none }
def SnapBackWrongFalsely : Prop := snapBackRow.holds Try.pinned (OpenSpec.ofChange snapBackWrong)

/-- 'hydrantlaw07.SnapAgain': WHATEVER THE INPUT: true; the input reads as it did. -/
def snapAgainSpec : ChangeSpec := { name := "snapAgain", fn := fun _ => fun
  | [d1, d2, d3, d4] => { results := [.lit (.bool true)], args := [d1, d2, d3, d4] }
  | _ => none }
def snapAgainRow : OpenClaim := { program := "ytedjbhpocedagaa", sum := "11c5a2ef326645f680f0ed334d9c7d802e93b261c38224a6a856a31d62b3fc74", func := "hydrant/hydrantlaw07.SnapAgain", spec := "snapAgain", inPlace := ["internal/bytealg.IndexByteString"], unfollowed := true, recurses := true, apart := false }
def SnapAgainSaid : Prop := snapAgainRow.holds Try.pinned (OpenSpec.ofChange snapAgainSpec)

/-- ITS FALSE NEIGHBOUR: 'it returns false'. Refute it at one input. -/
def snapAgainWrong : ChangeSpec := { name := "snapAgain", fn := fun _ => fun
  | [d1, d2, d3, d4] => { results := [.lit (.bool false)], args := [d1, d2, d3, d4] }
  | _ => none }
def SnapAgainWrongFalsely : Prop := snapAgainRow.holds Try.pinned (OpenSpec.ofChange snapAgainWrong)

/-- 'hydrantlaw07.SnapUnlike': WHATEVER THE INPUT: true; the input reads as it did. -/
def snapUnlikeSpec : ChangeSpec := { name := "snapUnlike", fn := fun _ => fun
  | [d1, d2] => { results := [.lit (.bool true)], args := [d1, d2] }
  | _ => none }
def snapUnlikeRow : OpenClaim := { program := "ytedjbhpocedagaa", sum := "11c5a2ef326645f680f0ed334d9c7d802e93b261c38224a6a856a31d62b3fc74", func := "hydrant/hydrantlaw07.SnapUnlike", spec := "snapUnlike", inPlace := ["internal/bytealg.IndexByteString"], unfollowed := true, recurses := true, apart := false }
def SnapUnlikeSaid : Prop := snapUnlikeRow.holds Try.pinned (OpenSpec.ofChange snapUnlikeSpec)

/-- ITS FALSE NEIGHBOUR: 'it returns false'. Refute it at one input. -/
def snapUnlikeWrong : ChangeSpec := { name := "snapUnlike", fn := fun _ => fun
  | [d1, d2] => { results := [.lit (.bool false)], args := [d1, d2] }
  | _ => none }
def SnapUnlikeWrongFalsely : Prop := snapUnlikeRow.holds Try.pinned (OpenSpec.ofChange snapUnlikeWrong)

/- THE SECOND FORM. 'bulk': how many values and letters a reading holds, each counted each time it is reached (what is shared counts as often as it is met; a slice's spare places count too). A statement '..UptoSaid' is the law's where the arguments, and the package variables that the reading takes, are together of bulk at most 1048576: NARROWER than '..Said'. Prove '..Said' where nothing that the law and all that it calls make is longer than what came in: it says more and counts as full. Else prove '..UptoSaid'. A law counts once. -/
mutual
def uptoBulk {H : Type} : DataW H → Nat
  | .lit (.string bytes) => bytes.length + 1
  | .lit _ => 1
  | .nil => 1
  | .ptr d => uptoBulk d + 1
  | .slice elems spare => uptoBulkAll elems + uptoBulkAll spare + 1
  | .agg parts => uptoBulkAll parts + 1
  | .iface _ d => uptoBulk d + 1
  | .map entries => uptoBulkEntries entries + 1
  | .held _ => 1
def uptoBulkAll {H : Type} : List (DataW H) → Nat
  | [] => 0
  | d :: r => uptoBulk d + uptoBulkAll r
def uptoBulkEntries {H : Type} : List (Lit × DataW H) → Nat
  | [] => 0
  | x :: r => uptoBulkEntry x + uptoBulkEntries r
def uptoBulkEntry {H : Type} : Lit × DataW H → Nat
  | (.string bytes, d) => bytes.length + uptoBulk d + 1
  | (_, d) => uptoBulk d + 1
 end
def uptoSmall : (H : Type) → List (DataW H) → Bool := fun _ ds => decide (uptoBulkAll ds ≤ 1048576)
def OpenSpec.upto (s : _root_.Go.ChangeSpec) : _root_.Go.OpenSpec := { _root_.Go.OpenSpec.ofChange s with cond := some uptoSmall }

/-- 'hydrantlaw08.ScriptIs', WHERE WHAT IT READS IS OF BULK AT MOST 1048576: true; the input reads as it did. -/
def scriptIsUptoRow : OpenClaim := { program := "ytedjbhpocedagaa", sum := "11c5a2ef326645f680f0ed334d9c7d802e93b261c38224a6a856a31d62b3fc74", func := "hydrant/hydrantlaw08.ScriptIs", spec := "scriptIs", inPlace := ["internal/bytealg.IndexByteString"], unfollowed := true, recurses := true, apart := false, narrowed := true }
def ScriptIsUptoSaid : Prop := scriptIsUptoRow.holds Try.pinned (OpenSpec.upto scriptIsSpec)

/-- 'hydrantlaw08.ScriptBytes', WHERE WHAT IT READS IS OF BULK AT MOST 1048576: true; the input reads as it did. -/
def scriptBytesUptoRow : OpenClaim := { program := "ytedjbhpocedagaa", sum := "11c5a2ef326645f680f0ed334d9c7d802e93b261c38224a6a856a31d62b3fc74", func := "hydrant/hydrantlaw08.ScriptBytes", spec := "scriptBytes", inPlace := ["internal/bytealg.IndexByteString"], unfollowed := true, recurses := true, apart := false, narrowed := true }
def ScriptBytesUptoSaid : Prop := scriptBytesUptoRow.holds Try.pinned (OpenSpec.upto scriptBytesSpec)

/-- 'hydrantlaw08.ScriptBack', WHERE WHAT IT READS IS OF BULK AT MOST 1048576: true; the input reads as it did. -/
def scriptBackUptoRow : OpenClaim := { program := "ytedjbhpocedagaa", sum := "11c5a2ef326645f680f0ed334d9c7d802e93b261c38224a6a856a31d62b3fc74", func := "hydrant/hydrantlaw08.ScriptBack", spec := "scriptBack", inPlace := ["internal/bytealg.IndexByteString"], unfollowed := true, recurses := true, apart := false, narrowed := true }
def ScriptBackUptoSaid : Prop := scriptBackUptoRow.holds Try.pinned (OpenSpec.upto scriptBackSpec)

/-- 'hydrantlaw08.ScriptNames', WHERE WHAT IT READS IS OF BULK AT MOST 1048576: true; the input reads as it did. -/
def scriptNamesUptoRow : OpenClaim := { program := "ytedjbhpocedagaa", sum := "11c5a2ef326645f680f0ed334d9c7d802e93b261c38224a6a856a31d62b3fc74", func := "hydrant/hydrantlaw08.ScriptNames", spec := "scriptNames", inPlace := ["internal/bytealg.IndexByteString"], unfollowed := true, recurses := true, apart := false, narrowed := true }
def ScriptNamesUptoSaid : Prop := scriptNamesUptoRow.holds Try.pinned (OpenSpec.upto scriptNamesSpec)

/-- 'hydrantlaw08.ScriptLess', WHERE WHAT IT READS IS OF BULK AT MOST 1048576: true; the input reads as it did. -/
def scriptLessUptoRow : OpenClaim := { program := "ytedjbhpocedagaa", sum := "11c5a2ef326645f680f0ed334d9c7d802e93b261c38224a6a856a31d62b3fc74", func := "hydrant/hydrantlaw08.ScriptLess", spec := "scriptLess", inPlace := ["internal/bytealg.IndexByteString"], unfollowed := true, recurses := true, apart := false, narrowed := true }
def ScriptLessUptoSaid : Prop := scriptLessUptoRow.holds Try.pinned (OpenSpec.upto scriptLessSpec)

/-- 'hydrantlaw07.SnapBuilds', WHERE WHAT IT READS IS OF BULK AT MOST 1048576: true; the input reads as it did. -/
def snapBuildsUptoRow : OpenClaim := { program := "ytedjbhpocedagaa", sum := "11c5a2ef326645f680f0ed334d9c7d802e93b261c38224a6a856a31d62b3fc74", func := "hydrant/hydrantlaw07.SnapBuilds", spec := "snapBuilds", inPlace := ["internal/bytealg.IndexByteString"], unfollowed := true, recurses := true, apart := false, narrowed := true }
def SnapBuildsUptoSaid : Prop := snapBuildsUptoRow.holds Try.pinned (OpenSpec.upto snapBuildsSpec)

/-- 'hydrantlaw07.SnapBack', WHERE WHAT IT READS IS OF BULK AT MOST 1048576: true; the input reads as it did. -/
def snapBackUptoRow : OpenClaim := { program := "ytedjbhpocedagaa", sum := "11c5a2ef326645f680f0ed334d9c7d802e93b261c38224a6a856a31d62b3fc74", func := "hydrant/hydrantlaw07.SnapBack", spec := "snapBack", inPlace := ["internal/bytealg.IndexByteString"], unfollowed := true, recurses := true, apart := false, narrowed := true }
def SnapBackUptoSaid : Prop := snapBackUptoRow.holds Try.pinned (OpenSpec.upto snapBackSpec)

/-- 'hydrantlaw07.SnapAgain', WHERE WHAT IT READS IS OF BULK AT MOST 1048576: true; the input reads as it did. -/
def snapAgainUptoRow : OpenClaim := { program := "ytedjbhpocedagaa", sum := "11c5a2ef326645f680f0ed334d9c7d802e93b261c38224a6a856a31d62b3fc74", func := "hydrant/hydrantlaw07.SnapAgain", spec := "snapAgain", inPlace := ["internal/bytealg.IndexByteString"], unfollowed := true, recurses := true, apart := false, narrowed := true }
def SnapAgainUptoSaid : Prop := snapAgainUptoRow.holds Try.pinned (OpenSpec.upto snapAgainSpec)

/-- 'hydrantlaw07.SnapUnlike', WHERE WHAT IT READS IS OF BULK AT MOST 1048576: true; the input reads as it did. -/
def snapUnlikeUptoRow : OpenClaim := { program := "ytedjbhpocedagaa", sum := "11c5a2ef326645f680f0ed334d9c7d802e93b261c38224a6a856a31d62b3fc74", func := "hydrant/hydrantlaw07.SnapUnlike", spec := "snapUnlike", inPlace := ["internal/bytealg.IndexByteString"], unfollowed := true, recurses := true, apart := false, narrowed := true }
def SnapUnlikeUptoSaid : Prop := snapUnlikeUptoRow.holds Try.pinned (OpenSpec.upto snapUnlikeSpec)

end Rows
end Go.Proofs.Ytedjbhpocedagaa
