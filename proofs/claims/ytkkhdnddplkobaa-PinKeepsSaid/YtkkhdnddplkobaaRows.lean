/-
  No cell of these rows narrows 'for every input' (looked for: loops, veiled, ifaces, maps, wideKeys, modest, calm, conditions, laid).
  DERIVED. THE GIVEN ROWS OF THIS SEAT. 7 by the template 'for every input the law returns true; each argument reads behind the call as it read before'; 0 by the template 'total and deterministic' (their statements: YtkkhdnddplkobaaTotals.lean).
  GIVEN WITH THE SEED: the statements are not yours to turn. If you find one false, say at which input.
  Laid BY PROGRAM, IN A SANDBOX (cutbox-rows.mjs): the forced cells as the released guide's own fill.sh prints them over the translation 9c9aaecb64675ac6… (all of the seat's roots in one cut). By AI agents, Wed Nov 11 2026. No macro, syntax, notation, axiom, sorry.
-/
import Derived.Test.YtkkhdnddplkobaaChecked
import GoSem.Claim
import GoSem.ClaimJoined
import GoSem.ClaimMapViews
import Derived.JoinedTies
import Derived.KernelRfl
namespace Go.Proofs.Ytkkhdnddplkobaa
/- THE CELL 'sum', in the pinned program and in every row, IS THE sha256 OF THE DUMP (.gsa) THAT YtkkhdnddplkobaaProg.lean LOADS. Nothing in Lean hashes anything: it is a label: what it is worth is what the hold of that sum in a sandbox is worth. -/
noncomputable def Try.pinned : Pinned := { name := "ytkkhdnddplkobaa", sum := "9c9aaecb64675ac647acc7717d7f06e6da8d86a73cdf82ab30d30e8a9bb255bb", checked := Try.checked }
namespace Rows
def none {H : Type} : Left H := { results := [], args := [] }

/-- 'hydrantlaw18.WorldPops': WHATEVER THE INPUT: true; the input reads as it did. -/
def worldPopsSpec : ChangeSpec := { name := "worldPops", fn := fun _ => fun
  | [d1, d2, d3, d4] => { results := [.lit (.bool true)], args := [d1, d2, d3, d4] }
  | _ => none }
def worldPopsRow : OpenClaim := { program := "ytkkhdnddplkobaa", sum := "9c9aaecb64675ac647acc7717d7f06e6da8d86a73cdf82ab30d30e8a9bb255bb", func := "hydrant/hydrantlaw18.WorldPops", spec := "worldPops", inPlace := ["internal/bytealg.IndexByteString"], unfollowed := true, recurses := true, apart := false }
def WorldPopsSaid : Prop := worldPopsRow.holds Try.pinned (OpenSpec.ofChange worldPopsSpec)

/-- ITS FALSE NEIGHBOUR: 'it returns false'. Refute it at one input. -/
def worldPopsWrong : ChangeSpec := { name := "worldPops", fn := fun _ => fun
  | [d1, d2, d3, d4] => { results := [.lit (.bool false)], args := [d1, d2, d3, d4] }
  | _ => none }
def WorldPopsWrongFalsely : Prop := worldPopsRow.holds Try.pinned (OpenSpec.ofChange worldPopsWrong)

/-- 'hydrantlaw18.WorldSnaps': WHATEVER THE INPUT: true; the input reads as it did. -/
def worldSnapsSpec : ChangeSpec := { name := "worldSnaps", fn := fun _ => fun
  | [d] => { results := [.lit (.bool true)], args := [d] }
  | _ => none }
def worldSnapsRow : OpenClaim := { program := "ytkkhdnddplkobaa", sum := "9c9aaecb64675ac647acc7717d7f06e6da8d86a73cdf82ab30d30e8a9bb255bb", func := "hydrant/hydrantlaw18.WorldSnaps", spec := "worldSnaps", inPlace := ["internal/bytealg.IndexByteString"], unfollowed := true, recurses := true, apart := false }
def WorldSnapsSaid : Prop := worldSnapsRow.holds Try.pinned (OpenSpec.ofChange worldSnapsSpec)

/-- ITS FALSE NEIGHBOUR: 'it returns false'. Refute it at one input. -/
def worldSnapsWrong : ChangeSpec := { name := "worldSnaps", fn := fun _ => fun
  | [d] => { results := [.lit (.bool false)], args := [d] }
  | _ => none }
def WorldSnapsWrongFalsely : Prop := worldSnapsRow.holds Try.pinned (OpenSpec.ofChange worldSnapsWrong)

/-- 'hydrantlaw25.StatsAlone': WHATEVER THE INPUT: true; the input reads as it did. -/
def statsAloneSpec : ChangeSpec := { name := "statsAlone", fn := fun _ => fun
  | [d1, d2] => { results := [.lit (.bool true)], args := [d1, d2] }
  | _ => none }
def statsAloneRow : OpenClaim := { program := "ytkkhdnddplkobaa", sum := "9c9aaecb64675ac647acc7717d7f06e6da8d86a73cdf82ab30d30e8a9bb255bb", func := "hydrant/hydrantlaw25.StatsAlone", spec := "statsAlone", inPlace := ["internal/bytealg.IndexByteString"], unfollowed := true, recurses := true, apart := false }
def StatsAloneSaid : Prop := statsAloneRow.holds Try.pinned (OpenSpec.ofChange statsAloneSpec)

/-- ITS FALSE NEIGHBOUR: 'it returns false'. Refute it at one input. -/
def statsAloneWrong : ChangeSpec := { name := "statsAlone", fn := fun _ => fun
  | [d1, d2] => { results := [.lit (.bool false)], args := [d1, d2] }
  | _ => none }
def StatsAloneWrongFalsely : Prop := statsAloneRow.holds Try.pinned (OpenSpec.ofChange statsAloneWrong)

/-- 'hydrantlaw19.PinThree': WHATEVER THE INPUT: true; the input reads as it did. -/
def pinThreeSpec : ChangeSpec := { name := "pinThree", fn := fun _ => fun
  | [d1, d2] => { results := [.lit (.bool true)], args := [d1, d2] }
  | _ => none }
def pinThreeRow : OpenClaim := { program := "ytkkhdnddplkobaa", sum := "9c9aaecb64675ac647acc7717d7f06e6da8d86a73cdf82ab30d30e8a9bb255bb", func := "hydrant/hydrantlaw19.PinThree", spec := "pinThree", inPlace := ["internal/bytealg.IndexByteString"], unfollowed := true, recurses := true, apart := false }
def PinThreeSaid : Prop := pinThreeRow.holds Try.pinned (OpenSpec.ofChange pinThreeSpec)

/-- ITS FALSE NEIGHBOUR: 'it returns false'. Refute it at one input. -/
def pinThreeWrong : ChangeSpec := { name := "pinThree", fn := fun _ => fun
  | [d1, d2] => { results := [.lit (.bool false)], args := [d1, d2] }
  | _ => none }
def PinThreeWrongFalsely : Prop := pinThreeRow.holds Try.pinned (OpenSpec.ofChange pinThreeWrong)

/-- 'hydrantlaw19.PinRaces': WHATEVER THE INPUT: true; the input reads as it did. -/
def pinRacesSpec : ChangeSpec := { name := "pinRaces", fn := fun _ => fun
  | [d1, d2, d3] => { results := [.lit (.bool true)], args := [d1, d2, d3] }
  | _ => none }
def pinRacesRow : OpenClaim := { program := "ytkkhdnddplkobaa", sum := "9c9aaecb64675ac647acc7717d7f06e6da8d86a73cdf82ab30d30e8a9bb255bb", func := "hydrant/hydrantlaw19.PinRaces", spec := "pinRaces", inPlace := ["internal/bytealg.IndexByteString"], unfollowed := true, recurses := true, apart := false }
def PinRacesSaid : Prop := pinRacesRow.holds Try.pinned (OpenSpec.ofChange pinRacesSpec)

/-- ITS FALSE NEIGHBOUR: 'it returns false'. Refute it at one input. -/
def pinRacesWrong : ChangeSpec := { name := "pinRaces", fn := fun _ => fun
  | [d1, d2, d3] => { results := [.lit (.bool false)], args := [d1, d2, d3] }
  | _ => none }
def PinRacesWrongFalsely : Prop := pinRacesRow.holds Try.pinned (OpenSpec.ofChange pinRacesWrong)

/-- 'hydrantlaw19.PinKeeps': WHATEVER THE INPUT: true; the input reads as it did. -/
def pinKeepsSpec : ChangeSpec := { name := "pinKeeps", fn := fun _ => fun
  | [d1, d2] => { results := [.lit (.bool true)], args := [d1, d2] }
  | _ => none }
def pinKeepsRow : OpenClaim := { program := "ytkkhdnddplkobaa", sum := "9c9aaecb64675ac647acc7717d7f06e6da8d86a73cdf82ab30d30e8a9bb255bb", func := "hydrant/hydrantlaw19.PinKeeps", spec := "pinKeeps", inPlace := ["internal/bytealg.IndexByteString"], unfollowed := true, recurses := true, apart := false }
def PinKeepsSaid : Prop := pinKeepsRow.holds Try.pinned (OpenSpec.ofChange pinKeepsSpec)

/-- ITS FALSE NEIGHBOUR: 'it returns false'. Refute it at one input. -/
def pinKeepsWrong : ChangeSpec := { name := "pinKeeps", fn := fun _ => fun
  | [d1, d2] => { results := [.lit (.bool false)], args := [d1, d2] }
  | _ => none }
def PinKeepsWrongFalsely : Prop := pinKeepsRow.holds Try.pinned (OpenSpec.ofChange pinKeepsWrong)

/-- 'hydrantlaw25.StatsBetween': WHATEVER THE INPUT: true; the input reads as it did. -/
def statsBetweenSpec : ChangeSpec := { name := "statsBetween", fn := fun _ => fun
  | [d1, d2, d3] => { results := [.lit (.bool true)], args := [d1, d2, d3] }
  | _ => none }
def statsBetweenRow : OpenClaim := { program := "ytkkhdnddplkobaa", sum := "9c9aaecb64675ac647acc7717d7f06e6da8d86a73cdf82ab30d30e8a9bb255bb", func := "hydrant/hydrantlaw25.StatsBetween", spec := "statsBetween", inPlace := ["internal/bytealg.IndexByteString"], unfollowed := true, recurses := true, apart := false }
def StatsBetweenSaid : Prop := statsBetweenRow.holds Try.pinned (OpenSpec.ofChange statsBetweenSpec)

/-- ITS FALSE NEIGHBOUR: 'it returns false'. Refute it at one input. -/
def statsBetweenWrong : ChangeSpec := { name := "statsBetween", fn := fun _ => fun
  | [d1, d2, d3] => { results := [.lit (.bool false)], args := [d1, d2, d3] }
  | _ => none }
def StatsBetweenWrongFalsely : Prop := statsBetweenRow.holds Try.pinned (OpenSpec.ofChange statsBetweenWrong)

/- THE SECOND FORM. 'bulk': how many values and letters a reading holds, each counted each time it is reached (what is shared counts as often as it is met; a slice's spare places count too). A statement '..UptoSaid' is the law's where the arguments, and the package variables that the reading takes, are together of bulk at most 1048576: NARROWER than '..Said'. Prove '..Said' where nothing that the law and all that it calls make is longer than what came in: it says more and counts as full. Else prove '..UptoSaid'. A law counts once. -/
mutual
def uptoBulk {H : Type} : DataW H → Nat
  | .lit (.string bytes) => bytes.length + 1
  | .lit _ => 1
  | .nil => 1
  | .ptr d => uptoBulk d + 1
  | .slice elems spare => uptoBulkAll elems + uptoBulkAll spare + 1
  | .agg parts => uptoBulkAll parts + 1
  | .iface _ d => uptoBulk d + 1
  | .map entries => uptoBulkEntries entries + 1
  | .held _ => 1
def uptoBulkAll {H : Type} : List (DataW H) → Nat
  | [] => 0
  | d :: r => uptoBulk d + uptoBulkAll r
def uptoBulkEntries {H : Type} : List (Lit × DataW H) → Nat
  | [] => 0
  | x :: r => uptoBulkEntry x + uptoBulkEntries r
def uptoBulkEntry {H : Type} : Lit × DataW H → Nat
  | (.string bytes, d) => bytes.length + uptoBulk d + 1
  | (_, d) => uptoBulk d + 1
 end
def uptoSmall : (H : Type) → List (DataW H) → Bool := fun _ ds => decide (uptoBulkAll ds ≤ 1048576)
def OpenSpec.upto (s : _root_.Go.ChangeSpec) : _root_.Go.OpenSpec := { _root_.Go.OpenSpec.ofChange s with cond := some uptoSmall }

/-- 'hydrantlaw18.WorldPops', WHERE WHAT IT READS IS OF BULK AT MOST 1048576: true; the input reads as it did. -/
def worldPopsUptoRow : OpenClaim := { program := "ytkkhdnddplkobaa", sum := "9c9aaecb64675ac647acc7717d7f06e6da8d86a73cdf82ab30d30e8a9bb255bb", func := "hydrant/hydrantlaw18.WorldPops", spec := "worldPops", inPlace := ["internal/bytealg.IndexByteString"], unfollowed := true, recurses := true, apart := false, narrowed := true }
def WorldPopsUptoSaid : Prop := worldPopsUptoRow.holds Try.pinned (OpenSpec.upto worldPopsSpec)

/-- 'hydrantlaw18.WorldSnaps', WHERE WHAT IT READS IS OF BULK AT MOST 1048576: true; the input reads as it did. -/
def worldSnapsUptoRow : OpenClaim := { program := "ytkkhdnddplkobaa", sum := "9c9aaecb64675ac647acc7717d7f06e6da8d86a73cdf82ab30d30e8a9bb255bb", func := "hydrant/hydrantlaw18.WorldSnaps", spec := "worldSnaps", inPlace := ["internal/bytealg.IndexByteString"], unfollowed := true, recurses := true, apart := false, narrowed := true }
def WorldSnapsUptoSaid : Prop := worldSnapsUptoRow.holds Try.pinned (OpenSpec.upto worldSnapsSpec)

/-- 'hydrantlaw25.StatsAlone', WHERE WHAT IT READS IS OF BULK AT MOST 1048576: true; the input reads as it did. -/
def statsAloneUptoRow : OpenClaim := { program := "ytkkhdnddplkobaa", sum := "9c9aaecb64675ac647acc7717d7f06e6da8d86a73cdf82ab30d30e8a9bb255bb", func := "hydrant/hydrantlaw25.StatsAlone", spec := "statsAlone", inPlace := ["internal/bytealg.IndexByteString"], unfollowed := true, recurses := true, apart := false, narrowed := true }
def StatsAloneUptoSaid : Prop := statsAloneUptoRow.holds Try.pinned (OpenSpec.upto statsAloneSpec)

/-- 'hydrantlaw19.PinThree', WHERE WHAT IT READS IS OF BULK AT MOST 1048576: true; the input reads as it did. -/
def pinThreeUptoRow : OpenClaim := { program := "ytkkhdnddplkobaa", sum := "9c9aaecb64675ac647acc7717d7f06e6da8d86a73cdf82ab30d30e8a9bb255bb", func := "hydrant/hydrantlaw19.PinThree", spec := "pinThree", inPlace := ["internal/bytealg.IndexByteString"], unfollowed := true, recurses := true, apart := false, narrowed := true }
def PinThreeUptoSaid : Prop := pinThreeUptoRow.holds Try.pinned (OpenSpec.upto pinThreeSpec)

/-- 'hydrantlaw19.PinRaces', WHERE WHAT IT READS IS OF BULK AT MOST 1048576: true; the input reads as it did. -/
def pinRacesUptoRow : OpenClaim := { program := "ytkkhdnddplkobaa", sum := "9c9aaecb64675ac647acc7717d7f06e6da8d86a73cdf82ab30d30e8a9bb255bb", func := "hydrant/hydrantlaw19.PinRaces", spec := "pinRaces", inPlace := ["internal/bytealg.IndexByteString"], unfollowed := true, recurses := true, apart := false, narrowed := true }
def PinRacesUptoSaid : Prop := pinRacesUptoRow.holds Try.pinned (OpenSpec.upto pinRacesSpec)

/-- 'hydrantlaw19.PinKeeps', WHERE WHAT IT READS IS OF BULK AT MOST 1048576: true; the input reads as it did. -/
def pinKeepsUptoRow : OpenClaim := { program := "ytkkhdnddplkobaa", sum := "9c9aaecb64675ac647acc7717d7f06e6da8d86a73cdf82ab30d30e8a9bb255bb", func := "hydrant/hydrantlaw19.PinKeeps", spec := "pinKeeps", inPlace := ["internal/bytealg.IndexByteString"], unfollowed := true, recurses := true, apart := false, narrowed := true }
def PinKeepsUptoSaid : Prop := pinKeepsUptoRow.holds Try.pinned (OpenSpec.upto pinKeepsSpec)

/-- 'hydrantlaw25.StatsBetween', WHERE WHAT IT READS IS OF BULK AT MOST 1048576: true; the input reads as it did. -/
def statsBetweenUptoRow : OpenClaim := { program := "ytkkhdnddplkobaa", sum := "9c9aaecb64675ac647acc7717d7f06e6da8d86a73cdf82ab30d30e8a9bb255bb", func := "hydrant/hydrantlaw25.StatsBetween", spec := "statsBetween", inPlace := ["internal/bytealg.IndexByteString"], unfollowed := true, recurses := true, apart := false, narrowed := true }
def StatsBetweenUptoSaid : Prop := statsBetweenUptoRow.holds Try.pinned (OpenSpec.upto statsBetweenSpec)

end Rows
end Go.Proofs.Ytkkhdnddplkobaa
