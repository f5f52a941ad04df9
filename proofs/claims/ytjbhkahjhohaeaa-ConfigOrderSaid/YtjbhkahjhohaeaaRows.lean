/-
  No cell of these rows narrows 'for every input' (looked for: loops, veiled, ifaces, maps, wideKeys, modest, calm, conditions, laid).
  DERIVED. THE GIVEN ROWS OF THIS SEAT. 10 by the template 'for every input the law returns true; each argument reads behind the call as it read before'; 0 by the template 'total and deterministic' (their statements: YtjbhkahjhohaeaaTotals.lean).
  GIVEN WITH THE SEED: the statements are not yours to turn. If you find one false, say at which input.
  Laid BY PROGRAM, IN A SANDBOX (cutbox-rows.mjs): the forced cells as the released guide's own fill.sh prints them over the translation 0218f28e0d5551e5… (all of the seat's roots in one cut). By AI agents, Wed Nov 11 2026. No macro, syntax, notation, axiom, sorry.
-/
import Derived.Test.YtjbhkahjhohaeaaChecked
import GoSem.Claim
import GoSem.ClaimJoined
import GoSem.ClaimMapViews
import Derived.JoinedTies
import Derived.KernelRfl
namespace Go.Proofs.Ytjbhkahjhohaeaa
/- THE CELL 'sum', in the pinned program and in every row, IS THE sha256 OF THE DUMP (.gsa) THAT YtjbhkahjhohaeaaProg.lean LOADS. Nothing in Lean hashes anything: it is a label: what it is worth is what the hold of that sum in a sandbox is worth. -/
noncomputable def Try.pinned : Pinned := { name := "ytjbhkahjhohaeaa", sum := "0218f28e0d5551e5471ea944856d3f70d8c32aac456074d800212e1a5e22cda2", checked := Try.checked }
namespace Rows
def none {H : Type} : Left H := { results := [], args := [] }

/-- 'hydrantlaw06.RoutesBest': WHATEVER THE INPUT: true; the input reads as it did. -/
def routesBestSpec : ChangeSpec := { name := "routesBest", fn := fun _ => fun
  | [d1, d2, d3, d4] => { results := [.lit (.bool true)], args := [d1, d2, d3, d4] }
  | _ => none }
def routesBestRow : OpenClaim := { program := "ytjbhkahjhohaeaa", sum := "0218f28e0d5551e5471ea944856d3f70d8c32aac456074d800212e1a5e22cda2", func := "hydrant/hydrantlaw06.RoutesBest", spec := "routesBest", inPlace := ["internal/bytealg.IndexByteString"], unfollowed := true, recurses := true, apart := false }
def RoutesBestSaid : Prop := routesBestRow.holds Try.pinned (OpenSpec.ofChange routesBestSpec)

/-- ITS FALSE NEIGHBOUR: 'it returns false'. Refute it at one input. -/
def routesBestWrong : ChangeSpec := { name := "routesBest", fn := fun _ => fun
  | [d1, d2, d3, d4] => { results := [.lit (.bool false)], args := [d1, d2, d3, d4] }
  | _ => none }
def RoutesBestWrongFalsely : Prop := routesBestRow.holds Try.pinned (OpenSpec.ofChange routesBestWrong)

/-- 'hydrantlaw06.RoutesFit': WHATEVER THE INPUT: true; the input reads as it did. -/
def routesFitSpec : ChangeSpec := { name := "routesFit", fn := fun _ => fun
  | [d1, d2, d3, d4, d5] => { results := [.lit (.bool true)], args := [d1, d2, d3, d4, d5] }
  | _ => none }
def routesFitRow : OpenClaim := { program := "ytjbhkahjhohaeaa", sum := "0218f28e0d5551e5471ea944856d3f70d8c32aac456074d800212e1a5e22cda2", func := "hydrant/hydrantlaw06.RoutesFit", spec := "routesFit", inPlace := ["internal/bytealg.IndexByteString"], unfollowed := true, recurses := true, apart := false }
def RoutesFitSaid : Prop := routesFitRow.holds Try.pinned (OpenSpec.ofChange routesFitSpec)

/-- ITS FALSE NEIGHBOUR: 'it returns false'. Refute it at one input. -/
def routesFitWrong : ChangeSpec := { name := "routesFit", fn := fun _ => fun
  | [d1, d2, d3, d4, d5] => { results := [.lit (.bool false)], args := [d1, d2, d3, d4, d5] }
  | _ => none }
def RoutesFitWrongFalsely : Prop := routesFitRow.holds Try.pinned (OpenSpec.ofChange routesFitWrong)

/-- 'hydrantlaw06.RoutesIdle': WHATEVER THE INPUT: true; the input reads as it did. -/
def routesIdleSpec : ChangeSpec := { name := "routesIdle", fn := fun _ => fun
  | [d1, d2, d3, d4, d5, d6] => { results := [.lit (.bool true)], args := [d1, d2, d3, d4, d5, d6] }
  | _ => none }
def routesIdleRow : OpenClaim := { program := "ytjbhkahjhohaeaa", sum := "0218f28e0d5551e5471ea944856d3f70d8c32aac456074d800212e1a5e22cda2", func := "hydrant/hydrantlaw06.RoutesIdle", spec := "routesIdle", inPlace := ["internal/bytealg.IndexByteString"], unfollowed := true, recurses := true, apart := false }
def RoutesIdleSaid : Prop := routesIdleRow.holds Try.pinned (OpenSpec.ofChange routesIdleSpec)

/-- ITS FALSE NEIGHBOUR: 'it returns false'. Refute it at one input. -/
def routesIdleWrong : ChangeSpec := { name := "routesIdle", fn := fun _ => fun
  | [d1, d2, d3, d4, d5, d6] => { results := [.lit (.bool false)], args := [d1, d2, d3, d4, d5, d6] }
  | _ => none }
def RoutesIdleWrongFalsely : Prop := routesIdleRow.holds Try.pinned (OpenSpec.ofChange routesIdleWrong)

/-- 'hydrantlaw06.RoutesMore': WHATEVER THE INPUT: true; the input reads as it did. -/
def routesMoreSpec : ChangeSpec := { name := "routesMore", fn := fun _ => fun
  | [d1, d2, d3, d4, d5] => { results := [.lit (.bool true)], args := [d1, d2, d3, d4, d5] }
  | _ => none }
def routesMoreRow : OpenClaim := { program := "ytjbhkahjhohaeaa", sum := "0218f28e0d5551e5471ea944856d3f70d8c32aac456074d800212e1a5e22cda2", func := "hydrant/hydrantlaw06.RoutesMore", spec := "routesMore", inPlace := ["internal/bytealg.IndexByteString"], unfollowed := true, recurses := true, apart := false }
def RoutesMoreSaid : Prop := routesMoreRow.holds Try.pinned (OpenSpec.ofChange routesMoreSpec)

/-- ITS FALSE NEIGHBOUR: 'it returns false'. Refute it at one input. -/
def routesMoreWrong : ChangeSpec := { name := "routesMore", fn := fun _ => fun
  | [d1, d2, d3, d4, d5] => { results := [.lit (.bool false)], args := [d1, d2, d3, d4, d5] }
  | _ => none }
def RoutesMoreWrongFalsely : Prop := routesMoreRow.holds Try.pinned (OpenSpec.ofChange routesMoreWrong)

/-- 'hydrantlaw06.RoutesTwice': WHATEVER THE INPUT: true; the input reads as it did. -/
def routesTwiceSpec : ChangeSpec := { name := "routesTwice", fn := fun _ => fun
  | [d1, d2, d3, d4, d5] => { results := [.lit (.bool true)], args := [d1, d2, d3, d4, d5] }
  | _ => none }
def routesTwiceRow : OpenClaim := { program := "ytjbhkahjhohaeaa", sum := "0218f28e0d5551e5471ea944856d3f70d8c32aac456074d800212e1a5e22cda2", func := "hydrant/hydrantlaw06.RoutesTwice", spec := "routesTwice", inPlace := ["internal/bytealg.IndexByteString"], unfollowed := true, recurses := true, apart := false }
def RoutesTwiceSaid : Prop := routesTwiceRow.holds Try.pinned (OpenSpec.ofChange routesTwiceSpec)

/-- ITS FALSE NEIGHBOUR: 'it returns false'. Refute it at one input. -/
def routesTwiceWrong : ChangeSpec := { name := "routesTwice", fn := fun _ => fun
  | [d1, d2, d3, d4, d5] => { results := [.lit (.bool false)], args := [d1, d2, d3, d4, d5] }
  | _ => none }
def RoutesTwiceWrongFalsely : Prop := routesTwiceRow.holds Try.pinned (OpenSpec.ofChange routesTwiceWrong)

/-- 'hydrantlaw05.ConfigChecks': WHATEVER THE INPUT: true; the input reads as it did. -/
def configChecksSpec : ChangeSpec := { name := "configChecks", fn := fun _ => fun
  | [d] => { results := [.lit (.bool true)], args := [d] }
  | _ => none }
def configChecksRow : OpenClaim := { program := "ytjbhkahjhohaeaa", sum := "0218f28e0d5551e5471ea944856d3f70d8c32aac456074d800212e1a5e22cda2", func := "hydrant/hydrantlaw05.ConfigChecks", spec := "configChecks", inPlace := ["internal/bytealg.IndexByteString"], unfollowed := true, recurses := true, apart := false }
def ConfigChecksSaid : Prop := configChecksRow.holds Try.pinned (OpenSpec.ofChange configChecksSpec)

/-- ITS FALSE NEIGHBOUR: 'it returns false'. Refute it at one input. -/
def configChecksWrong : ChangeSpec := { name := "configChecks", fn := fun _ => fun
  | [d] => { results := [.lit (.bool false)], args := [d] }
  | _ => none }
def ConfigChecksWrongFalsely : Prop := configChecksRow.holds Try.pinned (OpenSpec.ofChange configChecksWrong)

/-- 'hydrantlaw05.ConfigLess': WHATEVER THE INPUT: true; the input reads as it did. -/
def configLessSpec : ChangeSpec := { name := "configLess", fn := fun _ => fun
  | [d] => { results := [.lit (.bool true)], args := [d] }
  | _ => none }
def configLessRow : OpenClaim := { program := "ytjbhkahjhohaeaa", sum := "0218f28e0d5551e5471ea944856d3f70d8c32aac456074d800212e1a5e22cda2", func := "hydrant/hydrantlaw05.ConfigLess", spec := "configLess", inPlace := ["internal/bytealg.IndexByteString"], unfollowed := true, recurses := true, apart := false }
def ConfigLessSaid : Prop := configLessRow.holds Try.pinned (OpenSpec.ofChange configLessSpec)

/-- ITS FALSE NEIGHBOUR: 'it returns false'. Refute it at one input. -/
def configLessWrong : ChangeSpec := { name := "configLess", fn := fun _ => fun
  | [d] => { results := [.lit (.bool false)], args := [d] }
  | _ => none }
def ConfigLessWrongFalsely : Prop := configLessRow.holds Try.pinned (OpenSpec.ofChange configLessWrong)

/-- 'hydrantlaw05.ConfigOrder': WHATEVER THE INPUT: true; the input reads as it did. -/
def configOrderSpec : ChangeSpec := { name := "configOrder", fn := fun _ => fun
  | [d] => { results := [.lit (.bool true)], args := [d] }
  | _ => none }
def configOrderRow : OpenClaim := { program := "ytjbhkahjhohaeaa", sum := "0218f28e0d5551e5471ea944856d3f70d8c32aac456074d800212e1a5e22cda2", func := "hydrant/hydrantlaw05.ConfigOrder", spec := "configOrder", inPlace := ["internal/bytealg.IndexByteString"], unfollowed := true, recurses := true, apart := false }
def ConfigOrderSaid : Prop := configOrderRow.holds Try.pinned (OpenSpec.ofChange configOrderSpec)

/-- ITS FALSE NEIGHBOUR: 'it returns false'. Refute it at one input. -/
def configOrderWrong : ChangeSpec := { name := "configOrder", fn := fun _ => fun
  | [d] => { results := [.lit (.bool false)], args := [d] }
  | _ => none }
def ConfigOrderWrongFalsely : Prop := configOrderRow.holds Try.pinned (OpenSpec.ofChange configOrderWrong)

/-- 'hydrantlaw05.ConfigTwice': WHATEVER THE INPUT: true; the input reads as it did. -/
def configTwiceSpec : ChangeSpec := { name := "configTwice", fn := fun _ => fun
  | [d1, d2] => { results := [.lit (.bool true)], args := [d1, d2] }
  | _ => none }
def configTwiceRow : OpenClaim := { program := "ytjbhkahjhohaeaa", sum := "0218f28e0d5551e5471ea944856d3f70d8c32aac456074d800212e1a5e22cda2", func := "hydrant/hydrantlaw05.ConfigTwice", spec := "configTwice", inPlace := ["internal/bytealg.IndexByteString"], unfollowed := true, recurses := true, apart := false }
def ConfigTwiceSaid : Prop := configTwiceRow.holds Try.pinned (OpenSpec.ofChange configTwiceSpec)

/-- ITS FALSE NEIGHBOUR: 'it returns false'. Refute it at one input. -/
def configTwiceWrong : ChangeSpec := { name := "configTwice", fn := fun _ => fun
  | [d1, d2] => { results := [.lit (.bool false)], args := [d1, d2] }
  | _ => none }
def ConfigTwiceWrongFalsely : Prop := configTwiceRow.holds Try.pinned (OpenSpec.ofChange configTwiceWrong)

/-- 'hydrantlaw05.ConfigParts': WHATEVER THE INPUT: true; the input reads as it did. -/
def configPartsSpec : ChangeSpec := { name := "configParts", fn := fun _ => fun
  | [d] => { results := [.lit (.bool true)], args := [d] }
  | _ => none }
def configPartsRow : OpenClaim := { program := "ytjbhkahjhohaeaa", sum := "0218f28e0d5551e5471ea944856d3f70d8c32aac456074d800212e1a5e22cda2", func := "hydrant/hydrantlaw05.ConfigParts", spec := "configParts", inPlace := ["internal/bytealg.IndexByteString"], unfollowed := true, recurses := true, apart := false }
def ConfigPartsSaid : Prop := configPartsRow.holds Try.pinned (OpenSpec.ofChange configPartsSpec)

/-- ITS FALSE NEIGHBOUR: 'it returns false'. Refute it at one input. -/
def configPartsWrong : ChangeSpec := { name := "configParts", fn := fun _ => fun
  | [d] => { results := [.lit (.bool false)], args := [d] }
  | _ => none }
def ConfigPartsWrongFalsely : Prop := configPartsRow.holds Try.pinned (OpenSpec.ofChange configPartsWrong)

/- THE SECOND FORM. 'bulk': how many values and letters a reading holds, each counted each time it is reached (what is shared counts as often as it is met; a slice's spare places count too). A statement '..UptoSaid' is the law's where the arguments, and the package variables that the reading takes, are together of bulk at most 1048576: NARROWER than '..Said'. Prove '..Said' where nothing that the law and all that it calls make is longer than what came in: it says more and counts as full. Else prove '..UptoSaid'. A law counts once. -/
mutual
def uptoBulk {H : Type} : DataW H → Nat
  | .lit (.string bytes) => bytes.length + 1
  | .lit _ => 1
  | .nil => 1
  | .ptr d => uptoBulk d + 1
  | .slice elems spare => uptoBulkAll elems + uptoBulkAll spare + 1
  | .agg parts => uptoBulkAll parts + 1
  | .iface _ d => uptoBulk d + 1
  | .map entries => uptoBulkEntries entries + 1
  | .held _ => 1
def uptoBulkAll {H : Type} : List (DataW H) → Nat
  | [] => 0
  | d :: r => uptoBulk d + uptoBulkAll r
def uptoBulkEntries {H : Type} : List (Lit × DataW H) → Nat
  | [] => 0
  | x :: r => uptoBulkEntry x + uptoBulkEntries r
def uptoBulkEntry {H : Type} : Lit × DataW H → Nat
  | (.string bytes, d) => bytes.length + uptoBulk d + 1
  | (_, d) => uptoBulk d + 1
 end
def uptoSmall : (H : Type) → List (DataW H) → Bool := fun _ ds => decide (uptoBulkAll ds ≤ 1048576)
def OpenSpec.upto (s : _root_.Go.ChangeSpec) : _root_.Go.OpenSpec := { _root_.Go.OpenSpec.ofChange s with cond := some uptoSmall }

/-- 'hydrantlaw06.RoutesBest', WHERE WHAT IT READS IS OF BULK AT MOST 1048576: true; the input reads as it did. -/
def routesBestUptoRow : OpenClaim := { program := "ytjbhkahjhohaeaa", sum := "0218f28e0d5551e5471ea944856d3f70d8c32aac456074d800212e1a5e22cda2", func := "hydrant/hydrantlaw06.RoutesBest", spec := "routesBest", inPlace := ["internal/bytealg.IndexByteString"], unfollowed := true, recurses := true, apart := false, narrowed := true }
def RoutesBestUptoSaid : Prop := routesBestUptoRow.holds Try.pinned (OpenSpec.upto routesBestSpec)

/-- 'hydrantlaw06.RoutesFit', WHERE WHAT IT READS IS OF BULK AT MOST 1048576: true; the input reads as it did. -/
def routesFitUptoRow : OpenClaim := { program := "ytjbhkahjhohaeaa", sum := "0218f28e0d5551e5471ea944856d3f70d8c32aac456074d800212e1a5e22cda2", func := "hydrant/hydrantlaw06.RoutesFit", spec := "routesFit", inPlace := ["internal/bytealg.IndexByteString"], unfollowed := true, recurses := true, apart := false, narrowed := true }
def RoutesFitUptoSaid : Prop := routesFitUptoRow.holds Try.pinned (OpenSpec.upto routesFitSpec)

/-- 'hydrantlaw06.RoutesIdle', WHERE WHAT IT READS IS OF BULK AT MOST 1048576: true; the input reads as it did. -/
def routesIdleUptoRow : OpenClaim := { program := "ytjbhkahjhohaeaa", sum := "0218f28e0d5551e5471ea944856d3f70d8c32aac456074d800212e1a5e22cda2", func := "hydrant/hydrantlaw06.RoutesIdle", spec := "routesIdle", inPlace := ["internal/bytealg.IndexByteString"], unfollowed := true, recurses := true, apart := false, narrowed := true }
def RoutesIdleUptoSaid : Prop := routesIdleUptoRow.holds Try.pinned (OpenSpec.upto routesIdleSpec)

/-- 'hydrantlaw06.RoutesMore', WHERE WHAT IT READS IS OF BULK AT MOST 1048576: true; the input reads as it did. -/
def routesMoreUptoRow : OpenClaim := { program := "ytjbhkahjhohaeaa", sum := "0218f28e0d5551e5471ea944856d3f70d8c32aac456074d800212e1a5e22cda2", func := "hydrant/hydrantlaw06.RoutesMore", spec := "routesMore", inPlace := ["internal/bytealg.IndexByteString"], unfollowed := true, recurses := true, apart := false, narrowed := true }
def RoutesMoreUptoSaid : Prop := routesMoreUptoRow.holds Try.pinned (OpenSpec.upto routesMoreSpec)

/-- 'hydrantlaw06.RoutesTwice', WHERE WHAT IT READS IS OF BULK AT MOST 1048576: true; the input reads as it did. -/
def routesTwiceUptoRow : OpenClaim := { program := "ytjbhkahjhohaeaa", sum := "0218f28e0d5551e5471ea944856d3f70d8c32aac456074d800212e1a5e22cda2", func := "hydrant/hydrantlaw06.RoutesTwice", spec := "routesTwice", inPlace := ["internal/bytealg.IndexByteString"], unfollowed := true, recurses := true, apart := false, narrowed := true }
def RoutesTwiceUptoSaid : Prop := routesTwiceUptoRow.holds Try.pinned (OpenSpec.upto routesTwiceSpec)

/-- 'hydrantlaw05.ConfigChecks', WHERE WHAT IT READS IS OF BULK AT MOST 1048576: true; the input reads as it did. -/
def configChecksUptoRow : OpenClaim := { program := "ytjbhkahjhohaeaa", sum := "0218f28e0d5551e5471ea944856d3f70d8c32aac456074d800212e1a5e22cda2", func := "hydrant/hydrantlaw05.ConfigChecks", spec := "configChecks", inPlace := ["internal/bytealg.IndexByteString"], unfollowed := true, recurses := true, apart := false, narrowed := true }
def ConfigChecksUptoSaid : Prop := configChecksUptoRow.holds Try.pinned (OpenSpec.upto configChecksSpec)

/-- 'hydrantlaw05.ConfigLess', WHERE WHAT IT READS IS OF BULK AT MOST 1048576: true; the input reads as it did. -/
def configLessUptoRow : OpenClaim := { program := "ytjbhkahjhohaeaa", sum := "0218f28e0d5551e5471ea944856d3f70d8c32aac456074d800212e1a5e22cda2", func := "hydrant/hydrantlaw05.ConfigLess", spec := "configLess", inPlace := ["internal/bytealg.IndexByteString"], unfollowed := true, recurses := true, apart := false, narrowed := true }
def ConfigLessUptoSaid : Prop := configLessUptoRow.holds Try.pinned (OpenSpec.upto configLessSpec)

/-- 'hydrantlaw05.ConfigOrder', WHERE WHAT IT READS IS OF BULK AT MOST 1048576: true; the input reads as it did. -/
def configOrderUptoRow : OpenClaim := { program := "ytjbhkahjhohaeaa", sum := "0218f28e0d5551e5471ea944856d3f70d8c32aac456074d800212e1a5e22cda2", func := "hydrant/hydrantlaw05.ConfigOrder", spec := "configOrder", inPlace := ["internal/bytealg.IndexByteString"], unfollowed := true, recurses := true, apart := false, narrowed := true }
def ConfigOrderUptoSaid : Prop := configOrderUptoRow.holds Try.pinned (OpenSpec.upto configOrderSpec)

/-- 'hydrantlaw05.ConfigTwice', WHERE WHAT IT READS IS OF BULK AT MOST 1048576: true; the input reads as it did. -/
def configTwiceUptoRow : OpenClaim := { program := "ytjbhkahjhohaeaa", sum := "0218f28e0d5551e5471ea944856d3f70d8c32aac456074d800212e1a5e22cda2", func := "hydrant/hydrantlaw05.ConfigTwice", spec := "configTwice", inPlace := ["internal/bytealg.IndexByteString"], unfollowed := true, recurses := true, apart := false, narrowed := true }
def ConfigTwiceUptoSaid : Prop := configTwiceUptoRow.holds Try.pinned (OpenSpec.upto configTwiceSpec)

/-- 'hydrantlaw05.ConfigParts', WHERE WHAT IT READS IS OF BULK AT MOST 1048576: true; the input reads as it did. -/
def configPartsUptoRow : OpenClaim := { program := "ytjbhkahjhohaeaa", sum := "0218f28e0d5551e5471ea944856d3f70d8c32aac456074d800212e1a5e22cda2", func := "hydrant/hydrantlaw05.ConfigParts", spec := "configParts", inPlace := ["internal/bytealg.IndexByteString"], unfollowed := true, recurses := true, apart := false, narrowed := true }
def ConfigPartsUptoSaid : Prop := configPartsUptoRow.holds Try.pinned (OpenSpec.upto configPartsSpec)

end Rows
end Go.Proofs.Ytjbhkahjhohaeaa
