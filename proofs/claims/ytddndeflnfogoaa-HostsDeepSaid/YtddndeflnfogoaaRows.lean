/-
  No cell of these rows narrows 'for every input' (looked for: loops, veiled, ifaces, maps, wideKeys, modest, calm, conditions, laid).
  DERIVED. THE GIVEN ROWS OF THIS SEAT. 8 by the template 'for every input the law returns true; each argument reads behind the call as it read before'; 0 by the template 'total and deterministic' (their statements: YtddndeflnfogoaaTotals.lean).
  GIVEN WITH THE SEED: the statements are not yours to turn. If you find one false, say at which input.
  Laid BY PROGRAM, IN A SANDBOX (cutbox-rows.mjs): the forced cells as the released guide's own fill.sh prints them over the translation b5dd9967fe21a85c… (all of the seat's roots in one cut). By AI agents, Wed Nov 11 2026. No macro, syntax, notation, axiom, sorry.
-/
import Derived.Test.YtddndeflnfogoaaChecked
import GoSem.Claim
import GoSem.ClaimJoined
import GoSem.ClaimMapViews
import Derived.JoinedTies
import Derived.KernelRfl
namespace Go.Proofs.Ytddndeflnfogoaa
/- THE CELL 'sum', in the pinned program and in every row, IS THE sha256 OF THE DUMP (.gsa) THAT YtddndeflnfogoaaProg.lean LOADS. Nothing in Lean hashes anything: it is a label: what it is worth is what the hold of that sum in a sandbox is worth. -/
noncomputable def Try.pinned : Pinned := { name := "ytddndeflnfogoaa", sum := "b5dd9967fe21a85c2f1dcd809af94602fe9e0bbc2c25cf443d3f215994be71bd", checked := Try.checked }
namespace Rows
def none {H : Type} : Left H := { results := [], args := [] }

/-- 'hydrantlaw15.EpochTells': WHATEVER THE INPUT: true; the input reads as it did. -/
def epochTellsSpec : ChangeSpec := { name := "epochTells", fn := fun _ => fun
  | [d1, d2, d3] => { results := [.lit (.bool true)], args := [d1, d2, d3] }
  | _ => none }
def epochTellsRow : OpenClaim := { program := "ytddndeflnfogoaa", sum := "b5dd9967fe21a85c2f1dcd809af94602fe9e0bbc2c25cf443d3f215994be71bd", func := "hydrant/hydrantlaw15.EpochTells", spec := "epochTells", unfollowed := true, recurses := true, apart := false }
def EpochTellsSaid : Prop := epochTellsRow.holds Try.pinned (OpenSpec.ofChange epochTellsSpec)

/-- ITS FALSE NEIGHBOUR: 'it returns false'. Refute it at one input. -/
def epochTellsWrong : ChangeSpec := { name := "epochTells", fn := fun _ => fun
  | [d1, d2, d3] => { results := [.lit (.bool false)], args := [d1, d2, d3] }
  | _ => none }
def EpochTellsWrongFalsely : Prop := epochTellsRow.holds Try.pinned (OpenSpec.ofChange epochTellsWrong)

/-- 'hydrantlaw15.EpochWaits': WHATEVER THE INPUT: true; the input reads as it did. -/
def epochWaitsSpec : ChangeSpec := { name := "epochWaits", fn := fun _ => fun
  | [d1, d2, d3, d4] => { results := [.lit (.bool true)], args := [d1, d2, d3, d4] }
  | _ => none }
def epochWaitsRow : OpenClaim := { program := "ytddndeflnfogoaa", sum := "b5dd9967fe21a85c2f1dcd809af94602fe9e0bbc2c25cf443d3f215994be71bd", func := "hydrant/hydrantlaw15.EpochWaits", spec := "epochWaits", unfollowed := true, recurses := true, apart := false }
def EpochWaitsSaid : Prop := epochWaitsRow.holds Try.pinned (OpenSpec.ofChange epochWaitsSpec)

/-- ITS FALSE NEIGHBOUR: 'it returns false'. Refute it at one input. -/
def epochWaitsWrong : ChangeSpec := { name := "epochWaits", fn := fun _ => fun
  | [d1, d2, d3, d4] => { results := [.lit (.bool false)], args := [d1, d2, d3, d4] }
  | _ => none }
def EpochWaitsWrongFalsely : Prop := epochWaitsRow.holds Try.pinned (OpenSpec.ofChange epochWaitsWrong)

/-- 'hydrantlaw15.EpochFree': WHATEVER THE INPUT: true; the input reads as it did. -/
def epochFreeSpec : ChangeSpec := { name := "epochFree", fn := fun _ => fun
  | [d1, d2, d3] => { results := [.lit (.bool true)], args := [d1, d2, d3] }
  | _ => none }
def epochFreeRow : OpenClaim := { program := "ytddndeflnfogoaa", sum := "b5dd9967fe21a85c2f1dcd809af94602fe9e0bbc2c25cf443d3f215994be71bd", func := "hydrant/hydrantlaw15.EpochFree", spec := "epochFree", unfollowed := true, recurses := true, apart := false }
def EpochFreeSaid : Prop := epochFreeRow.holds Try.pinned (OpenSpec.ofChange epochFreeSpec)

/-- ITS FALSE NEIGHBOUR: 'it returns false'. Refute it at one input. -/
def epochFreeWrong : ChangeSpec := { name := "epochFree", fn := fun _ => fun
  | [d1, d2, d3] => { results := [.lit (.bool false)], args := [d1, d2, d3] }
  | _ => none }
def EpochFreeWrongFalsely : Prop := epochFreeRow.holds Try.pinned (OpenSpec.ofChange epochFreeWrong)

/-- 'hydrantlaw04.HostsMatch': WHATEVER THE INPUT: true; the input reads as it did. -/
def hostsMatchSpec : ChangeSpec := { name := "hostsMatch", fn := fun _ => fun
  | [d1, d2] => { results := [.lit (.bool true)], args := [d1, d2] }
  | _ => none }
def hostsMatchRow : OpenClaim := { program := "ytddndeflnfogoaa", sum := "b5dd9967fe21a85c2f1dcd809af94602fe9e0bbc2c25cf443d3f215994be71bd", func := "hydrant/hydrantlaw04.HostsMatch", spec := "hostsMatch", inPlace := ["internal/bytealg.IndexByteString"], unfollowed := true, recurses := true, apart := false }
def HostsMatchSaid : Prop := hostsMatchRow.holds Try.pinned (OpenSpec.ofChange hostsMatchSpec)

/-- ITS FALSE NEIGHBOUR: 'it returns false'. Refute it at one input. -/
def hostsMatchWrong : ChangeSpec := { name := "hostsMatch", fn := fun _ => fun
  | [d1, d2] => { results := [.lit (.bool false)], args := [d1, d2] }
  | _ => none }
def HostsMatchWrongFalsely : Prop := hostsMatchRow.holds Try.pinned (OpenSpec.ofChange hostsMatchWrong)

/-- 'hydrantlaw04.HostsBetter': WHATEVER THE INPUT: true; the input reads as it did. -/
def hostsBetterSpec : ChangeSpec := { name := "hostsBetter", fn := fun _ => fun
  | [d1, d2, d3, d4] => { results := [.lit (.bool true)], args := [d1, d2, d3, d4] }
  | _ => none }
def hostsBetterRow : OpenClaim := { program := "ytddndeflnfogoaa", sum := "b5dd9967fe21a85c2f1dcd809af94602fe9e0bbc2c25cf443d3f215994be71bd", func := "hydrant/hydrantlaw04.HostsBetter", spec := "hostsBetter", inPlace := ["internal/bytealg.IndexByteString"], unfollowed := true, recurses := true, apart := false }
def HostsBetterSaid : Prop := hostsBetterRow.holds Try.pinned (OpenSpec.ofChange hostsBetterSpec)

/-- ITS FALSE NEIGHBOUR: 'it returns false'. Refute it at one input. -/
def hostsBetterWrong : ChangeSpec := { name := "hostsBetter", fn := fun _ => fun
  | [d1, d2, d3, d4] => { results := [.lit (.bool false)], args := [d1, d2, d3, d4] }
  | _ => none }
def HostsBetterWrongFalsely : Prop := hostsBetterRow.holds Try.pinned (OpenSpec.ofChange hostsBetterWrong)

/-- 'hydrantlaw04.HostsUnlike': WHATEVER THE INPUT: true; the input reads as it did. -/
def hostsUnlikeSpec : ChangeSpec := { name := "hostsUnlike", fn := fun _ => fun
  | [d1, d2, d3] => { results := [.lit (.bool true)], args := [d1, d2, d3] }
  | _ => none }
def hostsUnlikeRow : OpenClaim := { program := "ytddndeflnfogoaa", sum := "b5dd9967fe21a85c2f1dcd809af94602fe9e0bbc2c25cf443d3f215994be71bd", func := "hydrant/hydrantlaw04.HostsUnlike", spec := "hostsUnlike", inPlace := ["internal/bytealg.IndexByteString"], unfollowed := true, recurses := true, apart := false }
def HostsUnlikeSaid : Prop := hostsUnlikeRow.holds Try.pinned (OpenSpec.ofChange hostsUnlikeSpec)

/-- ITS FALSE NEIGHBOUR: 'it returns false'. Refute it at one input. -/
def hostsUnlikeWrong : ChangeSpec := { name := "hostsUnlike", fn := fun _ => fun
  | [d1, d2, d3] => { results := [.lit (.bool false)], args := [d1, d2, d3] }
  | _ => none }
def HostsUnlikeWrongFalsely : Prop := hostsUnlikeRow.holds Try.pinned (OpenSpec.ofChange hostsUnlikeWrong)

/-- 'hydrantlaw04.HostsUnder': WHATEVER THE INPUT: true; the input reads as it did. -/
def hostsUnderSpec : ChangeSpec := { name := "hostsUnder", fn := fun _ => fun
  | [d1, d2, d3] => { results := [.lit (.bool true)], args := [d1, d2, d3] }
  | _ => none }
def hostsUnderRow : OpenClaim := { program := "ytddndeflnfogoaa", sum := "b5dd9967fe21a85c2f1dcd809af94602fe9e0bbc2c25cf443d3f215994be71bd", func := "hydrant/hydrantlaw04.HostsUnder", spec := "hostsUnder", inPlace := ["internal/bytealg.IndexByteString"], unfollowed := true, recurses := true, apart := false }
def HostsUnderSaid : Prop := hostsUnderRow.holds Try.pinned (OpenSpec.ofChange hostsUnderSpec)

/-- ITS FALSE NEIGHBOUR: 'it returns false'. Refute it at one input. -/
def hostsUnderWrong : ChangeSpec := { name := "hostsUnder", fn := fun _ => fun
  | [d1, d2, d3] => { results := [.lit (.bool false)], args := [d1, d2, d3] }
  | _ => none }
def HostsUnderWrongFalsely : Prop := hostsUnderRow.holds Try.pinned (OpenSpec.ofChange hostsUnderWrong)

/-- 'hydrantlaw04.HostsDeep': WHATEVER THE INPUT: true; the input reads as it did. -/
def hostsDeepSpec : ChangeSpec := { name := "hostsDeep", fn := fun _ => fun
  | [d1, d2, d3] => { results := [.lit (.bool true)], args := [d1, d2, d3] }
  | _ => none }
def hostsDeepRow : OpenClaim := { program := "ytddndeflnfogoaa", sum := "b5dd9967fe21a85c2f1dcd809af94602fe9e0bbc2c25cf443d3f215994be71bd", func := "hydrant/hydrantlaw04.HostsDeep", spec := "hostsDeep", inPlace := ["internal/bytealg.IndexByteString"], unfollowed := true, recurses := true, apart := false }
def HostsDeepSaid : Prop := hostsDeepRow.holds Try.pinned (OpenSpec.ofChange hostsDeepSpec)

/-- ITS FALSE NEIGHBOUR: 'it returns false'. Refute it at one input. -/
def hostsDeepWrong : ChangeSpec := { name := "hostsDeep", fn := fun _ => fun
  | [d1, d2, d3] => { results := [.lit (.bool false)], args := [d1, d2, d3] }
  | _ => none }
def HostsDeepWrongFalsely : Prop := hostsDeepRow.holds Try.pinned (OpenSpec.ofChange hostsDeepWrong)

/- THE SECOND FORM. 'bulk': how many values and letters a reading holds, each counted each time it is reached (what is shared counts as often as it is met; a slice's spare places count too). A statement '..UptoSaid' is the law's where the arguments, and the package variables that the reading takes, are together of bulk at most 1048576: NARROWER than '..Said'. Prove '..Said' where nothing that the law and all that it calls make is longer than what came in: it says more and counts as full. Else prove '..UptoSaid'. A law counts once. -/
mutual
def uptoBulk {H : Type} : DataW H → Nat
  | .lit (.string bytes) => bytes.length + 1
  | .lit _ => 1
  | .nil => 1
  | .ptr d => uptoBulk d + 1
  | .slice elems spare => uptoBulkAll elems + uptoBulkAll spare + 1
  | .agg parts => uptoBulkAll parts + 1
  | .iface _ d => uptoBulk d + 1
  | .map entries => uptoBulkEntries entries + 1
  | .held _ => 1
def uptoBulkAll {H : Type} : List (DataW H) → Nat
  | [] => 0
  | d :: r => uptoBulk d + uptoBulkAll r
def uptoBulkEntries {H : Type} : List (Lit × DataW H) → Nat
  | [] => 0
  | x :: r => uptoBulkEntry x + uptoBulkEntries r
def uptoBulkEntry {H : Type} : Lit × DataW H → Nat
  | (.string bytes, d) => bytes.length + uptoBulk d + 1
  | (_, d) => uptoBulk d + 1
 end
def uptoSmall : (H : Type) → List (DataW H) → Bool := fun _ ds => decide (uptoBulkAll ds ≤ 1048576)
def OpenSpec.upto (s : _root_.Go.ChangeSpec) : _root_.Go.OpenSpec := { _root_.Go.OpenSpec.ofChange s with cond := some uptoSmall }

/-- 'hydrantlaw15.EpochTells', WHERE WHAT IT READS IS OF BULK AT MOST 1048576: true; the input reads as it did. -/
def epochTellsUptoRow : OpenClaim := { program := "ytddndeflnfogoaa", sum := "b5dd9967fe21a85c2f1dcd809af94602fe9e0bbc2c25cf443d3f215994be71bd", func := "hydrant/hydrantlaw15.EpochTells", spec := "epochTells", unfollowed := true, recurses := true, apart := false, narrowed := true }
def EpochTellsUptoSaid : Prop := epochTellsUptoRow.holds Try.pinned (OpenSpec.upto epochTellsSpec)

/-- 'hydrantlaw15.EpochWaits', WHERE WHAT IT READS IS OF BULK AT MOST 1048576: true; the input reads as it did. -/
def epochWaitsUptoRow : OpenClaim := { program := "ytddndeflnfogoaa", sum := "b5dd9967fe21a85c2f1dcd809af94602fe9e0bbc2c25cf443d3f215994be71bd", func := "hydrant/hydrantlaw15.EpochWaits", spec := "epochWaits", unfollowed := true, recurses := true, apart := false, narrowed := true }
def EpochWaitsUptoSaid : Prop := epochWaitsUptoRow.holds Try.pinned (OpenSpec.upto epochWaitsSpec)

/-- 'hydrantlaw15.EpochFree', WHERE WHAT IT READS IS OF BULK AT MOST 1048576: true; the input reads as it did. -/
def epochFreeUptoRow : OpenClaim := { program := "ytddndeflnfogoaa", sum := "b5dd9967fe21a85c2f1dcd809af94602fe9e0bbc2c25cf443d3f215994be71bd", func := "hydrant/hydrantlaw15.EpochFree", spec := "epochFree", unfollowed := true, recurses := true, apart := false, narrowed := true }
def EpochFreeUptoSaid : Prop := epochFreeUptoRow.holds Try.pinned (OpenSpec.upto epochFreeSpec)

/-- 'hydrantlaw04.HostsMatch', WHERE WHAT IT READS IS OF BULK AT MOST 1048576: true; the input reads as it did. -/
def hostsMatchUptoRow : OpenClaim := { program := "ytddndeflnfogoaa", sum := "b5dd9967fe21a85c2f1dcd809af94602fe9e0bbc2c25cf443d3f215994be71bd", func := "hydrant/hydrantlaw04.HostsMatch", spec := "hostsMatch", inPlace := ["internal/bytealg.IndexByteString"], unfollowed := true, recurses := true, apart := false, narrowed := true }
def HostsMatchUptoSaid : Prop := hostsMatchUptoRow.holds Try.pinned (OpenSpec.upto hostsMatchSpec)

/-- 'hydrantlaw04.HostsBetter', WHERE WHAT IT READS IS OF BULK AT MOST 1048576: true; the input reads as it did. -/
def hostsBetterUptoRow : OpenClaim := { program := "ytddndeflnfogoaa", sum := "b5dd9967fe21a85c2f1dcd809af94602fe9e0bbc2c25cf443d3f215994be71bd", func := "hydrant/hydrantlaw04.HostsBetter", spec := "hostsBetter", inPlace := ["internal/bytealg.IndexByteString"], unfollowed := true, recurses := true, apart := false, narrowed := true }
def HostsBetterUptoSaid : Prop := hostsBetterUptoRow.holds Try.pinned (OpenSpec.upto hostsBetterSpec)

/-- 'hydrantlaw04.HostsUnlike', WHERE WHAT IT READS IS OF BULK AT MOST 1048576: true; the input reads as it did. -/
def hostsUnlikeUptoRow : OpenClaim := { program := "ytddndeflnfogoaa", sum := "b5dd9967fe21a85c2f1dcd809af94602fe9e0bbc2c25cf443d3f215994be71bd", func := "hydrant/hydrantlaw04.HostsUnlike", spec := "hostsUnlike", inPlace := ["internal/bytealg.IndexByteString"], unfollowed := true, recurses := true, apart := false, narrowed := true }
def HostsUnlikeUptoSaid : Prop := hostsUnlikeUptoRow.holds Try.pinned (OpenSpec.upto hostsUnlikeSpec)

/-- 'hydrantlaw04.HostsUnder', WHERE WHAT IT READS IS OF BULK AT MOST 1048576: true; the input reads as it did. -/
def hostsUnderUptoRow : OpenClaim := { program := "ytddndeflnfogoaa", sum := "b5dd9967fe21a85c2f1dcd809af94602fe9e0bbc2c25cf443d3f215994be71bd", func := "hydrant/hydrantlaw04.HostsUnder", spec := "hostsUnder", inPlace := ["internal/bytealg.IndexByteString"], unfollowed := true, recurses := true, apart := false, narrowed := true }
def HostsUnderUptoSaid : Prop := hostsUnderUptoRow.holds Try.pinned (OpenSpec.upto hostsUnderSpec)

/-- 'hydrantlaw04.HostsDeep', WHERE WHAT IT READS IS OF BULK AT MOST 1048576: true; the input reads as it did. -/
def hostsDeepUptoRow : OpenClaim := { program := "ytddndeflnfogoaa", sum := "b5dd9967fe21a85c2f1dcd809af94602fe9e0bbc2c25cf443d3f215994be71bd", func := "hydrant/hydrantlaw04.HostsDeep", spec := "hostsDeep", inPlace := ["internal/bytealg.IndexByteString"], unfollowed := true, recurses := true, apart := false, narrowed := true }
def HostsDeepUptoSaid : Prop := hostsDeepUptoRow.holds Try.pinned (OpenSpec.upto hostsDeepSpec)

end Rows
end Go.Proofs.Ytddndeflnfogoaa
