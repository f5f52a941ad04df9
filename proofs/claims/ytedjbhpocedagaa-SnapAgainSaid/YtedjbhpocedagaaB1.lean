/- What all contracts lean on: the program follows the model's reading; how a contract becomes a walk. -/
import Derived.Test.YtedjbhpocedagaaF
import Derived.Test.YtedjbhpocedagaaD1
namespace Go.Proofs.Ytedjbhpocedagaa
open Go.Proofs.Ytedjbhpocedagaa.Sx
theorem hm : Try.prog.follows .mixedOrders = true := by kernel_rfl
theorem noT : TblOk Try.prog [] := fun _ h => nomatch h
theorem walk_of {f : FuncId} {args : List Value} {w : World} {v : Value} (h : OkV Try.prog f args (allG w) v) : Calls Try.prog f args.toArray w fun e w' => e = .returned v ∧ RowKit.Below w.heap.size w w' :=
  (h w (Good.refl _)).mono fun _ _ ⟨_, he, hb, hv⟩ => ⟨hv ▸ he, hb⟩
end Go.Proofs.Ytedjbhpocedagaa
