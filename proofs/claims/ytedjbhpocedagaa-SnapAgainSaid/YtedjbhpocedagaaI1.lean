/- What IndexByte of Go's library tells: the model's own answer. -/
import Derived.Test.YtedjbhpocedagaaF
import Derived.WalkKit
import Derived.Lib.Walk
import Derived.Lib.Strings
import Derived.Lib.Bytealg
namespace Go.Proofs.Ytedjbhpocedagaa
open Go.RowKit Go.Lib
set_option maxRecDepth 100000 in
theorem ib (s : ByteArray) (c : Int) (w : World) : Calls Try.prog 104 #[.string s, .int .u8 c] w fun e w' => e = .returned (.int .i64 (Lib.indexByte s.data.toList c.toNat.toUInt8)) ∧ w' = w := by
  go_enter Try.func104, Try.ntmps104
  go_wp2
  rw [run_callFunc_extern Try.func106 (by kernel_rfl) (by kernel_rfl) (by kernel_rfl) (e := Extern.BytealgIndexByte.indexByte) (by kernel_rfl), Lib.run_indexByteString]
  simp only [Result.andThen]
  rw [Oper.upon_value]
  go_wp2
  go_ret
  exact ⟨rfl, rfl⟩
end Go.Proofs.Ytedjbhpocedagaa
