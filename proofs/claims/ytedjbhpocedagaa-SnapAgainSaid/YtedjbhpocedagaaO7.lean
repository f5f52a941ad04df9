/- What came in of a snapshot is plain data. -/
import Derived.Test.YtedjbhpocedagaaO6
namespace Go.Proofs.Ytedjbhpocedagaa
open Go.Proofs.Ytedjbhpocedagaa.Sx
section
variable {H : Type} {enc : TypeId × Value → H} {W : World}
theorem op_api_Snap : Rds enc Try.prog W ty_api_Snap rSnap := by
  intro fuel cs x h
  obtain ⟨a, b, d, rfl, ⟨l0, h0⟩, ⟨l1, h1⟩, l2, h2⟩ := rd_three (t0 := ty_sl_string) (t1 := ty_sl_api_Rule) (t2 := ty_sl_api_Cluster) (e0 := ty_string) (e1 := ty_api_Rule) (e2 := ty_api_Cluster) (z0 := 1) (z1 := 4) (z2 := 4)
    (by kernel_rfl) (by kernel_rfl) (by kernel_rfl) (by kernel_rfl) (by kernel_rfl) (by kernel_rfl) (by kernel_rfl) (by kernel_rfl) (by omega) (by omega) (by omega) (rd_str (by kernel_rfl)) op_api_Rule op_api_Cluster h
  exact ⟨⟨l0, l1, l2⟩, a, b, d, rfl, h0, h1, h2⟩
end
end Go.Proofs.Ytedjbhpocedagaa
