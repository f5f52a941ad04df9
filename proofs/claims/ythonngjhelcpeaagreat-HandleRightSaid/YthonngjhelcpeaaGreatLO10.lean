/- What came in of flags is plain data. -/
import Derived.Test.YthonngjhelcpeaaGreatLW20k
set_option linter.unusedVariables false
set_option linter.unusedSimpArgs false
namespace Go.Proofs.YthonngjhelcpeaaGreat
open Go.Proofs.YthonngjhelcpeaaGreat.Sx
section
variable {H:Type} {enc:TypeId×Value→H} {W:World}
theorem qqT:Rds enc Tryz.prog W qLN (rSlc 1 qjS):=qbD (e:=qeI) (by kernel_rfl) (by kernel_rfl) (by omega) (qeK (by kernel_rfl))
end
end Go.Proofs.YthonngjhelcpeaaGreat
