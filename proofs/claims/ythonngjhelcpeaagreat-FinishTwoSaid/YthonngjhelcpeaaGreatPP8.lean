/- Scripts: numbers as bytes of seven bits each, and back. -/
import Derived.Test.YthonngjhelcpeaaGreatPl
set_option linter.unusedVariables false
set_option linter.unusedSimpArgs false
namespace Go.Proofs.YthonngjhelcpeaaGreat.Sx
/- Scripts: how a number is read,byte for byte. -/
end Go.Proofs.YthonngjhelcpeaaGreat.Sx
