/-
  What an argument of a seat reads as, printed by tygen.py.
-/
import Derived.Test.YtipjamgjgijeeaaTy
import Derived.Test.YtipjamgjgijeeaaDnY
namespace Go.Proofs.Ytipjamgjgijeeaa
set_option linter.unusedSimpArgs false
set_option linter.unusedVariables false
open Go.Dn
set_option linter.unusedVariables false
instance : BoT Try.prog 4 := ⟨Try.underlying4⟩
end Go.Proofs.Ytipjamgjgijeeaa
