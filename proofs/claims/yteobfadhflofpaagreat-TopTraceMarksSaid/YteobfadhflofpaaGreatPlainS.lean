/-
  Maps are checked; values and inverses on both sides.
-/
import Derived.Test.YteobfadhflofpaaGreatPlainH
import Derived.Test.YteobfadhflofpaaGreatFunEv
set_option linter.unusedSectionVars false
set_option linter.unusedVariables false
set_option linter.unusedSimpArgs false
namespace Go.Lift
open Go
end Go.Lift
