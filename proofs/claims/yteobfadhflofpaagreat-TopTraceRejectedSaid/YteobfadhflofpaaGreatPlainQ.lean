/-
  The readings that contradict all causes.
-/
import Derived.Test.YteobfadhflofpaaGreatPlainO
import Derived.Test.YteobfadhflofpaaGreatFunCt
set_option linter.unusedSectionVars false
set_option linter.unusedVariables false
set_option linter.unusedSimpArgs false
namespace Go.Lift
open Go
end Go.Lift
