/-
  The law of pieces in order holds of the plain functions.
-/
import Derived.Test.YteobfadhflofpaaGreatPlainI
import Derived.Test.YteobfadhflofpaaGreatPlainS
set_option linter.unusedSectionVars false
set_option linter.unusedVariables false
set_option linter.unusedSimpArgs false
namespace Go.Lift
open Go
end Go.Lift
