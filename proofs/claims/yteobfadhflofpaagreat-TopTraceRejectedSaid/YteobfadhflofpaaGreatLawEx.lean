/-
  The law of explanations holds of the plain functions.
-/
import Derived.Test.YteobfadhflofpaaGreatPlainP
import Derived.Test.YteobfadhflofpaaGreatPlainQ
import Derived.Test.YteobfadhflofpaaGreatFunEx
set_option linter.unusedSectionVars false
set_option linter.unusedVariables false
set_option linter.unusedSimpArgs false
namespace Go.Lift
open Go
end Go.Lift
