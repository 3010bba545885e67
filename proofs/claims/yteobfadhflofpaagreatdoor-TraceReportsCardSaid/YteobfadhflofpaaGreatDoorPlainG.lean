/-
  Strips after steps, their lengths and volumes.
-/
import Derived.Test.YteobfadhflofpaaGreatDoorFunG
import Derived.Test.YteobfadhflofpaaGreatDoorPlainE
import Derived.Test.YteobfadhflofpaaGreatDoorPlainF
set_option linter.unusedSectionVars false
set_option linter.unusedVariables false
set_option linter.unusedSimpArgs false
namespace Go.Lift
open Go
end Go.Lift
