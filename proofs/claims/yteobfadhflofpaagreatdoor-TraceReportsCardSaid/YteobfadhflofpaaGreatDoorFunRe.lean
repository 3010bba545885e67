/-
  The functions of the document's explanations, as plain functions.
-/
import Derived.Test.YteobfadhflofpaaGreatDoorFunF
import Derived.Test.YteobfadhflofpaaGreatDoorFunG
import Derived.Test.YteobfadhflofpaaGreatDoorFunCb
set_option linter.unusedSectionVars false
set_option linter.unusedVariables false
set_option linter.unusedSimpArgs false
namespace Go.Lift
open Go
end Go.Lift
