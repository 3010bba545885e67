/-
  The law of courses holds of the plain functions.
-/
import Derived.Test.YteobfadhflofpaaGreatDoorPlainG
set_option linter.unusedSectionVars false
set_option linter.unusedVariables false
set_option linter.unusedSimpArgs false
namespace Go.Lift
open Go
end Go.Lift
