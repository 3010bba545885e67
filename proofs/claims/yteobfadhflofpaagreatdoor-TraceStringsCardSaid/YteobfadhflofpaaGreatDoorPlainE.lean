/-
  Places of the program and of the document.
-/
import Derived.Test.YteobfadhflofpaaGreatDoorPlainD
set_option linter.unusedSectionVars false
set_option linter.unusedVariables false
set_option linter.unusedSimpArgs false
namespace Go.Lift
open Go
end Go.Lift
