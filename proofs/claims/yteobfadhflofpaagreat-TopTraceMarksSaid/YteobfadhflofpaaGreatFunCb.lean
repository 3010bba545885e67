/-
  The functions of causes and evidence, as plain functions.
-/
import Derived.Test.YteobfadhflofpaaGreatFunF
import Derived.Test.YteobfadhflofpaaGreatFunG
set_option linter.unusedSectionVars false
set_option linter.unusedVariables false
set_option linter.unusedSimpArgs false
namespace Go.Lift
open Go
end Go.Lift
