/-
  The functions of maps there and back, as plain functions.
-/
import Derived.Test.YteobfadhflofpaaGreatFunF
import Derived.Test.YteobfadhflofpaaGreatFunG
import Derived.Test.YteobfadhflofpaaGreatFunVo
import Derived.Test.YteobfadhflofpaaGreatFunEv
import Derived.Test.YteobfadhflofpaaGreatFunMa
import Derived.Test.YteobfadhflofpaaGreatFunVa
set_option linter.unusedSectionVars false
set_option linter.unusedVariables false
set_option linter.unusedSimpArgs false
namespace Go.Lift
open Go
end Go.Lift
