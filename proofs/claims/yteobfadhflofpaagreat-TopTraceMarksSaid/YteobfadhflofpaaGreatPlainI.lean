/-
  The pieces of a coil, one by one.
-/
import Derived.Test.YteobfadhflofpaaGreatPlainE
import Derived.Test.YteobfadhflofpaaGreatPlainH
import Derived.Test.YteobfadhflofpaaGreatPlainG
import Derived.Test.YteobfadhflofpaaGreatFunEv
set_option linter.unusedSectionVars false
set_option linter.unusedVariables false
set_option linter.unusedSimpArgs false
namespace Go.Lift
open Go
end Go.Lift
namespace Go.Lift
open Go
end Go.Lift
