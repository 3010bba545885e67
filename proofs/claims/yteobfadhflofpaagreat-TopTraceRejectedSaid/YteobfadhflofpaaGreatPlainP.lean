/-
  The explanations of the document.
-/
import Derived.Test.YteobfadhflofpaaGreatPlainO
import Derived.Test.YteobfadhflofpaaGreatFunRe
set_option linter.unusedSectionVars false
set_option linter.unusedVariables false
set_option linter.unusedSimpArgs false
namespace Go.Lift
open Go
end Go.Lift
namespace Go.Lift
open Go
end Go.Lift
