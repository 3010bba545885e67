/-
  Strings in pieces, cuts, numbers: what the library's functions compute.
-/
import Derived.Test.YtbmclapepgfjhaaGreatLiftJ
import Derived.Lib.SplitLaws
import Derived.Lib.CutLaws
import Derived.Lib.AtoiAll
set_option linter.unusedSectionVars false
set_option linter.unusedVariables false
set_option linter.unusedSimpArgs false
namespace Go.Lift
open Go
end Go.Lift
