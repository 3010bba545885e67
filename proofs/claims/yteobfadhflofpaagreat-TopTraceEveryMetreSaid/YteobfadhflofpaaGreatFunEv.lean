/-
  The functions of pieces in order, as plain functions.
-/
import Derived.Test.YteobfadhflofpaaGreatFunF
import Derived.Test.YteobfadhflofpaaGreatFunG
import Derived.Test.YteobfadhflofpaaGreatFunVo
set_option linter.unusedSectionVars false
set_option linter.unusedVariables false
set_option linter.unusedSimpArgs false
namespace Go.Lift
open Go
noncomputable def b0_Cmp (a : Dapi_Frac) (b : Dapi_Frac) : Option (Int) :=
 bif decide ((wi64 (a.1 * b.2)) < (wi64 (b.1 * a.2))) then
 some (-1)
 else
 bif decide ((wi64 (a.1 * b.2)) > (wi64 (b.1 * a.2))) then
 some 1
 else
 some 0
end Go.Lift
