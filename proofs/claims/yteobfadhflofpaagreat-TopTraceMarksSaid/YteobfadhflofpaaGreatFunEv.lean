/-
  The functions of pieces in order, as plain functions.
-/
import Derived.Test.YteobfadhflofpaaGreatFunF
import Derived.Test.YteobfadhflofpaaGreatFunG
import Derived.Test.YteobfadhflofpaaGreatFunVo
set_option linter.unusedSectionVars false
set_option linter.unusedVariables false
set_option linter.unusedSimpArgs false
namespace Go.Lift
open Go
noncomputable def b0_Floor (n : Int) (by_ : Int) : Option (Int) :=
 chk (by_ != 0) (
 let t : Int := wi64 (Int.tdiv n by_)
 chk (by_ != 0) (
 (bif decide ((Int.tmod n by_) < 0) then
 some (wi64 (t - 1))
 else
 some t).bind fun (q : Int) =>
 some q))
end Go.Lift
