/-
  The functions of the document's explanations, as plain functions.
-/
import Derived.Test.YtfihcmhknhbndaaGreatDoorFunF
import Derived.Test.YtfihcmhknhbndaaGreatDoorFunG
import Derived.Test.YtfihcmhknhbndaaGreatDoorFunCb
set_option linter.unusedSectionVars false
set_option linter.unusedVariables false
set_option linter.unusedSimpArgs false
namespace Go.Lift
open Go
noncomputable def b0_RatioFloor (a : Db0_Ratio) : Option (Db0_Wide) :=
 (b0_WideFloor a.1 a.2).bind fun (t : Db0_Wide) =>
 some t
end Go.Lift
