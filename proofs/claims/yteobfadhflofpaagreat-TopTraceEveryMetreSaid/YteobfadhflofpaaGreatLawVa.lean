/-
  The law of values of maps holds of the plain functions.
-/
import Derived.Test.YteobfadhflofpaaGreatPlainU
import Derived.Test.YteobfadhflofpaaGreatLiftK
set_option linter.unusedSectionVars false
set_option linter.unusedVariables false
set_option linter.unusedSimpArgs false
namespace Go.Lift
open Go
theorem CopyMap_ok {l : Dapi_TraceMap} (h : l.length ≤ 14) : r9_CopyMap l = some l := by
  unfold r9_CopyMap
  rw [app_ok (by rw [List.length_nil]; omega), Option.bind_some]
  rfl
end Go.Lift
