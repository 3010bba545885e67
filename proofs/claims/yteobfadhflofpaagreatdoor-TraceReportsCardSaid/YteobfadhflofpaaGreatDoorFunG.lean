/-
  The functions of strips after steps, as plain functions.
-/
import Derived.Test.YteobfadhflofpaaGreatDoorFunF
set_option linter.unusedSectionVars false
set_option linter.unusedVariables false
set_option linter.unusedSimpArgs false
namespace Go.Lift
open Go
noncomputable def trace_CheckCourse (c : Dapi_TraceCourse) : Option (Int × Int) :=
 (trace_open c).bind fun (r : Dtrace_course × Int × Int) =>
 some (r.2.1, r.2.2)
end Go.Lift
