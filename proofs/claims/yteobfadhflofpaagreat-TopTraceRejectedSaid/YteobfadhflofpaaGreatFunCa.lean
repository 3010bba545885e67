/-
  The functions of causes, as plain functions.
-/
import Derived.Test.YteobfadhflofpaaGreatFunF
import Derived.Test.YteobfadhflofpaaGreatFunG
import Derived.Test.YteobfadhflofpaaGreatFunCb
import Derived.Test.YteobfadhflofpaaGreatFunRe
set_option linter.unusedSectionVars false
set_option linter.unusedVariables false
set_option linter.unusedSimpArgs false
namespace Go.Lift
open Go
noncomputable def trace_Predicts_1 (own : Dapi_TraceCause) (x : Dtrace_course) (x_1 : Dapi_TraceReading) : Option (Bool) :=
 (trace_course_predicts x own x_1).bind fun (t : Bool) =>
 some t
noncomputable def trace_Predicts (c : Dapi_TraceCourse) (l : (List Dapi_TraceCause)) (r : Dapi_TraceReading) : Option (Bool × Int) :=
 (trace_openCauses c l).bind fun (r_1 : Dtrace_course × Int × Int) =>
 (bif (r_1.2.2 == 0) then
 (trace_course_readingErr r_1.1 r).bind fun (t : Int) =>
 some t
 else
 some r_1.2.2).bind fun (e : Int) =>
 bif (e != 0) then
 some (false, e)
 else
 (slices_ContainsFunc_apiTraceCause l (fun x => trace_Predicts_1 x r_1.1 r)).bind fun (t_1 : Bool) =>
 some (t_1, 0)
end Go.Lift
