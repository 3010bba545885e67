/-
  The functions of strips after steps, as plain functions.
-/
import Derived.Test.YteobfadhflofpaaGreatFunF
set_option linter.unusedSectionVars false
set_option linter.unusedVariables false
set_option linter.unusedSimpArgs false
namespace Go.Lift
open Go
abbrev Ttrace_knot : Ty := .pair Ttrace_ratio Ttrace_ratio
abbrev Tapi_TraceMap : Ty := .one (.slice Tapi_Span)
abbrev Tapi_TraceMarks : Ty := .pair (.slice (.int .i64)) (.int .i64)
abbrev Tapi_TraceRoll : Ty := .pair .str Tapi_Frac
end Go.Lift
