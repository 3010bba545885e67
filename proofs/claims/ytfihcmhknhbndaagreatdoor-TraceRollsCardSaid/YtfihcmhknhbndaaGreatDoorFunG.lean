/-
  The functions of strips after steps, as plain functions.
-/
import Derived.Test.YtfihcmhknhbndaaGreatDoorFunF
set_option linter.unusedSectionVars false
set_option linter.unusedVariables false
set_option linter.unusedSimpArgs false
namespace Go.Lift
open Go
abbrev Tapi_TraceSection : Ty := .pair Tapi_Frac (.int .i64)
abbrev Tapi_TraceStrip : Ty := .one (.slice Tapi_TraceSection)
abbrev Tapi_TraceSearch : Ty := .pair (.slice Tapi_TraceReading) (.slice Tapi_TraceReading)
abbrev Ttrace_knot : Ty := .pair Ttrace_ratio Ttrace_ratio
abbrev Tapi_TraceMap : Ty := .one (.slice Tapi_Span)
abbrev Tr9_Knot : Ty := .pair Tb0_Ratio Tb0_Ratio
abbrev Tapi_TraceMarks : Ty := .pair (.slice (.int .i64)) (.int .i64)
abbrev Dapi_TraceMarks : Type := ((List Int) × Int)
abbrev Tapi_TraceRoll : Ty := .pair .str Tapi_Frac
abbrev Dapi_TraceRoll : Type := (ByteArray × Dapi_Frac)
end Go.Lift
