/-
  The functions of strips after steps, as plain functions.
-/
import Derived.Test.YteobfadhflofpaaGreatFunF
set_option linter.unusedSectionVars false
set_option linter.unusedVariables false
set_option linter.unusedSimpArgs false
namespace Go.Lift
open Go
abbrev Ttrace_knot : Ty := .pair Ttrace_ratio Ttrace_ratio
abbrev Dtrace_knot : Type := (Dtrace_ratio × Dtrace_ratio)
abbrev Tapi_TraceMap : Ty := .one (.slice Tapi_Span)
abbrev Dapi_TraceMap : Type := (List Dapi_Span)
abbrev Tapi_TraceMarks : Ty := .pair (.slice (.int .i64)) (.int .i64)
abbrev Tapi_TraceRoll : Ty := .pair .str Tapi_Frac
noncomputable def trace_LengthAfter (c : Dapi_TraceCourse) (steps : Int) : Option (Dapi_Frac × Int) :=
 (trace_opened c [steps]).bind fun (r : Dtrace_course × Int) =>
 bif (r.2 != 0) then
 some ((0, 0), r.2)
 else
 chk (decide ((0 : Int) ≤ steps) && decide (steps < (List.length r.1.2 : Int))) (
 (trace_strip_length (lget [] r.1.2 steps)).bind fun (t : Dtrace_ratio) =>
 (trace_small t).bind fun (r_1 : Dapi_Frac × Int) =>
 some (r_1.1, r_1.2))
noncomputable def trace_VolumeAfter (c : Dapi_TraceCourse) (steps : Int) : Option (Dapi_Frac × Int) :=
 (trace_opened c [steps]).bind fun (r : Dtrace_course × Int) =>
 bif (r.2 != 0) then
 some ((0, 0), r.2)
 else
 (trace_whole 0).bind fun (t : Dtrace_ratio) =>
 chk (decide ((0 : Int) ≤ steps) && decide (steps < (List.length r.1.2 : Int))) (
 (loopM (S := Int × Dtrace_ratio) (R := Dtrace_ratio) (fun s =>
 let t_1 : Int := s.1
 let sum : Dtrace_ratio := s.2
 bif decide (t_1 < (List.length (lget [] r.1.2 steps) : Int)) then
 chk (decide ((0 : Int) ≤ t_1) && decide (t_1 < (List.length (lget [] r.1.2 steps) : Int))) (
 let s_1 : Dtrace_section := lget ((fun _ => (false, ([], []))), ((fun _ => (false, ([], []))), (0, 0))) (lget [] r.1.2 steps) t_1
 (trace_section_length s_1).bind fun (t_2 : Dtrace_ratio) =>
 (trace_whole s_1.2.2.2).bind fun (t_3 : Dtrace_ratio) =>
 (trace_ratio_times t_2 t_3).bind fun (t_4 : Dtrace_ratio) =>
 (trace_ratio_plus sum t_4).bind fun (t_5 : Dtrace_ratio) =>
 some (.inl (wi64 (t_1 + 1), t_5)))
 else
 some (.inr sum)) (0, t)).bind fun (sum_1 : Dtrace_ratio) =>
 (trace_small sum_1).bind fun (r_1 : Dapi_Frac × Int) =>
 some (r_1.1, r_1.2))
end Go.Lift
