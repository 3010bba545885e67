/-
  The functions of strips after steps, as plain functions.
-/
import Derived.Test.YtfihcmhknhbndaaGreatDoorFunF
set_option linter.unusedSectionVars false
set_option linter.unusedVariables false
set_option linter.unusedSimpArgs false
namespace Go.Lift
open Go
abbrev Tapi_TraceSection : Ty := .pair Tapi_Frac (.int .i64)
abbrev Dapi_TraceSection : Type := (Dapi_Frac × Int)
abbrev Tapi_TraceStrip : Ty := .one (.slice Tapi_TraceSection)
abbrev Dapi_TraceStrip : Type := (List Dapi_TraceSection)
abbrev Tapi_TraceSearch : Ty := .pair (.slice Tapi_TraceReading) (.slice Tapi_TraceReading)
abbrev Dapi_TraceSearch : Type := ((List Dapi_TraceReading) × (List Dapi_TraceReading))
abbrev Ttrace_knot : Ty := .pair Ttrace_ratio Ttrace_ratio
abbrev Dtrace_knot : Type := (Dtrace_ratio × Dtrace_ratio)
abbrev Tapi_TraceMap : Ty := .one (.slice Tapi_Span)
abbrev Dapi_TraceMap : Type := (List Dapi_Span)
abbrev Tr9_Knot : Ty := .pair Tb0_Ratio Tb0_Ratio
abbrev Dr9_Knot : Type := (Db0_Ratio × Db0_Ratio)
abbrev Tapi_TraceMarks : Ty := .pair (.slice (.int .i64)) (.int .i64)
abbrev Dapi_TraceMarks : Type := ((List Int) × Int)
abbrev Tapi_TraceRoll : Ty := .pair .str Tapi_Frac
abbrev Dapi_TraceRoll : Type := (ByteArray × Dapi_Frac)
noncomputable def trace_LengthAfter (c : Dapi_TraceCourse) (steps : Int) : Option (Dapi_Frac × Int) :=
 (trace_opened c [steps]).bind fun (r : Dtrace_course × Int) =>
 bif (r.2 != 0) then
 some ((0, 0), r.2)
 else
 chk (decide ((0 : Int) ≤ steps) && decide (steps < (List.length r.1.2 : Int))) (
 (trace_strip_length (lget [] r.1.2 steps)).bind fun (t : Dtrace_ratio) =>
 (trace_small t).bind fun (r_1 : Dapi_Frac × Int) =>
 some (r_1.1, r_1.2))

noncomputable def trace_StripAfter (c : Dapi_TraceCourse) (steps : Int) : Option (Dapi_TraceStrip × Int) :=
 (trace_opened c [steps]).bind fun (r : Dtrace_course × Int) =>
 bif (r.2 != 0) then
 some ([], r.2)
 else
 chk (decide ((0 : Int) ≤ steps) && decide (steps < (List.length r.1.2 : Int))) (
 (loopM (S := Int × Dapi_TraceStrip) (R := Dapi_TraceStrip) (fun s =>
 let t : Int := s.1
 let out : Dapi_TraceStrip := s.2
 bif decide (t < (List.length (lget [] r.1.2 steps) : Int)) then
 chk (decide ((0 : Int) ≤ t) && decide (t < (List.length (lget [] r.1.2 steps) : Int))) (
 let s_1 : Dtrace_section := lget ((fun _ => (false, ([], []))), ((fun _ => (false, ([], []))), (0, 0))) (lget [] r.1.2 steps) t
 (trace_section_length s_1).bind fun (t_1 : Dtrace_ratio) =>
 (trace_ratio_frac t_1).bind fun (r_1 : Dapi_Frac × Bool) =>
 (app out [(r_1.1, s_1.2.2.2)]).bind fun (t_2 : List Dapi_TraceSection) =>
 some (.inl (wi64 (t + 1), t_2)))
 else
 some (.inr out)) (0, [])).bind fun (out_1 : Dapi_TraceStrip) =>
 some (out_1, 0))

noncomputable def trace_CheckCourse (c : Dapi_TraceCourse) : Option (Int × Int) :=
 (trace_open c).bind fun (r : Dtrace_course × Int × Int) =>
 some (r.2.1, r.2.2)

noncomputable def trace_VolumeAfter (c : Dapi_TraceCourse) (steps : Int) : Option (Dapi_Frac × Int) :=
 (trace_opened c [steps]).bind fun (r : Dtrace_course × Int) =>
 bif (r.2 != 0) then
 some ((0, 0), r.2)
 else
 (trace_whole 0).bind fun (t : Dtrace_ratio) =>
 chk (decide ((0 : Int) ≤ steps) && decide (steps < (List.length r.1.2 : Int))) (
 (loopM (S := Int × Dtrace_ratio) (R := Dtrace_ratio) (fun s =>
 let t_1 : Int := s.1
 let sum : Dtrace_ratio := s.2
 bif decide (t_1 < (List.length (lget [] r.1.2 steps) : Int)) then
 chk (decide ((0 : Int) ≤ t_1) && decide (t_1 < (List.length (lget [] r.1.2 steps) : Int))) (
 let s_1 : Dtrace_section := lget ((fun _ => (false, ([], []))), ((fun _ => (false, ([], []))), (0, 0))) (lget [] r.1.2 steps) t_1
 (trace_section_length s_1).bind fun (t_2 : Dtrace_ratio) =>
 (trace_whole s_1.2.2.2).bind fun (t_3 : Dtrace_ratio) =>
 (trace_ratio_times t_2 t_3).bind fun (t_4 : Dtrace_ratio) =>
 (trace_ratio_plus sum t_4).bind fun (t_5 : Dtrace_ratio) =>
 some (.inl (wi64 (t_1 + 1), t_5)))
 else
 some (.inr sum)) (0, t)).bind fun (sum_1 : Dtrace_ratio) =>
 (trace_small sum_1).bind fun (r_1 : Dapi_Frac × Int) =>
 some (r_1.1, r_1.2))

noncomputable def r9_SameStrip (a : Dapi_TraceStrip) (b : Dapi_TraceStrip) : Option (Bool) :=
 bif ((List.length a : Int) != (List.length b : Int)) then
 some false
 else
 (loopM (S := Int) (R := (Unit) ⊕ (Bool)) (fun i =>
 bif decide (i < (List.length a : Int)) then
 chk (decide ((0 : Int) ≤ i) && decide (i < (List.length a : Int))) (
 chk (decide ((0 : Int) ≤ i) && decide (i < (List.length b : Int))) (
 bif !(Ty.eqb Tapi_TraceSection (lget ((0, 0), 0) a i) (lget ((0, 0), 0) b i)) then
 Option.map Sum.inr (Option.map Sum.inr (
 some false))
 else
 some (.inl (wi64 (i + 1)))))
 else
 some (.inr (.inl ()))) 0).bind fun j => match j with
 | .inl _ => (
 some true)
 | .inr r => some r

noncomputable def r9_StripOf (s : (List Dr9_Section)) : Option (Dapi_TraceStrip) :=
 (loopM (S := Int × Dapi_TraceStrip) (R := Dapi_TraceStrip) (fun s_1 =>
 let i : Int := s_1.1
 let out : Dapi_TraceStrip := s_1.2
 bif decide (i < (List.length s : Int)) then
 chk (decide ((0 : Int) ≤ i) && decide (i < (List.length s : Int))) (
 (b0_RatioFrac ((lget (((0, []), (0, [])), 0) s i).1)).bind fun (r : Dapi_Frac × Bool) =>
 chk (decide ((0 : Int) ≤ i) && decide (i < (List.length s : Int))) (
 (app out [(r.1, (lget (((0, []), (0, [])), 0) s i).2)]).bind fun (t : List Dapi_TraceSection) =>
 some (.inl (wi64 (i + 1), t))))
 else
 some (.inr out)) (0, [])).bind fun (out_1 : Dapi_TraceStrip) =>
 some out_1

noncomputable def l9_fracOr (x : Dapi_Frac) (e : Int) (want : Db0_Ratio) : Option (Bool) :=
 (b0_RatioFrac want).bind fun (r : Dapi_Frac × Bool) =>
 bif !r.2 then
 (bif (e == 8) then
 some (Ty.eqb Tapi_Frac x (0, 0))
 else some false).bind fun (c : Bool) =>
 some c
 else
 let t : Bool := ((e == 0) && (Ty.eqb Tapi_Frac x r.1))
 some t

noncomputable def r9_Volume (s : (List Dr9_Section)) : Option (Db0_Ratio) :=
 (b0_RatioInt 0).bind fun (t : Db0_Ratio) =>
 (loopM (S := Int × Db0_Ratio) (R := Db0_Ratio) (fun s_1 =>
 let i : Int := s_1.1
 let sum : Db0_Ratio := s_1.2
 bif decide (i < (List.length s : Int)) then
 chk (decide ((0 : Int) ≤ i) && decide (i < (List.length s : Int))) (
 chk (decide ((0 : Int) ≤ i) && decide (i < (List.length s : Int))) (
 (b0_RatioInt ((lget (((0, []), (0, [])), 0) s i).2)).bind fun (t_1 : Db0_Ratio) =>
 (b0_RatioMul ((lget (((0, []), (0, [])), 0) s i).1) t_1).bind fun (t_2 : Db0_Ratio) =>
 (b0_RatioAdd sum t_2).bind fun (t_3 : Db0_Ratio) =>
 some (.inl (wi64 (i + 1), t_3))))
 else
 some (.inr sum)) (0, t)).bind fun (sum_1 : Db0_Ratio) =>
 some sum_1

noncomputable def l9_TraceCourses (c : Dapi_TraceCourse) (steps : Int) : Option (Bool) :=
 (l9_awake).bind fun (t : Bool) =>
 bif !t then
 some false
 else
 (l9_Few c).bind fun (t_1 : Bool) =>
 bif !t_1 then
 some true
 else
 (r9_CopyCourse c).bind fun (t_2 : Dapi_TraceCourse) =>
 (trace_CheckCourse t_2).bind fun (r : Int × Int) =>
 (r9_CopyCourse c).bind fun (t_3 : Dapi_TraceCourse) =>
 (trace_StripAfter t_3 steps).bind fun (r_1 : Dapi_TraceStrip × Int) =>
 (r9_CopyCourse c).bind fun (t_4 : Dapi_TraceCourse) =>
 (trace_LengthAfter t_4 steps).bind fun (r_2 : Dapi_Frac × Int) =>
 (r9_CopyCourse c).bind fun (t_5 : Dapi_TraceCourse) =>
 (trace_VolumeAfter t_5 steps).bind fun (r_3 : Dapi_Frac × Int) =>
 (r9_CheckCourse c).bind fun (r_4 : Int × Int) =>
 bif ((r.2 != r_4.2) || (r.1 != r_4.1)) then
 some false
 else
 (bif (r_4.2 == 0) then
 (r9_StepsErr c steps).bind fun (t_6 : Int) =>
 some t_6
 else
 some r_4.2).bind fun (d : Int) =>
 bif (d != 0) then
 (bif ((((r_1.2 == d) && (r_2.2 == d)) && (r_3.2 == d)) && ((List.length r_1.1 : Int) == 0)) then
 some (Ty.eqb Tapi_Frac r_2.1 (0, 0))
 else some false).bind fun (c_1 : Bool) =>
 (bif c_1 then
 some (Ty.eqb Tapi_Frac r_3.1 (0, 0))
 else some false).bind fun (c_2 : Bool) =>
 some c_2
 else
 (r9_After c steps).bind fun (t_7 : (List Dr9_Section)) =>
 (bif (r_1.2 == 0) then
 (r9_StripOf t_7).bind fun (t_8 : Dapi_TraceStrip) =>
 (r9_SameStrip r_1.1 t_8).bind fun (t_9 : Bool) =>
 some t_9
 else some false).bind fun (c_3 : Bool) =>
 (bif (c_3 && (r_2.2 == 0)) then
 (r9_Strip_Length t_7).bind fun (t_10 : Db0_Ratio) =>
 (l9_fracOr r_2.1 r_2.2 t_10).bind fun (t_11 : Bool) =>
 some t_11
 else some false).bind fun (c_4 : Bool) =>
 (bif c_4 then
 (r9_Volume t_7).bind fun (t_12 : Db0_Ratio) =>
 (l9_fracOr r_3.1 r_3.2 t_12).bind fun (t_13 : Bool) =>
 some t_13
 else some false).bind fun (c_5 : Bool) =>
 some c_5

end Go.Lift
