/-
  The functions of maps, as plain functions.
-/
import Derived.Test.YteobfadhflofpaaGreatFunF
import Derived.Test.YteobfadhflofpaaGreatFunG
set_option linter.unusedSectionVars false
set_option linter.unusedVariables false
set_option linter.unusedSimpArgs false
namespace Go.Lift
open Go
noncomputable def trace_strip_begin (s : (List Dtrace_section)) : Option (Dtrace_ratio) :=
 chk (decide ((0 : Int) ≤ 0) && decide (0 < (List.length s : Int))) (
 chk (decide ((0 : Int) ≤ 0) && decide ((0 : Int) < 2)) (
 let t : Dtrace_ratio := aget ((lget ((fun _ => (false, ([], []))), ((fun _ => (false, ([], []))), (0, 0))) s 0).1) 0
 some t))
noncomputable def trace_onLine (a : Dtrace_knot) (k : Dtrace_knot) (b : Dtrace_knot) : Option (Bool) :=
 (trace_ratio_minus k.2 a.2).bind fun (t : Dtrace_ratio) =>
 (trace_ratio_minus b.1 a.1).bind fun (t_1 : Dtrace_ratio) =>
 (trace_ratio_times t t_1).bind fun (t_2 : Dtrace_ratio) =>
 (trace_ratio_minus b.2 a.2).bind fun (t_3 : Dtrace_ratio) =>
 (trace_ratio_minus k.1 a.1).bind fun (t_4 : Dtrace_ratio) =>
 (trace_ratio_times t_3 t_4).bind fun (t_5 : Dtrace_ratio) =>
 (trace_ratio_cmp t_2 t_5).bind fun (t_6 : Int) =>
 some (t_6 == 0)
noncomputable def trace_chart_simple (m : (List Dtrace_knot)) : Option ((List Dtrace_knot)) :=
 (loopM (S := (List Dtrace_knot) × Int) (R := (List Dtrace_knot)) (fun s =>
 let out : (List Dtrace_knot) := s.1
 let t : Int := s.2
 bif decide (t < (List.length m : Int)) then
 chk (decide ((0 : Int) ≤ t) && decide (t < (List.length m : Int))) (
 let k : Dtrace_knot := lget ((false, ([], [])), (false, ([], []))) m t
 (bif ((decide (t > 0)) && (decide (t < (wi64 ((List.length m : Int) - 1))))) then
 chk (decide ((0 : Int) ≤ (wi64 (t - 1))) && decide ((wi64 (t - 1)) < (List.length m : Int))) (
 chk (decide ((0 : Int) ≤ (wi64 (t + 1))) && decide ((wi64 (t + 1)) < (List.length m : Int))) (
 (trace_onLine (lget ((false, ([], [])), (false, ([], []))) m (wi64 (t - 1))) k (lget ((false, ([], [])), (false, ([], []))) m (wi64 (t + 1)))).bind fun (t_1 : Bool) =>
 some t_1))
 else some false).bind fun (c : Bool) =>
 bif c then
 some (.inl (out, wi64 (t + 1)))
 else
 (app out [k]).bind fun (t_2 : List Dtrace_knot) =>
 some (.inl (t_2, wi64 (t + 1))))
 else
 some (.inr out)) ([], 0)).bind fun (out_1 : (List Dtrace_knot)) =>
 some out_1
noncomputable def trace_chart_written (m : (List Dtrace_knot)) : Option (Dapi_TraceMap × Int) :=
 (loopM (S := Int × Dapi_TraceMap) (R := (Dapi_TraceMap) ⊕ (Dapi_TraceMap × Int)) (fun s =>
 let t : Int := s.1
 let out : Dapi_TraceMap := s.2
 bif decide (t < (List.length m : Int)) then
 chk (decide ((0 : Int) ≤ t) && decide (t < (List.length m : Int))) (
 let k : Dtrace_knot := lget ((false, ([], [])), (false, ([], []))) m t
 (trace_small k.1).bind fun (r : Dapi_Frac × Int) =>
 (trace_small k.2).bind fun (r_1 : Dapi_Frac × Int) =>
 (trace_first [r.2, r_1.2]).bind fun (t_1 : Int) =>
 bif (t_1 != 0) then
 Option.map Sum.inr (Option.map Sum.inr (
 some ([], t_1)))
 else
 (app out [(r.1, r_1.1)]).bind fun (t_2 : List Dapi_Span) =>
 some (.inl (wi64 (t + 1), t_2)))
 else
 some (.inr (.inl out))) (0, [])).bind fun j => match j with
 | .inl out_1 => (
 some (out_1, 0))
 | .inr r => some r
noncomputable def trace_MapOf (c : Dapi_TraceCourse) (before : Int) (after : Int) : Option (Dapi_TraceMap × Int) :=
 (trace_opened c [before, after]).bind fun (r : Dtrace_course × Int) =>
 (trace_unless (decide (before ≤ after)) 9).bind fun (t : Int) =>
 (trace_first [r.2, t]).bind fun (t_1 : Int) =>
 bif (t_1 != 0) then
 some ([], t_1)
 else
 chk (decide ((0 : Int) ≤ before) && decide (before < (List.length r.1.2 : Int))) (
 chk (decide ((0 : Int) ≤ after) && decide (after < (List.length r.1.2 : Int))) (
 let early : (List Dtrace_section) := lget [] r.1.2 before
 let late : (List Dtrace_section) := lget [] r.1.2 after
 (trace_strip_begin late).bind fun (t_2 : Dtrace_ratio) =>
 (loopM (S := (List Dtrace_ratio) × Int) (R := (List Dtrace_ratio)) (fun s =>
 let points : (List Dtrace_ratio) := s.1
 let t_3 : Int := s.2
 bif decide (t_3 < (List.length late : Int)) then
 chk (decide ((0 : Int) ≤ t_3) && decide (t_3 < (List.length late : Int))) (
 let s_1 : Dtrace_section := lget ((fun _ => (false, ([], []))), ((fun _ => (false, ([], []))), (0, 0))) late t_3
 chk (decide ((0 : Int) ≤ 1) && decide ((1 : Int) < 2)) (
 (app points [aget s_1.1 1]).bind fun (t_4 : List Dtrace_ratio) =>
 some (.inl (t_4, wi64 (t_3 + 1)))))
 else
 some (.inr points)) ([t_2], 0)).bind fun (points_1 : (List Dtrace_ratio)) =>
 (loopM (S := (List Dtrace_knot) × Int) (R := (List Dtrace_knot)) (fun s_2 =>
 let m : (List Dtrace_knot) := s_2.1
 let t_5 : Int := s_2.2
 bif decide (t_5 < (List.length points_1 : Int)) then
 chk (decide ((0 : Int) ≤ t_5) && decide (t_5 < (List.length points_1 : Int))) (
 let p : Dtrace_ratio := lget (false, ([], [])) points_1 t_5
 (trace_strip_at early p).bind fun (r_1 : Dtrace_ratio × Bool) =>
 (trace_strip_at late p).bind fun (r_2 : Dtrace_ratio × Bool) =>
 (app m [(r_1.1, r_2.1)]).bind fun (t_6 : List Dtrace_knot) =>
 some (.inl (t_6, wi64 (t_5 + 1))))
 else
 some (.inr m)) ([], 0)).bind fun (m_1 : (List Dtrace_knot)) =>
 (trace_chart_simple m_1).bind fun (t_7 : (List Dtrace_knot)) =>
 (trace_chart_written t_7).bind fun (r_3 : Dapi_TraceMap × Int) =>
 some (r_3.1, r_3.2)))
end Go.Lift
