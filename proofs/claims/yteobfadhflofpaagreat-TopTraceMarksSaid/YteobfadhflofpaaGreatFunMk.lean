/-
  The functions of marks, as plain functions.
-/
import Derived.Test.YteobfadhflofpaaGreatFunF
import Derived.Test.YteobfadhflofpaaGreatFunG
import Derived.Test.YteobfadhflofpaaGreatFunVo
import Derived.Test.YteobfadhflofpaaGreatFunEv
import Derived.Test.YteobfadhflofpaaGreatFunCb
import Derived.Test.YteobfadhflofpaaGreatFunRe
import Derived.Test.YteobfadhflofpaaGreatFunRo
set_option linter.unusedSectionVars false
set_option linter.unusedVariables false
set_option linter.unusedSimpArgs false
namespace Go.Lift
open Go
noncomputable def cobbletop_traceAwake  : Option (Bool) :=
 (l9_Course).bind fun (t : Dapi_TraceCourse) =>
 (trace_PlaceOf t (1, (4500, false)) 2).bind fun (r : Dapi_Frac × Int) =>
 (l9_Course).bind fun (t_1 : Dapi_TraceCourse) =>
 (l9_Causes).bind fun (t_2 : (List Dapi_TraceCause)) =>
 (trace_Explanations t_1 t_2 [(1, (1000, true))]).bind fun (r_1 : (List (List Int)) × Int) =>
 (bif (r.2 == 0) then
 (b0_Whole 3500).bind fun (t_3 : Dapi_Frac) =>
 some (Ty.eqb Tapi_Frac r.1 t_3)
 else some false).bind fun (c : Bool) =>
 (bif (c && (r_1.2 == 0)) then
 (b0_Lists r_1.1 [[0], [1]]).bind fun (t_4 : Bool) =>
 some t_4
 else some false).bind fun (c_1 : Bool) =>
 some c_1
noncomputable def cobbletop_TopTraceMarks (c : Dapi_TraceCourse) (roll : Dapi_TraceRoll) (first_ : Int) : Option (Bool) :=
 (cobbletop_traceAwake).bind fun (t : Bool) =>
 bif !t then
 some false
 else
 (l9_Few c).bind fun (t_1 : Bool) =>
 (bif !t_1 then some true else
 (r9_CourseErr c).bind fun (t_2 : Int) =>
 some (t_2 != 0)).bind fun (c_1 : Bool) =>
 (bif c_1 then some true else
 (r9_StepsErr c roll.2.1).bind fun (t_3 : Int) =>
 some (t_3 != 0)).bind fun (c_2 : Bool) =>
 (bif c_2 then some true else
 (b0_IsName roll.1).bind fun (t_4 : Bool) =>
 some (!t_4)).bind fun (c_3 : Bool) =>
 (bif c_3 then some true else
 (b0_Within roll.2.2 7 100000).bind fun (t_5 : Bool) =>
 some (!t_5)).bind fun (c_4 : Bool) =>
 (bif c_4 then some true else
 (b0_Within first_ 0 100000).bind fun (t_6 : Bool) =>
 some (!t_6)).bind fun (c_5 : Bool) =>
 bif c_5 then
 some true
 else
 let n : Int := (List.length c.2.2.2 : Int)
 (loopM (S := Int) (R := (Unit) ⊕ (Bool)) (fun k =>
 bif decide (k < n) then
 (r9_After c k).bind fun (t_7 : (List Dr9_Section)) =>
 (loopM (S := Int) (R := (Unit) ⊕ ((Int) ⊕ ((Unit) ⊕ (Bool)))) (fun i =>
 chk (decide ((0 : Int) ≤ k) && decide (k < (List.length c.2.2.2 : Int))) (
 bif decide (i < (List.length (((lget (0, ([], (0, 0))) c.2.2.2 k).2).1) : Int)) then
 chk (decide ((0 : Int) ≤ k) && decide (k < (List.length c.2.2.2 : Int))) (
 chk (decide ((0 : Int) ≤ i) && decide (i < (List.length (((lget (0, ([], (0, 0))) c.2.2.2 k).2).1) : Int))) (
 chk (decide ((0 : Int) ≤ i) && decide (i < (List.length t_7 : Int))) (
 bif decide ((lget 0 (((lget (0, ([], (0, 0))) c.2.2.2 k).2).1) i) > ((lget (((0, []), (0, [])), 0) t_7 i).2)) then
 Option.map Sum.inr (Option.map Sum.inr (
 Option.map Sum.inr (Option.map Sum.inr (
 some true))))
 else
 some (.inl (wi64 (i + 1))))))
 else
 some (.inr (.inl ())))) 0).bind fun j => match j with
 | .inl _ => (
 some (.inl (wi64 (k + 1))))
 | .inr r => some r
 else
 some (.inr (.inl ()))) roll.2.1).bind fun j => match j with
 | .inl _ => (
 (loopM (S := Int × Dapi_TraceMarks) (R := (Dapi_TraceMarks) ⊕ (Bool)) (fun s =>
 let i_1 : Int := s.1
 let x : Dapi_TraceMarks := s.2
 bif decide (i_1 < 20) then
 (r9_ReadingErr c (roll.2.1, (wi64 (first_ + (wi64 (i_1 * roll.2.2))), false))).bind fun (t_8 : Int) =>
 bif (t_8 != 0) then
 some (.inr (.inl x))
 else
 (r9_CopyCourse c).bind fun (t_9 : Dapi_TraceCourse) =>
 (trace_PlaceOf t_9 (roll.2.1, (wi64 (first_ + (wi64 (i_1 * roll.2.2))), false)) n).bind fun (r : Dapi_Frac × Int) =>
 bif (r.2 != 0) then
 bif ((r.2 == 12) || (r.2 == 8)) then
 some (.inl (wi64 (i_1 + 1), x))
 else
 Option.map Sum.inr (Option.map Sum.inr (
 some false))
 else
 (b0_IsLowest r.1).bind fun (t_10 : Bool) =>
 (bif !t_10 then some true else
 (b0_IsSmall r.1).bind fun (t_11 : Bool) =>
 some (!t_11)).bind fun (c_6 : Bool) =>
 bif c_6 then
 Option.map Sum.inr (Option.map Sum.inr (
 some false))
 else
 (b0_Floor r.1.1 r.1.2).bind fun (t_12 : Int) =>
 (bif decide ((List.length x.1 : Int) > 0) then
 chk (decide ((0 : Int) ≤ (wi64 ((List.length x.1 : Int) - 1))) && decide ((wi64 ((List.length x.1 : Int) - 1)) < (List.length x.1 : Int))) (
 some (decide (t_12 ≤ (lget 0 x.1 (wi64 ((List.length x.1 : Int) - 1))))))
 else some false).bind fun (c_7 : Bool) =>
 bif c_7 then
 Option.map Sum.inr (Option.map Sum.inr (
 some false))
 else
 (app x.1 [t_12]).bind fun (t_13 : List Int) =>
 some (.inl (wi64 (i_1 + 1), (t_13, x.2)))
 else
 some (.inr (.inl x))) (0, ([], 1))).bind fun j => match j with
 | .inl x_1 => (
 (r9_CopyCourse c).bind fun (t_14 : Dapi_TraceCourse) =>
 (r9_CopyMarks x_1).bind fun (t_15 : Dapi_TraceMarks) =>
 (trace_RollsOf t_14 t_15 [roll]).bind fun (r_1 : (List ByteArray) × Int) =>
 (r9_CopyCourse c).bind fun (t_16 : Dapi_TraceCourse) =>
 (r9_CopyMarks x_1).bind fun (t_17 : Dapi_TraceMarks) =>
 (trace_RollPair t_16 t_17 roll).bind fun (r_2 : (Nat → Int) × Int) =>
 (bif (r_1.2 == 0) then
 (b0_Texts r_1.1 [roll.1]).bind fun (t_18 : Bool) =>
 some t_18
 else some false).bind fun (c_8 : Bool) =>
 let t_19 : Bool := (c_8 && (r_2.2 == 12))
 some t_19)
 | .inr r => some r)
 | .inr r => some r
end Go.Lift
