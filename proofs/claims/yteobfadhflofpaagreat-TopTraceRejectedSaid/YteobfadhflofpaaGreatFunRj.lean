/-
  The functions of rejected causes, as plain functions.
-/
import Derived.Test.YteobfadhflofpaaGreatFunF
import Derived.Test.YteobfadhflofpaaGreatFunG
import Derived.Test.YteobfadhflofpaaGreatFunCb
import Derived.Test.YteobfadhflofpaaGreatFunRe
import Derived.Test.YteobfadhflofpaaGreatFunCa
set_option linter.unusedSectionVars false
set_option linter.unusedVariables false
set_option linter.unusedSimpArgs false
namespace Go.Lift
open Go
noncomputable def cobbletop_traceAwake  : Option (Bool) :=
 (l9_Course).bind fun (t : Dapi_TraceCourse) =>
 (trace_PlaceOf t (1, (4500, false)) 2).bind fun (r : Dapi_Frac × Int) =>
 (l9_Course).bind fun (t_1 : Dapi_TraceCourse) =>
 (l9_Causes).bind fun (t_2 : (List Dapi_TraceCause)) =>
 (trace_Explanations t_1 t_2 [(1, (1000, true))]).bind fun (r_1 : (List (List Int)) × Int) =>
 (bif (r.2 == 0) then
 (b0_Whole 3500).bind fun (t_3 : Dapi_Frac) =>
 some (Ty.eqb Tapi_Frac r.1 t_3)
 else some false).bind fun (c : Bool) =>
 (bif (c && (r_1.2 == 0)) then
 (b0_Lists r_1.1 [[0], [1]]).bind fun (t_4 : Bool) =>
 some t_4
 else some false).bind fun (c_1 : Bool) =>
 some c_1
noncomputable def cobbletop_TopTraceRejected (c : Dapi_TraceCourse) (l : (List Dapi_TraceCause)) (r : (List Dapi_TraceReading)) : Option (Bool) :=
 (cobbletop_traceAwake).bind fun (t : Bool) =>
 bif !t then
 some false
 else
 (l9_Few c).bind fun (t_1 : Bool) =>
 (bif !t_1 then some true else
 (r9_CausesErr c l).bind fun (t_2 : Int) =>
 some (t_2 != 0)).bind fun (c_1 : Bool) =>
 (bif (c_1 || (decide ((List.length r : Int) > 7))) then some true else
 (r9_ReadingsErr c r).bind fun (t_3 : Int) =>
 some (t_3 != 0)).bind fun (c_2 : Bool) =>
 bif c_2 then
 some true
 else
 (loopM (S := (List Dapi_TraceCause) × Int) (R := (List Dapi_TraceCause)) (fun s =>
 let made : (List Dapi_TraceCause) := s.1
 let i : Int := s.2
 bif decide (i < (List.length l : Int)) then
 chk (decide ((0 : Int) ≤ i) && decide (i < (List.length l : Int))) (
 (app made [lget (ByteArray.empty, (0, (0, (0, 0)))) l i]).bind fun (t_4 : List Dapi_TraceCause) =>
 some (.inl (t_4, wi64 (i + 2))))
 else
 some (.inr made)) ([], 0)).bind fun (made_1 : (List Dapi_TraceCause)) =>
 (r9_CopyReadings r).bind fun (t_5 : List Dapi_TraceReading) =>
 (loopM (S := Int × (List Dapi_TraceReading)) (R := ((List Dapi_TraceReading)) ⊕ (Bool)) (fun s_1 =>
 let i_1 : Int := s_1.1
 let t_6 : (List Dapi_TraceReading) := s_1.2
 bif decide (i_1 < (List.length t_6 : Int)) then
 (r9_CopyCourse c).bind fun (t_7 : Dapi_TraceCourse) =>
 (r9_CopyCauses made_1).bind fun (t_8 : (List Dapi_TraceCause)) =>
 chk (decide ((0 : Int) ≤ i_1) && decide (i_1 < (List.length t_6 : Int))) (
 (trace_Predicts t_7 t_8 (lget (0, (0, false)) t_6 i_1)).bind fun (r_1 : Bool × Int) =>
 bif (r_1.2 != 0) then
 Option.map Sum.inr (Option.map Sum.inr (
 some false))
 else
 chk (decide ((0 : Int) ≤ i_1) && decide (i_1 < (List.length t_6 : Int))) (
 let t_9 : (List Dapi_TraceReading) := lset t_6 i_1 ((lget (0, (0, false)) t_6 i_1).1, (((lget (0, (0, false)) t_6 i_1).2).1, r_1.1))
 some (.inl (wi64 (i_1 + 1), t_9))))
 else
 some (.inr (.inl t_6))) (0, t_5)).bind fun j => match j with
 | .inl t_10 => (
 (r9_CopyCourse c).bind fun (t_11 : Dapi_TraceCourse) =>
 (r9_CopyCauses made_1).bind fun (t_12 : (List Dapi_TraceCause)) =>
 (r9_CopyReadings t_10).bind fun (t_13 : (List Dapi_TraceReading)) =>
 (trace_Contradiction t_11 t_12 t_13).bind fun (r_2 : Int × Int) =>
 bif (r_2.2 != 12) then
 some false
 else
 (r9_CopyCourse c).bind fun (t_14 : Dapi_TraceCourse) =>
 (r9_CopyCauses l).bind fun (t_15 : (List Dapi_TraceCause)) =>
 (r9_CopyReadings t_10).bind fun (t_16 : (List Dapi_TraceReading)) =>
 (trace_Explanations t_14 t_15 t_16).bind fun (r_3 : (List (List Int)) × Int) =>
 bif (((r_3.2 != 0) || ((List.length r_3.1 : Int) == 0)) || (decide ((List.length r_3.1 : Int) > 32))) then
 some false
 else
 (loopM (S := Int × Int) (R := (Int) ⊕ (Bool)) (fun s_2 =>
 let alone : Int := s_2.1
 let i_2 : Int := s_2.2
 bif decide (i_2 < (List.length l : Int)) then
 chk (decide ((0 : Int) ≤ i_2) && decide (i_2 < (List.length l : Int))) (
 let one_ : (List Dapi_TraceCause) := [lget (ByteArray.empty, (0, (0, (0, 0)))) l i_2]
 (r9_CopyCourse c).bind fun (t_17 : Dapi_TraceCourse) =>
 (r9_CopyReadings t_10).bind fun (t_18 : (List Dapi_TraceReading)) =>
 (trace_Contradiction t_17 one_ t_18).bind fun (r_4 : Int × Int) =>
 bif (r_4.2 == 12) then
 some (.inl (wi64 (alone + 1), wi64 (i_2 + 1)))
 else
 (bif (r_4.2 != 0) then some true else
 (b0_Within r_4.1 0 (wi64 ((List.length t_10 : Int) - 1))).bind fun (t_19 : Bool) =>
 some (!t_19)).bind fun (c_3 : Bool) =>
 bif c_3 then
 Option.map Sum.inr (Option.map Sum.inr (
 some false))
 else
 (r9_CopyCourse c).bind fun (t_20 : Dapi_TraceCourse) =>
 chk (decide ((0 : Int) ≤ r_4.1) && decide (r_4.1 < (List.length t_10 : Int))) (
 (trace_Predicts t_20 one_ (lget (0, (0, false)) t_10 r_4.1)).bind fun (r_5 : Bool × Int) =>
 (bif (r_5.2 != 0) then some true else
 chk (decide ((0 : Int) ≤ r_4.1) && decide (r_4.1 < (List.length t_10 : Int))) (
 some (r_5.1 == (((lget (0, (0, false)) t_10 r_4.1).2).2)))).bind fun (c_4 : Bool) =>
 bif c_4 then
 Option.map Sum.inr (Option.map Sum.inr (
 some false))
 else
 some (.inl (alone, wi64 (i_2 + 1)))))
 else
 some (.inr (.inl alone))) (0, 0)).bind fun j => match j with
 | .inl alone_1 => (
 (loopM (S := Int) (R := (Unit) ⊕ (Bool)) (fun i_3 =>
 bif decide (i_3 < (List.length r_3.1 : Int)) then
 chk (decide ((0 : Int) ≤ i_3) && decide (i_3 < (List.length r_3.1 : Int))) (
 (bif decide ((List.length (lget [] r_3.1 i_3) : Int) > (List.length made_1 : Int)) then some true else
 chk (decide ((0 : Int) ≤ i_3) && decide (i_3 < (List.length r_3.1 : Int))) (
 some (((List.length (lget [] r_3.1 i_3) : Int) == 1) && (alone_1 != (List.length r_3.1 : Int))))).bind fun (c_5 : Bool) =>
 bif c_5 then
 Option.map Sum.inr (Option.map Sum.inr (
 some false))
 else
 some (.inl (wi64 (i_3 + 1))))
 else
 some (.inr (.inl ()))) 0).bind fun j => match j with
 | .inl _ => (
 some true)
 | .inr r => some r)
 | .inr r => some r)
 | .inr r => some r
end Go.Lift
