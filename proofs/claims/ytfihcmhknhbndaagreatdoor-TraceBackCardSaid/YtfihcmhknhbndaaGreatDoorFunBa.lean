/-
  The functions of maps there and back, as plain functions.
-/
import Derived.Test.YtfihcmhknhbndaaGreatDoorFunF
import Derived.Test.YtfihcmhknhbndaaGreatDoorFunG
import Derived.Test.YtfihcmhknhbndaaGreatDoorFunVo
import Derived.Test.YtfihcmhknhbndaaGreatDoorFunEv
import Derived.Test.YtfihcmhknhbndaaGreatDoorFunMa
import Derived.Test.YtfihcmhknhbndaaGreatDoorFunVa
set_option linter.unusedSectionVars false
set_option linter.unusedVariables false
set_option linter.unusedSimpArgs false
namespace Go.Lift
open Go
noncomputable def l9_TraceBack (c : Dapi_TraceCourse) (x : (Nat → Int)) (a : Dapi_TraceMap) : Option (Bool) :=
 (l9_awake).bind fun (t : Bool) =>
 bif !t then
 some false
 else
 (l9_Few c).bind fun (t_1 : Bool) =>
 (bif !t_1 then some true else
 (l9_fewMap a).bind fun (t_2 : Bool) =>
 some (!t_2)).bind fun (c_1 : Bool) =>
 bif c_1 then
 some true
 else
 (r9_MapErr a).bind fun (t_3 : Int) =>
 (bif (t_3 == 0) then
 (r9_CopyMap a).bind fun (t_4 : Dapi_TraceMap) =>
 (trace_Inverse t_4).bind fun (r : Dapi_TraceMap × Int) =>
 (bif (r.2 != 0) then some true else
 (l9_fewMap r.1).bind fun (t_5 : Bool) =>
 some (!t_5)).bind fun (c_2 : Bool) =>
 bif c_2 then
 Option.map Sum.inr (
 some false)
 else
 (r9_CopyMap r.1).bind fun (t_6 : Dapi_TraceMap) =>
 (trace_Inverse t_6).bind fun (r_1 : Dapi_TraceMap × Int) =>
 (bif (r_1.2 != 0) then some true else
 (r9_SameMap r_1.1 a).bind fun (t_7 : Bool) =>
 some (!t_7)).bind fun (c_3 : Bool) =>
 bif (c_3 || ((List.length r.1 : Int) != (List.length a : Int))) then
 Option.map Sum.inr (
 some false)
 else
 (loopM (S := Int) (R := (Unit) ⊕ ((Unit) ⊕ (Bool))) (fun i =>
 bif decide (i < (List.length a : Int)) then
 (r9_CopyMap a).bind fun (t_8 : Dapi_TraceMap) =>
 chk (decide ((0 : Int) ≤ i) && decide (i < (List.length a : Int))) (
 (trace_ValueAt t_8 ((lget ((0, 0), (0, 0)) a i).1)).bind fun (r_2 : Dapi_Frac × Int) =>
 (r9_CopyMap r.1).bind fun (t_9 : Dapi_TraceMap) =>
 chk (decide ((0 : Int) ≤ i) && decide (i < (List.length a : Int))) (
 (trace_ValueAt t_9 ((lget ((0, 0), (0, 0)) a i).2)).bind fun (r_3 : Dapi_Frac × Int) =>
 (bif (r_2.2 != 0) then some true else
 chk (decide ((0 : Int) ≤ i) && decide (i < (List.length a : Int))) (
 some (!(Ty.eqb Tapi_Frac r_2.1 ((lget ((0, 0), (0, 0)) a i).2))))).bind fun (c_4 : Bool) =>
 (bif (c_4 || (r_3.2 != 0)) then some true else
 chk (decide ((0 : Int) ≤ i) && decide (i < (List.length a : Int))) (
 some (!(Ty.eqb Tapi_Frac r_3.1 ((lget ((0, 0), (0, 0)) a i).1))))).bind fun (c_5 : Bool) =>
 bif c_5 then
 Option.map Sum.inr (Option.map Sum.inr (
 Option.map Sum.inr (
 some false)))
 else
 some (.inl (wi64 (i + 1)))))
 else
 some (.inr (.inl ()))) 0).bind fun j => match j with
 | .inl _ => (
 some (.inl ()))
 | .inr r => some r
 else
 some (.inl ()) : Option ((Unit) ⊕ (Bool))).bind fun j => match j with
 | .inl _ => (
 (r9_CourseErr c).bind fun (t_10 : Int) =>
 (bif (t_10 != 0) then some true else
 chk (decide ((0 : Int) ≤ 0) && decide ((0 : Int) < 3)) (
 chk (decide ((0 : Int) ≤ 1) && decide ((1 : Int) < 3)) (
 (b0_Within (aget x 0) 0 (aget x 1)).bind fun (t_11 : Bool) =>
 some (!t_11)))).bind fun (c_6 : Bool) =>
 (bif c_6 then some true else
 chk (decide ((0 : Int) ≤ 1) && decide ((1 : Int) < 3)) (
 chk (decide ((0 : Int) ≤ 0) && decide ((0 : Int) < 3)) (
 chk (decide ((0 : Int) ≤ 2) && decide ((2 : Int) < 3)) (
 (b0_Within (aget x 1) (aget x 0) (aget x 2)).bind fun (t_12 : Bool) =>
 some (!t_12))))).bind fun (c_7 : Bool) =>
 (bif c_7 then some true else
 chk (decide ((0 : Int) ≤ 2) && decide ((2 : Int) < 3)) (
 some (decide ((aget x 2) > (List.length c.2.2.2 : Int))))).bind fun (c_8 : Bool) =>
 bif c_8 then
 some true
 else
 (r9_CopyCourse c).bind fun (t_13 : Dapi_TraceCourse) =>
 chk (decide ((0 : Int) ≤ 0) && decide ((0 : Int) < 3)) (
 chk (decide ((0 : Int) ≤ 2) && decide ((2 : Int) < 3)) (
 (trace_MapOf t_13 (aget x 0) (aget x 2)).bind fun (r_4 : Dapi_TraceMap × Int) =>
 (r9_CopyCourse c).bind fun (t_14 : Dapi_TraceCourse) =>
 chk (decide ((0 : Int) ≤ 0) && decide ((0 : Int) < 3)) (
 chk (decide ((0 : Int) ≤ 1) && decide ((1 : Int) < 3)) (
 (trace_MapOf t_14 (aget x 0) (aget x 1)).bind fun (r_5 : Dapi_TraceMap × Int) =>
 (r9_CopyCourse c).bind fun (t_15 : Dapi_TraceCourse) =>
 chk (decide ((0 : Int) ≤ 1) && decide ((1 : Int) < 3)) (
 chk (decide ((0 : Int) ≤ 2) && decide ((2 : Int) < 3)) (
 (trace_MapOf t_15 (aget x 1) (aget x 2)).bind fun (r_6 : Dapi_TraceMap × Int) =>
 bif (((r_4.2 != 0) || (r_5.2 != 0)) || (r_6.2 != 0)) then
 let t_16 : Bool := ((((r_4.2 == 0) || (r_4.2 == 8)) && ((r_5.2 == 0) || (r_5.2 == 8))) && ((r_6.2 == 0) || (r_6.2 == 8)))
 some t_16
 else
 (l9_fewMap r_4.1).bind fun (t_17 : Bool) =>
 (bif !t_17 then some true else
 (l9_fewMap r_5.1).bind fun (t_18 : Bool) =>
 some (!t_18)).bind fun (c_9 : Bool) =>
 (bif c_9 then some true else
 (l9_fewMap r_6.1).bind fun (t_19 : Bool) =>
 some (!t_19)).bind fun (c_10 : Bool) =>
 (bif c_10 then some true else
 (r9_MapErr r_5.1).bind fun (t_20 : Int) =>
 some (t_20 != 0)).bind fun (c_11 : Bool) =>
 (bif c_11 then some true else
 (r9_MapErr r_6.1).bind fun (t_21 : Int) =>
 some (t_21 != 0)).bind fun (c_12 : Bool) =>
 bif c_12 then
 some false
 else
 (r9_CopyMap r_5.1).bind fun (t_22 : Dapi_TraceMap) =>
 (r9_CopyMap r_6.1).bind fun (t_23 : Dapi_TraceMap) =>
 (trace_Composed t_22 t_23).bind fun (r_7 : Dapi_TraceMap × Int) =>
 (bif (r_7.2 == 0) then
 (r9_SameMap r_7.1 r_4.1).bind fun (t_24 : Bool) =>
 some t_24
 else some false).bind fun (c_13 : Bool) =>
 some c_13)))))))
 | .inr r => some r
end Go.Lift
