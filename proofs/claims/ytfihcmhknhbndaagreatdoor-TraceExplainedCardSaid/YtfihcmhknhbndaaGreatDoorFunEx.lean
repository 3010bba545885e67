/-
  The functions of explanations, as plain functions.
-/
import Derived.Test.YtfihcmhknhbndaaGreatDoorFunF
import Derived.Test.YtfihcmhknhbndaaGreatDoorFunG
import Derived.Test.YtfihcmhknhbndaaGreatDoorFunCb
import Derived.Test.YtfihcmhknhbndaaGreatDoorFunRe
import Derived.Test.YtfihcmhknhbndaaGreatDoorFunCt
set_option linter.unusedSectionVars false
set_option linter.unusedVariables false
set_option linter.unusedSimpArgs false
namespace Go.Lift
open Go
noncomputable def r9_Contradicting (c : Dapi_TraceCourse) (l : (List Dapi_TraceCause)) (r : (List Dapi_TraceReading)) : Option ((List Int) × Bool) :=
 (r9_Table c l r).bind fun (t : (List (List Bool))) =>
 (r9_explained t (List.length l : Int) r).bind fun (t_1 : (List (List Int))) =>
 bif decide ((List.length t_1 : Int) > 0) then
 some ([], false)
 else
 (loopM (S := (List Int) × Int) (R := (List Int)) (fun s =>
 let best : (List Int) := s.1
 let n : Int := s.2
 chk (decide ((0 : Int) ≤ (List.length r : Int))) (
 let t_2 : Int := ishl .i64 1 (List.length r : Int)
 bif decide (n < t_2) then
 (r9_members n).bind fun (t_3 : (List Int)) =>
 (bif decide ((List.length best : Int) > 0) then
 (bif decide ((List.length t_3 : Int) > (List.length best : Int)) then some true else
 (bif ((List.length t_3 : Int) == (List.length best : Int)) then
 (b0_Before t_3 best).bind fun (t_4 : Bool) =>
 some (!t_4)
 else some false).bind fun (c_1 : Bool) =>
 some c_1).bind fun (c_2 : Bool) =>
 some c_2
 else some false).bind fun (c_3 : Bool) =>
 bif c_3 then
 some (.inl (best, wi64 (n + 1)))
 else
 (loopM (S := (List (List Bool)) × (List Dapi_TraceReading) × Int) (R := (List (List Bool)) × (List Dapi_TraceReading)) (fun s_1 =>
 let t_5 : (List (List Bool)) := s_1.1
 let few : (List Dapi_TraceReading) := s_1.2.1
 let i : Int := s_1.2.2
 bif decide (i < (List.length t_3 : Int)) then
 chk (decide ((0 : Int) ≤ i) && decide (i < (List.length t_3 : Int))) (
 chk (decide ((0 : Int) ≤ (lget 0 t_3 i)) && decide ((lget 0 t_3 i) < (List.length t : Int))) (
 (app t_5 [lget [] t (lget 0 t_3 i)]).bind fun (t_6 : List (List Bool)) =>
 chk (decide ((0 : Int) ≤ i) && decide (i < (List.length t_3 : Int))) (
 chk (decide ((0 : Int) ≤ (lget 0 t_3 i)) && decide ((lget 0 t_3 i) < (List.length r : Int))) (
 (app few [lget (0, (0, false)) r (lget 0 t_3 i)]).bind fun (t_7 : List Dapi_TraceReading) =>
 some (.inl (t_6, t_7, wi64 (i + 1)))))))
 else
 some (.inr (t_5, few))) ([], [], 0)).bind fun (b : (List (List Bool)) × (List Dapi_TraceReading)) =>
 let t_8 : (List (List Bool)) := b.1
 let few_1 : (List Dapi_TraceReading) := b.2
 (r9_explained t_8 (List.length l : Int) few_1).bind fun (t_9 : (List (List Int))) =>
 (bif ((List.length t_9 : Int) == 0) then
 some t_3
 else
 some best).bind fun (best_1 : (List Int)) =>
 some (.inl (best_1, wi64 (n + 1)))
 else
 some (.inr best))) ([], 1)).bind fun (best_2 : (List Int)) =>
 some (best_2, true)
noncomputable def l9_TraceExplained (c : Dapi_TraceCourse) (l : (List Dapi_TraceCause)) (r : (List Dapi_TraceReading)) : Option (Bool) :=
 (l9_awake).bind fun (t : Bool) =>
 bif !t then
 some false
 else
 (l9_Few c).bind fun (t_1 : Bool) =>
 (bif !t_1 then some true else
 (l9_light l r).bind fun (t_2 : Bool) =>
 some (!t_2)).bind fun (c_1 : Bool) =>
 bif c_1 then
 some true
 else
 (r9_CopyCourse c).bind fun (t_3 : Dapi_TraceCourse) =>
 (r9_CopyCauses l).bind fun (t_4 : (List Dapi_TraceCause)) =>
 (r9_CopyReadings r).bind fun (t_5 : (List Dapi_TraceReading)) =>
 (trace_Explanations t_3 t_4 t_5).bind fun (r_1 : (List (List Int)) × Int) =>
 (r9_CopyCourse c).bind fun (t_6 : Dapi_TraceCourse) =>
 (r9_CopyCauses l).bind fun (t_7 : (List Dapi_TraceCause)) =>
 (r9_CopyReadings r).bind fun (t_8 : (List Dapi_TraceReading)) =>
 (trace_Contradicting t_6 t_7 t_8).bind fun (r_2 : (List Int) × Int) =>
 (r9_CausesErr c l).bind fun (t_9 : Int) =>
 (bif (t_9 == 0) then
 (r9_ReadingsErr c r).bind fun (t_10 : Int) =>
 some t_10
 else
 some t_9).bind fun (d : Int) =>
 bif (d != 0) then
 (bif ((r_1.2 == d) && (r_2.2 == d)) then
 some ((wi64 ((List.length r_1.1 : Int) + (List.length r_2.1 : Int))) == 0)
 else some false).bind fun (c_2 : Bool) =>
 some c_2
 else
 (r9_Explanations c l r).bind fun (t_11 : (List (List Int))) =>
 (bif (((List.length t_11 : Int) == 0) && ((r_1.2 != 12) || ((List.length r_1.1 : Int) != 0))) then some true else
 (bif decide ((List.length t_11 : Int) > 0) then
 (bif (r_1.2 != 0) then some true else
 (b0_Lists r_1.1 t_11).bind fun (t_12 : Bool) =>
 some (!t_12)).bind fun (c_3 : Bool) =>
 some c_3
 else some false).bind fun (c_4 : Bool) =>
 some c_4).bind fun (c_5 : Bool) =>
 bif c_5 then
 some false
 else
 (r9_Contradicting c l r).bind fun (r_3 : (List Int) × Bool) =>
 bif !r_3.2 then
 let t_13 : Bool := ((r_2.2 == 12) && ((List.length r_2.1 : Int) == 0))
 some t_13
 else
 (bif (r_2.2 == 0) then
 (b0_Ints r_2.1 r_3.1).bind fun (t_14 : Bool) =>
 some t_14
 else some false).bind fun (c_6 : Bool) =>
 some c_6
end Go.Lift
