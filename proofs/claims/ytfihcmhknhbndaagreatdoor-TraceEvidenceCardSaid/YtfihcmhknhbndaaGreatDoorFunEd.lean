/-
  The functions of all evidence, as plain functions.
-/
import Derived.Test.YtfihcmhknhbndaaGreatDoorFunF
import Derived.Test.YtfihcmhknhbndaaGreatDoorFunG
import Derived.Test.YtfihcmhknhbndaaGreatDoorFunCb
import Derived.Test.YtfihcmhknhbndaaGreatDoorFunCt
set_option linter.unusedSectionVars false
set_option linter.unusedVariables false
set_option linter.unusedSimpArgs false
namespace Go.Lift
open Go

noncomputable def l9_areIndexes (l : (List Int)) (count : Int) : Option (Bool) :=
 (loopM (S := Int) (R := (Unit) ⊕ (Bool)) (fun i =>
 bif decide (i < (List.length l : Int)) then
 chk (decide ((0 : Int) ≤ i) && decide (i < (List.length l : Int))) (
 (b0_Within (lget 0 l i) 0 (wi64 (count - 1))).bind fun (t : Bool) =>
 (bif !t then some true else
 (bif decide (i > 0) then
 chk (decide ((0 : Int) ≤ i) && decide (i < (List.length l : Int))) (
 chk (decide ((0 : Int) ≤ (wi64 (i - 1))) && decide ((wi64 (i - 1)) < (List.length l : Int))) (
 some (decide ((lget 0 l i) ≤ (lget 0 l (wi64 (i - 1)))))))
 else some false).bind fun (c : Bool) =>
 some c).bind fun (c_1 : Bool) =>
 bif c_1 then
 Option.map Sum.inr (Option.map Sum.inr (
 some false))
 else
 some (.inl (wi64 (i + 1))))
 else
 some (.inr (.inl ()))) 0).bind fun j => match j with
 | .inl _ => (
 some true)
 | .inr r => some r

noncomputable def l9_TraceEvidence (c : Dapi_TraceCourse) (l : (List Dapi_TraceCause)) (r : (List Dapi_TraceReading)) : Option (Bool) :=
 (l9_awake).bind fun (t : Bool) =>
 bif !t then
 some false
 else
 (l9_Few c).bind fun (t_1 : Bool) =>
 (bif !t_1 then some true else
 (l9_light l r).bind fun (t_2 : Bool) =>
 some (!t_2)).bind fun (c_1 : Bool) =>
 (bif c_1 then some true else
 (r9_CausesErr c l).bind fun (t_3 : Int) =>
 some (t_3 != 0)).bind fun (c_2 : Bool) =>
 (bif c_2 then some true else
 (r9_ReadingsErr c r).bind fun (t_4 : Int) =>
 some (t_4 != 0)).bind fun (c_3 : Bool) =>
 bif c_3 then
 some true
 else
 (r9_CopyCourse c).bind fun (t_5 : Dapi_TraceCourse) =>
 (r9_CopyCauses l).bind fun (t_6 : (List Dapi_TraceCause)) =>
 (r9_CopyReadings r).bind fun (t_7 : (List Dapi_TraceReading)) =>
 (trace_Explanations t_5 t_6 t_7).bind fun (r_1 : (List (List Int)) × Int) =>
 (r9_CopyCourse c).bind fun (t_8 : Dapi_TraceCourse) =>
 (r9_CopyCauses l).bind fun (t_9 : (List Dapi_TraceCause)) =>
 (r9_CopyReadings r).bind fun (t_10 : (List Dapi_TraceReading)) =>
 (trace_Contradicting t_8 t_9 t_10).bind fun (r_2 : (List Int) × Int) =>
 bif (r_1.2 == 0) then
 bif ((((r_2.2 != 12) || ((List.length r_2.1 : Int) != 0)) || ((List.length r_1.1 : Int) == 0)) || (decide ((List.length r_1.1 : Int) > 32))) then
 some false
 else
 (loopM (S := Int) (R := (Unit) ⊕ (Bool)) (fun i =>
 bif decide (i < (List.length r_1.1 : Int)) then
 chk (decide ((0 : Int) ≤ i) && decide (i < (List.length r_1.1 : Int))) (
 chk (decide ((0 : Int) ≤ 0) && decide (0 < (List.length r_1.1 : Int))) (
 (bif ((List.length (lget [] r_1.1 i) : Int) != (List.length (lget [] r_1.1 0) : Int)) then some true else
 chk (decide ((0 : Int) ≤ i) && decide (i < (List.length r_1.1 : Int))) (
 (l9_areIndexes (lget [] r_1.1 i) (List.length l : Int)).bind fun (t_11 : Bool) =>
 some (!t_11))).bind fun (c_4 : Bool) =>
 bif c_4 then
 Option.map Sum.inr (Option.map Sum.inr (
 some false))
 else
 (loopM (S := Int) (R := (Unit) ⊕ ((Int) ⊕ ((Unit) ⊕ (Bool)))) (fun without =>
 chk (decide ((0 : Int) ≤ i) && decide (i < (List.length r_1.1 : Int))) (
 bif decide (without < (List.length (lget [] r_1.1 i) : Int)) then
 (loopM (S := (List Dapi_TraceCause) × Int) (R := (List Dapi_TraceCause)) (fun s =>
 let some_ : (List Dapi_TraceCause) := s.1
 let k : Int := s.2
 chk (decide ((0 : Int) ≤ i) && decide (i < (List.length r_1.1 : Int))) (
 bif decide (k < (List.length (lget [] r_1.1 i) : Int)) then
 (bif (k != without) then
 chk (decide ((0 : Int) ≤ i) && decide (i < (List.length r_1.1 : Int))) (
 chk (decide ((0 : Int) ≤ k) && decide (k < (List.length (lget [] r_1.1 i) : Int))) (
 chk (decide ((0 : Int) ≤ (lget 0 (lget [] r_1.1 i) k)) && decide ((lget 0 (lget [] r_1.1 i) k) < (List.length l : Int))) (
 (app some_ [lget (ByteArray.empty, (0, (0, (0, 0)))) l (lget 0 (lget [] r_1.1 i) k)]).bind fun (t_12 : List Dapi_TraceCause) =>
 some t_12)))
 else
 some some_).bind fun (some__1 : (List Dapi_TraceCause)) =>
 some (.inl (some__1, wi64 (k + 1)))
 else
 some (.inr some_))) ([], 0)).bind fun (some__2 : (List Dapi_TraceCause)) =>
 (r9_CopyCourse c).bind fun (t_13 : Dapi_TraceCourse) =>
 (r9_CopyReadings r).bind fun (t_14 : (List Dapi_TraceReading)) =>
 (trace_Contradiction t_13 some__2 t_14).bind fun (r_3 : Int × Int) =>
 bif (((decide (without < 0)) && (r_3.2 != 12)) || ((decide (without ≥ 0)) && (r_3.2 != 0))) then
 Option.map Sum.inr (Option.map Sum.inr (
 Option.map Sum.inr (Option.map Sum.inr (
 some false))))
 else
 some (.inl (wi64 (without + 1)))
 else
 some (.inr (.inl ())))) (-1)).bind fun j => match j with
 | .inl _ => (
 some (.inl (wi64 (i + 1))))
 | .inr r => some r))
 else
 some (.inr (.inl ()))) 0).bind fun j => match j with
 | .inl _ => (
 some true)
 | .inr r => some r
 else
 (bif ((((r_1.2 != 12) || ((List.length r_1.1 : Int) != 0)) || (r_2.2 != 0)) || ((List.length r_2.1 : Int) == 0)) then some true else
 (l9_areIndexes r_2.1 (List.length r : Int)).bind fun (t_15 : Bool) =>
 some (!t_15)).bind fun (c_5 : Bool) =>
 bif c_5 then
 some false
 else
 (loopM (S := Int) (R := (Unit) ⊕ (Bool)) (fun without_1 =>
 bif decide (without_1 < (List.length r_2.1 : Int)) then
 (loopM (S := (List Dapi_TraceReading) × Int) (R := (List Dapi_TraceReading)) (fun s_1 =>
 let few : (List Dapi_TraceReading) := s_1.1
 let k_1 : Int := s_1.2
 bif decide (k_1 < (List.length r_2.1 : Int)) then
 (bif (k_1 != without_1) then
 chk (decide ((0 : Int) ≤ k_1) && decide (k_1 < (List.length r_2.1 : Int))) (
 chk (decide ((0 : Int) ≤ (lget 0 r_2.1 k_1)) && decide ((lget 0 r_2.1 k_1) < (List.length r : Int))) (
 (app few [lget (0, (0, false)) r (lget 0 r_2.1 k_1)]).bind fun (t_16 : List Dapi_TraceReading) =>
 some t_16))
 else
 some few).bind fun (few_1 : (List Dapi_TraceReading)) =>
 some (.inl (few_1, wi64 (k_1 + 1)))
 else
 some (.inr few)) ([], 0)).bind fun (few_2 : (List Dapi_TraceReading)) =>
 (r9_CopyCourse c).bind fun (t_17 : Dapi_TraceCourse) =>
 (r9_CopyCauses l).bind fun (t_18 : (List Dapi_TraceCause)) =>
 (trace_Explanations t_17 t_18 few_2).bind fun (r_4 : (List (List Int)) × Int) =>
 bif (((decide (without_1 < 0)) && (r_4.2 != 12)) || ((decide (without_1 ≥ 0)) && (r_4.2 != 0))) then
 Option.map Sum.inr (Option.map Sum.inr (
 some false))
 else
 let without_2 : Int := wi64 (without_1 + 1)
 some (.inl without_2)
 else
 some (.inr (.inl ()))) (-1)).bind fun j => match j with
 | .inl _ => (
 some true)
 | .inr r => some r

end Go.Lift
