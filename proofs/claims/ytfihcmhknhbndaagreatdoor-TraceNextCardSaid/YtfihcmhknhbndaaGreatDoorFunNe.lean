/-
  The functions of the next reading, as plain functions.
-/
import Derived.Test.YtfihcmhknhbndaaGreatDoorFunF
import Derived.Test.YtfihcmhknhbndaaGreatDoorFunG
import Derived.Test.YtfihcmhknhbndaaGreatDoorFunCb
import Derived.Test.YtfihcmhknhbndaaGreatDoorFunRe
set_option linter.unusedSectionVars false
set_option linter.unusedVariables false
set_option linter.unusedSimpArgs false
namespace Go.Lift
open Go

noncomputable def trace_NextReading (c : Dapi_TraceCourse) (l : (List Dapi_TraceCause)) (x : Dapi_TraceSearch) : Option (Int × Int × Int) :=
 (trace_openEvidence c l x.1).bind fun (r : Dtrace_course × Dtrace_evidence × Int) =>
 (trace_unless (decide ((List.length x.2 : Int) > 0)) 10).bind fun (t : Int) =>
 (trace_first [r.2.2, t]).bind fun (t_1 : Int) =>
 (bif (t_1 == 0) then
 (trace_course_openReadings r.1 x.2).bind fun (t_2 : Int) =>
 some t_2
 else
 some t_1).bind fun (e : Int) =>
 bif (e != 0) then
 some (0, 0, e)
 else
 (trace_evidence_every r.2.1).bind fun (t_3 : Int) =>
 (trace_evidence_explanations r.2.1 t_3).bind fun (t_4 : (List Int)) =>
 bif ((List.length t_4 : Int) == 0) then
 some (0, 0, 12)
 else
 let least : Int := wi64 ((List.length t_4 : Int) + 1)
 (trace_course_evidenceOf r.1 l x.2).bind fun (t_5 : Dtrace_evidence) =>
 (loopM (S := Int × Int × Int) (R := Int × Int) (fun s =>
 let best : Int := s.1
 let least_1 : Int := s.2.1
 let t_6 : Int := s.2.2
 bif decide (t_6 < (List.length t_5.2.1 : Int)) then
 chk (decide ((0 : Int) ≤ t_6) && decide (t_6 < (List.length t_5.2.1 : Int))) (
 (loopM (S := Int × Int) (R := Int) (fun s_1 =>
 let predicted : Int := s_1.1
 let t_7 : Int := s_1.2
 bif decide (t_7 < (List.length t_4 : Int)) then
 chk (decide ((0 : Int) ≤ t_7) && decide (t_7 < (List.length t_4 : Int))) (
 (bif ((iand .u64 (lget 0 t_4 t_7) (lget 0 t_5.2.1 t_6)) != 0) then
 let predicted_1 : Int := wi64 (predicted + 1)
 some predicted_1
 else
 some predicted).bind fun (predicted_2 : Int) =>
 some (.inl (predicted_2, wi64 (t_7 + 1))))
 else
 some (.inr predicted)) (0, 0)).bind fun (predicted_3 : Int) =>
 let n : Int := imax predicted_3 (wi64 ((List.length t_4 : Int) - predicted_3))
 (bif decide (n < least_1) then
 some (t_6, n)
 else
 some (best, least_1)).bind fun (j : Int × Int) =>
 let best_1 : Int := j.1
 let least_2 : Int := j.2
 some (.inl (best_1, least_2, wi64 (t_6 + 1))))
 else
 some (.inr (best, least_1))) (0, least, 0)).bind fun (b : Int × Int) =>
 let best_2 : Int := b.1
 let least_3 : Int := b.2
 some (best_2, least_3, 0)

noncomputable def cobbleref09_Next (c : Dapi_TraceCourse) (l : (List Dapi_TraceCause)) (x : Dapi_TraceSearch) : Option (Int × Int × Bool) :=
 (cobbleref09_Explanations c l x.1).bind fun (t : (List (List Int))) =>
 bif ((List.length t : Int) == 0) then
 some (0, 0, false)
 else
 (cobbleref09_Table c l x.2).bind fun (t_1 : (List (List Bool))) =>
 (loopM (S := Int × Int × Int) (R := Int × Int) (fun s =>
 let best : Int := s.1
 let count : Int := s.2.1
 let i : Int := s.2.2
 bif decide (i < (List.length x.2 : Int)) then
 (loopM (S := Int × Int) (R := Int) (fun s_1 =>
 let n : Int := s_1.1
 let k : Int := s_1.2
 bif decide (k < (List.length t : Int)) then
 chk (decide ((0 : Int) ≤ i) && decide (i < (List.length t_1 : Int))) (
 chk (decide ((0 : Int) ≤ k) && decide (k < (List.length t : Int))) (
 (cobbleref09_some (lget [] t_1 i) (lget [] t k)).bind fun (t_2 : Bool) =>
 (bif t_2 then
 some (wi64 (n + 1))
 else
 some n).bind fun (n_1 : Int) =>
 some (.inl (n_1, wi64 (k + 1)))))
 else
 some (.inr n)) (0, 0)).bind fun (n_2 : Int) =>
 let m : Int := imax n_2 (wi64 ((List.length t : Int) - n_2))
 (bif ((decide (best < 0)) || (decide (m < count))) then
 some (i, m)
 else
 some (best, count)).bind fun (j : Int × Int) =>
 let best_1 : Int := j.1
 let count_1 : Int := j.2
 some (.inl (best_1, count_1, wi64 (i + 1)))
 else
 some (.inr (best, count))) ((-1), 0, 0)).bind fun (b : Int × Int) =>
 let best_2 : Int := b.1
 let count_2 : Int := b.2
 some (best_2, count_2, true)

noncomputable def cobblelaw09_TraceNext (c : Dapi_TraceCourse) (l : (List Dapi_TraceCause)) (x : Dapi_TraceSearch) : Option (Bool) :=
 (cobblelaw09_awake).bind fun (t : Bool) =>
 bif !t then
 some false
 else
 (cobblelaw09_Few c).bind fun (t_1 : Bool) =>
 (bif !t_1 then some true else
 (cobblelaw09_light l x.1).bind fun (t_2 : Bool) =>
 some (!t_2)).bind fun (c_1 : Bool) =>
 bif (c_1 || (decide ((List.length x.2 : Int) > 12))) then
 some true
 else
 (cobbleref09_CopyCourse c).bind fun (t_3 : Dapi_TraceCourse) =>
 (cobbleref09_CopyCauses l).bind fun (t_4 : (List Dapi_TraceCause)) =>
 (cobbleref09_CopyReadings x.1).bind fun (t_5 : (List Dapi_TraceReading)) =>
 (cobbleref09_CopyReadings x.2).bind fun (t_6 : (List Dapi_TraceReading)) =>
 (trace_NextReading t_3 t_4 (t_5, t_6)).bind fun (r : Int × Int × Int) =>
 (cobbleref09_CausesErr c l).bind fun (t_7 : Int) =>
 (bif (t_7 == 0) then
 (cobbleref09_ReadingsErr c x.1).bind fun (t_8 : Int) =>
 some t_8
 else
 some t_7).bind fun (d : Int) =>
 (bif ((d == 0) && ((List.length x.2 : Int) == 0)) then
 some 10
 else
 some d).bind fun (d_1 : Int) =>
 (bif (d_1 == 0) then
 (cobbleref09_ReadingsErr c x.2).bind fun (t_9 : Int) =>
 some t_9
 else
 some d_1).bind fun (d_2 : Int) =>
 bif (d_2 != 0) then
 let t_10 : Bool := (((r.2.2 == d_2) && (r.1 == 0)) && (r.2.1 == 0))
 some t_10
 else
 (cobbleref09_Next c l x).bind fun (r_1 : Int × Int × Bool) =>
 bif !r_1.2.2 then
 let t_11 : Bool := (((r.2.2 == 12) && (r.1 == 0)) && (r.2.1 == 0))
 some t_11
 else
 let t_12 : Bool := (((r.2.2 == 0) && (r.1 == r_1.1)) && (r.2.1 == r_1.2.1))
 some t_12

end Go.Lift
