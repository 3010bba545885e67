/-
  The functions of causes and evidence, as plain functions.
-/
import Derived.Test.YteobfadhflofpaaGreatFunF
import Derived.Test.YteobfadhflofpaaGreatFunG
set_option linter.unusedSectionVars false
set_option linter.unusedVariables false
set_option linter.unusedSimpArgs false
namespace Go.Lift
open Go
noncomputable def r9_CopyCauses (l : (List Dapi_TraceCause)) : Option ((List Dapi_TraceCause)) :=
 (app [] l).bind fun (t : List Dapi_TraceCause) =>
 some t
noncomputable def r9_CopyReadings (l : (List Dapi_TraceReading)) : Option ((List Dapi_TraceReading)) :=
 (app [] l).bind fun (t : List Dapi_TraceReading) =>
 some t
noncomputable def r9_ReadingsErr (c : Dapi_TraceCourse) (l : (List Dapi_TraceReading)) : Option (Int) :=
 bif decide ((List.length l : Int) > 10) then
 some 8
 else
 (loopM (S := Int) (R := (Unit) ⊕ (Int)) (fun i =>
 bif decide (i < (List.length l : Int)) then
 chk (decide ((0 : Int) ≤ i) && decide (i < (List.length l : Int))) (
 (r9_ReadingErr c (lget (0, (0, false)) l i)).bind fun (t : Int) =>
 bif (t != 0) then
 Option.map Sum.inr (Option.map Sum.inr (
 some t))
 else
 some (.inl (wi64 (i + 1))))
 else
 some (.inr (.inl ()))) 0).bind fun j => match j with
 | .inl _ => (
 some 0)
 | .inr r => some r
noncomputable def r9_CheckCauses (c : Dapi_TraceCourse) (l : (List Dapi_TraceCause)) : Option (Int × Int) :=
 (r9_CourseErr c).bind fun (t : Int) =>
 bif (t != 0) then
 some (0, t)
 else
 bif decide ((List.length l : Int) > 5) then
 some (0, 8)
 else
 (loopM (S := Int) (R := (Unit) ⊕ (Int × Int)) (fun i =>
 bif decide (i < (List.length l : Int)) then
 chk (decide ((0 : Int) ≤ i) && decide (i < (List.length l : Int))) (
 let x : Dapi_TraceCause := lget (ByteArray.empty, (0, (0, (0, 0)))) l i
 (b0_IsName x.1).bind fun (t_1 : Bool) =>
 bif !t_1 then
 Option.map Sum.inr (Option.map Sum.inr (
 some (i, 4)))
 else
 (loopM (S := Int) (R := (Unit) ⊕ ((Int) ⊕ ((Unit) ⊕ (Int × Int)))) (fun k =>
 bif decide (k < i) then
 chk (decide ((0 : Int) ≤ k) && decide (k < (List.length l : Int))) (
 bif seqb ((lget (ByteArray.empty, (0, (0, (0, 0)))) l k).1) x.1 then
 Option.map Sum.inr (Option.map Sum.inr (
 Option.map Sum.inr (Option.map Sum.inr (
 some (i, 5)))))
 else
 some (.inl (wi64 (k + 1))))
 else
 some (.inr (.inl ()))) 0).bind fun j => match j with
 | .inl _ => (
 (r9_StepsErr c x.2.1).bind fun (t_2 : Int) =>
 bif (t_2 != 0) then
 Option.map Sum.inr (Option.map Sum.inr (
 some (i, t_2)))
 else
 (b0_Within x.2.2.1 0 1000000).bind fun (t_3 : Bool) =>
 (bif !t_3 then some true else
 (b0_Within x.2.2.2.1 0 1000000).bind fun (t_4 : Bool) =>
 some (!t_4)).bind fun (c_1 : Bool) =>
 (bif c_1 then some true else
 (b0_Within x.2.2.2.2 0 1000000).bind fun (t_5 : Bool) =>
 some (!t_5)).bind fun (c_2 : Bool) =>
 bif c_2 then
 Option.map Sum.inr (Option.map Sum.inr (
 some (i, 2)))
 else
 bif decide (x.2.2.1 > x.2.2.2.1) then
 Option.map Sum.inr (Option.map Sum.inr (
 some (i, 9)))
 else
 bif ((x.2.2.2.2 != 0) && (decide (x.2.2.2.2 ≤ (wi64 (x.2.2.2.1 - x.2.2.1))))) then
 Option.map Sum.inr (Option.map Sum.inr (
 some (i, 13)))
 else
 some (.inl (wi64 (i + 1))))
 | .inr r => some r)
 else
 some (.inr (.inl ()))) 0).bind fun j => match j with
 | .inl _ => (
 some (0, 0))
 | .inr r => some r
noncomputable def r9_CausesErr (c : Dapi_TraceCourse) (l : (List Dapi_TraceCause)) : Option (Int) :=
 (r9_CheckCauses c l).bind fun (r : Int × Int) =>
 some r.2
noncomputable def trace_Contradiction (c : Dapi_TraceCourse) (l : (List Dapi_TraceCause)) (r : (List Dapi_TraceReading)) : Option (Int × Int) :=
 (trace_openEvidence c l r).bind fun (r_1 : Dtrace_course × Dtrace_evidence × Int) =>
 bif (r_1.2.2 != 0) then
 some (0, r_1.2.2)
 else
 chk (decide ((0 : Int) ≤ (List.length l : Int))) (
 let t : Int := ishl .u64 1 (List.length l : Int)
 (trace_evidence_every r_1.2.1).bind fun (t_1 : Int) =>
 (trace_evidence_firstWrong r_1.2.1 (wu64 (t - 1)) t_1).bind fun (t_2 : Int) =>
 bif decide (t_2 < 0) then
 some (0, 12)
 else
 some (t_2, 0))
end Go.Lift
