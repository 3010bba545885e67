/-
  The function of contradicting readings, as a plain function.
-/
import Derived.Test.YtfihcmhknhbndaaGreatDoorFunF
import Derived.Test.YtfihcmhknhbndaaGreatDoorFunG
import Derived.Test.YtfihcmhknhbndaaGreatDoorFunCb
set_option linter.unusedSectionVars false
set_option linter.unusedVariables false
set_option linter.unusedSimpArgs false
namespace Go.Lift
open Go
noncomputable def trace_sets (n : Int) : Option (List Int) := bif decide ((0 : Int) ≤ n) && decide (n ≤ 8) then some (setsL n) else none
noncomputable def trace_Contradicting (c : Dapi_TraceCourse) (l : (List Dapi_TraceCause)) (r : (List Dapi_TraceReading)) : Option ((List Int) × Int) :=
 (trace_openEvidence c l r).bind fun (r_1 : Dtrace_course × Dtrace_evidence × Int) =>
 bif (r_1.2.2 != 0) then
 some ([], r_1.2.2)
 else
 (trace_evidence_every r_1.2.1).bind fun (t : Int) =>
 (trace_evidence_explanations r_1.2.1 t).bind fun (t_1 : (List Int)) =>
 bif decide ((List.length t_1 : Int) > 0) then
 some ([], 12)
 else
 (trace_sets (List.length r : Int)).bind fun (t_2 : (List Int)) =>
 (loopT (X := Int) (S := Unit) (R := (List Int) × Int) (fun s _ =>
 (trace_evidence_explanations r_1.2.1 s).bind fun (t_3 : (List Int)) =>
 bif ((List.length t_3 : Int) == 0) then
 (trace_set_list s).bind fun (t_4 : (List Int)) =>
 Option.map Sum.inr (
 some (t_4, 0))
 else
 some (.inl ())) t_2 ()).bind fun j => match j with
 | .inl _ => (
 some ([], 12))
 | .inr r => some r
end Go.Lift
