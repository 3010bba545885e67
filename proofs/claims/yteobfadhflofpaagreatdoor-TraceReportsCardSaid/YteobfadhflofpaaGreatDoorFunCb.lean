/-
  The functions of causes and evidence, as plain functions.
-/
import Derived.Test.YteobfadhflofpaaGreatDoorFunF
import Derived.Test.YteobfadhflofpaaGreatDoorFunG
set_option linter.unusedSectionVars false
set_option linter.unusedVariables false
set_option linter.unusedSimpArgs false
namespace Go.Lift
open Go
noncomputable def r9_CopyReadings (l : (List Dapi_TraceReading)) : Option ((List Dapi_TraceReading)) :=
 (app [] l).bind fun (t : List Dapi_TraceReading) =>
 some t
noncomputable def r9_ReadingsErr (c : Dapi_TraceCourse) (l : (List Dapi_TraceReading)) : Option (Int) :=
 bif decide ((List.length l : Int) > 10) then
 some 8
 else
 (loopM (S := Int) (R := (Unit) ⊕ (Int)) (fun i =>
 bif decide (i < (List.length l : Int)) then
 chk (decide ((0 : Int) ≤ i) && decide (i < (List.length l : Int))) (
 (r9_ReadingErr c (lget (0, (0, false)) l i)).bind fun (t : Int) =>
 bif (t != 0) then
 Option.map Sum.inr (Option.map Sum.inr (
 some t))
 else
 some (.inl (wi64 (i + 1))))
 else
 some (.inr (.inl ()))) 0).bind fun j => match j with
 | .inl _ => (
 some 0)
 | .inr r => some r
end Go.Lift
