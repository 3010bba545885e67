/-
  The functions of reports, as plain functions.
-/
import Derived.Test.YteobfadhflofpaaGreatDoorFunF
import Derived.Test.YteobfadhflofpaaGreatDoorFunG
import Derived.Test.YteobfadhflofpaaGreatDoorFunCb
import Derived.Test.YteobfadhflofpaaGreatDoorLiftN
import Derived.Test.YteobfadhflofpaaGreatDoorFunSr
set_option linter.unusedSectionVars false
set_option linter.unusedVariables false
set_option linter.unusedSimpArgs false
namespace Go.Lift
open Go
noncomputable def r9_text (f : Dapi_Frac) : Option (ByteArray) :=
 bif (f.2 == 1) then
 (b0_Decimal f.1).bind fun (t : ByteArray) =>
 some t
 else
 (b0_Decimal f.1).bind fun (t_1 : ByteArray) =>
 (cat t_1 (bytes [47])).bind fun t_2 =>
 (b0_Decimal f.2).bind fun (t_3 : ByteArray) =>
 (cat t_2 t_3).bind fun t_4 =>
 some t_4
noncomputable def r9_ReportOf (c : Dapi_TraceCourse) (r : (List Dapi_TraceReading)) : Option (ByteArray × Int) :=
 (r9_After c (List.length c.2.2.2 : Int)).bind fun (t : (List Dr9_Section)) =>
 (r9_Strip_Length t).bind fun (t_1 : Db0_Ratio) =>
 (b0_RatioFrac t_1).bind fun (r_1 : Dapi_Frac × Bool) =>
 (cat c.1 (bytes [32])).bind fun t_2 =>
 (r9_text r_1.1).bind fun (t_3 : ByteArray) =>
 (cat t_2 t_3).bind fun t_4 =>
 (loopM (S := ByteArray × Int) (R := (ByteArray) ⊕ (ByteArray × Int)) (fun s =>
 let out : ByteArray := s.1
 let i : Int := s.2
 bif decide (i < (List.length r : Int)) then
 chk (decide ((0 : Int) ≤ i) && decide (i < (List.length r : Int))) (
 (r9_PlaceOf c (lget (0, (0, false)) r i) 0).bind fun (r_2 : Dapi_Frac × Int) =>
 bif (r_2.2 != 0) then
 Option.map Sum.inr (Option.map Sum.inr (
 some (ByteArray.empty, r_2.2)))
 else
 chk (decide ((0 : Int) ≤ i) && decide (i < (List.length r : Int))) (
 (r9_PlaceOf c (lget (0, (0, false)) r i) (List.length c.2.2.2 : Int)).bind fun (r_3 : Dapi_Frac × Int) =>
 bif (r_3.2 == 8) then
 Option.map Sum.inr (Option.map Sum.inr (
 some (ByteArray.empty, r_3.2)))
 else
 (bif (r_3.2 == 0) then
 (r9_text r_3.1).bind fun (t_5 : ByteArray) =>
 some t_5
 else
 some (bytes [45])).bind fun (end_ : ByteArray) =>
 chk (decide ((0 : Int) ≤ i) && decide (i < (List.length r : Int))) (
 (bif ((lget (0, (0, false)) r i).2).2 then
 let present : ByteArray := (bytes [121, 101, 115])
 some present
 else
 some (bytes [110, 111])).bind fun (present_1 : ByteArray) =>
 (cat out (bytes [59])).bind fun t_6 =>
 chk (decide ((0 : Int) ≤ i) && decide (i < (List.length r : Int))) (
 (b0_Decimal ((lget (0, (0, false)) r i).1)).bind fun (t_7 : ByteArray) =>
 (cat t_6 t_7).bind fun t_8 =>
 (cat t_8 (bytes [32])).bind fun t_9 =>
 chk (decide ((0 : Int) ≤ i) && decide (i < (List.length r : Int))) (
 (b0_Decimal (((lget (0, (0, false)) r i).2).1)).bind fun (t_10 : ByteArray) =>
 (cat t_9 t_10).bind fun t_11 =>
 (cat t_11 (bytes [32])).bind fun t_12 =>
 (r9_text r_2.1).bind fun (t_13 : ByteArray) =>
 (cat t_12 t_13).bind fun t_14 =>
 (cat t_14 (bytes [32])).bind fun t_15 =>
 (cat t_15 end_).bind fun t_16 =>
 (cat t_16 (bytes [32])).bind fun t_17 =>
 (cat t_17 present_1).bind fun t_18 =>
 some (.inl (t_18, wi64 (i + 1))))))))
 else
 some (.inr (.inl out))) (t_4, 0)).bind fun j => match j with
 | .inl out_1 => (
 some (out_1, 0))
 | .inr r => some r
noncomputable def l9_TraceReports (c : Dapi_TraceCourse) (r : (List Dapi_TraceReading)) : Option (Bool) :=
 (l9_awake).bind fun (t : Bool) =>
 bif !t then
 some false
 else
 (l9_Few c).bind fun (t_1 : Bool) =>
 bif ((!t_1) || (decide ((List.length r : Int) > 12))) then
 some true
 else
 (r9_CopyCourse c).bind fun (t_2 : Dapi_TraceCourse) =>
 (r9_CopyReadings r).bind fun (t_3 : (List Dapi_TraceReading)) =>
 (trace_ReportOf t_2 t_3).bind fun (r_1 : ByteArray × Int) =>
 (r9_CourseErr c).bind fun (t_4 : Int) =>
 (bif (t_4 == 0) then
 (r9_ReadingsErr c r).bind fun (t_5 : Int) =>
 some t_5
 else
 some t_4).bind fun (d : Int) =>
 bif (d != 0) then
 let t_6 : Bool := ((r_1.2 == d) && (seqb r_1.1 ByteArray.empty))
 some t_6
 else
 (r9_ReportOf c r).bind fun (r_2 : ByteArray × Int) =>
 bif ((r_1.2 != r_2.2) || (!seqb r_1.1 r_2.1)) then
 some false
 else
 (r9_CopyCourse c).bind fun (t_7 : Dapi_TraceCourse) =>
 (trace_FormatCourse t_7).bind fun (t_8 : ByteArray) =>
 (trace_ParseCourse t_8).bind fun (r_3 : Dapi_TraceCourse × Int) =>
 (bif (r_3.2 != 0) then some true else
 (r9_SameCourse r_3.1 c).bind fun (t_9 : Bool) =>
 some (!t_9)).bind fun (c_1 : Bool) =>
 bif c_1 then
 some false
 else
 (r9_CopyReadings r).bind fun (t_10 : (List Dapi_TraceReading)) =>
 (trace_ReportOf r_3.1 t_10).bind fun (r_4 : ByteArray × Int) =>
 let t_11 : Bool := ((r_4.2 == r_1.2) && (seqb r_4.1 r_1.1))
 some t_11
end Go.Lift
