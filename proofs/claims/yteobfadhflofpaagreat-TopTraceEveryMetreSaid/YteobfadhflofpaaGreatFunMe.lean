/-
  The functions of every metre, as plain functions.
-/
import Derived.Test.YteobfadhflofpaaGreatFunF
import Derived.Test.YteobfadhflofpaaGreatFunG
import Derived.Test.YteobfadhflofpaaGreatFunVo
import Derived.Test.YteobfadhflofpaaGreatFunEv
import Derived.Test.YteobfadhflofpaaGreatFunMa
import Derived.Test.YteobfadhflofpaaGreatFunVa
import Derived.Test.YteobfadhflofpaaGreatFunCb
set_option linter.unusedSectionVars false
set_option linter.unusedVariables false
set_option linter.unusedSimpArgs false
namespace Go.Lift
open Go
noncomputable def cobbletop_traceAwake  : Option (Bool) :=
 (l9_Course).bind fun (t : Dapi_TraceCourse) =>
 (trace_PlaceOf t (1, (4500, false)) 2).bind fun (r : Dapi_Frac × Int) =>
 (l9_Course).bind fun (t_1 : Dapi_TraceCourse) =>
 (l9_Causes).bind fun (t_2 : (List Dapi_TraceCause)) =>
 (trace_Explanations t_1 t_2 [(1, (1000, true))]).bind fun (r_1 : (List (List Int)) × Int) =>
 (bif (r.2 == 0) then
 (b0_Whole 3500).bind fun (t_3 : Dapi_Frac) =>
 some (Ty.eqb Tapi_Frac r.1 t_3)
 else some false).bind fun (c : Bool) =>
 (bif (c && (r_1.2 == 0)) then
 (b0_Lists r_1.1 [[0], [1]]).bind fun (t_4 : Bool) =>
 some t_4
 else some false).bind fun (c_1 : Bool) =>
 some c_1
noncomputable def cobbletop_traceVolume (c : Dapi_TraceCourse) (s : Dapi_Span) : Option (Db0_Ratio) :=
 (b0_RatioFrom s.1).bind fun (t : Db0_Ratio) =>
 (b0_RatioFrom s.2).bind fun (t_1 : Db0_Ratio) =>
 (b0_RatioInt 0).bind fun (t_2 : Db0_Ratio) =>
 (loopM (S := Int × Int × Db0_Ratio) (R := Db0_Ratio) (fun s_1 =>
 let at_ : Int := s_1.1
 let i : Int := s_1.2.1
 let sum : Db0_Ratio := s_1.2.2
 bif decide (i < (List.length c.2.1 : Int)) then
 (b0_RatioInt at_).bind fun (t_3 : Db0_Ratio) =>
 chk (decide ((0 : Int) ≤ i) && decide (i < (List.length c.2.1 : Int))) (
 (b0_RatioInt (wi64 (at_ + (lget 0 c.2.1 i)))).bind fun (t_4 : Db0_Ratio) =>
 chk (decide ((0 : Int) ≤ i) && decide (i < (List.length c.2.1 : Int))) (
 let at__1 : Int := wi64 (at_ + (lget 0 c.2.1 i))
 (b0_RatioCmp t_3 t).bind fun (t_5 : Int) =>
 (bif decide (t_5 < 0) then
 some t
 else
 some t_3).bind fun (a : Db0_Ratio) =>
 (b0_RatioCmp t_4 t_1).bind fun (t_6 : Int) =>
 (bif decide (t_6 > 0) then
 some t_1
 else
 some t_4).bind fun (b : Db0_Ratio) =>
 (b0_RatioCmp a b).bind fun (t_7 : Int) =>
 (bif decide (t_7 < 0) then
 (b0_RatioSub b a).bind fun (t_8 : Db0_Ratio) =>
 chk (decide ((0 : Int) ≤ i) && decide (i < (List.length c.2.2.1 : Int))) (
 (b0_RatioInt (lget 0 c.2.2.1 i)).bind fun (t_9 : Db0_Ratio) =>
 (b0_RatioMul t_8 t_9).bind fun (t_10 : Db0_Ratio) =>
 (b0_RatioAdd sum t_10).bind fun (t_11 : Db0_Ratio) =>
 some t_11)
 else
 some sum).bind fun (sum_1 : Db0_Ratio) =>
 some (.inl (at__1, wi64 (i + 1), sum_1))))
 else
 some (.inr sum)) (0, 0, t_2)).bind fun (sum_2 : Db0_Ratio) =>
 some sum_2
noncomputable def cobbletop_TopTraceEveryMetre (c : Dapi_TraceCourse) (size_ : Int) : Option (Bool) :=
 (cobbletop_traceAwake).bind fun (t : Bool) =>
 bif !t then
 some false
 else
 (l9_Few c).bind fun (t_1 : Bool) =>
 (bif !t_1 then some true else
 (r9_CourseErr c).bind fun (t_2 : Int) =>
 some (t_2 != 0)).bind fun (c_1 : Bool) =>
 (bif c_1 then some true else
 (b0_Within size_ 1 1000000).bind fun (t_3 : Bool) =>
 some (!t_3)).bind fun (c_2 : Bool) =>
 bif c_2 then
 some true
 else
 let n : Int := (List.length c.2.2.2 : Int)
 (r9_CopyCourse c).bind fun (t_4 : Dapi_TraceCourse) =>
 (trace_PiecesOf t_4 size_).bind fun (r : (List Dapi_Span) × Int) =>
 (r9_CopyCourse c).bind fun (t_5 : Dapi_TraceCourse) =>
 (trace_MapOf t_5 0 n).bind fun (r_1 : Dapi_TraceMap × Int) =>
 (r9_CopyCourse c).bind fun (t_6 : Dapi_TraceCourse) =>
 (trace_VolumeAfter t_6 n).bind fun (r_2 : Dapi_Frac × Int) =>
 (r9_CopyCourse c).bind fun (t_7 : Dapi_TraceCourse) =>
 (trace_LengthAfter t_7 n).bind fun (r_3 : Dapi_Frac × Int) =>
 bif ((((r.2 != 0) || (r_1.2 != 0)) || (r_2.2 != 0)) || (r_3.2 != 0)) then
 let t_8 : Bool := ((((((r.2 == 0) || (r.2 == 16)) || (r.2 == 8)) && ((r_1.2 == 0) || (r_1.2 == 8))) && ((r_2.2 == 0) || (r_2.2 == 8))) && (r_3.2 == 0))
 some t_8
 else
 (bif ((((List.length r.1 : Int) == 0) || (decide ((List.length r.1 : Int) > 50))) || (decide ((List.length r_1.1 : Int) > 12))) then some true else
 (r9_MapErr r_1.1).bind fun (t_9 : Int) =>
 some (t_9 != 0)).bind fun (c_3 : Bool) =>
 (bif c_3 then some true else
 (b0_IsLowest r_2.1).bind fun (t_10 : Bool) =>
 some (!t_10)).bind fun (c_4 : Bool) =>
 (bif c_4 then some true else
 (b0_IsSmall r_2.1).bind fun (t_11 : Bool) =>
 some (!t_11)).bind fun (c_5 : Bool) =>
 (bif c_5 then some true else
 (b0_IsLowest r_3.1).bind fun (t_12 : Bool) =>
 some (!t_12)).bind fun (c_6 : Bool) =>
 (bif c_6 then some true else
 (b0_IsSmall r_3.1).bind fun (t_13 : Bool) =>
 some (!t_13)).bind fun (c_7 : Bool) =>
 bif c_7 then
 some false
 else
 (b0_RatioInt 0).bind fun (t_14 : Db0_Ratio) =>
 (loopM (S := Int × Db0_Ratio) (R := (Db0_Ratio) ⊕ (Bool)) (fun s =>
 let i : Int := s.1
 let sum : Db0_Ratio := s.2
 bif decide (i < (List.length r.1 : Int)) then
 chk (decide ((0 : Int) ≤ i) && decide (i < (List.length r.1 : Int))) (
 (b0_IsLowest ((lget ((0, 0), (0, 0)) r.1 i).1)).bind fun (t_15 : Bool) =>
 (bif !t_15 then some true else
 chk (decide ((0 : Int) ≤ i) && decide (i < (List.length r.1 : Int))) (
 (b0_IsLowest ((lget ((0, 0), (0, 0)) r.1 i).2)).bind fun (t_16 : Bool) =>
 some (!t_16))).bind fun (c_8 : Bool) =>
 (bif c_8 then some true else
 chk (decide ((0 : Int) ≤ i) && decide (i < (List.length r.1 : Int))) (
 (b0_IsSmall ((lget ((0, 0), (0, 0)) r.1 i).1)).bind fun (t_17 : Bool) =>
 some (!t_17))).bind fun (c_9 : Bool) =>
 (bif c_9 then some true else
 chk (decide ((0 : Int) ≤ i) && decide (i < (List.length r.1 : Int))) (
 (b0_IsSmall ((lget ((0, 0), (0, 0)) r.1 i).2)).bind fun (t_18 : Bool) =>
 some (!t_18))).bind fun (c_10 : Bool) =>
 (bif c_10 then some true else
 (bif decide (i > 0) then
 chk (decide ((0 : Int) ≤ i) && decide (i < (List.length r.1 : Int))) (
 chk (decide ((0 : Int) ≤ (wi64 (i - 1))) && decide ((wi64 (i - 1)) < (List.length r.1 : Int))) (
 some (!(Ty.eqb Tapi_Frac ((lget ((0, 0), (0, 0)) r.1 i).1) ((lget ((0, 0), (0, 0)) r.1 (wi64 (i - 1))).2)))))
 else some false).bind fun (c_11 : Bool) =>
 some c_11).bind fun (c_12 : Bool) =>
 bif c_12 then
 Option.map Sum.inr (Option.map Sum.inr (
 some false))
 else
 (r9_CopyMap r_1.1).bind fun (t_19 : Dapi_TraceMap) =>
 chk (decide ((0 : Int) ≤ i) && decide (i < (List.length r.1 : Int))) (
 (trace_ValueAt t_19 ((lget ((0, 0), (0, 0)) r.1 i).1)).bind fun (r_4 : Dapi_Frac × Int) =>
 (r9_CopyMap r_1.1).bind fun (t_20 : Dapi_TraceMap) =>
 chk (decide ((0 : Int) ≤ i) && decide (i < (List.length r.1 : Int))) (
 (trace_ValueAt t_20 ((lget ((0, 0), (0, 0)) r.1 i).2)).bind fun (r_5 : Dapi_Frac × Int) =>
 (b0_Whole (wi64 ((wi64 (i + 1)) * size_))).bind fun (t_21 : Dapi_Frac) =>
 (bif (i == (wi64 ((List.length r.1 : Int) - 1))) then
 some r_3.1
 else
 some t_21).bind fun (end_ : Dapi_Frac) =>
 (bif ((r_4.2 != 0) || (r_5.2 != 0)) then some true else
 (b0_Whole (wi64 (i * size_))).bind fun (t_22 : Dapi_Frac) =>
 some (!(Ty.eqb Tapi_Frac r_4.1 t_22))).bind fun (c_13 : Bool) =>
 bif (c_13 || (!(Ty.eqb Tapi_Frac r_5.1 end_))) then
 Option.map Sum.inr (Option.map Sum.inr (
 some false))
 else
 chk (decide ((0 : Int) ≤ i) && decide (i < (List.length r.1 : Int))) (
 (cobbletop_traceVolume c (lget ((0, 0), (0, 0)) r.1 i)).bind fun (t_23 : Db0_Ratio) =>
 (b0_RatioAdd sum t_23).bind fun (t_24 : Db0_Ratio) =>
 some (.inl (wi64 (i + 1), t_24))))))
 else
 some (.inr (.inl sum))) (0, t_14)).bind fun j => match j with
 | .inl sum_1 => (
 (b0_RatioFrom r_2.1).bind fun (t_25 : Db0_Ratio) =>
 (b0_RatioCmp sum_1 t_25).bind fun (t_26 : Int) =>
 some (t_26 == 0))
 | .inr r => some r
end Go.Lift
