/-
  The functions of pieces in order, as plain functions.
-/
import Derived.Test.YtfihcmhknhbndaaGreatDoorFunF
import Derived.Test.YtfihcmhknhbndaaGreatDoorFunG
import Derived.Test.YtfihcmhknhbndaaGreatDoorFunVo
set_option linter.unusedSectionVars false
set_option linter.unusedVariables false
set_option linter.unusedSimpArgs false
namespace Go.Lift
open Go

noncomputable def b0_Cmp (a : Dapi_Frac) (b : Dapi_Frac) : Option (Int) :=
 bif decide ((wi64 (a.1 * b.2)) < (wi64 (b.1 * a.2))) then
 some (-1)
 else
 bif decide ((wi64 (a.1 * b.2)) > (wi64 (b.1 * a.2))) then
 some 1
 else
 some 0

noncomputable def b0_Floor (n : Int) (by_ : Int) : Option (Int) :=
 chk (by_ != 0) (
 let t : Int := wi64 (Int.tdiv n by_)
 chk (by_ != 0) (
 (bif decide ((Int.tmod n by_) < 0) then
 some (wi64 (t - 1))
 else
 some t).bind fun (q : Int) =>
 some q))

noncomputable def b0_Ceil (n : Int) (by_ : Int) : Option (Int) :=
 (b0_Floor (wi64 (0 - n)) by_).bind fun (t : Int) =>
 some (wi64 (0 - t))

noncomputable def l9_TraceEvery (c : Dapi_TraceCourse) (size_ : Int) (at_ : Int) : Option (Bool) :=
 (l9_awake).bind fun (t : Bool) =>
 bif !t then
 some false
 else
 (l9_Few c).bind fun (t_1 : Bool) =>
 (bif !t_1 then some true else
 (r9_CourseErr c).bind fun (t_2 : Int) =>
 some (t_2 != 0)).bind fun (c_1 : Bool) =>
 (bif c_1 then some true else
 (b0_Within size_ 1 1000000).bind fun (t_3 : Bool) =>
 some (!t_3)).bind fun (c_2 : Bool) =>
 bif c_2 then
 some true
 else
 (r9_CopyCourse c).bind fun (t_4 : Dapi_TraceCourse) =>
 (trace_PiecesOf t_4 size_).bind fun (r : (List Dapi_Span) × Int) =>
 bif (r.2 != 0) then
 let t_5 : Bool := (((r.2 == 16) || (r.2 == 8)) && ((List.length r.1 : Int) == 0))
 some t_5
 else
 bif (((List.length r.1 : Int) == 0) || (decide ((List.length r.1 : Int) > 50))) then
 some false
 else
 let n : Int := (List.length c.2.2.2 : Int)
 (loopM (S := Int) (R := (Unit) ⊕ (Bool)) (fun i =>
 bif decide (i < (List.length r.1 : Int)) then
 chk (decide ((0 : Int) ≤ i) && decide (i < (List.length r.1 : Int))) (
 (b0_IsLowest ((lget ((0, 0), (0, 0)) r.1 i).1)).bind fun (t_6 : Bool) =>
 (bif !t_6 then some true else
 chk (decide ((0 : Int) ≤ i) && decide (i < (List.length r.1 : Int))) (
 (b0_IsLowest ((lget ((0, 0), (0, 0)) r.1 i).2)).bind fun (t_7 : Bool) =>
 some (!t_7))).bind fun (c_3 : Bool) =>
 (bif c_3 then some true else
 chk (decide ((0 : Int) ≤ i) && decide (i < (List.length r.1 : Int))) (
 (b0_IsSmall ((lget ((0, 0), (0, 0)) r.1 i).1)).bind fun (t_8 : Bool) =>
 some (!t_8))).bind fun (c_4 : Bool) =>
 (bif c_4 then some true else
 chk (decide ((0 : Int) ≤ i) && decide (i < (List.length r.1 : Int))) (
 (b0_IsSmall ((lget ((0, 0), (0, 0)) r.1 i).2)).bind fun (t_9 : Bool) =>
 some (!t_9))).bind fun (c_5 : Bool) =>
 (bif c_5 then some true else
 chk (decide ((0 : Int) ≤ i) && decide (i < (List.length r.1 : Int))) (
 chk (decide ((0 : Int) ≤ i) && decide (i < (List.length r.1 : Int))) (
 (b0_Cmp ((lget ((0, 0), (0, 0)) r.1 i).1) ((lget ((0, 0), (0, 0)) r.1 i).2)).bind fun (t_10 : Int) =>
 some (decide (t_10 ≥ 0))))).bind fun (c_6 : Bool) =>
 (bif c_6 then some true else
 (bif decide (i > 0) then
 chk (decide ((0 : Int) ≤ i) && decide (i < (List.length r.1 : Int))) (
 chk (decide ((0 : Int) ≤ (wi64 (i - 1))) && decide ((wi64 (i - 1)) < (List.length r.1 : Int))) (
 some (!(Ty.eqb Tapi_Frac ((lget ((0, 0), (0, 0)) r.1 i).1) ((lget ((0, 0), (0, 0)) r.1 (wi64 (i - 1))).2)))))
 else some false).bind fun (c_7 : Bool) =>
 some c_7).bind fun (c_8 : Bool) =>
 bif c_8 then
 Option.map Sum.inr (Option.map Sum.inr (
 some false))
 else
 some (.inl (wi64 (i + 1))))
 else
 some (.inr (.inl ()))) 0).bind fun j => match j with
 | .inl _ => (
 (r9_CopyCourse c).bind fun (t_11 : Dapi_TraceCourse) =>
 (trace_PlaceOf t_11 (n, (0, false)) 0).bind fun (r_1 : Dapi_Frac × Int) =>
 (bif (r_1.2 != 0) then some true else
 chk (decide ((0 : Int) ≤ 0) && decide (0 < (List.length r.1 : Int))) (
 some (!(Ty.eqb Tapi_Frac r_1.1 ((lget ((0, 0), (0, 0)) r.1 0).1))))).bind fun (c_9 : Bool) =>
 bif c_9 then
 some false
 else
 (r9_CopyCourse c).bind fun (t_12 : Dapi_TraceCourse) =>
 (trace_LengthAfter t_12 n).bind fun (r_2 : Dapi_Frac × Int) =>
 (bif (r_2.2 != 0) then some true else
 (b0_IsLowest r_2.1).bind fun (t_13 : Bool) =>
 some (!t_13)).bind fun (c_10 : Bool) =>
 (bif c_10 then some true else
 (b0_IsSmall r_2.1).bind fun (t_14 : Bool) =>
 some (!t_14)).bind fun (c_11 : Bool) =>
 (bif c_11 then some true else
 (b0_Ceil r_2.1.1 (wi64 (r_2.1.2 * size_))).bind fun (t_15 : Int) =>
 (b0_Ceil r_2.1.1 (wi64 (r_2.1.2 * size_))).bind fun (t_16 : Int) =>
 (b0_Within (List.length r.1 : Int) t_15 t_16).bind fun (t_17 : Bool) =>
 some (!t_17)).bind fun (c_12 : Bool) =>
 bif c_12 then
 some false
 else
 (b0_Floor r_2.1.1 r_2.1.2).bind fun (t_18 : Int) =>
 (b0_Within at_ 0 t_18).bind fun (t_19 : Bool) =>
 bif !t_19 then
 some true
 else
 (r9_CopyCourse c).bind fun (t_20 : Dapi_TraceCourse) =>
 (trace_PlaceOf t_20 (n, (at_, false)) 0).bind fun (r_3 : Dapi_Frac × Int) =>
 bif (r_3.2 != 0) then
 (bif (r_3.2 == 8) then
 some (Ty.eqb Tapi_Frac r_3.1 (0, 0))
 else some false).bind fun (c_13 : Bool) =>
 some c_13
 else
 (b0_Floor at_ size_).bind fun (t_21 : Int) =>
 let k : Int := imin t_21 (wi64 ((List.length r.1 : Int) - 1))
 (b0_IsLowest r_3.1).bind fun (t_22 : Bool) =>
 (bif t_22 then
 (b0_IsSmall r_3.1).bind fun (t_23 : Bool) =>
 some t_23
 else some false).bind fun (c_14 : Bool) =>
 (bif c_14 then
 chk (decide ((0 : Int) ≤ k) && decide (k < (List.length r.1 : Int))) (
 (b0_Cmp ((lget ((0, 0), (0, 0)) r.1 k).1) r_3.1).bind fun (t_24 : Int) =>
 some (decide (t_24 ≤ 0)))
 else some false).bind fun (c_15 : Bool) =>
 (bif c_15 then
 chk (decide ((0 : Int) ≤ k) && decide (k < (List.length r.1 : Int))) (
 (b0_Cmp r_3.1 ((lget ((0, 0), (0, 0)) r.1 k).2)).bind fun (t_25 : Int) =>
 some (decide (t_25 ≤ 0)))
 else some false).bind fun (c_16 : Bool) =>
 some c_16)
 | .inr r => some r

end Go.Lift
