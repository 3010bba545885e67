/-
  The functions of volumes, as plain functions.
-/
import Derived.Test.YtfihcmhknhbndaaGreatDoorFunF
import Derived.Test.YtfihcmhknhbndaaGreatDoorFunG
set_option linter.unusedSectionVars false
set_option linter.unusedVariables false
set_option linter.unusedSimpArgs false
namespace Go.Lift
open Go

noncomputable def b0_Gcd (a : Int) (b : Int) : Option (Int) :=
 (loopM (S := Int × Int) (R := Int) (fun s =>
 let a_1 : Int := s.1
 let b_1 : Int := s.2
 bif (b_1 != 0) then
 chk (b_1 != 0) (
 some (.inl (b_1, Int.tmod a_1 b_1)))
 else
 some (.inr a_1)) (a, b)).bind fun (a_2 : Int) =>
 (b0_Size a_2).bind fun (t : Int) =>
 some t

noncomputable def b0_IsLowest (f : Dapi_Frac) : Option (Bool) :=
 (bif decide (f.2 > 0) then
 (b0_Gcd f.1 f.2).bind fun (t : Int) =>
 some (t == 1)
 else some false).bind fun (c : Bool) =>
 some c

noncomputable def b0_RatioFrom (f : Dapi_Frac) : Option (Db0_Ratio) :=
 (b0_RatioOf f.1 f.2).bind fun (t : Db0_Ratio) =>
 some t

noncomputable def l9_volume (x : Dapi_TraceSection) : Option (Db0_Ratio) :=
 (b0_RatioFrom x.1).bind fun (t : Db0_Ratio) =>
 (b0_RatioInt x.2).bind fun (t_1 : Db0_Ratio) =>
 (b0_RatioMul t t_1).bind fun (t_2 : Db0_Ratio) =>
 some t_2

noncomputable def l9_TraceVolumes (c : Dapi_TraceCourse) : Option (Bool) :=
 (l9_awake).bind fun (t : Bool) =>
 bif !t then
 some false
 else
 (l9_Few c).bind fun (t_1 : Bool) =>
 (bif !t_1 then some true else
 (r9_CourseErr c).bind fun (t_2 : Int) =>
 some (t_2 != 0)).bind fun (c_1 : Bool) =>
 bif c_1 then
 some true
 else
 (loopM (S := Int × Dapi_TraceStrip) (R := (Unit) ⊕ (Bool)) (fun s =>
 let k : Int := s.1
 let before : Dapi_TraceStrip := s.2
 bif decide (k ≤ (List.length c.2.2.2 : Int)) then
 (r9_CopyCourse c).bind fun (t_3 : Dapi_TraceCourse) =>
 (trace_StripAfter t_3 k).bind fun (r : Dapi_TraceStrip × Int) =>
 (r9_CopyCourse c).bind fun (t_4 : Dapi_TraceCourse) =>
 (trace_LengthAfter t_4 k).bind fun (r_1 : Dapi_Frac × Int) =>
 (bif ((((r.2 != 0) || (r_1.2 != 0)) || ((List.length r.1 : Int) == 0)) || (decide ((List.length r.1 : Int) > 6))) then some true else
 (b0_IsLowest r_1.1).bind fun (t_5 : Bool) =>
 some (!t_5)).bind fun (c_2 : Bool) =>
 (bif c_2 then some true else
 (b0_IsSmall r_1.1).bind fun (t_6 : Bool) =>
 some (!t_6)).bind fun (c_3 : Bool) =>
 bif c_3 then
 Option.map Sum.inr (Option.map Sum.inr (
 some false))
 else
 (b0_RatioInt 0).bind fun (t_7 : Db0_Ratio) =>
 (b0_RatioInt 0).bind fun (t_8 : Db0_Ratio) =>
 (b0_RatioInt 0).bind fun (t_9 : Db0_Ratio) =>
 (loopM (S := Int × Db0_Ratio × Db0_Ratio) (R := (Db0_Ratio × Db0_Ratio) ⊕ ((Int × Dapi_TraceStrip) ⊕ ((Unit) ⊕ (Bool)))) (fun s_1 =>
 let i : Int := s_1.1
 let sum : Db0_Ratio := s_1.2.1
 let is : Db0_Ratio := s_1.2.2
 bif decide (i < (List.length r.1 : Int)) then
 chk (decide ((0 : Int) ≤ i) && decide (i < (List.length r.1 : Int))) (
 let x : Dapi_TraceSection := lget ((0, 0), 0) r.1 i
 (b0_IsLowest x.1).bind fun (t_10 : Bool) =>
 (bif !t_10 then some true else
 (b0_IsSmall x.1).bind fun (t_11 : Bool) =>
 some (!t_11)).bind fun (c_4 : Bool) =>
 (bif (c_4 || (decide (x.1.1 ≤ 0))) then some true else
 (b0_Within x.2 1 1000).bind fun (t_12 : Bool) =>
 some (!t_12)).bind fun (c_5 : Bool) =>
 bif c_5 then
 Option.map Sum.inr (Option.map Sum.inr (
 Option.map Sum.inr (Option.map Sum.inr (
 some false))))
 else
 (b0_RatioFrom x.1).bind fun (t_13 : Db0_Ratio) =>
 (b0_RatioAdd sum t_13).bind fun (t_14 : Db0_Ratio) =>
 (l9_volume x).bind fun (t_15 : Db0_Ratio) =>
 (b0_RatioAdd is t_15).bind fun (t_16 : Db0_Ratio) =>
 some (.inl (wi64 (i + 1), t_14, t_16)))
 else
 some (.inr (.inl (sum, is)))) (0, t_7, t_9)).bind fun j => match j with
 | .inl b => (
 let sum_1 : Db0_Ratio := b.1
 let is_1 : Db0_Ratio := b.2
 (b0_RatioFrom r_1.1).bind fun (t_17 : Db0_Ratio) =>
 (b0_RatioCmp sum_1 t_17).bind fun (t_18 : Int) =>
 bif (t_18 != 0) then
 Option.map Sum.inr (Option.map Sum.inr (
 some false))
 else
 (loopM (S := Int × Db0_Ratio) (R := Db0_Ratio) (fun s_2 =>
 let i_1 : Int := s_2.1
 let was : Db0_Ratio := s_2.2
 bif decide (i_1 < (List.length before : Int)) then
 chk (decide ((0 : Int) ≤ i_1) && decide (i_1 < (List.length before : Int))) (
 (l9_volume (lget ((0, 0), 0) before i_1)).bind fun (t_19 : Db0_Ratio) =>
 (b0_RatioAdd was t_19).bind fun (t_20 : Db0_Ratio) =>
 some (.inl (wi64 (i_1 + 1), t_20)))
 else
 some (.inr was)) (0, t_8)).bind fun (was_1 : Db0_Ratio) =>
 (bif decide (k > 0) then
 chk (decide ((0 : Int) ≤ (wi64 (k - 1))) && decide ((wi64 (k - 1)) < (List.length c.2.2.2 : Int))) (
 some (((lget (0, ([], (0, 0))) c.2.2.2 (wi64 (k - 1))).1) == 0))
 else some false).bind fun (c_6 : Bool) =>
 (bif c_6 then
 bif ((List.length before : Int) != (List.length r.1 : Int)) then
 Option.map Sum.inr (
 Option.map Sum.inr (Option.map Sum.inr (
 some false)))
 else
 (loopM (S := Int) (R := (Unit) ⊕ ((Unit) ⊕ ((Int × Dapi_TraceStrip) ⊕ ((Unit) ⊕ (Bool))))) (fun i_2 =>
 bif decide (i_2 < (List.length r.1 : Int)) then
 chk (decide ((0 : Int) ≤ i_2) && decide (i_2 < (List.length before : Int))) (
 (l9_volume (lget ((0, 0), 0) before i_2)).bind fun (t_21 : Db0_Ratio) =>
 chk (decide ((0 : Int) ≤ i_2) && decide (i_2 < (List.length r.1 : Int))) (
 (l9_volume (lget ((0, 0), 0) r.1 i_2)).bind fun (t_22 : Db0_Ratio) =>
 (b0_RatioCmp t_21 t_22).bind fun (t_23 : Int) =>
 (bif (t_23 != 0) then some true else
 chk (decide ((0 : Int) ≤ i_2) && decide (i_2 < (List.length r.1 : Int))) (
 chk (decide ((0 : Int) ≤ (wi64 (k - 1))) && decide ((wi64 (k - 1)) < (List.length c.2.2.2 : Int))) (
 chk (decide ((0 : Int) ≤ i_2) && decide (i_2 < (List.length (((lget (0, ([], (0, 0))) c.2.2.2 (wi64 (k - 1))).2).1) : Int))) (
 some (((lget ((0, 0), 0) r.1 i_2).2) != (lget 0 (((lget (0, ([], (0, 0))) c.2.2.2 (wi64 (k - 1))).2).1) i_2)))))).bind fun (c_7 : Bool) =>
 bif c_7 then
 Option.map Sum.inr (Option.map Sum.inr (
 Option.map Sum.inr (
 Option.map Sum.inr (Option.map Sum.inr (
 some false)))))
 else
 some (.inl (wi64 (i_2 + 1)))))
 else
 some (.inr (.inl ()))) 0).bind fun j => match j with
 | .inl _ => (
 some (.inl ()))
 | .inr r => some r
 else
 some (.inl ()) : Option ((Unit) ⊕ ((Int × Dapi_TraceStrip) ⊕ ((Unit) ⊕ (Bool))))).bind fun j => match j with
 | .inl _ => (
 (bif decide (k > 0) then
 (b0_RatioCmp is_1 was_1).bind fun (t_24 : Int) =>
 some (decide (t_24 > 0))
 else some false).bind fun (c_8 : Bool) =>
 bif c_8 then
 Option.map Sum.inr (Option.map Sum.inr (
 some false))
 else
 (app [] r.1).bind fun (t_25 : List Dapi_TraceSection) =>
 some (.inl (wi64 (k + 1), t_25)))
 | .inr r => some r)
 | .inr r => some r
 else
 some (.inr (.inl ()))) (0, [])).bind fun j => match j with
 | .inl _ => (
 some true)
 | .inr r => some r

end Go.Lift
