/-
  The functions of the document's explanations, as plain functions.
-/
import Derived.Test.YtfihcmhknhbndaaGreatDoorFunF
import Derived.Test.YtfihcmhknhbndaaGreatDoorFunG
import Derived.Test.YtfihcmhknhbndaaGreatDoorFunCb
set_option linter.unusedSectionVars false
set_option linter.unusedVariables false
set_option linter.unusedSimpArgs false
namespace Go.Lift
open Go
noncomputable def b0_RatioFloor (a : Db0_Ratio) : Option (Db0_Wide) :=
 (b0_WideFloor a.1 a.2).bind fun (t : Db0_Wide) =>
 some t
noncomputable def b0_RatioSign (a : Db0_Ratio) : Option (Int) :=
 (b0_WideSign a.1).bind fun (t : Int) =>
 some t
noncomputable def r9_predicts (c : Dapi_TraceCourse) (x : Dapi_TraceCause) (r : Dapi_TraceReading) : Option (Bool) :=
 bif decide (x.2.1 > r.1) then
 some false
 else
 (b0_RatioInt r.2.1).bind fun (t : Db0_Ratio) =>
 (r9_Move c t r.1 x.2.1).bind fun (r_1 : Db0_Ratio × Bool) =>
 (b0_RatioInt x.2.2.1).bind fun (t_1 : Db0_Ratio) =>
 (b0_RatioSub r_1.1 t_1).bind fun (t_2 : Db0_Ratio) =>
 (b0_RatioSign t_2).bind fun (t_3 : Int) =>
 bif decide (t_3 < 0) then
 some false
 else
 (bif (x.2.2.2.2 != 0) then
 (b0_RatioInt x.2.2.2.2).bind fun (t_4 : Db0_Ratio) =>
 (b0_RatioDiv t_2 t_4).bind fun (t_5 : Db0_Ratio) =>
 (b0_RatioFloor t_5).bind fun (t_6 : Db0_Wide) =>
 (b0_WideOf 1).bind fun (t_7 : Db0_Wide) =>
 (b0_RatioInt x.2.2.2.2).bind fun (t_8 : Db0_Ratio) =>
 (b0_RatioMul (t_6, t_7) t_8).bind fun (t_9 : Db0_Ratio) =>
 (b0_RatioSub t_2 t_9).bind fun (t_10 : Db0_Ratio) =>
 some t_10
 else
 some t_2).bind fun (at_ : Db0_Ratio) =>
 (b0_RatioInt (wi64 (x.2.2.2.1 - x.2.2.1))).bind fun (t_11 : Db0_Ratio) =>
 (b0_RatioCmp at_ t_11).bind fun (t_12 : Int) =>
 some (decide (t_12 ≤ 0))
noncomputable def r9_Table (c : Dapi_TraceCourse) (l : (List Dapi_TraceCause)) (r : (List Dapi_TraceReading)) : Option ((List (List Bool))) :=
 (loopM (S := (List (List Bool)) × Int) (R := (List (List Bool))) (fun s =>
 let out : (List (List Bool)) := s.1
 let i : Int := s.2
 bif decide (i < (List.length r : Int)) then
 (loopM (S := (List Bool) × Int) (R := (List Bool)) (fun s_1 =>
 let row : (List Bool) := s_1.1
 let k : Int := s_1.2
 bif decide (k < (List.length l : Int)) then
 chk (decide ((0 : Int) ≤ k) && decide (k < (List.length l : Int))) (
 chk (decide ((0 : Int) ≤ i) && decide (i < (List.length r : Int))) (
 (r9_predicts c (lget (ByteArray.empty, (0, (0, (0, 0)))) l k) (lget (0, (0, false)) r i)).bind fun (t : Bool) =>
 (app row [t]).bind fun (t_1 : List Bool) =>
 some (.inl (t_1, wi64 (k + 1)))))
 else
 some (.inr row)) ([], 0)).bind fun (row_1 : (List Bool)) =>
 (app out [row_1]).bind fun (t_2 : List (List Bool)) =>
 some (.inl (t_2, wi64 (i + 1)))
 else
 some (.inr out)) ([], 0)).bind fun (out_1 : (List (List Bool))) =>
 some out_1
noncomputable def r9_some (row : (List Bool)) (set : (List Int)) : Option (Bool) :=
 (loopM (S := Int) (R := (Unit) ⊕ (Bool)) (fun i =>
 bif decide (i < (List.length set : Int)) then
 chk (decide ((0 : Int) ≤ i) && decide (i < (List.length set : Int))) (
 chk (decide ((0 : Int) ≤ (lget 0 set i)) && decide ((lget 0 set i) < (List.length row : Int))) (
 bif lget false row (lget 0 set i) then
 Option.map Sum.inr (Option.map Sum.inr (
 some true))
 else
 some (.inl (wi64 (i + 1)))))
 else
 some (.inr (.inl ()))) 0).bind fun j => match j with
 | .inl _ => (
 some false)
 | .inr r => some r
noncomputable def r9_Contradiction (x : (List (List Bool))) (set : (List Int)) (r : (List Dapi_TraceReading)) : Option (Int × Bool) :=
 (loopM (S := Int) (R := (Unit) ⊕ (Int × Bool)) (fun i =>
 bif decide (i < (List.length r : Int)) then
 chk (decide ((0 : Int) ≤ i) && decide (i < (List.length x : Int))) (
 (r9_some (lget [] x i) set).bind fun (t : Bool) =>
 chk (decide ((0 : Int) ≤ i) && decide (i < (List.length r : Int))) (
 bif (t != (((lget (0, (0, false)) r i).2).2)) then
 Option.map Sum.inr (Option.map Sum.inr (
 some (i, true)))
 else
 some (.inl (wi64 (i + 1)))))
 else
 some (.inr (.inl ()))) 0).bind fun j => match j with
 | .inl _ => (
 some (0, false))
 | .inr r => some r
noncomputable def r9_members (n : Int) : Option ((List Int)) :=
 (loopM (S := Int × (List Int) × Int) (R := (List Int)) (fun s =>
 let n_1 : Int := s.1
 let out : (List Int) := s.2.1
 let i : Int := s.2.2
 bif decide (n_1 > 0) then
 chk (2 != 0) (
 (bif ((Int.tmod n_1 2) == 1) then
 (app out [i]).bind fun (t : List Int) =>
 some t
 else
 some out).bind fun (out_1 : (List Int)) =>
 chk (2 != 0) (
 let t_1 : Int := wi64 (Int.tdiv n_1 2)
 some (.inl (t_1, out_1, wi64 (i + 1)))))
 else
 some (.inr out)) (n, [], 0)).bind fun (out_2 : (List Int)) =>
 some out_2
noncomputable def b0_Before (a : (List Int)) (b : (List Int)) : Option (Bool) :=
 (loopM (S := Int) (R := (Unit) ⊕ (Bool)) (fun i =>
 bif ((decide (i < (List.length a : Int))) && (decide (i < (List.length b : Int)))) then
 chk (decide ((0 : Int) ≤ i) && decide (i < (List.length a : Int))) (
 chk (decide ((0 : Int) ≤ i) && decide (i < (List.length b : Int))) (
 bif ((lget 0 a i) != (lget 0 b i)) then
 chk (decide ((0 : Int) ≤ i) && decide (i < (List.length a : Int))) (
 chk (decide ((0 : Int) ≤ i) && decide (i < (List.length b : Int))) (
 let t : Bool := decide ((lget 0 a i) < (lget 0 b i))
 Option.map Sum.inr (Option.map Sum.inr (
 some t))))
 else
 some (.inl (wi64 (i + 1)))))
 else
 some (.inr (.inl ()))) 0).bind fun j => match j with
 | .inl _ => (
 let t_1 : Bool := decide ((List.length a : Int) < (List.length b : Int))
 some t_1)
 | .inr r => some r
noncomputable def r9_explained (x : (List (List Bool))) (count : Int) (r : (List Dapi_TraceReading)) : Option ((List (List Int))) :=
 (loopM (S := (List (List Int)) × Int) (R := (List (List Int))) (fun s =>
 let out : (List (List Int)) := s.1
 let n : Int := s.2
 chk (decide ((0 : Int) ≤ count)) (
 bif decide (n < (ishl .i64 1 count)) then
 (r9_members n).bind fun (t : (List Int)) =>
 (r9_Contradiction x t r).bind fun (r_1 : Int × Bool) =>
 (bif r_1.2 then some true else
 (bif decide ((List.length out : Int) > 0) then
 chk (decide ((0 : Int) ≤ 0) && decide (0 < (List.length out : Int))) (
 some (decide ((List.length t : Int) > (List.length (lget [] out 0) : Int))))
 else some false).bind fun (c : Bool) =>
 some c).bind fun (c_1 : Bool) =>
 bif c_1 then
 some (.inl (out, wi64 (n + 1)))
 else
 (bif decide ((List.length out : Int) > 0) then
 chk (decide ((0 : Int) ≤ 0) && decide (0 < (List.length out : Int))) (
 some (decide ((List.length t : Int) < (List.length (lget [] out 0) : Int))))
 else some false).bind fun (c_2 : Bool) =>
 (bif c_2 then
 some []
 else
 some out).bind fun (out_1 : (List (List Int))) =>
 (loopM (S := (List (List Int)) × Bool × Int) (R := (List (List Int)) × Bool) (fun s_1 =>
 let next : (List (List Int)) := s_1.1
 let done : Bool := s_1.2.1
 let i : Int := s_1.2.2
 bif decide (i < (List.length out_1 : Int)) then
 (bif !done then
 chk (decide ((0 : Int) ≤ i) && decide (i < (List.length out_1 : Int))) (
 (b0_Before t (lget [] out_1 i)).bind fun (t_1 : Bool) =>
 some t_1)
 else some false).bind fun (c_3 : Bool) =>
 (bif c_3 then
 (app next [t]).bind fun (t_2 : List (List Int)) =>
 some (t_2, true)
 else
 some (next, done)).bind fun (j : (List (List Int)) × Bool) =>
 let next_1 : (List (List Int)) := j.1
 let done_1 : Bool := j.2
 chk (decide ((0 : Int) ≤ i) && decide (i < (List.length out_1 : Int))) (
 (app next_1 [lget [] out_1 i]).bind fun (t_3 : List (List Int)) =>
 some (.inl (t_3, done_1, wi64 (i + 1))))
 else
 some (.inr (next, done))) ([], false, 0)).bind fun (b : (List (List Int)) × Bool) =>
 let next_2 : (List (List Int)) := b.1
 let done_2 : Bool := b.2
 (bif !done_2 then
 (app next_2 [t]).bind fun (t_4 : List (List Int)) =>
 some t_4
 else
 some next_2).bind fun (next_3 : (List (List Int))) =>
 some (.inl (next_3, wi64 (n + 1)))
 else
 some (.inr out))) ([], 0)).bind fun (out_2 : (List (List Int))) =>
 some out_2
noncomputable def r9_Explanations (c : Dapi_TraceCourse) (l : (List Dapi_TraceCause)) (r : (List Dapi_TraceReading)) : Option ((List (List Int))) :=
 (r9_Table c l r).bind fun (t : (List (List Bool))) =>
 (r9_explained t (List.length l : Int) r).bind fun (t_1 : (List (List Int))) =>
 some t_1
end Go.Lift
