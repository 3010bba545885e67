/-
  The functions of causes, as plain functions.
-/
import Derived.Test.YtfihcmhknhbndaaGreatDoorFunF
import Derived.Test.YtfihcmhknhbndaaGreatDoorFunG
set_option linter.unusedSectionVars false
set_option linter.unusedVariables false
set_option linter.unusedSimpArgs false
namespace Go.Lift
open Go

noncomputable def cobbleref09_CopyCauses (l : (List Dapi_TraceCause)) : Option ((List Dapi_TraceCause)) :=
  (app [] l).bind fun (t : List Dapi_TraceCause) =>
  some t

noncomputable def cobbleref09_CopyReadings (l : (List Dapi_TraceReading)) : Option ((List Dapi_TraceReading)) :=
  (app [] l).bind fun (t : List Dapi_TraceReading) =>
  some t

noncomputable def cobbleref09_ReadingsErr (c : Dapi_TraceCourse) (l : (List Dapi_TraceReading)) : Option (Int) :=
  bif decide ((List.length l : Int) > 10) then
    some 8
  else
    (loopM (S := Int) (R := (Unit) ⊕ (Int)) (fun i =>
      bif decide (i < (List.length l : Int)) then
        chk (decide ((0 : Int) ≤ i) && decide (i < (List.length l : Int))) (
          (cobbleref09_ReadingErr c (lget (0, (0, false)) l i)).bind fun (t : Int) =>
          bif (t != 0) then
            Option.map Sum.inr (Option.map Sum.inr (
              some t))
          else
            some (.inl (wi64 (i + 1))))
      else
        some (.inr (.inl ()))) 0).bind fun j => match j with
    | .inl _ => (
      some 0)
    | .inr r => some r

noncomputable def trace_CheckCauses (c : Dapi_TraceCourse) (l : (List Dapi_TraceCause)) : Option (Int × Int) :=
  (trace_openCauses c l).bind fun (r : Dtrace_course × Int × Int) =>
  some (r.2.1, r.2.2)

noncomputable def trace_Contradiction (c : Dapi_TraceCourse) (l : (List Dapi_TraceCause)) (r : (List Dapi_TraceReading)) : Option (Int × Int) :=
  (trace_openEvidence c l r).bind fun (r_1 : Dtrace_course × Dtrace_evidence × Int) =>
  bif (r_1.2.2 != 0) then
    some (0, r_1.2.2)
  else
    chk (decide ((0 : Int) ≤ (List.length l : Int))) (
      let t : Int := ishl .u64 1 (List.length l : Int)
      (trace_evidence_every r_1.2.1).bind fun (t_1 : Int) =>
      (trace_evidence_firstWrong r_1.2.1 (wu64 (t - 1)) t_1).bind fun (t_2 : Int) =>
      bif decide (t_2 < 0) then
        some (0, 12)
      else
        some (t_2, 0))

noncomputable def trace_Predicts_1 (own : Dapi_TraceCause) (x : Dtrace_course) (x_1 : Dapi_TraceReading) : Option (Bool) :=
  (trace_course_predicts x own x_1).bind fun (t : Bool) =>
  some t

noncomputable def trace_Predicts (c : Dapi_TraceCourse) (l : (List Dapi_TraceCause)) (r : Dapi_TraceReading) : Option (Bool × Int) :=
  (trace_openCauses c l).bind fun (r_1 : Dtrace_course × Int × Int) =>
  (bif (r_1.2.2 == 0) then
    (trace_course_readingErr r_1.1 r).bind fun (t : Int) =>
    some t
  else
    some r_1.2.2).bind fun (e : Int) =>
  bif (e != 0) then
    some (false, e)
  else
    (slices_ContainsFunc_apiTraceCause l (fun x => trace_Predicts_1 x r_1.1 r)).bind fun (t_1 : Bool) =>
    some (t_1, 0)

noncomputable def cobbleref09_CheckCauses (c : Dapi_TraceCourse) (l : (List Dapi_TraceCause)) : Option (Int × Int) :=
  (cobbleref09_CourseErr c).bind fun (t : Int) =>
  bif (t != 0) then
    some (0, t)
  else
    bif decide ((List.length l : Int) > 5) then
      some (0, 8)
    else
      (loopM (S := Int) (R := (Unit) ⊕ (Int × Int)) (fun i =>
        bif decide (i < (List.length l : Int)) then
          chk (decide ((0 : Int) ≤ i) && decide (i < (List.length l : Int))) (
            let x : Dapi_TraceCause := lget (ByteArray.empty, (0, (0, (0, 0)))) l i
            (cobblebase_IsName x.1).bind fun (t_1 : Bool) =>
            bif !t_1 then
              Option.map Sum.inr (Option.map Sum.inr (
                some (i, 4)))
            else
              (loopM (S := Int) (R := (Unit) ⊕ ((Int) ⊕ ((Unit) ⊕ (Int × Int)))) (fun k =>
                bif decide (k < i) then
                  chk (decide ((0 : Int) ≤ k) && decide (k < (List.length l : Int))) (
                    bif seqb ((lget (ByteArray.empty, (0, (0, (0, 0)))) l k).1) x.1 then
                      Option.map Sum.inr (Option.map Sum.inr (
                        Option.map Sum.inr (Option.map Sum.inr (
                          some (i, 5)))))
                    else
                      some (.inl (wi64 (k + 1))))
                else
                  some (.inr (.inl ()))) 0).bind fun j => match j with
              | .inl _ => (
                (cobbleref09_StepsErr c x.2.1).bind fun (t_2 : Int) =>
                bif (t_2 != 0) then
                  Option.map Sum.inr (Option.map Sum.inr (
                    some (i, t_2)))
                else
                  (cobblebase_Within x.2.2.1 0 1000000).bind fun (t_3 : Bool) =>
                  (bif !t_3 then some true else
                    (cobblebase_Within x.2.2.2.1 0 1000000).bind fun (t_4 : Bool) =>
                    some (!t_4)).bind fun (c_1 : Bool) =>
                  (bif c_1 then some true else
                    (cobblebase_Within x.2.2.2.2 0 1000000).bind fun (t_5 : Bool) =>
                    some (!t_5)).bind fun (c_2 : Bool) =>
                  bif c_2 then
                    Option.map Sum.inr (Option.map Sum.inr (
                      some (i, 2)))
                  else
                    bif decide (x.2.2.1 > x.2.2.2.1) then
                      Option.map Sum.inr (Option.map Sum.inr (
                        some (i, 9)))
                    else
                      bif ((x.2.2.2.2 != 0) && (decide (x.2.2.2.2 ≤ (wi64 (x.2.2.2.1 - x.2.2.1))))) then
                        Option.map Sum.inr (Option.map Sum.inr (
                          some (i, 13)))
                      else
                        some (.inl (wi64 (i + 1))))
              | .inr r => some r)
        else
          some (.inr (.inl ()))) 0).bind fun j => match j with
      | .inl _ => (
        some (0, 0))
      | .inr r => some r

noncomputable def cobblebase_RatioFloor (a : Dcobblebase_Ratio) : Option (Dcobblebase_Wide) :=
  (cobblebase_WideFloor a.1 a.2).bind fun (t : Dcobblebase_Wide) =>
  some t

noncomputable def cobblebase_RatioSign (a : Dcobblebase_Ratio) : Option (Int) :=
  (cobblebase_WideSign a.1).bind fun (t : Int) =>
  some t

noncomputable def cobbleref09_predicts (c : Dapi_TraceCourse) (x : Dapi_TraceCause) (r : Dapi_TraceReading) : Option (Bool) :=
  bif decide (x.2.1 > r.1) then
    some false
  else
    (cobblebase_RatioInt r.2.1).bind fun (t : Dcobblebase_Ratio) =>
    (cobbleref09_Move c t r.1 x.2.1).bind fun (r_1 : Dcobblebase_Ratio × Bool) =>
    (cobblebase_RatioInt x.2.2.1).bind fun (t_1 : Dcobblebase_Ratio) =>
    (cobblebase_RatioSub r_1.1 t_1).bind fun (t_2 : Dcobblebase_Ratio) =>
    (cobblebase_RatioSign t_2).bind fun (t_3 : Int) =>
    bif decide (t_3 < 0) then
      some false
    else
      (bif (x.2.2.2.2 != 0) then
        (cobblebase_RatioInt x.2.2.2.2).bind fun (t_4 : Dcobblebase_Ratio) =>
        (cobblebase_RatioDiv t_2 t_4).bind fun (t_5 : Dcobblebase_Ratio) =>
        (cobblebase_RatioFloor t_5).bind fun (t_6 : Dcobblebase_Wide) =>
        (cobblebase_WideOf 1).bind fun (t_7 : Dcobblebase_Wide) =>
        (cobblebase_RatioInt x.2.2.2.2).bind fun (t_8 : Dcobblebase_Ratio) =>
        (cobblebase_RatioMul (t_6, t_7) t_8).bind fun (t_9 : Dcobblebase_Ratio) =>
        (cobblebase_RatioSub t_2 t_9).bind fun (t_10 : Dcobblebase_Ratio) =>
        some t_10
      else
        some t_2).bind fun (at_ : Dcobblebase_Ratio) =>
      (cobblebase_RatioInt (wi64 (x.2.2.2.1 - x.2.2.1))).bind fun (t_11 : Dcobblebase_Ratio) =>
      (cobblebase_RatioCmp at_ t_11).bind fun (t_12 : Int) =>
      some (decide (t_12 ≤ 0))

noncomputable def cobbleref09_Predicts (c : Dapi_TraceCourse) (l : (List Dapi_TraceCause)) (set : (List Int)) (r : Dapi_TraceReading) : Option (Bool) :=
  (loopM (S := Int) (R := (Unit) ⊕ (Bool)) (fun i =>
    bif decide (i < (List.length set : Int)) then
      chk (decide ((0 : Int) ≤ i) && decide (i < (List.length set : Int))) (
        chk (decide ((0 : Int) ≤ (lget 0 set i)) && decide ((lget 0 set i) < (List.length l : Int))) (
          (cobbleref09_predicts c (lget (ByteArray.empty, (0, (0, (0, 0)))) l (lget 0 set i)) r).bind fun (t : Bool) =>
          bif t then
            Option.map Sum.inr (Option.map Sum.inr (
              some true))
          else
            some (.inl (wi64 (i + 1)))))
    else
      some (.inr (.inl ()))) 0).bind fun j => match j with
  | .inl _ => (
    some false)
  | .inr r => some r

noncomputable def cobbleref09_All (l : (List Dapi_TraceCause)) : Option ((List Int)) :=
  (loopM (S := (List Int) × Int) (R := (List Int)) (fun s =>
    let out : (List Int) := s.1
    let i : Int := s.2
    bif decide (i < (List.length l : Int)) then
      (app out [i]).bind fun (t : List Int) =>
      some (.inl (t, wi64 (i + 1)))
    else
      some (.inr out)) ([], 0)).bind fun (out_1 : (List Int)) =>
  some out_1

noncomputable def cobbleref09_some (row : (List Bool)) (set : (List Int)) : Option (Bool) :=
  (loopM (S := Int) (R := (Unit) ⊕ (Bool)) (fun i =>
    bif decide (i < (List.length set : Int)) then
      chk (decide ((0 : Int) ≤ i) && decide (i < (List.length set : Int))) (
        chk (decide ((0 : Int) ≤ (lget 0 set i)) && decide ((lget 0 set i) < (List.length row : Int))) (
          bif lget false row (lget 0 set i) then
            Option.map Sum.inr (Option.map Sum.inr (
              some true))
          else
            some (.inl (wi64 (i + 1)))))
    else
      some (.inr (.inl ()))) 0).bind fun j => match j with
  | .inl _ => (
    some false)
  | .inr r => some r

noncomputable def cobbleref09_Contradiction (x : (List (List Bool))) (set : (List Int)) (r : (List Dapi_TraceReading)) : Option (Int × Bool) :=
  (loopM (S := Int) (R := (Unit) ⊕ (Int × Bool)) (fun i =>
    bif decide (i < (List.length r : Int)) then
      chk (decide ((0 : Int) ≤ i) && decide (i < (List.length x : Int))) (
        (cobbleref09_some (lget [] x i) set).bind fun (t : Bool) =>
        chk (decide ((0 : Int) ≤ i) && decide (i < (List.length r : Int))) (
          bif (t != (((lget (0, (0, false)) r i).2).2)) then
            Option.map Sum.inr (Option.map Sum.inr (
              some (i, true)))
          else
            some (.inl (wi64 (i + 1)))))
    else
      some (.inr (.inl ()))) 0).bind fun j => match j with
  | .inl _ => (
    some (0, false))
  | .inr r => some r

noncomputable def cobbleref09_Table (c : Dapi_TraceCourse) (l : (List Dapi_TraceCause)) (r : (List Dapi_TraceReading)) : Option ((List (List Bool))) :=
  (loopM (S := (List (List Bool)) × Int) (R := (List (List Bool))) (fun s =>
    let out : (List (List Bool)) := s.1
    let i : Int := s.2
    bif decide (i < (List.length r : Int)) then
      (loopM (S := (List Bool) × Int) (R := (List Bool)) (fun s_1 =>
        let row : (List Bool) := s_1.1
        let k : Int := s_1.2
        bif decide (k < (List.length l : Int)) then
          chk (decide ((0 : Int) ≤ k) && decide (k < (List.length l : Int))) (
            chk (decide ((0 : Int) ≤ i) && decide (i < (List.length r : Int))) (
              (cobbleref09_predicts c (lget (ByteArray.empty, (0, (0, (0, 0)))) l k) (lget (0, (0, false)) r i)).bind fun (t : Bool) =>
              (app row [t]).bind fun (t_1 : List Bool) =>
              some (.inl (t_1, wi64 (k + 1)))))
        else
          some (.inr row)) ([], 0)).bind fun (row_1 : (List Bool)) =>
      (app out [row_1]).bind fun (t_2 : List (List Bool)) =>
      some (.inl (t_2, wi64 (i + 1)))
    else
      some (.inr out)) ([], 0)).bind fun (out_1 : (List (List Bool))) =>
  some out_1

noncomputable def cobblelaw09_TraceCauses (c : Dapi_TraceCourse) (l : (List Dapi_TraceCause)) (r : (List Dapi_TraceReading)) : Option (Bool) :=
  (cobblelaw09_awake).bind fun (t : Bool) =>
  bif !t then
    some false
  else
    (cobblelaw09_Few c).bind fun (t_1 : Bool) =>
    bif (((!t_1) || (decide ((List.length l : Int) > 7))) || (decide ((List.length r : Int) > 12))) then
      some true
    else
      (cobbleref09_CopyCourse c).bind fun (t_2 : Dapi_TraceCourse) =>
      (cobbleref09_CopyCauses l).bind fun (t_3 : (List Dapi_TraceCause)) =>
      (trace_CheckCauses t_2 t_3).bind fun (r_1 : Int × Int) =>
      (cobbleref09_CopyCourse c).bind fun (t_4 : Dapi_TraceCourse) =>
      (cobbleref09_CopyCauses l).bind fun (t_5 : (List Dapi_TraceCause)) =>
      (cobbleref09_CopyReadings r).bind fun (t_6 : (List Dapi_TraceReading)) =>
      (trace_Contradiction t_4 t_5 t_6).bind fun (r_2 : Int × Int) =>
      (bif decide ((List.length r : Int) > 0) then
        chk (decide ((0 : Int) ≤ 0) && decide (0 < (List.length r : Int))) (
          let one_ : Dapi_TraceReading := lget (0, (0, false)) r 0
          some one_)
      else
        some (0, (0, false))).bind fun (one__1 : Dapi_TraceReading) =>
      (cobbleref09_CopyCourse c).bind fun (t_7 : Dapi_TraceCourse) =>
      (cobbleref09_CopyCauses l).bind fun (t_8 : (List Dapi_TraceCause)) =>
      (trace_Predicts t_7 t_8 one__1).bind fun (r_3 : Bool × Int) =>
      (cobbleref09_CheckCauses c l).bind fun (r_4 : Int × Int) =>
      bif ((r_1.2 != r_4.2) || (r_1.1 != r_4.1)) then
        some false
      else
        bif (r_4.2 != 0) then
          let t_9 : Bool := ((((r_2.2 == r_4.2) && (r_3.2 == r_4.2)) && (r_2.1 == 0)) && (!r_3.1))
          some t_9
        else
          (cobbleref09_ReadingErr c one__1).bind fun (t_10 : Int) =>
          (bif ((t_10 != 0) && ((r_3.2 != t_10) || r_3.1)) then some true else
            (bif (t_10 == 0) then
              (bif (r_3.2 != 0) then some true else
                (cobbleref09_All l).bind fun (t_11 : (List Int)) =>
                (cobbleref09_Predicts c l t_11 one__1).bind fun (t_12 : Bool) =>
                some (r_3.1 != t_12)).bind fun (c_1 : Bool) =>
              some c_1
            else some false).bind fun (c_2 : Bool) =>
            some c_2).bind fun (c_3 : Bool) =>
          bif c_3 then
            some false
          else
            (cobbleref09_ReadingsErr c r).bind fun (t_13 : Int) =>
            bif (t_13 != 0) then
              let t_14 : Bool := ((r_2.2 == t_13) && (r_2.1 == 0))
              some t_14
            else
              (cobbleref09_Table c l r).bind fun (t_15 : (List (List Bool))) =>
              (cobbleref09_All l).bind fun (t_16 : (List Int)) =>
              (cobbleref09_Contradiction t_15 t_16 r).bind fun (r_5 : Int × Bool) =>
              bif !r_5.2 then
                let t_17 : Bool := ((r_2.2 == 12) && (r_2.1 == 0))
                some t_17
              else
                let t_18 : Bool := ((r_2.2 == 0) && (r_2.1 == r_5.1))
                some t_18

end Go.Lift
