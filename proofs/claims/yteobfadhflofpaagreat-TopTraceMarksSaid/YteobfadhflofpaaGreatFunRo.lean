/-
  The functions of rolls, as plain functions.
-/
import Derived.Test.YteobfadhflofpaaGreatFunF
import Derived.Test.YteobfadhflofpaaGreatFunG
import Derived.Test.YteobfadhflofpaaGreatFunCb
import Derived.Test.YteobfadhflofpaaGreatFunRe
set_option linter.unusedSectionVars false
set_option linter.unusedVariables false
set_option linter.unusedSimpArgs false
namespace Go.Lift
open Go
noncomputable def trace_openMarks (c : Dapi_TraceCourse) (x : Dapi_TraceMarks) : Option (Dtrace_course × (List Dtrace_ratio) × Int) :=
 (trace_opened c []).bind fun (r : Dtrace_course × Int) =>
 (trace_unless (decide ((List.length x.1 : Int) ≤ 20)) 8).bind fun (t : Int) =>
 (trace_first [r.2, t]).bind fun (t_1 : Int) =>
 bif (t_1 != 0) then
 some (r.1, [], t_1)
 else
 (loopM (S := (List Dtrace_ratio) × Int) (R := ((List Dtrace_ratio)) ⊕ (Dtrace_course × (List Dtrace_ratio) × Int)) (fun s =>
 let out : (List Dtrace_ratio) := s.1
 let t_2 : Int := s.2
 bif decide (t_2 < (List.length x.1 : Int)) then
 chk (decide ((0 : Int) ≤ t_2) && decide (t_2 < (List.length x.1 : Int))) (
 (trace_course_last r.1).bind fun (t_3 : (List Dtrace_section)) =>
 (trace_strip_has t_3 (lget 0 x.1 t_2)).bind fun (t_4 : Bool) =>
 (trace_unless t_4 6).bind fun (t_5 : Int) =>
 (bif (t_2 == 0) then some true else
 chk (decide ((0 : Int) ≤ (imax 0 (wi64 (t_2 - 1)))) && decide ((imax 0 (wi64 (t_2 - 1))) < (List.length x.1 : Int))) (
 some (decide ((lget 0 x.1 t_2) > (lget 0 x.1 (imax 0 (wi64 (t_2 - 1)))))))).bind fun (c_1 : Bool) =>
 (trace_unless c_1 9).bind fun (t_6 : Int) =>
 (trace_first [t_5, t_6]).bind fun (t_7 : Int) =>
 bif (t_7 != 0) then
 Option.map Sum.inr (Option.map Sum.inr (
 some (r.1, [], t_7)))
 else
 (trace_course_last r.1).bind fun (t_8 : (List Dtrace_section)) =>
 (trace_whole (lget 0 x.1 t_2)).bind fun (t_9 : Dtrace_ratio) =>
 (trace_strip_slabAt t_8 t_9).bind fun (t_10 : Dtrace_ratio) =>
 (app out [t_10]).bind fun (t_11 : List Dtrace_ratio) =>
 some (.inl (t_11, wi64 (t_2 + 1))))
 else
 some (.inr (.inl out))) ([], 0)).bind fun j => match j with
 | .inl out_1 => (
 (trace_within x.2 0 1000).bind fun (t_12 : Bool) =>
 (trace_unless t_12 2).bind fun (t_13 : Int) =>
 some (r.1, out_1, t_13))
 | .inr r => some r
noncomputable def trace_course_rollErr (c : Dtrace_course) (r : Dapi_TraceRoll) (tolerance : Int) : Option (Int) :=
 (trace_isName r.1).bind fun (t : Bool) =>
 (trace_unless t 4).bind fun (t_1 : Int) =>
 (trace_course_stepsErr c r.2.1).bind fun (t_2 : Int) =>
 (trace_within r.2.2 1 1000000).bind fun (t_3 : Bool) =>
 (trace_unless t_3 2).bind fun (t_4 : Int) =>
 (trace_unless (decide ((wi64 (6 * tolerance)) < r.2.2)) 22).bind fun (t_5 : Int) =>
 (trace_first [t_1, t_2, t_4, t_5]).bind fun (t_6 : Int) =>
 some t_6
noncomputable def trace_course_contradicts (c : Dtrace_course) (a : Dtrace_ratio) (b : Dtrace_ratio) (r : Dapi_TraceRoll) (tolerance : Int) : Option (Bool) :=
 chk (decide ((0 : Int) ≤ r.2.1) && decide (r.2.1 < (List.length c.2 : Int))) (
 (trace_strip_at (lget [] c.2 r.2.1) a).bind fun (r_1 : Dtrace_ratio × Bool) =>
 chk (decide ((0 : Int) ≤ r.2.1) && decide (r.2.1 < (List.length c.2 : Int))) (
 (trace_strip_at (lget [] c.2 r.2.1) b).bind fun (r_2 : Dtrace_ratio × Bool) =>
 (trace_whole r.2.2).bind fun (t : Dtrace_ratio) =>
 (trace_ratio_minus r_2.1 r_1.1).bind fun (t_1 : Dtrace_ratio) =>
 (trace_ratio_over t_1 t).bind fun (t_2 : Dtrace_ratio) =>
 (trace_ratio_floor t_2).bind fun (t_3 : Dtrace_ratio) =>
 (trace_ratio_times t_3 t).bind fun (t_4 : Dtrace_ratio) =>
 (trace_ratio_minus t_1 t_4).bind fun (t_5 : Dtrace_ratio) =>
 (trace_whole (wi64 (2 * tolerance))).bind fun (t_6 : Dtrace_ratio) =>
 (trace_ratio_cmp t_5 t_6).bind fun (t_7 : Int) =>
 (bif decide (t_7 > 0) then
 (trace_ratio_minus t t_5).bind fun (t_8 : Dtrace_ratio) =>
 (trace_ratio_cmp t_8 t_6).bind fun (t_9 : Int) =>
 some (decide (t_9 > 0))
 else some false).bind fun (c_1 : Bool) =>
 some c_1))
noncomputable def trace_course_pair (c : Dtrace_course) (marks : (List Dtrace_ratio)) (r : Dapi_TraceRoll) (tolerance : Int) : Option ((Nat → Int) × Bool) :=
 (loopM (S := Int) (R := (Unit) ⊕ ((Nat → Int) × Bool)) (fun t =>
 bif decide (t < (List.length marks : Int)) then
 (loopM (S := Int) (R := (Unit) ⊕ ((Int) ⊕ ((Unit) ⊕ ((Nat → Int) × Bool)))) (fun k =>
 bif decide (k < (List.length marks : Int)) then
 chk (decide ((0 : Int) ≤ t) && decide (t < (List.length marks : Int))) (
 chk (decide ((0 : Int) ≤ k) && decide (k < (List.length marks : Int))) (
 (trace_course_contradicts c (lget (false, ([], [])) marks t) (lget (false, ([], [])) marks k) r tolerance).bind fun (t_1 : Bool) =>
 bif t_1 then
 let t_2 : (Nat → Int) := aset (aset (fun _ => 0) 0 t) 1 k
 Option.map Sum.inr (Option.map Sum.inr (
 Option.map Sum.inr (Option.map Sum.inr (
 some (t_2, true)))))
 else
 some (.inl (wi64 (k + 1)))))
 else
 some (.inr (.inl ()))) (wi64 (t + 1))).bind fun j => match j with
 | .inl _ => (
 some (.inl (wi64 (t + 1))))
 | .inr r => some r
 else
 some (.inr (.inl ()))) 0).bind fun j => match j with
 | .inl _ => (
 some ((fun _ => 0), false))
 | .inr r => some r
noncomputable def trace_RollsOf (c : Dapi_TraceCourse) (x : Dapi_TraceMarks) (rolls : (List Dapi_TraceRoll)) : Option ((List ByteArray) × Int) :=
 (trace_openMarks c x).bind fun (r : Dtrace_course × (List Dtrace_ratio) × Int) =>
 (trace_unless (decide ((List.length rolls : Int) ≤ 12)) 16).bind fun (t : Int) =>
 (trace_first [r.2.2, t]).bind fun (t_1 : Int) =>
 bif (t_1 != 0) then
 some ([], t_1)
 else
 (loopM (S := (List ByteArray) × Int × (List (ByteArray × Bool))) (R := ((List ByteArray)) ⊕ ((List ByteArray) × Int)) (fun s =>
 let out : (List ByteArray) := s.1
 let t_2 : Int := s.2.1
 let t_3 : (List (ByteArray × Bool)) := s.2.2
 bif decide (t_2 < (List.length rolls : Int)) then
 chk (decide ((0 : Int) ≤ t_2) && decide (t_2 < (List.length rolls : Int))) (
 let r_1 : Dapi_TraceRoll := lget (ByteArray.empty, (0, 0)) rolls t_2
 (trace_course_rollErr r.1 r_1 x.2).bind fun (t_4 : Int) =>
 (trace_unless (!(mget .str .bool t_3 r_1.1)) 5).bind fun (t_5 : Int) =>
 (trace_first [t_4, t_5]).bind fun (t_6 : Int) =>
 bif (t_6 != 0) then
 Option.map Sum.inr (Option.map Sum.inr (
 some ([], t_6)))
 else
 let t_7 : (List (ByteArray × Bool)) := mput .str .bool t_3 r_1.1 true
 (trace_course_pair r.1 r.2.1 r_1 x.2).bind fun (r_2 : (Nat → Int) × Bool) =>
 (bif !r_2.2 then
 (app out [r_1.1]).bind fun (t_8 : List ByteArray) =>
 some t_8
 else
 some out).bind fun (out_1 : (List ByteArray)) =>
 some (.inl (out_1, wi64 (t_2 + 1), t_7)))
 else
 some (.inr (.inl out))) ([], 0, [])).bind fun j => match j with
 | .inl out_2 => (
 some (out_2, 0))
 | .inr r => some r
noncomputable def r9_CopyMarks (x : Dapi_TraceMarks) : Option (Dapi_TraceMarks) :=
 (b0_CopyInts x.1).bind fun (t : (List Int)) =>
 some (t, x.2)
noncomputable def trace_RollPair (c : Dapi_TraceCourse) (x : Dapi_TraceMarks) (roll : Dapi_TraceRoll) : Option ((Nat → Int) × Int) :=
 (trace_openMarks c x).bind fun (r : Dtrace_course × (List Dtrace_ratio) × Int) =>
 (bif (r.2.2 == 0) then
 (trace_course_rollErr r.1 roll x.2).bind fun (t : Int) =>
 some t
 else
 some r.2.2).bind fun (e : Int) =>
 bif (e != 0) then
 some ((fun _ => 0), e)
 else
 (trace_course_pair r.1 r.2.1 roll x.2).bind fun (r_1 : (Nat → Int) × Bool) =>
 (trace_unless r_1.2 12).bind fun (t_1 : Int) =>
 some (r_1.1, t_1)
noncomputable def b0_Texts (a : (List ByteArray)) (b : (List ByteArray)) : Option (Bool) :=
 bif ((List.length a : Int) != (List.length b : Int)) then
 some false
 else
 (loopM (S := Int) (R := (Unit) ⊕ (Bool)) (fun i =>
 bif decide (i < (List.length a : Int)) then
 chk (decide ((0 : Int) ≤ i) && decide (i < (List.length a : Int))) (
 chk (decide ((0 : Int) ≤ i) && decide (i < (List.length b : Int))) (
 bif !seqb (lget ByteArray.empty a i) (lget ByteArray.empty b i) then
 Option.map Sum.inr (Option.map Sum.inr (
 some false))
 else
 some (.inl (wi64 (i + 1)))))
 else
 some (.inr (.inl ()))) 0).bind fun j => match j with
 | .inl _ => (
 some true)
 | .inr r => some r
end Go.Lift
