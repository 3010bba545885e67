/-
  The functions of values of maps, as plain functions.
-/
import Derived.Test.YtfihcmhknhbndaaGreatDoorFunF
import Derived.Test.YtfihcmhknhbndaaGreatDoorFunG
import Derived.Test.YtfihcmhknhbndaaGreatDoorFunVo
import Derived.Test.YtfihcmhknhbndaaGreatDoorFunEv
import Derived.Test.YtfihcmhknhbndaaGreatDoorFunMa
set_option linter.unusedSectionVars false
set_option linter.unusedVariables false
set_option linter.unusedSimpArgs false
namespace Go.Lift
open Go

noncomputable def l9_fewMap (m : Dapi_TraceMap) : Option (Bool) :=
 let t : Bool := decide ((List.length m : Int) ≤ 14)
 some t

noncomputable def trace_isLowest (f : Dapi_Frac) : Option (Bool) :=
 bif decide (f.2 ≤ 0) then
 some false
 else
 (trace_size f.1).bind fun (t : Int) =>
 (trace_naturalOf t).bind fun (t_1 : (List Int)) =>
 (trace_size f.2).bind fun (t_2 : Int) =>
 (trace_naturalOf t_2).bind fun (t_3 : (List Int)) =>
 (trace_divisor t_1 t_3).bind fun (t_4 : (List Int)) =>
 (trace_natural_cmp t_4 [1]).bind fun (t_5 : Int) =>
 some (t_5 == 0)

noncomputable def trace_from (f : Dapi_Frac) : Option (Dtrace_ratio) :=
 (trace_quotient f.1 f.2).bind fun (t : Dtrace_ratio) =>
 some t

noncomputable def trace_isSmall (f : Dapi_Frac) : Option (Bool) :=
 (trace_within f.1 (-1000000000) 1000000000).bind fun (t : Bool) =>
 let t_1 : Bool := (t && (decide (f.2 ≤ 1000000000)))
 some t_1

noncomputable def trace_openMap (m : Dapi_TraceMap) : Option ((List Dtrace_knot) × Int × Int) :=
 (trace_unless (decide ((List.length m : Int) ≥ 2)) 10).bind fun (t : Int) =>
 (trace_unless (decide ((List.length m : Int) ≤ 12)) 8).bind fun (t_1 : Int) =>
 (trace_first [t, t_1]).bind fun (t_2 : Int) =>
 bif (t_2 != 0) then
 some ([], 0, t_2)
 else
 (loopM (S := (List Dtrace_knot) × Int) (R := ((List Dtrace_knot)) ⊕ ((List Dtrace_knot) × Int × Int)) (fun s =>
 let out : (List Dtrace_knot) := s.1
 let t_3 : Int := s.2
 bif decide (t_3 < (List.length m : Int)) then
 chk (decide ((0 : Int) ≤ t_3) && decide (t_3 < (List.length m : Int))) (
 let k : Dapi_Span := lget ((0, 0), (0, 0)) m t_3
 (trace_isLowest k.1).bind fun (t_4 : Bool) =>
 (bif t_4 then
 (trace_isLowest k.2).bind fun (t_5 : Bool) =>
 some t_5
 else some false).bind fun (c : Bool) =>
 (trace_unless c 3).bind fun (t_6 : Int) =>
 (trace_isSmall k.1).bind fun (t_7 : Bool) =>
 (bif t_7 then
 (trace_isSmall k.2).bind fun (t_8 : Bool) =>
 some t_8
 else some false).bind fun (c_1 : Bool) =>
 (trace_unless c_1 2).bind fun (t_9 : Int) =>
 (trace_first [t_6, t_9]).bind fun (t_10 : Int) =>
 bif (t_10 != 0) then
 Option.map Sum.inr (Option.map Sum.inr (
 some ([], t_3, t_10)))
 else
 (trace_from k.1).bind fun (t_11 : Dtrace_ratio) =>
 (trace_from k.2).bind fun (t_12 : Dtrace_ratio) =>
 (bif decide (t_3 > 0) then
 chk (decide ((0 : Int) ≤ (wi64 (t_3 - 1))) && decide ((wi64 (t_3 - 1)) < (List.length out : Int))) (
 (trace_ratio_cmp t_11 ((lget ((false, ([], [])), (false, ([], []))) out (wi64 (t_3 - 1))).1)).bind fun (t_13 : Int) =>
 (bif decide (t_13 ≤ 0) then some true else
 chk (decide ((0 : Int) ≤ (wi64 (t_3 - 1))) && decide ((wi64 (t_3 - 1)) < (List.length out : Int))) (
 (trace_ratio_cmp t_12 ((lget ((false, ([], [])), (false, ([], []))) out (wi64 (t_3 - 1))).2)).bind fun (t_14 : Int) =>
 some (decide (t_14 ≤ 0)))).bind fun (c_2 : Bool) =>
 some c_2)
 else some false).bind fun (c_3 : Bool) =>
 bif c_3 then
 Option.map Sum.inr (Option.map Sum.inr (
 some ([], t_3, 9)))
 else
 (app out [(t_11, t_12)]).bind fun (t_15 : List Dtrace_knot) =>
 some (.inl (t_15, wi64 (t_3 + 1))))
 else
 some (.inr (.inl out))) ([], 0)).bind fun j => match j with
 | .inl out_1 => (
 some (out_1, 0, 0))
 | .inr r => some r

noncomputable def trace_CheckMap (m : Dapi_TraceMap) : Option (Int × Int) :=
 (trace_openMap m).bind fun (r : (List Dtrace_knot) × Int × Int) =>
 some (r.2.1, r.2.2)

noncomputable def r9_CopyMap (m : Dapi_TraceMap) : Option (Dapi_TraceMap) :=
 (app [] m).bind fun (t : List Dapi_Span) =>
 some t

noncomputable def trace_chart_begin (m : (List Dtrace_knot)) : Option (Dtrace_ratio) :=
 chk (decide ((0 : Int) ≤ 0) && decide (0 < (List.length m : Int))) (
 some ((lget ((false, ([], [])), (false, ([], []))) m 0).1))

noncomputable def trace_chart_end (m : (List Dtrace_knot)) : Option (Dtrace_ratio) :=
 chk (decide ((0 : Int) ≤ (wi64 ((List.length m : Int) - 1))) && decide ((wi64 ((List.length m : Int) - 1)) < (List.length m : Int))) (
 some ((lget ((false, ([], [])), (false, ([], []))) m (wi64 ((List.length m : Int) - 1))).1))

noncomputable def trace_chart_value (m : (List Dtrace_knot)) (x : Dtrace_ratio) : Option (Dtrace_ratio) :=
 chk (decide ((0 : Int) ≤ 1) && decide ((1 : Int) ≤ (List.length m : Int)) && decide ((List.length m : Int) ≤ (List.length m : Int))) (
 (loopM (S := Int) (R := (Unit) ⊕ (Dtrace_ratio)) (fun t =>
 bif decide (t < (List.length (List.drop (Int.toNat 1) (List.take (Int.toNat (List.length m : Int)) m)) : Int)) then
 chk (decide ((0 : Int) ≤ t) && decide (t < (List.length (List.drop (Int.toNat 1) (List.take (Int.toNat (List.length m : Int)) m)) : Int))) (
 let k : Dtrace_knot := lget ((false, ([], [])), (false, ([], []))) (List.drop (Int.toNat 1) (List.take (Int.toNat (List.length m : Int)) m)) t
 chk (decide ((0 : Int) ≤ t) && decide (t < (List.length m : Int))) (
 let a : Dtrace_knot := lget ((false, ([], [])), (false, ([], []))) m t
 (trace_ratio_between x a.1 k.1).bind fun (t_1 : Bool) =>
 bif t_1 then
 (trace_ratio_minus x a.1).bind fun (t_2 : Dtrace_ratio) =>
 (trace_ratio_minus k.2 a.2).bind fun (t_3 : Dtrace_ratio) =>
 (trace_ratio_times t_2 t_3).bind fun (t_4 : Dtrace_ratio) =>
 (trace_ratio_minus k.1 a.1).bind fun (t_5 : Dtrace_ratio) =>
 (trace_ratio_over t_4 t_5).bind fun (t_6 : Dtrace_ratio) =>
 (trace_ratio_plus a.2 t_6).bind fun (t_7 : Dtrace_ratio) =>
 Option.map Sum.inr (Option.map Sum.inr (
 some t_7))
 else
 some (.inl (wi64 (t + 1)))))
 else
 some (.inr (.inl ()))) 0).bind fun j => match j with
 | .inl _ => (
 some (false, ([], [])))
 | .inr r => some r)

noncomputable def trace_ValueAt (m : Dapi_TraceMap) (position : Dapi_Frac) : Option (Dapi_Frac × Int) :=
 (trace_openMap m).bind fun (r : (List Dtrace_knot) × Int × Int) =>
 (trace_isLowest position).bind fun (t : Bool) =>
 (trace_unless t 3).bind fun (t_1 : Int) =>
 (trace_first [r.2.2, t_1]).bind fun (t_2 : Int) =>
 bif (t_2 != 0) then
 some ((0, 0), t_2)
 else
 (trace_from position).bind fun (t_3 : Dtrace_ratio) =>
 (trace_chart_begin r.1).bind fun (t_4 : Dtrace_ratio) =>
 (trace_chart_end r.1).bind fun (t_5 : Dtrace_ratio) =>
 (trace_ratio_between t_3 t_4 t_5).bind fun (t_6 : Bool) =>
 bif !t_6 then
 some ((0, 0), 2)
 else
 (trace_chart_value r.1 t_3).bind fun (t_7 : Dtrace_ratio) =>
 (trace_small t_7).bind fun (r_1 : Dapi_Frac × Int) =>
 some (r_1.1, r_1.2)

noncomputable def trace_chart_inverse (m : (List Dtrace_knot)) : Option ((List Dtrace_knot)) :=
 (loopM (S := (List Dtrace_knot) × Int) (R := (List Dtrace_knot)) (fun s =>
 let out : (List Dtrace_knot) := s.1
 let t : Int := s.2
 bif decide (t < (List.length m : Int)) then
 chk (decide ((0 : Int) ≤ t) && decide (t < (List.length m : Int))) (
 let k : Dtrace_knot := lget ((false, ([], [])), (false, ([], []))) m t
 (app out [(k.2, k.1)]).bind fun (t_1 : List Dtrace_knot) =>
 some (.inl (t_1, wi64 (t + 1))))
 else
 some (.inr out)) ([], 0)).bind fun (out_1 : (List Dtrace_knot)) =>
 some out_1

noncomputable def trace_Inverse (m : Dapi_TraceMap) : Option (Dapi_TraceMap × Int) :=
 (trace_openMap m).bind fun (r : (List Dtrace_knot) × Int × Int) =>
 bif (r.2.2 != 0) then
 some ([], r.2.2)
 else
 (trace_chart_inverse r.1).bind fun (t : (List Dtrace_knot)) =>
 (trace_chart_written t).bind fun (r_1 : Dapi_TraceMap × Int) =>
 some (r_1.1, r_1.2)

noncomputable def trace_Composed (a : Dapi_TraceMap) (b : Dapi_TraceMap) : Option (Dapi_TraceMap × Int) :=
 (trace_openMap a).bind fun (r : (List Dtrace_knot) × Int × Int) =>
 (trace_openMap b).bind fun (r_1 : (List Dtrace_knot) × Int × Int) =>
 (trace_first [r.2.2, r_1.2.2]).bind fun (t : Int) =>
 bif (t != 0) then
 some ([], t)
 else
 chk (decide ((0 : Int) ≤ 0) && decide (0 < (List.length r.1 : Int))) (
 chk (decide ((0 : Int) ≤ (wi64 ((List.length r.1 : Int) - 1))) && decide ((wi64 ((List.length r.1 : Int) - 1)) < (List.length r.1 : Int))) (
 (trace_chart_begin r_1.1).bind fun (t_1 : Dtrace_ratio) =>
 (trace_ratio_cmp ((lget ((false, ([], [])), (false, ([], []))) r.1 0).2) t_1).bind fun (t_2 : Int) =>
 (bif decide (t_2 < 0) then
 (trace_chart_begin r_1.1).bind fun (t_3 : Dtrace_ratio) =>
 some t_3
 else
 some ((lget ((false, ([], [])), (false, ([], []))) r.1 0).2)).bind fun (lo : Dtrace_ratio) =>
 (trace_chart_end r_1.1).bind fun (t_4 : Dtrace_ratio) =>
 (trace_ratio_cmp ((lget ((false, ([], [])), (false, ([], []))) r.1 (wi64 ((List.length r.1 : Int) - 1))).2) t_4).bind fun (t_5 : Int) =>
 (bif decide (t_5 > 0) then
 (trace_chart_end r_1.1).bind fun (t_6 : Dtrace_ratio) =>
 some t_6
 else
 some ((lget ((false, ([], [])), (false, ([], []))) r.1 (wi64 ((List.length r.1 : Int) - 1))).2)).bind fun (hi : Dtrace_ratio) =>
 (trace_ratio_cmp lo hi).bind fun (t_7 : Int) =>
 bif decide (t_7 ≥ 0) then
 some ([], 12)
 else
 (loopM (S := (List Dtrace_ratio) × Int × Int) (R := (List Dtrace_ratio)) (fun s =>
 let between : (List Dtrace_ratio) := s.1
 let i : Int := s.2.1
 let k : Int := s.2.2
 bif ((decide (i < (List.length r.1 : Int))) || (decide (k < (List.length r_1.1 : Int)))) then
 (bif decide (k ≥ (List.length r_1.1 : Int)) then some true else
 (bif decide (i < (List.length r.1 : Int)) then
 chk (decide ((0 : Int) ≤ i) && decide (i < (List.length r.1 : Int))) (
 chk (decide ((0 : Int) ≤ k) && decide (k < (List.length r_1.1 : Int))) (
 (trace_ratio_cmp ((lget ((false, ([], [])), (false, ([], []))) r.1 i).2) ((lget ((false, ([], [])), (false, ([], []))) r_1.1 k).1)).bind fun (t_8 : Int) =>
 some (decide (t_8 ≤ 0))))
 else some false).bind fun (c : Bool) =>
 some c).bind fun (c_1 : Bool) =>
 (bif c_1 then
 chk (decide ((0 : Int) ≤ i) && decide (i < (List.length r.1 : Int))) (
 some (wi64 (i + 1), k, (lget ((false, ([], [])), (false, ([], []))) r.1 i).2))
 else
 chk (decide ((0 : Int) ≤ k) && decide (k < (List.length r_1.1 : Int))) (
 some (i, wi64 (k + 1), (lget ((false, ([], [])), (false, ([], []))) r_1.1 k).1))).bind fun (j : Int × Int × Dtrace_ratio) =>
 let i_1 : Int := j.1
 let k_1 : Int := j.2.1
 let next : Dtrace_ratio := j.2.2
 chk (decide ((0 : Int) ≤ (wi64 ((List.length between : Int) - 1))) && decide ((wi64 ((List.length between : Int) - 1)) < (List.length between : Int))) (
 (trace_ratio_cmp next (lget (false, ([], [])) between (wi64 ((List.length between : Int) - 1)))).bind fun (t_9 : Int) =>
 (bif decide (t_9 > 0) then
 (trace_ratio_cmp next hi).bind fun (t_10 : Int) =>
 some (decide (t_10 ≤ 0))
 else some false).bind fun (c_2 : Bool) =>
 (bif c_2 then
 (app between [next]).bind fun (t_11 : List Dtrace_ratio) =>
 some t_11
 else
 some between).bind fun (between_1 : (List Dtrace_ratio)) =>
 some (.inl (between_1, i_1, k_1)))
 else
 some (.inr between)) ([lo], 0, 0)).bind fun (between_2 : (List Dtrace_ratio)) =>
 (trace_chart_inverse r.1).bind fun (t_12 : (List Dtrace_knot)) =>
 (loopM (S := (List Dtrace_knot) × Int) (R := (List Dtrace_knot)) (fun s_1 =>
 let m : (List Dtrace_knot) := s_1.1
 let t_13 : Int := s_1.2
 bif decide (t_13 < (List.length between_2 : Int)) then
 chk (decide ((0 : Int) ≤ t_13) && decide (t_13 < (List.length between_2 : Int))) (
 let p : Dtrace_ratio := lget (false, ([], [])) between_2 t_13
 (trace_chart_value t_12 p).bind fun (t_14 : Dtrace_ratio) =>
 (trace_chart_value r_1.1 p).bind fun (t_15 : Dtrace_ratio) =>
 (app m [(t_14, t_15)]).bind fun (t_16 : List Dtrace_knot) =>
 some (.inl (t_16, wi64 (t_13 + 1))))
 else
 some (.inr m)) ([], 0)).bind fun (m_1 : (List Dtrace_knot)) =>
 (trace_chart_simple m_1).bind fun (t_17 : (List Dtrace_knot)) =>
 bif decide ((List.length t_17 : Int) > 12) then
 some ([], 8)
 else
 (trace_chart_written t_17).bind fun (r_2 : Dapi_TraceMap × Int) =>
 some (r_2.1, r_2.2)))

noncomputable def r9_CheckMap (m : Dapi_TraceMap) : Option (Int × Int) :=
 bif decide ((List.length m : Int) < 2) then
 some (0, 10)
 else
 bif decide ((List.length m : Int) > 12) then
 some (0, 8)
 else
 (loopM (S := Int) (R := (Unit) ⊕ (Int × Int)) (fun i =>
 bif decide (i < (List.length m : Int)) then
 chk (decide ((0 : Int) ≤ i) && decide (i < (List.length m : Int))) (
 let k : Dapi_Span := lget ((0, 0), (0, 0)) m i
 (b0_IsLowest k.1).bind fun (t : Bool) =>
 (bif !t then some true else
 (b0_IsLowest k.2).bind fun (t_1 : Bool) =>
 some (!t_1)).bind fun (c : Bool) =>
 bif c then
 Option.map Sum.inr (Option.map Sum.inr (
 some (i, 3)))
 else
 (b0_IsSmall k.1).bind fun (t_2 : Bool) =>
 (bif !t_2 then some true else
 (b0_IsSmall k.2).bind fun (t_3 : Bool) =>
 some (!t_3)).bind fun (c_1 : Bool) =>
 bif c_1 then
 Option.map Sum.inr (Option.map Sum.inr (
 some (i, 2)))
 else
 (bif decide (i > 0) then
 chk (decide ((0 : Int) ≤ (wi64 (i - 1))) && decide ((wi64 (i - 1)) < (List.length m : Int))) (
 (b0_Cmp k.1 ((lget ((0, 0), (0, 0)) m (wi64 (i - 1))).1)).bind fun (t_4 : Int) =>
 (bif decide (t_4 ≤ 0) then some true else
 chk (decide ((0 : Int) ≤ (wi64 (i - 1))) && decide ((wi64 (i - 1)) < (List.length m : Int))) (
 (b0_Cmp k.2 ((lget ((0, 0), (0, 0)) m (wi64 (i - 1))).2)).bind fun (t_5 : Int) =>
 some (decide (t_5 ≤ 0)))).bind fun (c_2 : Bool) =>
 some c_2)
 else some false).bind fun (c_3 : Bool) =>
 bif c_3 then
 Option.map Sum.inr (Option.map Sum.inr (
 some (i, 9)))
 else
 some (.inl (wi64 (i + 1))))
 else
 some (.inr (.inl ()))) 0).bind fun j => match j with
 | .inl _ => (
 some (0, 0))
 | .inr r => some r

noncomputable def r9_big (m : Dapi_TraceMap) : Option ((List Dr9_Knot)) :=
 (loopM (S := (List Dr9_Knot) × Int) (R := (List Dr9_Knot)) (fun s =>
 let out : (List Dr9_Knot) := s.1
 let i : Int := s.2
 bif decide (i < (List.length m : Int)) then
 chk (decide ((0 : Int) ≤ i) && decide (i < (List.length m : Int))) (
 (b0_RatioFrom ((lget ((0, 0), (0, 0)) m i).1)).bind fun (t : Db0_Ratio) =>
 chk (decide ((0 : Int) ≤ i) && decide (i < (List.length m : Int))) (
 (b0_RatioFrom ((lget ((0, 0), (0, 0)) m i).2)).bind fun (t_1 : Db0_Ratio) =>
 (app out [(t, t_1)]).bind fun (t_2 : List Dr9_Knot) =>
 some (.inl (t_2, wi64 (i + 1)))))
 else
 some (.inr out)) ([], 0)).bind fun (out_1 : (List Dr9_Knot)) =>
 some out_1

noncomputable def r9_value (l : (List Dr9_Knot)) (x : Db0_Ratio) : Option (Db0_Ratio) :=
 (loopM (S := Int) (R := Int) (fun i =>
 (bif decide ((wi64 (i + 2)) < (List.length l : Int)) then
 chk (decide ((0 : Int) ≤ (wi64 (i + 1))) && decide ((wi64 (i + 1)) < (List.length l : Int))) (
 (b0_RatioCmp x ((lget (((0, []), (0, [])), ((0, []), (0, []))) l (wi64 (i + 1))).1)).bind fun (t : Int) =>
 some (decide (t > 0)))
 else some false).bind fun (c : Bool) =>
 bif c then
 some (.inl (wi64 (i + 1)))
 else
 some (.inr i)) 0).bind fun (i_1 : Int) =>
 chk (decide ((0 : Int) ≤ i_1) && decide (i_1 < (List.length l : Int))) (
 chk (decide ((0 : Int) ≤ (wi64 (i_1 + 1))) && decide ((wi64 (i_1 + 1)) < (List.length l : Int))) (
 let a : Dr9_Knot := lget (((0, []), (0, [])), ((0, []), (0, []))) l i_1
 let b : Dr9_Knot := lget (((0, []), (0, [])), ((0, []), (0, []))) l (wi64 (i_1 + 1))
 (b0_RatioSub x a.1).bind fun (t_1 : Db0_Ratio) =>
 (b0_RatioSub b.2 a.2).bind fun (t_2 : Db0_Ratio) =>
 (b0_RatioMul t_1 t_2).bind fun (t_3 : Db0_Ratio) =>
 (b0_RatioSub b.1 a.1).bind fun (t_4 : Db0_Ratio) =>
 (b0_RatioDiv t_3 t_4).bind fun (t_5 : Db0_Ratio) =>
 (b0_RatioAdd a.2 t_5).bind fun (t_6 : Db0_Ratio) =>
 some t_6))

noncomputable def r9_ValueAt (m : Dapi_TraceMap) (at_ : Dapi_Frac) : Option (Dapi_Frac × Int) :=
 (b0_IsLowest at_).bind fun (t : Bool) =>
 bif !t then
 some ((0, 0), 3)
 else
 (b0_RatioFrom at_).bind fun (t_1 : Db0_Ratio) =>
 (r9_big m).bind fun (t_2 : (List Dr9_Knot)) =>
 chk (decide ((0 : Int) ≤ 0) && decide (0 < (List.length t_2 : Int))) (
 (b0_RatioCmp t_1 ((lget (((0, []), (0, [])), ((0, []), (0, []))) t_2 0).1)).bind fun (t_3 : Int) =>
 (bif decide (t_3 < 0) then some true else
 chk (decide ((0 : Int) ≤ (wi64 ((List.length t_2 : Int) - 1))) && decide ((wi64 ((List.length t_2 : Int) - 1)) < (List.length t_2 : Int))) (
 (b0_RatioCmp t_1 ((lget (((0, []), (0, [])), ((0, []), (0, []))) t_2 (wi64 ((List.length t_2 : Int) - 1))).1)).bind fun (t_4 : Int) =>
 some (decide (t_4 > 0)))).bind fun (c : Bool) =>
 bif c then
 some ((0, 0), 2)
 else
 (r9_value t_2 t_1).bind fun (t_5 : Db0_Ratio) =>
 (b0_RatioFrac t_5).bind fun (r : Dapi_Frac × Bool) =>
 bif !r.2 then
 some ((0, 0), 8)
 else
 some (r.1, 0))

noncomputable def r9_Inverse (m : Dapi_TraceMap) : Option (Dapi_TraceMap) :=
 (loopM (S := Int × Dapi_TraceMap) (R := Dapi_TraceMap) (fun s =>
 let i : Int := s.1
 let out : Dapi_TraceMap := s.2
 bif decide (i < (List.length m : Int)) then
 chk (decide ((0 : Int) ≤ i) && decide (i < (List.length m : Int))) (
 chk (decide ((0 : Int) ≤ i) && decide (i < (List.length m : Int))) (
 (app out [((lget ((0, 0), (0, 0)) m i).2, (lget ((0, 0), (0, 0)) m i).1)]).bind fun (t : List Dapi_Span) =>
 some (.inl (wi64 (i + 1), t))))
 else
 some (.inr out)) (0, [])).bind fun (out_1 : Dapi_TraceMap) =>
 some out_1

noncomputable def r9_MapErr (m : Dapi_TraceMap) : Option (Int) :=
 (r9_CheckMap m).bind fun (r : Int × Int) =>
 some r.2

noncomputable def r9_inverted (l : (List Dr9_Knot)) : Option ((List Dr9_Knot)) :=
 (loopM (S := (List Dr9_Knot) × Int) (R := (List Dr9_Knot)) (fun s =>
 let out : (List Dr9_Knot) := s.1
 let i : Int := s.2
 bif decide (i < (List.length l : Int)) then
 chk (decide ((0 : Int) ≤ i) && decide (i < (List.length l : Int))) (
 chk (decide ((0 : Int) ≤ i) && decide (i < (List.length l : Int))) (
 (app out [((lget (((0, []), (0, [])), ((0, []), (0, []))) l i).2, (lget (((0, []), (0, [])), ((0, []), (0, []))) l i).1)]).bind fun (t : List Dr9_Knot) =>
 some (.inl (t, wi64 (i + 1)))))
 else
 some (.inr out)) ([], 0)).bind fun (out_1 : (List Dr9_Knot)) =>
 some out_1

noncomputable def r9_put (l : (List Db0_Ratio)) (x : Db0_Ratio) (lo : Db0_Ratio) (hi : Db0_Ratio) : Option ((List Db0_Ratio)) :=
 (b0_RatioCmp x lo).bind fun (t : Int) =>
 (bif decide (t ≤ 0) then some true else
 (b0_RatioCmp x hi).bind fun (t_1 : Int) =>
 some (decide (t_1 ≥ 0))).bind fun (c : Bool) =>
 bif c then
 some l
 else
 (loopM (S := (List Db0_Ratio) × Bool × Int) (R := ((List Db0_Ratio)) ⊕ ((List Db0_Ratio))) (fun s =>
 let out : (List Db0_Ratio) := s.1
 let done : Bool := s.2.1
 let i : Int := s.2.2
 bif decide (i < (List.length l : Int)) then
 chk (decide ((0 : Int) ≤ i) && decide (i < (List.length l : Int))) (
 (b0_RatioCmp x (lget ((0, []), (0, [])) l i)).bind fun (t_2 : Int) =>
 bif (t_2 == 0) then
 Option.map Sum.inr (Option.map Sum.inr (
 some l))
 else
 (bif ((decide (t_2 < 0)) && (!done)) then
 (app out [x]).bind fun (t_3 : List Db0_Ratio) =>
 some (t_3, true)
 else
 some (out, done)).bind fun (j : (List Db0_Ratio) × Bool) =>
 let out_1 : (List Db0_Ratio) := j.1
 let done_1 : Bool := j.2
 chk (decide ((0 : Int) ≤ i) && decide (i < (List.length l : Int))) (
 (app out_1 [lget ((0, []), (0, [])) l i]).bind fun (t_4 : List Db0_Ratio) =>
 some (.inl (t_4, done_1, wi64 (i + 1)))))
 else
 some (.inr (.inl out))) ([], false, 0)).bind fun j => match j with
 | .inl out_2 => (
 some out_2)
 | .inr r => some r

noncomputable def r9_Composed (a : Dapi_TraceMap) (b : Dapi_TraceMap) : Option (Dapi_TraceMap × Int) :=
 (r9_big a).bind fun (t : (List Dr9_Knot)) =>
 (r9_big b).bind fun (t_1 : (List Dr9_Knot)) =>
 (r9_inverted t).bind fun (t_2 : (List Dr9_Knot)) =>
 chk (decide ((0 : Int) ≤ 0) && decide (0 < (List.length t : Int))) (
 chk (decide ((0 : Int) ≤ (wi64 ((List.length t : Int) - 1))) && decide ((wi64 ((List.length t : Int) - 1)) < (List.length t : Int))) (
 chk (decide ((0 : Int) ≤ 0) && decide (0 < (List.length t_1 : Int))) (
 chk (decide ((0 : Int) ≤ (wi64 ((List.length t : Int) - 1))) && decide ((wi64 ((List.length t : Int) - 1)) < (List.length t : Int))) (
 (b0_RatioCmp ((lget (((0, []), (0, [])), ((0, []), (0, []))) t_1 0).1) ((lget (((0, []), (0, [])), ((0, []), (0, []))) t (wi64 ((List.length t : Int) - 1))).2)).bind fun (t_3 : Int) =>
 (bif decide (t_3 ≥ 0) then some true else
 chk (decide ((0 : Int) ≤ (wi64 ((List.length t_1 : Int) - 1))) && decide ((wi64 ((List.length t_1 : Int) - 1)) < (List.length t_1 : Int))) (
 chk (decide ((0 : Int) ≤ 0) && decide (0 < (List.length t : Int))) (
 (b0_RatioCmp ((lget (((0, []), (0, [])), ((0, []), (0, []))) t_1 (wi64 ((List.length t_1 : Int) - 1))).1) ((lget (((0, []), (0, [])), ((0, []), (0, []))) t 0).2)).bind fun (t_4 : Int) =>
 some (decide (t_4 ≤ 0))))).bind fun (c : Bool) =>
 bif c then
 some ([], 12)
 else
 chk (decide ((0 : Int) ≤ 0) && decide (0 < (List.length t_1 : Int))) (
 chk (decide ((0 : Int) ≤ 0) && decide (0 < (List.length t : Int))) (
 (b0_RatioCmp ((lget (((0, []), (0, [])), ((0, []), (0, []))) t_1 0).1) ((lget (((0, []), (0, [])), ((0, []), (0, []))) t 0).2)).bind fun (t_5 : Int) =>
 (bif decide (t_5 > 0) then
 chk (decide ((0 : Int) ≤ 0) && decide (0 < (List.length t_1 : Int))) (
 (r9_value t_2 ((lget (((0, []), (0, [])), ((0, []), (0, []))) t_1 0).1)).bind fun (t_6 : Db0_Ratio) =>
 some t_6)
 else
 some ((lget (((0, []), (0, [])), ((0, []), (0, []))) t 0).1)).bind fun (lo : Db0_Ratio) =>
 chk (decide ((0 : Int) ≤ (wi64 ((List.length t_1 : Int) - 1))) && decide ((wi64 ((List.length t_1 : Int) - 1)) < (List.length t_1 : Int))) (
 chk (decide ((0 : Int) ≤ (wi64 ((List.length t : Int) - 1))) && decide ((wi64 ((List.length t : Int) - 1)) < (List.length t : Int))) (
 (b0_RatioCmp ((lget (((0, []), (0, [])), ((0, []), (0, []))) t_1 (wi64 ((List.length t_1 : Int) - 1))).1) ((lget (((0, []), (0, [])), ((0, []), (0, []))) t (wi64 ((List.length t : Int) - 1))).2)).bind fun (t_7 : Int) =>
 (bif decide (t_7 < 0) then
 chk (decide ((0 : Int) ≤ (wi64 ((List.length t_1 : Int) - 1))) && decide ((wi64 ((List.length t_1 : Int) - 1)) < (List.length t_1 : Int))) (
 (r9_value t_2 ((lget (((0, []), (0, [])), ((0, []), (0, []))) t_1 (wi64 ((List.length t_1 : Int) - 1))).1)).bind fun (t_8 : Db0_Ratio) =>
 some t_8)
 else
 some ((lget (((0, []), (0, [])), ((0, []), (0, []))) t (wi64 ((List.length t : Int) - 1))).1)).bind fun (hi : Db0_Ratio) =>
 (loopM (S := (List Db0_Ratio) × Int) (R := (List Db0_Ratio)) (fun s =>
 let at_ : (List Db0_Ratio) := s.1
 let i : Int := s.2
 bif decide (i < (List.length t : Int)) then
 chk (decide ((0 : Int) ≤ i) && decide (i < (List.length t : Int))) (
 (r9_put at_ ((lget (((0, []), (0, [])), ((0, []), (0, []))) t i).1) lo hi).bind fun (t_9 : (List Db0_Ratio)) =>
 some (.inl (t_9, wi64 (i + 1))))
 else
 some (.inr at_)) ([lo, hi], 0)).bind fun (at__1 : (List Db0_Ratio)) =>
 (loopM (S := (List Db0_Ratio) × Int) (R := (List Db0_Ratio)) (fun s_1 =>
 let at__2 : (List Db0_Ratio) := s_1.1
 let i_1 : Int := s_1.2
 bif decide (i_1 < (List.length t_1 : Int)) then
 chk (decide ((0 : Int) ≤ i_1) && decide (i_1 < (List.length t_1 : Int))) (
 chk (decide ((0 : Int) ≤ 0) && decide (0 < (List.length t : Int))) (
 (b0_RatioCmp ((lget (((0, []), (0, [])), ((0, []), (0, []))) t_1 i_1).1) ((lget (((0, []), (0, [])), ((0, []), (0, []))) t 0).2)).bind fun (t_10 : Int) =>
 (bif decide (t_10 > 0) then
 chk (decide ((0 : Int) ≤ i_1) && decide (i_1 < (List.length t_1 : Int))) (
 chk (decide ((0 : Int) ≤ (wi64 ((List.length t : Int) - 1))) && decide ((wi64 ((List.length t : Int) - 1)) < (List.length t : Int))) (
 (b0_RatioCmp ((lget (((0, []), (0, [])), ((0, []), (0, []))) t_1 i_1).1) ((lget (((0, []), (0, [])), ((0, []), (0, []))) t (wi64 ((List.length t : Int) - 1))).2)).bind fun (t_11 : Int) =>
 some (decide (t_11 < 0))))
 else some false).bind fun (c_1 : Bool) =>
 (bif c_1 then
 chk (decide ((0 : Int) ≤ i_1) && decide (i_1 < (List.length t_1 : Int))) (
 (r9_value t_2 ((lget (((0, []), (0, [])), ((0, []), (0, []))) t_1 i_1).1)).bind fun (t_12 : Db0_Ratio) =>
 (r9_put at__2 t_12 lo hi).bind fun (t_13 : (List Db0_Ratio)) =>
 some t_13)
 else
 some at__2).bind fun (at__3 : (List Db0_Ratio)) =>
 some (.inl (at__3, wi64 (i_1 + 1)))))
 else
 some (.inr at__2)) (at__1, 0)).bind fun (at__4 : (List Db0_Ratio)) =>
 (loopM (S := (List Dr9_Knot) × Int) (R := (List Dr9_Knot)) (fun s_2 =>
 let l : (List Dr9_Knot) := s_2.1
 let i_2 : Int := s_2.2
 bif decide (i_2 < (List.length at__4 : Int)) then
 chk (decide ((0 : Int) ≤ i_2) && decide (i_2 < (List.length at__4 : Int))) (
 chk (decide ((0 : Int) ≤ i_2) && decide (i_2 < (List.length at__4 : Int))) (
 (r9_value t (lget ((0, []), (0, [])) at__4 i_2)).bind fun (t_14 : Db0_Ratio) =>
 (r9_value t_1 t_14).bind fun (t_15 : Db0_Ratio) =>
 (app l [(lget ((0, []), (0, [])) at__4 i_2, t_15)]).bind fun (t_16 : List Dr9_Knot) =>
 some (.inl (t_16, wi64 (i_2 + 1)))))
 else
 some (.inr l)) ([], 0)).bind fun (l_1 : (List Dr9_Knot)) =>
 (r9_simple l_1).bind fun (t_17 : (List Dr9_Knot)) =>
 (r9_small t_17).bind fun (r : Dapi_TraceMap × Bool) =>
 bif !r.2 then
 some ([], 8)
 else
 some (r.1, 0)))))))))

noncomputable def l9_TraceValues (a : Dapi_TraceMap) (b : Dapi_TraceMap) (at_ : Dapi_Frac) : Option (Bool) :=
 (l9_awake).bind fun (t : Bool) =>
 bif !t then
 some false
 else
 (l9_fewMap a).bind fun (t_1 : Bool) =>
 (bif !t_1 then some true else
 (l9_fewMap b).bind fun (t_2 : Bool) =>
 some (!t_2)).bind fun (c : Bool) =>
 bif c then
 some true
 else
 (r9_CopyMap a).bind fun (t_3 : Dapi_TraceMap) =>
 (trace_CheckMap t_3).bind fun (r : Int × Int) =>
 (r9_CopyMap a).bind fun (t_4 : Dapi_TraceMap) =>
 (trace_ValueAt t_4 at_).bind fun (r_1 : Dapi_Frac × Int) =>
 (r9_CopyMap a).bind fun (t_5 : Dapi_TraceMap) =>
 (trace_Inverse t_5).bind fun (r_2 : Dapi_TraceMap × Int) =>
 (r9_CopyMap a).bind fun (t_6 : Dapi_TraceMap) =>
 (r9_CopyMap b).bind fun (t_7 : Dapi_TraceMap) =>
 (trace_Composed t_6 t_7).bind fun (r_3 : Dapi_TraceMap × Int) =>
 (r9_CheckMap a).bind fun (r_4 : Int × Int) =>
 bif ((r.2 != r_4.2) || (r.1 != r_4.1)) then
 some false
 else
 bif (r_4.2 != 0) then
 (bif (((r_1.2 == r_4.2) && (r_2.2 == r_4.2)) && (r_3.2 == r_4.2)) then
 some (Ty.eqb Tapi_Frac r_1.1 (0, 0))
 else some false).bind fun (c_1 : Bool) =>
 let t_8 : Bool := ((c_1 && ((List.length r_2.1 : Int) == 0)) && ((List.length r_3.1 : Int) == 0))
 some t_8
 else
 (r9_ValueAt a at_).bind fun (r_5 : Dapi_Frac × Int) =>
 (bif (((r_1.2 != r_5.2) || (!(Ty.eqb Tapi_Frac r_1.1 r_5.1))) || (r_2.2 != 0)) then some true else
 (r9_Inverse a).bind fun (t_9 : Dapi_TraceMap) =>
 (r9_SameMap r_2.1 t_9).bind fun (t_10 : Bool) =>
 some (!t_10)).bind fun (c_2 : Bool) =>
 bif c_2 then
 some false
 else
 (r9_MapErr b).bind fun (t_11 : Int) =>
 bif (t_11 != 0) then
 let t_12 : Bool := ((r_3.2 == t_11) && ((List.length r_3.1 : Int) == 0))
 some t_12
 else
 (r9_Composed a b).bind fun (r_6 : Dapi_TraceMap × Int) =>
 (bif (r_3.2 == r_6.2) then
 (r9_SameMap r_3.1 r_6.1).bind fun (t_13 : Bool) =>
 some t_13
 else some false).bind fun (c_3 : Bool) =>
 some c_3

end Go.Lift
