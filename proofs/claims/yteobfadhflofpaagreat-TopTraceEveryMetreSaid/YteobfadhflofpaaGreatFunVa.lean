/-
  The functions of values of maps, as plain functions.
-/
import Derived.Test.YteobfadhflofpaaGreatFunF
import Derived.Test.YteobfadhflofpaaGreatFunG
import Derived.Test.YteobfadhflofpaaGreatFunVo
import Derived.Test.YteobfadhflofpaaGreatFunEv
import Derived.Test.YteobfadhflofpaaGreatFunMa
set_option linter.unusedSectionVars false
set_option linter.unusedVariables false
set_option linter.unusedSimpArgs false
namespace Go.Lift
open Go
noncomputable def trace_isLowest (f : Dapi_Frac) : Option (Bool) :=
 bif decide (f.2 ≤ 0) then
 some false
 else
 (trace_size f.1).bind fun (t : Int) =>
 (trace_naturalOf t).bind fun (t_1 : (List Int)) =>
 (trace_size f.2).bind fun (t_2 : Int) =>
 (trace_naturalOf t_2).bind fun (t_3 : (List Int)) =>
 (trace_divisor t_1 t_3).bind fun (t_4 : (List Int)) =>
 (trace_natural_cmp t_4 [1]).bind fun (t_5 : Int) =>
 some (t_5 == 0)
noncomputable def trace_from (f : Dapi_Frac) : Option (Dtrace_ratio) :=
 (trace_quotient f.1 f.2).bind fun (t : Dtrace_ratio) =>
 some t
noncomputable def trace_isSmall (f : Dapi_Frac) : Option (Bool) :=
 (trace_within f.1 (-1000000000) 1000000000).bind fun (t : Bool) =>
 let t_1 : Bool := (t && (decide (f.2 ≤ 1000000000)))
 some t_1
noncomputable def trace_openMap (m : Dapi_TraceMap) : Option ((List Dtrace_knot) × Int × Int) :=
 (trace_unless (decide ((List.length m : Int) ≥ 2)) 10).bind fun (t : Int) =>
 (trace_unless (decide ((List.length m : Int) ≤ 12)) 8).bind fun (t_1 : Int) =>
 (trace_first [t, t_1]).bind fun (t_2 : Int) =>
 bif (t_2 != 0) then
 some ([], 0, t_2)
 else
 (loopM (S := (List Dtrace_knot) × Int) (R := ((List Dtrace_knot)) ⊕ ((List Dtrace_knot) × Int × Int)) (fun s =>
 let out : (List Dtrace_knot) := s.1
 let t_3 : Int := s.2
 bif decide (t_3 < (List.length m : Int)) then
 chk (decide ((0 : Int) ≤ t_3) && decide (t_3 < (List.length m : Int))) (
 let k : Dapi_Span := lget ((0, 0), (0, 0)) m t_3
 (trace_isLowest k.1).bind fun (t_4 : Bool) =>
 (bif t_4 then
 (trace_isLowest k.2).bind fun (t_5 : Bool) =>
 some t_5
 else some false).bind fun (c : Bool) =>
 (trace_unless c 3).bind fun (t_6 : Int) =>
 (trace_isSmall k.1).bind fun (t_7 : Bool) =>
 (bif t_7 then
 (trace_isSmall k.2).bind fun (t_8 : Bool) =>
 some t_8
 else some false).bind fun (c_1 : Bool) =>
 (trace_unless c_1 2).bind fun (t_9 : Int) =>
 (trace_first [t_6, t_9]).bind fun (t_10 : Int) =>
 bif (t_10 != 0) then
 Option.map Sum.inr (Option.map Sum.inr (
 some ([], t_3, t_10)))
 else
 (trace_from k.1).bind fun (t_11 : Dtrace_ratio) =>
 (trace_from k.2).bind fun (t_12 : Dtrace_ratio) =>
 (bif decide (t_3 > 0) then
 chk (decide ((0 : Int) ≤ (wi64 (t_3 - 1))) && decide ((wi64 (t_3 - 1)) < (List.length out : Int))) (
 (trace_ratio_cmp t_11 ((lget ((false, ([], [])), (false, ([], []))) out (wi64 (t_3 - 1))).1)).bind fun (t_13 : Int) =>
 (bif decide (t_13 ≤ 0) then some true else
 chk (decide ((0 : Int) ≤ (wi64 (t_3 - 1))) && decide ((wi64 (t_3 - 1)) < (List.length out : Int))) (
 (trace_ratio_cmp t_12 ((lget ((false, ([], [])), (false, ([], []))) out (wi64 (t_3 - 1))).2)).bind fun (t_14 : Int) =>
 some (decide (t_14 ≤ 0)))).bind fun (c_2 : Bool) =>
 some c_2)
 else some false).bind fun (c_3 : Bool) =>
 bif c_3 then
 Option.map Sum.inr (Option.map Sum.inr (
 some ([], t_3, 9)))
 else
 (app out [(t_11, t_12)]).bind fun (t_15 : List Dtrace_knot) =>
 some (.inl (t_15, wi64 (t_3 + 1))))
 else
 some (.inr (.inl out))) ([], 0)).bind fun j => match j with
 | .inl out_1 => (
 some (out_1, 0, 0))
 | .inr r => some r
noncomputable def r9_CopyMap (m : Dapi_TraceMap) : Option (Dapi_TraceMap) :=
 (app [] m).bind fun (t : List Dapi_Span) =>
 some t
noncomputable def trace_chart_begin (m : (List Dtrace_knot)) : Option (Dtrace_ratio) :=
 chk (decide ((0 : Int) ≤ 0) && decide (0 < (List.length m : Int))) (
 some ((lget ((false, ([], [])), (false, ([], []))) m 0).1))
noncomputable def trace_chart_end (m : (List Dtrace_knot)) : Option (Dtrace_ratio) :=
 chk (decide ((0 : Int) ≤ (wi64 ((List.length m : Int) - 1))) && decide ((wi64 ((List.length m : Int) - 1)) < (List.length m : Int))) (
 some ((lget ((false, ([], [])), (false, ([], []))) m (wi64 ((List.length m : Int) - 1))).1))
noncomputable def trace_chart_value (m : (List Dtrace_knot)) (x : Dtrace_ratio) : Option (Dtrace_ratio) :=
 chk (decide ((0 : Int) ≤ 1) && decide ((1 : Int) ≤ (List.length m : Int)) && decide ((List.length m : Int) ≤ (List.length m : Int))) (
 (loopM (S := Int) (R := (Unit) ⊕ (Dtrace_ratio)) (fun t =>
 bif decide (t < (List.length (List.drop (Int.toNat 1) (List.take (Int.toNat (List.length m : Int)) m)) : Int)) then
 chk (decide ((0 : Int) ≤ t) && decide (t < (List.length (List.drop (Int.toNat 1) (List.take (Int.toNat (List.length m : Int)) m)) : Int))) (
 let k : Dtrace_knot := lget ((false, ([], [])), (false, ([], []))) (List.drop (Int.toNat 1) (List.take (Int.toNat (List.length m : Int)) m)) t
 chk (decide ((0 : Int) ≤ t) && decide (t < (List.length m : Int))) (
 let a : Dtrace_knot := lget ((false, ([], [])), (false, ([], []))) m t
 (trace_ratio_between x a.1 k.1).bind fun (t_1 : Bool) =>
 bif t_1 then
 (trace_ratio_minus x a.1).bind fun (t_2 : Dtrace_ratio) =>
 (trace_ratio_minus k.2 a.2).bind fun (t_3 : Dtrace_ratio) =>
 (trace_ratio_times t_2 t_3).bind fun (t_4 : Dtrace_ratio) =>
 (trace_ratio_minus k.1 a.1).bind fun (t_5 : Dtrace_ratio) =>
 (trace_ratio_over t_4 t_5).bind fun (t_6 : Dtrace_ratio) =>
 (trace_ratio_plus a.2 t_6).bind fun (t_7 : Dtrace_ratio) =>
 Option.map Sum.inr (Option.map Sum.inr (
 some t_7))
 else
 some (.inl (wi64 (t + 1)))))
 else
 some (.inr (.inl ()))) 0).bind fun j => match j with
 | .inl _ => (
 some (false, ([], [])))
 | .inr r => some r)
noncomputable def trace_ValueAt (m : Dapi_TraceMap) (position : Dapi_Frac) : Option (Dapi_Frac × Int) :=
 (trace_openMap m).bind fun (r : (List Dtrace_knot) × Int × Int) =>
 (trace_isLowest position).bind fun (t : Bool) =>
 (trace_unless t 3).bind fun (t_1 : Int) =>
 (trace_first [r.2.2, t_1]).bind fun (t_2 : Int) =>
 bif (t_2 != 0) then
 some ((0, 0), t_2)
 else
 (trace_from position).bind fun (t_3 : Dtrace_ratio) =>
 (trace_chart_begin r.1).bind fun (t_4 : Dtrace_ratio) =>
 (trace_chart_end r.1).bind fun (t_5 : Dtrace_ratio) =>
 (trace_ratio_between t_3 t_4 t_5).bind fun (t_6 : Bool) =>
 bif !t_6 then
 some ((0, 0), 2)
 else
 (trace_chart_value r.1 t_3).bind fun (t_7 : Dtrace_ratio) =>
 (trace_small t_7).bind fun (r_1 : Dapi_Frac × Int) =>
 some (r_1.1, r_1.2)
noncomputable def r9_CheckMap (m : Dapi_TraceMap) : Option (Int × Int) :=
 bif decide ((List.length m : Int) < 2) then
 some (0, 10)
 else
 bif decide ((List.length m : Int) > 12) then
 some (0, 8)
 else
 (loopM (S := Int) (R := (Unit) ⊕ (Int × Int)) (fun i =>
 bif decide (i < (List.length m : Int)) then
 chk (decide ((0 : Int) ≤ i) && decide (i < (List.length m : Int))) (
 let k : Dapi_Span := lget ((0, 0), (0, 0)) m i
 (b0_IsLowest k.1).bind fun (t : Bool) =>
 (bif !t then some true else
 (b0_IsLowest k.2).bind fun (t_1 : Bool) =>
 some (!t_1)).bind fun (c : Bool) =>
 bif c then
 Option.map Sum.inr (Option.map Sum.inr (
 some (i, 3)))
 else
 (b0_IsSmall k.1).bind fun (t_2 : Bool) =>
 (bif !t_2 then some true else
 (b0_IsSmall k.2).bind fun (t_3 : Bool) =>
 some (!t_3)).bind fun (c_1 : Bool) =>
 bif c_1 then
 Option.map Sum.inr (Option.map Sum.inr (
 some (i, 2)))
 else
 (bif decide (i > 0) then
 chk (decide ((0 : Int) ≤ (wi64 (i - 1))) && decide ((wi64 (i - 1)) < (List.length m : Int))) (
 (b0_Cmp k.1 ((lget ((0, 0), (0, 0)) m (wi64 (i - 1))).1)).bind fun (t_4 : Int) =>
 (bif decide (t_4 ≤ 0) then some true else
 chk (decide ((0 : Int) ≤ (wi64 (i - 1))) && decide ((wi64 (i - 1)) < (List.length m : Int))) (
 (b0_Cmp k.2 ((lget ((0, 0), (0, 0)) m (wi64 (i - 1))).2)).bind fun (t_5 : Int) =>
 some (decide (t_5 ≤ 0)))).bind fun (c_2 : Bool) =>
 some c_2)
 else some false).bind fun (c_3 : Bool) =>
 bif c_3 then
 Option.map Sum.inr (Option.map Sum.inr (
 some (i, 9)))
 else
 some (.inl (wi64 (i + 1))))
 else
 some (.inr (.inl ()))) 0).bind fun j => match j with
 | .inl _ => (
 some (0, 0))
 | .inr r => some r
noncomputable def r9_MapErr (m : Dapi_TraceMap) : Option (Int) :=
 (r9_CheckMap m).bind fun (r : Int × Int) =>
 some r.2
end Go.Lift
