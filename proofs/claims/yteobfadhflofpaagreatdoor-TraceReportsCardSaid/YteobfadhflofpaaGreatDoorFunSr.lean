/-
  The functions of a course's text, as plain functions.
-/
import Derived.Test.YteobfadhflofpaaGreatDoorFunF
import Derived.Test.YteobfadhflofpaaGreatDoorFunG
import Derived.Test.YteobfadhflofpaaGreatDoorLiftN
set_option linter.unusedSectionVars false
set_option linter.unusedVariables false
set_option linter.unusedSimpArgs false
namespace Go.Lift
open Go
abbrev Tutf8_acceptRange : Ty := .pair (.int .u8) (.int .u8)
abbrev Tstrconv_NumError : Ty := .pair .str (.pair .str .err)
abbrev Terrors_errorString : Ty := .one .str
noncomputable def trace_at (l : (List Int)) (i : Int) : Option (Int) :=
 bif decide (i < (List.length l : Int)) then
 chk (decide ((0 : Int) ≤ i) && decide (i < (List.length l : Int))) (
 some (lget 0 l i))
 else
 some 0
noncomputable def trace_numbers (l : (List Int)) : Option (ByteArray) :=
 (loopM (S := (List ByteArray) × Int) (R := (List ByteArray)) (fun s =>
 let w : (List ByteArray) := s.1
 let t : Int := s.2
 bif decide (t < (List.length l : Int)) then
 chk (decide ((0 : Int) ≤ t) && decide (t < (List.length l : Int))) (
 (strconv_Itoa (lget 0 l t)).bind fun (t_1 : ByteArray) =>
 (app w [t_1]).bind fun (t_2 : List ByteArray) =>
 some (.inl (t_2, wi64 (t + 1))))
 else
 some (.inr w)) ([], 0)).bind fun (w_1 : (List ByteArray)) =>
 (strings_Join w_1 (bytes [44])).bind fun (t_3 : ByteArray) =>
 some t_3
noncomputable def trace_FormatCourse (c : Dapi_TraceCourse) : Option (ByteArray) :=
 (loopM (S := (List ByteArray) × Int) (R := (List ByteArray)) (fun s =>
 let sections : (List ByteArray) := s.1
 let t : Int := s.2
 bif decide (t < (imax (List.length c.2.1 : Int) (List.length c.2.2.1 : Int))) then
 (trace_at c.2.1 t).bind fun (t_1 : Int) =>
 (strconv_Itoa t_1).bind fun (t_2 : ByteArray) =>
 (cat t_2 (bytes [42])).bind fun t_3 =>
 (trace_at c.2.2.1 t).bind fun (t_4 : Int) =>
 (strconv_Itoa t_4).bind fun (t_5 : ByteArray) =>
 (cat t_3 t_5).bind fun t_6 =>
 (app sections [t_6]).bind fun (t_7 : List ByteArray) =>
 some (.inl (t_7, wi64 (t + 1)))
 else
 some (.inr sections)) ([], 0)).bind fun (sections_1 : (List ByteArray)) =>
 (strings_Join sections_1 (bytes [44])).bind fun (t_8 : ByteArray) =>
 (loopM (S := (List ByteArray) × Int) (R := (List ByteArray)) (fun s_1 =>
 let parts : (List ByteArray) := s_1.1
 let t_9 : Int := s_1.2
 bif decide (t_9 < (List.length c.2.2.2 : Int)) then
 chk (decide ((0 : Int) ≤ t_9) && decide (t_9 < (List.length c.2.2.2 : Int))) (
 let s_2 : Dapi_TraceStep := lget (0, ([], (0, 0))) c.2.2.2 t_9
 bif (s_2.1 == 0) then
 (trace_numbers s_2.2.1).bind fun (t_10 : ByteArray) =>
 (cat (bytes [112, 32]) t_10).bind fun t_11 =>
 (app parts [t_11]).bind fun (t_12 : List ByteArray) =>
 some (.inl (t_12, wi64 (t_9 + 1)))
 else
 (strconv_Itoa s_2.2.2.1).bind fun (t_13 : ByteArray) =>
 (cat (bytes [99, 32]) t_13).bind fun t_14 =>
 (cat t_14 (bytes [32])).bind fun t_15 =>
 (strconv_Itoa s_2.2.2.2).bind fun (t_16 : ByteArray) =>
 (cat t_15 t_16).bind fun t_17 =>
 (app parts [t_17]).bind fun (t_18 : List ByteArray) =>
 some (.inl (t_18, wi64 (t_9 + 1))))
 else
 some (.inr parts)) ([c.1, t_8], 0)).bind fun (parts_1 : (List ByteArray)) =>
 (strings_Join parts_1 (bytes [59])).bind fun (t_19 : ByteArray) =>
 some t_19
noncomputable def strings_Split (s sep : ByteArray) : Option (List ByteArray) := splitF sep s
noncomputable def strconv_Atoi (s : ByteArray) : Option (Int × Bool) := atoiF s
noncomputable def trace_parsed (s : ByteArray) (between : ByteArray) : Option ((List Int) × Bool) :=
 (splitF between s).bind fun (xs : List ByteArray) =>
 (loopT (X := ByteArray) (S := (List Int)) (R := (List Int) × Bool) (fun w out =>
 (strconv_Atoi w).bind fun (r : Int × Bool) =>
 (bif ((!r.2) || (decide (r.1 < 0))) then some true else
 (strconv_Itoa r.1).bind fun (t : ByteArray) =>
 some (!seqb t w)).bind fun (c : Bool) =>
 bif (c || (decide ((ByteArray.size w : Int) > 7))) then
 Option.map Sum.inr (
 some ([], false))
 else
 (app out [r.1]).bind fun (t_1 : List Int) =>
 some (.inl t_1)) xs []).bind fun j => match j with
 | .inl out_1 => (
 some (out_1, true))
 | .inr r => some r
noncomputable def strings_Cut (s sep : ByteArray) : Option (ByteArray × ByteArray × Bool) := cutF sep s
noncomputable def trace_stepOf (s : ByteArray) : Option (Dapi_TraceStep × Bool) :=
 (strings_Cut s (bytes [32])).bind fun (r : ByteArray × ByteArray × Bool) =>
 bif !r.2.2 then
 some ((0, ([], (0, 0))), false)
 else
 let t : Bool := seqb r.1 (bytes [112])
 bif t then
 (trace_parsed r.2.1 (bytes [44])).bind fun (r_1 : (List Int) × Bool) =>
 some ((0, (r_1.1, (0, 0))), r_1.2)
 else
 let t_1 : Bool := seqb r.1 (bytes [99])
 bif t_1 then
 (trace_parsed r.2.1 (bytes [32])).bind fun (r_2 : (List Int) × Bool) =>
 bif ((!r_2.2) || ((List.length r_2.1 : Int) != 2)) then
 some ((0, ([], (0, 0))), false)
 else
 chk (decide ((0 : Int) ≤ 0) && decide (0 < (List.length r_2.1 : Int))) (
 chk (decide ((0 : Int) ≤ 1) && decide (1 < (List.length r_2.1 : Int))) (
 some ((1, ([], (lget 0 r_2.1 0, lget 0 r_2.1 1))), true)))
 else
 some ((0, ([], (0, 0))), false)
noncomputable def trace_ParseCourse (s : ByteArray) : Option (Dapi_TraceCourse × Int) :=
 bif decide ((ByteArray.size s : Int) > 60000) then
 some ((ByteArray.empty, ([], ([], []))), 8)
 else
 (strings_Split s (bytes [59])).bind fun (t : (List ByteArray)) =>
 bif decide ((List.length t : Int) < 2) then
 some ((ByteArray.empty, ([], ([], []))), 7)
 else
 chk (decide ((0 : Int) ≤ 0) && decide (0 < (List.length t : Int))) (
 chk (decide ((0 : Int) ≤ 1) && decide (1 < (List.length t : Int))) (
 (splitF (bytes [44]) (lget ByteArray.empty t 1)).bind fun (xs : List ByteArray) =>
 (loopT (X := ByteArray) (S := Dapi_TraceCourse) (R := Dapi_TraceCourse × Int) (fun w c =>
 (trace_parsed w (bytes [42])).bind fun (r : (List Int) × Bool) =>
 bif ((!r.2) || ((List.length r.1 : Int) != 2)) then
 Option.map Sum.inr (
 some ((ByteArray.empty, ([], ([], []))), 7))
 else
 chk (decide ((0 : Int) ≤ 0) && decide (0 < (List.length r.1 : Int))) (
 (app c.2.1 [lget 0 r.1 0]).bind fun (t_1 : List Int) =>
 chk (decide ((0 : Int) ≤ 1) && decide (1 < (List.length r.1 : Int))) (
 (app c.2.2.1 [lget 0 r.1 1]).bind fun (t_2 : List Int) =>
 some (.inl (c.1, (t_1, (t_2, c.2.2.2))))))) xs (lget ByteArray.empty t 0, ([], ([], [])))).bind fun j => match j with
 | .inl c_1 => (
 chk (decide ((0 : Int) ≤ 2) && decide ((2 : Int) ≤ (List.length t : Int)) && decide ((List.length t : Int) ≤ (List.length t : Int))) (
 (loopM (S := Int × Dapi_TraceCourse) (R := (Dapi_TraceCourse) ⊕ (Dapi_TraceCourse × Int)) (fun s_1 =>
 let t_3 : Int := s_1.1
 let c_2 : Dapi_TraceCourse := s_1.2
 bif decide (t_3 < (List.length (List.drop (Int.toNat 2) (List.take (Int.toNat (List.length t : Int)) t)) : Int)) then
 chk (decide ((0 : Int) ≤ t_3) && decide (t_3 < (List.length (List.drop (Int.toNat 2) (List.take (Int.toNat (List.length t : Int)) t)) : Int))) (
 let p : ByteArray := lget ByteArray.empty (List.drop (Int.toNat 2) (List.take (Int.toNat (List.length t : Int)) t)) t_3
 (trace_stepOf p).bind fun (r_1 : Dapi_TraceStep × Bool) =>
 bif !r_1.2 then
 Option.map Sum.inr (Option.map Sum.inr (
 some ((ByteArray.empty, ([], ([], []))), 7)))
 else
 (app c_2.2.2.2 [r_1.1]).bind fun (t_4 : List Dapi_TraceStep) =>
 some (.inl (wi64 (t_3 + 1), (c_2.1, (c_2.2.1, (c_2.2.2.1, t_4))))))
 else
 some (.inr (.inl c_2))) (0, c_1)).bind fun j => match j with
 | .inl c_3 => (
 (trace_CheckCourse c_3).bind fun (r_2 : Int × Int) =>
 bif (r_2.2 != 0) then
 some ((ByteArray.empty, ([], ([], []))), r_2.2)
 else
 some (c_3, 0))
 | .inr r => some r))
 | .inr r => some r))
noncomputable def b0_Decimal (n : Int) : Option (ByteArray) :=
 bif (n == 0) then
 some (bytes [48])
 else
 (bif decide (n < 0) then
 some (bytes [45])
 else
 some ByteArray.empty).bind fun (sign : ByteArray) =>
 (loopM (S := Int × ByteArray) (R := ByteArray) (fun s =>
 let n_1 : Int := s.1
 let s_1 : ByteArray := s.2
 bif (n_1 != 0) then
 chk (10 != 0) (
 (b0_Size (Int.tmod n_1 10)).bind fun (t : Int) =>
 (cat (sofb [wu8 (wi64 (48 + t))]) s_1).bind fun t_1 =>
 chk (10 != 0) (
 let t_2 : Int := wi64 (Int.tdiv n_1 10)
 some (.inl (t_2, t_1))))
 else
 some (.inr s_1)) (n, ByteArray.empty)).bind fun (s_2 : ByteArray) =>
 (cat sign s_2).bind fun t_3 =>
 some t_3
noncomputable def r9_SameCourse (a : Dapi_TraceCourse) (b : Dapi_TraceCourse) : Option (Bool) :=
 (bif !seqb a.1 b.1 then some true else
 (b0_Ints a.2.1 b.2.1).bind fun (t : Bool) =>
 some (!t)).bind fun (c : Bool) =>
 (bif c then some true else
 (b0_Ints a.2.2.1 b.2.2.1).bind fun (t_1 : Bool) =>
 some (!t_1)).bind fun (c_1 : Bool) =>
 bif (c_1 || ((List.length a.2.2.2 : Int) != (List.length b.2.2.2 : Int))) then
 some false
 else
 (loopM (S := Int) (R := (Unit) ⊕ (Bool)) (fun i =>
 bif decide (i < (List.length a.2.2.2 : Int)) then
 chk (decide ((0 : Int) ≤ i) && decide (i < (List.length a.2.2.2 : Int))) (
 chk (decide ((0 : Int) ≤ i) && decide (i < (List.length b.2.2.2 : Int))) (
 let x : Dapi_TraceStep := lget (0, ([], (0, 0))) a.2.2.2 i
 let y : Dapi_TraceStep := lget (0, ([], (0, 0))) b.2.2.2 i
 (bif (x.1 != y.1) then some true else
 (b0_Ints x.2.1 y.2.1).bind fun (t_2 : Bool) =>
 some (!t_2)).bind fun (c_2 : Bool) =>
 bif ((c_2 || (x.2.2.1 != y.2.2.1)) || (x.2.2.2 != y.2.2.2)) then
 Option.map Sum.inr (Option.map Sum.inr (
 some false))
 else
 some (.inl (wi64 (i + 1)))))
 else
 some (.inr (.inl ()))) 0).bind fun j => match j with
 | .inl _ => (
 some true)
 | .inr r => some r
end Go.Lift
