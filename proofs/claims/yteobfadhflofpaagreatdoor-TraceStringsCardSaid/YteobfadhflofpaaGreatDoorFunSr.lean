/-
  The functions of a course's text, as plain functions.
-/
import Derived.Test.YteobfadhflofpaaGreatDoorFunF
import Derived.Test.YteobfadhflofpaaGreatDoorFunG
import Derived.Test.YteobfadhflofpaaGreatDoorLiftN
set_option linter.unusedSectionVars false
set_option linter.unusedVariables false
set_option linter.unusedSimpArgs false
namespace Go.Lift
open Go
abbrev Tutf8_acceptRange : Ty := .pair (.int .u8) (.int .u8)
abbrev Tstrconv_NumError : Ty := .pair .str (.pair .str .err)
abbrev Terrors_errorString : Ty := .one .str
noncomputable def trace_at (l : (List Int)) (i : Int) : Option (Int) :=
 bif decide (i < (List.length l : Int)) then
 chk (decide ((0 : Int) ≤ i) && decide (i < (List.length l : Int))) (
 some (lget 0 l i))
 else
 some 0
noncomputable def trace_numbers (l : (List Int)) : Option (ByteArray) :=
 (loopM (S := (List ByteArray) × Int) (R := (List ByteArray)) (fun s =>
 let w : (List ByteArray) := s.1
 let t : Int := s.2
 bif decide (t < (List.length l : Int)) then
 chk (decide ((0 : Int) ≤ t) && decide (t < (List.length l : Int))) (
 (strconv_Itoa (lget 0 l t)).bind fun (t_1 : ByteArray) =>
 (app w [t_1]).bind fun (t_2 : List ByteArray) =>
 some (.inl (t_2, wi64 (t + 1))))
 else
 some (.inr w)) ([], 0)).bind fun (w_1 : (List ByteArray)) =>
 (strings_Join w_1 (bytes [44])).bind fun (t_3 : ByteArray) =>
 some t_3
noncomputable def trace_FormatCourse (c : Dapi_TraceCourse) : Option (ByteArray) :=
 (loopM (S := (List ByteArray) × Int) (R := (List ByteArray)) (fun s =>
 let sections : (List ByteArray) := s.1
 let t : Int := s.2
 bif decide (t < (imax (List.length c.2.1 : Int) (List.length c.2.2.1 : Int))) then
 (trace_at c.2.1 t).bind fun (t_1 : Int) =>
 (strconv_Itoa t_1).bind fun (t_2 : ByteArray) =>
 (cat t_2 (bytes [42])).bind fun t_3 =>
 (trace_at c.2.2.1 t).bind fun (t_4 : Int) =>
 (strconv_Itoa t_4).bind fun (t_5 : ByteArray) =>
 (cat t_3 t_5).bind fun t_6 =>
 (app sections [t_6]).bind fun (t_7 : List ByteArray) =>
 some (.inl (t_7, wi64 (t + 1)))
 else
 some (.inr sections)) ([], 0)).bind fun (sections_1 : (List ByteArray)) =>
 (strings_Join sections_1 (bytes [44])).bind fun (t_8 : ByteArray) =>
 (loopM (S := (List ByteArray) × Int) (R := (List ByteArray)) (fun s_1 =>
 let parts : (List ByteArray) := s_1.1
 let t_9 : Int := s_1.2
 bif decide (t_9 < (List.length c.2.2.2 : Int)) then
 chk (decide ((0 : Int) ≤ t_9) && decide (t_9 < (List.length c.2.2.2 : Int))) (
 let s_2 : Dapi_TraceStep := lget (0, ([], (0, 0))) c.2.2.2 t_9
 bif (s_2.1 == 0) then
 (trace_numbers s_2.2.1).bind fun (t_10 : ByteArray) =>
 (cat (bytes [112, 32]) t_10).bind fun t_11 =>
 (app parts [t_11]).bind fun (t_12 : List ByteArray) =>
 some (.inl (t_12, wi64 (t_9 + 1)))
 else
 (strconv_Itoa s_2.2.2.1).bind fun (t_13 : ByteArray) =>
 (cat (bytes [99, 32]) t_13).bind fun t_14 =>
 (cat t_14 (bytes [32])).bind fun t_15 =>
 (strconv_Itoa s_2.2.2.2).bind fun (t_16 : ByteArray) =>
 (cat t_15 t_16).bind fun t_17 =>
 (app parts [t_17]).bind fun (t_18 : List ByteArray) =>
 some (.inl (t_18, wi64 (t_9 + 1))))
 else
 some (.inr parts)) ([c.1, t_8], 0)).bind fun (parts_1 : (List ByteArray)) =>
 (strings_Join parts_1 (bytes [59])).bind fun (t_19 : ByteArray) =>
 some t_19
noncomputable def strings_Split (s sep : ByteArray) : Option (List ByteArray) := splitF sep s
noncomputable def strconv_Atoi (s : ByteArray) : Option (Int × Bool) := atoiF s
noncomputable def trace_parsed (s : ByteArray) (between : ByteArray) : Option ((List Int) × Bool) :=
 (splitF between s).bind fun (xs : List ByteArray) =>
 (loopT (X := ByteArray) (S := (List Int)) (R := (List Int) × Bool) (fun w out =>
 (strconv_Atoi w).bind fun (r : Int × Bool) =>
 (bif ((!r.2) || (decide (r.1 < 0))) then some true else
 (strconv_Itoa r.1).bind fun (t : ByteArray) =>
 some (!seqb t w)).bind fun (c : Bool) =>
 bif (c || (decide ((ByteArray.size w : Int) > 7))) then
 Option.map Sum.inr (
 some ([], false))
 else
 (app out [r.1]).bind fun (t_1 : List Int) =>
 some (.inl t_1)) xs []).bind fun j => match j with
 | .inl out_1 => (
 some (out_1, true))
 | .inr r => some r
noncomputable def strings_Cut (s sep : ByteArray) : Option (ByteArray × ByteArray × Bool) := cutF sep s
noncomputable def trace_stepOf (s : ByteArray) : Option (Dapi_TraceStep × Bool) :=
 (strings_Cut s (bytes [32])).bind fun (r : ByteArray × ByteArray × Bool) =>
 bif !r.2.2 then
 some ((0, ([], (0, 0))), false)
 else
 let t : Bool := seqb r.1 (bytes [112])
 bif t then
 (trace_parsed r.2.1 (bytes [44])).bind fun (r_1 : (List Int) × Bool) =>
 some ((0, (r_1.1, (0, 0))), r_1.2)
 else
 let t_1 : Bool := seqb r.1 (bytes [99])
 bif t_1 then
 (trace_parsed r.2.1 (bytes [32])).bind fun (r_2 : (List Int) × Bool) =>
 bif ((!r_2.2) || ((List.length r_2.1 : Int) != 2)) then
 some ((0, ([], (0, 0))), false)
 else
 chk (decide ((0 : Int) ≤ 0) && decide (0 < (List.length r_2.1 : Int))) (
 chk (decide ((0 : Int) ≤ 1) && decide (1 < (List.length r_2.1 : Int))) (
 some ((1, ([], (lget 0 r_2.1 0, lget 0 r_2.1 1))), true)))
 else
 some ((0, ([], (0, 0))), false)
noncomputable def trace_ParseCourse (s : ByteArray) : Option (Dapi_TraceCourse × Int) :=
 bif decide ((ByteArray.size s : Int) > 60000) then
 some ((ByteArray.empty, ([], ([], []))), 8)
 else
 (strings_Split s (bytes [59])).bind fun (t : (List ByteArray)) =>
 bif decide ((List.length t : Int) < 2) then
 some ((ByteArray.empty, ([], ([], []))), 7)
 else
 chk (decide ((0 : Int) ≤ 0) && decide (0 < (List.length t : Int))) (
 chk (decide ((0 : Int) ≤ 1) && decide (1 < (List.length t : Int))) (
 (splitF (bytes [44]) (lget ByteArray.empty t 1)).bind fun (xs : List ByteArray) =>
 (loopT (X := ByteArray) (S := Dapi_TraceCourse) (R := Dapi_TraceCourse × Int) (fun w c =>
 (trace_parsed w (bytes [42])).bind fun (r : (List Int) × Bool) =>
 bif ((!r.2) || ((List.length r.1 : Int) != 2)) then
 Option.map Sum.inr (
 some ((ByteArray.empty, ([], ([], []))), 7))
 else
 chk (decide ((0 : Int) ≤ 0) && decide (0 < (List.length r.1 : Int))) (
 (app c.2.1 [lget 0 r.1 0]).bind fun (t_1 : List Int) =>
 chk (decide ((0 : Int) ≤ 1) && decide (1 < (List.length r.1 : Int))) (
 (app c.2.2.1 [lget 0 r.1 1]).bind fun (t_2 : List Int) =>
 some (.inl (c.1, (t_1, (t_2, c.2.2.2))))))) xs (lget ByteArray.empty t 0, ([], ([], [])))).bind fun j => match j with
 | .inl c_1 => (
 chk (decide ((0 : Int) ≤ 2) && decide ((2 : Int) ≤ (List.length t : Int)) && decide ((List.length t : Int) ≤ (List.length t : Int))) (
 (loopM (S := Int × Dapi_TraceCourse) (R := (Dapi_TraceCourse) ⊕ (Dapi_TraceCourse × Int)) (fun s_1 =>
 let t_3 : Int := s_1.1
 let c_2 : Dapi_TraceCourse := s_1.2
 bif decide (t_3 < (List.length (List.drop (Int.toNat 2) (List.take (Int.toNat (List.length t : Int)) t)) : Int)) then
 chk (decide ((0 : Int) ≤ t_3) && decide (t_3 < (List.length (List.drop (Int.toNat 2) (List.take (Int.toNat (List.length t : Int)) t)) : Int))) (
 let p : ByteArray := lget ByteArray.empty (List.drop (Int.toNat 2) (List.take (Int.toNat (List.length t : Int)) t)) t_3
 (trace_stepOf p).bind fun (r_1 : Dapi_TraceStep × Bool) =>
 bif !r_1.2 then
 Option.map Sum.inr (Option.map Sum.inr (
 some ((ByteArray.empty, ([], ([], []))), 7)))
 else
 (app c_2.2.2.2 [r_1.1]).bind fun (t_4 : List Dapi_TraceStep) =>
 some (.inl (wi64 (t_3 + 1), (c_2.1, (c_2.2.1, (c_2.2.2.1, t_4))))))
 else
 some (.inr (.inl c_2))) (0, c_1)).bind fun j => match j with
 | .inl c_3 => (
 (trace_CheckCourse c_3).bind fun (r_2 : Int × Int) =>
 bif (r_2.2 != 0) then
 some ((ByteArray.empty, ([], ([], []))), r_2.2)
 else
 some (c_3, 0))
 | .inr r => some r))
 | .inr r => some r))
noncomputable def b0_Cut (s : ByteArray) (at_ : Int) : Option ((List ByteArray)) :=
 (loopM (S := (List ByteArray) × Int × Int) (R := (List ByteArray) × Int) (fun s_1 =>
 let out : (List ByteArray) := s_1.1
 let from_ : Int := s_1.2.1
 let i : Int := s_1.2.2
 bif decide (i < (ByteArray.size s : Int)) then
 chk (decide ((0 : Int) ≤ i) && decide (i < (ByteArray.size s : Int))) (
 (bif ((sget s i) == at_) then
 chk (decide ((0 : Int) ≤ from_) && decide ((from_ : Int) ≤ i) && decide (i ≤ (ByteArray.size s : Int))) (
 (app out [ByteArray.extract s (Int.toNat from_) (Int.toNat i)]).bind fun (t : List ByteArray) =>
 some (t, wi64 (i + 1)))
 else
 some (out, from_)).bind fun (j : (List ByteArray) × Int) =>
 let out_1 : (List ByteArray) := j.1
 let from__1 : Int := j.2
 some (.inl (out_1, from__1, wi64 (i + 1))))
 else
 some (.inr (out, from_))) ([], 0, 0)).bind fun (b : (List ByteArray) × Int) =>
 let out_2 : (List ByteArray) := b.1
 let from__2 : Int := b.2
 chk (decide ((0 : Int) ≤ from__2) && decide ((from__2 : Int) ≤ (ByteArray.size s : Int)) && decide ((ByteArray.size s : Int) ≤ (ByteArray.size s : Int))) (
 (app out_2 [ByteArray.extract s (Int.toNat from__2) (Int.toNat (ByteArray.size s : Int))]).bind fun (t_1 : List ByteArray) =>
 some t_1)
noncomputable def b0_Number (s : ByteArray) (digits : Int) : Option (Int × Bool) :=
 (bif decide ((ByteArray.size s : Int) > 0) then
 chk (decide ((0 : Int) ≤ 0) && decide (0 < (ByteArray.size s : Int))) (
 some ((sget s 0) == 45))
 else some false).bind fun (c : Bool) =>
 (bif c then
 some 1
 else
 some 0).bind fun (at_ : Int) =>
 (bif (((ByteArray.size s : Int) == at_) || (decide ((wi64 ((ByteArray.size s : Int) - at_)) > digits))) then some true else
 chk (decide ((0 : Int) ≤ at_) && decide (at_ < (ByteArray.size s : Int))) (
 some (((sget s at_) == 48) && (decide ((ByteArray.size s : Int) > 1))))).bind fun (c_1 : Bool) =>
 bif c_1 then
 some (0, false)
 else
 (loopM (S := Int × Int) (R := (Int) ⊕ (Int × Bool)) (fun s_1 =>
 let n : Int := s_1.1
 let i : Int := s_1.2
 bif decide (i < (ByteArray.size s : Int)) then
 chk (decide ((0 : Int) ≤ i) && decide (i < (ByteArray.size s : Int))) (
 (bif decide ((sget s i) < 48) then some true else
 chk (decide ((0 : Int) ≤ i) && decide (i < (ByteArray.size s : Int))) (
 some (decide ((sget s i) > 57)))).bind fun (c_2 : Bool) =>
 bif c_2 then
 Option.map Sum.inr (Option.map Sum.inr (
 some (0, false)))
 else
 chk (decide ((0 : Int) ≤ i) && decide (i < (ByteArray.size s : Int))) (
 let n_1 : Int := wi64 ((wi64 (10 * n)) + (wi64 (wu8 ((sget s i) - 48))))
 some (.inl (n_1, wi64 (i + 1)))))
 else
 some (.inr (.inl n))) (0, at_)).bind fun j => match j with
 | .inl n_2 => (
 (bif (at_ == 1) then
 some (wi64 (0 - n_2))
 else
 some n_2).bind fun (n_3 : Int) =>
 some (n_3, true))
 | .inr r => some r
noncomputable def r9_number (s : ByteArray) : Option (Int × Bool) :=
 (b0_Number s 7).bind fun (r : Int × Bool) =>
 (bif r.2 then
 chk (decide ((0 : Int) ≤ 0) && decide (0 < (ByteArray.size s : Int))) (
 some ((sget s 0) != 45))
 else some false).bind fun (c : Bool) =>
 some (r.1, c)
noncomputable def r9_ParseCourse (s : ByteArray) : Option (Dapi_TraceCourse × Int) :=
 bif decide ((ByteArray.size s : Int) > 60000) then
 some ((ByteArray.empty, ([], ([], []))), 8)
 else
 (b0_Cut s 59).bind fun (t : (List ByteArray)) =>
 bif decide ((List.length t : Int) < 2) then
 some ((ByteArray.empty, ([], ([], []))), 7)
 else
 chk (decide ((0 : Int) ≤ 0) && decide (0 < (List.length t : Int))) (
 chk (decide ((0 : Int) ≤ 1) && decide (1 < (List.length t : Int))) (
 (b0_Cut (lget ByteArray.empty t 1) 44).bind fun (t_1 : (List ByteArray)) =>
 (loopM (S := Int × Dapi_TraceCourse) (R := (Dapi_TraceCourse) ⊕ (Dapi_TraceCourse × Int)) (fun s_1 =>
 let i : Int := s_1.1
 let c : Dapi_TraceCourse := s_1.2
 bif decide (i < (List.length t_1 : Int)) then
 chk (decide ((0 : Int) ≤ i) && decide (i < (List.length t_1 : Int))) (
 (b0_Cut (lget ByteArray.empty t_1 i) 42).bind fun (t_2 : (List ByteArray)) =>
 bif ((List.length t_2 : Int) != 2) then
 Option.map Sum.inr (Option.map Sum.inr (
 some ((ByteArray.empty, ([], ([], []))), 7)))
 else
 chk (decide ((0 : Int) ≤ 0) && decide (0 < (List.length t_2 : Int))) (
 (r9_number (lget ByteArray.empty t_2 0)).bind fun (r : Int × Bool) =>
 chk (decide ((0 : Int) ≤ 1) && decide (1 < (List.length t_2 : Int))) (
 (r9_number (lget ByteArray.empty t_2 1)).bind fun (r_1 : Int × Bool) =>
 bif ((!r.2) || (!r_1.2)) then
 Option.map Sum.inr (Option.map Sum.inr (
 some ((ByteArray.empty, ([], ([], []))), 7)))
 else
 (app c.2.1 [r.1]).bind fun (t_3 : List Int) =>
 (app c.2.2.1 [r_1.1]).bind fun (t_4 : List Int) =>
 some (.inl (wi64 (i + 1), (c.1, (t_3, (t_4, c.2.2.2))))))))
 else
 some (.inr (.inl c))) (0, (lget ByteArray.empty t 0, ([], ([], []))))).bind fun j => match j with
 | .inl c_1 => (
 (loopM (S := Int × Dapi_TraceCourse) (R := (Dapi_TraceCourse) ⊕ (Dapi_TraceCourse × Int)) (fun s_2 =>
 let i_1 : Int := s_2.1
 let c_2 : Dapi_TraceCourse := s_2.2
 bif decide (i_1 < (List.length t : Int)) then
 chk (decide ((0 : Int) ≤ i_1) && decide (i_1 < (List.length t : Int))) (
 (b0_Cut (lget ByteArray.empty t i_1) 32).bind fun (t_5 : (List ByteArray)) =>
 (bif ((List.length t_5 : Int) == 2) then
 chk (decide ((0 : Int) ≤ 0) && decide (0 < (List.length t_5 : Int))) (
 some (seqb (lget ByteArray.empty t_5 0) (bytes [112])))
 else some false).bind fun (c_3 : Bool) =>
 (bif c_3 then
 chk (decide ((0 : Int) ≤ 1) && decide (1 < (List.length t_5 : Int))) (
 (b0_Cut (lget ByteArray.empty t_5 1) 44).bind fun (t_6 : (List ByteArray)) =>
 (loopM (S := Int × Dapi_TraceStep) (R := (Dapi_TraceStep) ⊕ ((Dapi_TraceStep) ⊕ ((Int × Dapi_TraceCourse) ⊕ ((Dapi_TraceCourse) ⊕ (Dapi_TraceCourse × Int))))) (fun s_3 =>
 let k : Int := s_3.1
 let x : Dapi_TraceStep := s_3.2
 bif decide (k < (List.length t_6 : Int)) then
 chk (decide ((0 : Int) ≤ k) && decide (k < (List.length t_6 : Int))) (
 (r9_number (lget ByteArray.empty t_6 k)).bind fun (r_2 : Int × Bool) =>
 bif !r_2.2 then
 Option.map Sum.inr (Option.map Sum.inr (
 Option.map Sum.inr (
 Option.map Sum.inr (Option.map Sum.inr (
 some ((ByteArray.empty, ([], ([], []))), 7))))))
 else
 (app x.2.1 [r_2.1]).bind fun (t_7 : List Int) =>
 some (.inl (wi64 (k + 1), (x.1, (t_7, x.2.2)))))
 else
 some (.inr (.inl x))) (0, (0, ([], (0, 0))))).bind fun j => match j with
 | .inl x_1 => (
 some (.inl x_1))
 | .inr r => some r)
 else
 (bif ((List.length t_5 : Int) == 3) then
 chk (decide ((0 : Int) ≤ 0) && decide (0 < (List.length t_5 : Int))) (
 some (seqb (lget ByteArray.empty t_5 0) (bytes [99])))
 else some false).bind fun (c_4 : Bool) =>
 bif c_4 then
 chk (decide ((0 : Int) ≤ 1) && decide (1 < (List.length t_5 : Int))) (
 (r9_number (lget ByteArray.empty t_5 1)).bind fun (r_3 : Int × Bool) =>
 chk (decide ((0 : Int) ≤ 2) && decide (2 < (List.length t_5 : Int))) (
 (r9_number (lget ByteArray.empty t_5 2)).bind fun (r_4 : Int × Bool) =>
 bif ((!r_3.2) || (!r_4.2)) then
 Option.map Sum.inr (
 Option.map Sum.inr (Option.map Sum.inr (
 some ((ByteArray.empty, ([], ([], []))), 7))))
 else
 some (.inl (1, ([], (r_3.1, r_4.1))))))
 else
 Option.map Sum.inr (
 Option.map Sum.inr (Option.map Sum.inr (
 some ((ByteArray.empty, ([], ([], []))), 7)))) : Option ((Dapi_TraceStep) ⊕ ((Int × Dapi_TraceCourse) ⊕ ((Dapi_TraceCourse) ⊕ (Dapi_TraceCourse × Int))))).bind fun j => match j with
 | .inl x_2 => (
 (app c_2.2.2.2 [x_2]).bind fun (t_8 : List Dapi_TraceStep) =>
 some (.inl (wi64 (i_1 + 1), (c_2.1, (c_2.2.1, (c_2.2.2.1, t_8))))))
 | .inr r => some r)
 else
 some (.inr (.inl c_2))) (2, c_1)).bind fun j => match j with
 | .inl c_5 => (
 (r9_CourseErr c_5).bind fun (t_9 : Int) =>
 bif (t_9 != 0) then
 some ((ByteArray.empty, ([], ([], []))), t_9)
 else
 some (c_5, 0))
 | .inr r => some r)
 | .inr r => some r))
noncomputable def b0_Decimal (n : Int) : Option (ByteArray) :=
 bif (n == 0) then
 some (bytes [48])
 else
 (bif decide (n < 0) then
 some (bytes [45])
 else
 some ByteArray.empty).bind fun (sign : ByteArray) =>
 (loopM (S := Int × ByteArray) (R := ByteArray) (fun s =>
 let n_1 : Int := s.1
 let s_1 : ByteArray := s.2
 bif (n_1 != 0) then
 chk (10 != 0) (
 (b0_Size (Int.tmod n_1 10)).bind fun (t : Int) =>
 (cat (sofb [wu8 (wi64 (48 + t))]) s_1).bind fun t_1 =>
 chk (10 != 0) (
 let t_2 : Int := wi64 (Int.tdiv n_1 10)
 some (.inl (t_2, t_1))))
 else
 some (.inr s_1)) (n, ByteArray.empty)).bind fun (s_2 : ByteArray) =>
 (cat sign s_2).bind fun t_3 =>
 some t_3
noncomputable def r9_FormatCourse (c : Dapi_TraceCourse) : Option (ByteArray) :=
 (cat c.1 (bytes [59])).bind fun t =>
 (loopM (S := ByteArray × Int) (R := ByteArray) (fun s =>
 let out : ByteArray := s.1
 let i : Int := s.2
 bif decide (i < (imax (List.length c.2.1 : Int) (List.length c.2.2.1 : Int))) then
 (bif decide (i > 0) then
 (cat out (bytes [44])).bind fun t_1 =>
 some t_1
 else
 some out).bind fun (out_1 : ByteArray) =>
 (bif decide (i < (List.length c.2.1 : Int)) then
 chk (decide ((0 : Int) ≤ i) && decide (i < (List.length c.2.1 : Int))) (
 some (lget 0 c.2.1 i))
 else
 some 0).bind fun (a : Int) =>
 (bif decide (i < (List.length c.2.2.1 : Int)) then
 chk (decide ((0 : Int) ≤ i) && decide (i < (List.length c.2.2.1 : Int))) (
 some (lget 0 c.2.2.1 i))
 else
 some 0).bind fun (b : Int) =>
 (b0_Decimal a).bind fun (t_2 : ByteArray) =>
 (cat out_1 t_2).bind fun t_3 =>
 (cat t_3 (bytes [42])).bind fun t_4 =>
 (b0_Decimal b).bind fun (t_5 : ByteArray) =>
 (cat t_4 t_5).bind fun t_6 =>
 some (.inl (t_6, wi64 (i + 1)))
 else
 some (.inr out)) (t, 0)).bind fun (out_2 : ByteArray) =>
 (loopM (S := ByteArray × Int) (R := ByteArray) (fun s_1 =>
 let out_3 : ByteArray := s_1.1
 let i_1 : Int := s_1.2
 bif decide (i_1 < (List.length c.2.2.2 : Int)) then
 chk (decide ((0 : Int) ≤ i_1) && decide (i_1 < (List.length c.2.2.2 : Int))) (
 let s_2 : Dapi_TraceStep := lget (0, ([], (0, 0))) c.2.2.2 i_1
 bif (s_2.1 != 0) then
 (cat out_3 (bytes [59, 99, 32])).bind fun t_7 =>
 (b0_Decimal s_2.2.2.1).bind fun (t_8 : ByteArray) =>
 (cat t_7 t_8).bind fun t_9 =>
 (cat t_9 (bytes [32])).bind fun t_10 =>
 (b0_Decimal s_2.2.2.2).bind fun (t_11 : ByteArray) =>
 (cat t_10 t_11).bind fun t_12 =>
 some (.inl (t_12, wi64 (i_1 + 1)))
 else
 (cat out_3 (bytes [59, 112, 32])).bind fun t_13 =>
 (loopM (S := ByteArray × Int) (R := ByteArray) (fun s_3 =>
 let out_4 : ByteArray := s_3.1
 let k : Int := s_3.2
 bif decide (k < (List.length s_2.2.1 : Int)) then
 (bif decide (k > 0) then
 (cat out_4 (bytes [44])).bind fun t_14 =>
 some t_14
 else
 some out_4).bind fun (out_5 : ByteArray) =>
 chk (decide ((0 : Int) ≤ k) && decide (k < (List.length s_2.2.1 : Int))) (
 (b0_Decimal (lget 0 s_2.2.1 k)).bind fun (t_15 : ByteArray) =>
 (cat out_5 t_15).bind fun t_16 =>
 some (.inl (t_16, wi64 (k + 1))))
 else
 some (.inr out_4)) (t_13, 0)).bind fun (out_6 : ByteArray) =>
 some (.inl (out_6, wi64 (i_1 + 1))))
 else
 some (.inr out_3)) (out_2, 0)).bind fun (out_7 : ByteArray) =>
 some out_7
noncomputable def r9_SameCourse (a : Dapi_TraceCourse) (b : Dapi_TraceCourse) : Option (Bool) :=
 (bif !seqb a.1 b.1 then some true else
 (b0_Ints a.2.1 b.2.1).bind fun (t : Bool) =>
 some (!t)).bind fun (c : Bool) =>
 (bif c then some true else
 (b0_Ints a.2.2.1 b.2.2.1).bind fun (t_1 : Bool) =>
 some (!t_1)).bind fun (c_1 : Bool) =>
 bif (c_1 || ((List.length a.2.2.2 : Int) != (List.length b.2.2.2 : Int))) then
 some false
 else
 (loopM (S := Int) (R := (Unit) ⊕ (Bool)) (fun i =>
 bif decide (i < (List.length a.2.2.2 : Int)) then
 chk (decide ((0 : Int) ≤ i) && decide (i < (List.length a.2.2.2 : Int))) (
 chk (decide ((0 : Int) ≤ i) && decide (i < (List.length b.2.2.2 : Int))) (
 let x : Dapi_TraceStep := lget (0, ([], (0, 0))) a.2.2.2 i
 let y : Dapi_TraceStep := lget (0, ([], (0, 0))) b.2.2.2 i
 (bif (x.1 != y.1) then some true else
 (b0_Ints x.2.1 y.2.1).bind fun (t_2 : Bool) =>
 some (!t_2)).bind fun (c_2 : Bool) =>
 bif ((c_2 || (x.2.2.1 != y.2.2.1)) || (x.2.2.2 != y.2.2.2)) then
 Option.map Sum.inr (Option.map Sum.inr (
 some false))
 else
 some (.inl (wi64 (i + 1)))))
 else
 some (.inr (.inl ()))) 0).bind fun j => match j with
 | .inl _ => (
 some true)
 | .inr r => some r
noncomputable def l9_TraceStrings (c : Dapi_TraceCourse) (s : ByteArray) : Option (Bool) :=
 (l9_awake).bind fun (t : Bool) =>
 bif !t then
 some false
 else
 (l9_Few c).bind fun (t_1 : Bool) =>
 bif ((!t_1) || (decide ((ByteArray.size s : Int) > 300))) then
 some true
 else
 (r9_CopyCourse c).bind fun (t_2 : Dapi_TraceCourse) =>
 (trace_FormatCourse t_2).bind fun (t_3 : ByteArray) =>
 (trace_ParseCourse s).bind fun (r : Dapi_TraceCourse × Int) =>
 (r9_ParseCourse s).bind fun (r_1 : Dapi_TraceCourse × Int) =>
 (r9_FormatCourse c).bind fun (t_4 : ByteArray) =>
 (bif ((seqb t_3 t_4) && (r.2 == r_1.2)) then
 (r9_SameCourse r.1 r_1.1).bind fun (t_5 : Bool) =>
 some t_5
 else some false).bind fun (c_1 : Bool) =>
 some c_1
end Go.Lift
