/-
  The functions that all laws of the chapter reach, as plain functions.
-/
import Derived.Test.YteobfadhflofpaaGreatDoorLiftJ
import Derived.Lib.Join
import Derived.Lib.ItoaNum
set_option linter.unusedSectionVars false
set_option linter.unusedVariables false
set_option linter.unusedSimpArgs false
namespace Go.Lift
open Go
def wi64 (x : Int) : Int := IntKind.i64.wrap x
def wu8 (x : Int) : Int := IntKind.u8.wrap x
def wu32 (x : Int) : Int := IntKind.u32.wrap x
def wu64 (x : Int) : Int := IntKind.u64.wrap x
def ishl (k : IntKind) (x y : Int) : Int := k.wrap (x * 2 ^ (min y.toNat k.bits))
def ishr (k : IntKind) (x y : Int) : Int := x.fdiv (2 ^ (min y.toNat k.bits))
def iand (k : IntKind) (x y : Int) : Int := k.wrap (BitVec.ofInt k.bits x &&& BitVec.ofInt k.bits y).toNat
def ior (k : IntKind) (x y : Int) : Int := k.wrap (BitVec.ofInt k.bits x ||| BitVec.ofInt k.bits y).toNat
def bytes (l : List UInt8) : ByteArray := ⟨l.toArray⟩
end Go.Lift
namespace Go.Lift
abbrev Tapi_Frac : Ty := .pair (.int .i64) (.int .i64)
abbrev Dapi_Frac : Type := (Int × Int)
abbrev Tapi_TraceStep : Ty := .pair (.int .i64) (.pair (.slice (.int .i64)) Tapi_Frac)
abbrev Dapi_TraceStep : Type := (Int × ((List Int) × Dapi_Frac))
abbrev Tapi_TraceCourse : Ty := .pair .str (.pair (.slice (.int .i64)) (.pair (.slice (.int .i64)) (.slice Tapi_TraceStep)))
abbrev Dapi_TraceCourse : Type := (ByteArray × ((List Int) × ((List Int) × (List Dapi_TraceStep))))
abbrev Ttrace_ratio : Ty := .pair .bool (.pair (.slice (.int .u32)) (.slice (.int .u32)))
abbrev Dtrace_ratio : Type := (Bool × ((List Int) × (List Int)))
abbrev Ttrace_section : Ty := .pair (.arr 2 Ttrace_ratio) (.pair (.arr 2 Ttrace_ratio) Tapi_Frac)
abbrev Dtrace_section : Type := ((Nat → Dtrace_ratio) × ((Nat → Dtrace_ratio) × Dapi_Frac))
abbrev Ttrace_course : Ty := .pair Tapi_TraceCourse (.slice (.slice Ttrace_section))
abbrev Dtrace_course : Type := (Dapi_TraceCourse × (List (List Dtrace_section)))
abbrev Tapi_TraceReading : Ty := .pair (.int .i64) (.pair (.int .i64) .bool)
abbrev Dapi_TraceReading : Type := (Int × (Int × Bool))
abbrev Tapi_Span : Ty := .pair Tapi_Frac Tapi_Frac
abbrev Dapi_Span : Type := (Dapi_Frac × Dapi_Frac)
abbrev Tapi_TraceCause : Ty := .pair .str (.pair (.int .i64) (.pair (.int .i64) Tapi_Frac))
abbrev Dapi_TraceCause : Type := (ByteArray × (Int × (Int × Dapi_Frac)))
abbrev Ttrace_evidence : Ty := .pair (.int .i64) (.pair (.slice (.int .u64)) (.slice .bool))
abbrev Dtrace_evidence : Type := (Int × ((List Int) × (List Bool)))
abbrev Tb0_Wide : Ty := .pair (.int .i64) (.slice (.int .i64))
abbrev Db0_Wide : Type := (Int × (List Int))
abbrev Tb0_Ratio : Ty := .pair Tb0_Wide Tb0_Wide
abbrev Db0_Ratio : Type := (Db0_Wide × Db0_Wide)
abbrev Tr9_Section : Ty := .pair Tb0_Ratio (.int .i64)
abbrev Dr9_Section : Type := (Db0_Ratio × Int)
abbrev Truntime_boundsError : Ty := .pair (.int .i64) (.pair (.int .i64) (.pair .bool (.int .u8)))
abbrev Truntime_errorAddressString : Ty := .pair .str (.int .u64)
noncomputable def trace_first (l : (List Int)) : Option (Int) :=
 (loopM (S := Int) (R := (Unit) ⊕ (Int)) (fun t =>
 bif decide (t < (List.length l : Int)) then
 chk (decide ((0 : Int) ≤ t) && decide (t < (List.length l : Int))) (
 bif ((lget 0 l t) != 0) then
 Option.map Sum.inr (Option.map Sum.inr (
 some (lget 0 l t)))
 else
 some (.inl (wi64 (t + 1))))
 else
 some (.inr (.inl ()))) 0).bind fun j => match j with
 | .inl _ => (
 some 0)
 | .inr r => some r
noncomputable def trace_unless (is : Bool) (e : Int) : Option (Int) :=
 bif is then
 some 0
 else
 some e
noncomputable def trace_within (n : Int) (lo : Int) (hi : Int) : Option (Bool) :=
 let t : Bool := ((decide (lo ≤ n)) && (decide (n ≤ hi)))
 some t
noncomputable def trace_course_stepsErr (c : Dtrace_course) (steps : Int) : Option (Int) :=
 (trace_within steps 0 (List.length c.1.2.2.2 : Int)).bind fun (t : Bool) =>
 (trace_unless t 2).bind fun (t_1 : Int) =>
 some t_1
noncomputable def trace_trimmed (l : (List Int)) : Option ((List Int)) :=
 (loopM (S := (List Int)) (R := (List Int)) (fun l_1 =>
 (bif decide ((List.length l_1 : Int) > 0) then
 chk (decide ((0 : Int) ≤ (wi64 ((List.length l_1 : Int) - 1))) && decide ((wi64 ((List.length l_1 : Int) - 1)) < (List.length l_1 : Int))) (
 some ((lget 0 l_1 (wi64 ((List.length l_1 : Int) - 1))) == 0))
 else some false).bind fun (c : Bool) =>
 bif c then
 chk (decide ((0 : Int) ≤ 0) && decide ((0 : Int) ≤ (wi64 ((List.length l_1 : Int) - 1))) && decide ((wi64 ((List.length l_1 : Int) - 1)) ≤ (List.length l_1 : Int))) (
 let l_2 : (List Int) := List.drop (Int.toNat 0) (List.take (Int.toNat (wi64 ((List.length l_1 : Int) - 1))) l_1)
 some (.inl l_2))
 else
 some (.inr l_1)) l).bind fun (l_3 : (List Int)) =>
 some l_3
noncomputable def trace_naturalOf (n : Int) : Option ((List Int)) :=
 chk (decide ((0 : Int) ≤ 32)) (
 (trace_trimmed [wu32 n, wu32 (ishr .u64 n 32)]).bind fun (t : (List Int)) =>
 some t)
noncomputable def trace_size (n : Int) : Option (Int) :=
 bif decide (n < 0) then
 let t : Int := wu64 (0 - (wu64 n))
 some t
 else
 some (wu64 n)
noncomputable def trace_whole (n : Int) : Option (Dtrace_ratio) :=
 (trace_size n).bind fun (t : Int) =>
 (trace_naturalOf t).bind fun (t_1 : (List Int)) =>
 some (decide (n < 0), (t_1, [1]))
noncomputable def trace_isName (s : ByteArray) : Option (Bool) :=
 (loopM (S := Int) (R := (Unit) ⊕ (Bool)) (fun t =>
 bif decide (t < (List.length (sbytes s) : Int)) then
 chk (decide ((0 : Int) ≤ t) && decide (t < (List.length (sbytes s) : Int))) (
 let c : Int := lget 0 (sbytes s) t
 (trace_within (wi64 c) 97 122).bind fun (t_1 : Bool) =>
 (bif t_1 then some true else
 (trace_within (wi64 c) 65 90).bind fun (t_2 : Bool) =>
 some t_2).bind fun (c_1 : Bool) =>
 (bif !c_1 then
 (bif (t == 0) then some true else
 (bif (c != 45) then
 (trace_within (wi64 c) 48 57).bind fun (t_3 : Bool) =>
 some (!t_3)
 else some false).bind fun (c_2 : Bool) =>
 some c_2).bind fun (c_3 : Bool) =>
 some c_3
 else some false).bind fun (c_4 : Bool) =>
 bif c_4 then
 Option.map Sum.inr (Option.map Sum.inr (
 some false))
 else
 some (.inl (wi64 (t + 1))))
 else
 some (.inr (.inl ()))) 0).bind fun j => match j with
 | .inl _ => (
 (trace_within (ByteArray.size s : Int) 1 12).bind fun (t_4 : Bool) =>
 some t_4)
 | .inr r => some r
noncomputable def trace_isArea (n : Int) : Option (Bool) :=
 (trace_within n 1 1000).bind fun (t : Bool) =>
 some t
noncomputable def trace_strip_length (s : (List Dtrace_section)) : Option (Dtrace_ratio) :=
 chk (decide ((0 : Int) ≤ (wi64 ((List.length s : Int) - 1))) && decide ((wi64 ((List.length s : Int) - 1)) < (List.length s : Int))) (
 chk (decide ((0 : Int) ≤ 1) && decide ((1 : Int) < 2)) (
 let t : Dtrace_ratio := aget (((lget ((fun _ => (false, ([], []))), ((fun _ => (false, ([], []))), (0, 0))) s (wi64 ((List.length s : Int) - 1))).2).1) 1
 some t))
noncomputable def trace_natural_cmp (a : (List Int)) (b : (List Int)) : Option (Int) :=
 bif ((List.length a : Int) != (List.length b : Int)) then
 let t : Int := wi64 ((List.length a : Int) - (List.length b : Int))
 some t
 else
 let i : Int := wi64 ((List.length a : Int) - 1)
 (loopM (S := Int) (R := (Unit) ⊕ (Int)) (fun i_1 =>
 bif decide (i_1 ≥ 0) then
 chk (decide ((0 : Int) ≤ i_1) && decide (i_1 < (List.length a : Int))) (
 chk (decide ((0 : Int) ≤ i_1) && decide (i_1 < (List.length b : Int))) (
 bif ((lget 0 a i_1) != (lget 0 b i_1)) then
 chk (decide ((0 : Int) ≤ i_1) && decide (i_1 < (List.length a : Int))) (
 chk (decide ((0 : Int) ≤ i_1) && decide (i_1 < (List.length b : Int))) (
 let t_1 : Int := wi64 ((wi64 (lget 0 a i_1)) - (wi64 (lget 0 b i_1)))
 Option.map Sum.inr (Option.map Sum.inr (
 some t_1))))
 else
 some (.inl (wi64 (i_1 - 1)))))
 else
 some (.inr (.inl ()))) i).bind fun j => match j with
 | .inl _ => (
 some 0)
 | .inr r => some r
noncomputable def trace_natural_digit (a : (List Int)) (i : Int) : Option (Int) :=
 bif decide (i < (List.length a : Int)) then
 chk (decide ((0 : Int) ≤ i) && decide (i < (List.length a : Int))) (
 some (wu64 (lget 0 a i)))
 else
 some 0
noncomputable def trace_natural_times (a : (List Int)) (b : (List Int)) : Option ((List Int)) :=
 chk (decide ((0 : Int) ≤ (wi64 ((wi64 ((List.length a : Int) + (List.length b : Int))) + 1))) && decide ((wi64 ((wi64 ((List.length a : Int) + (List.length b : Int))) + 1)) ≤ 4294967296) && ((wi64 ((wi64 ((List.length a : Int) + (List.length b : Int))) + 1)) == (wi64 ((wi64 ((List.length a : Int) + (List.length b : Int))) + 1)))) (
 (loopM (S := Int × (List Int)) (R := (List Int)) (fun s =>
 let t : Int := s.1
 let t_1 : (List Int) := s.2
 bif decide (t < (List.length a : Int)) then
 (loopM (S := Int × Int × (List Int)) (R := (List Int)) (fun s_1 =>
 let carry : Int := s_1.1
 let t_2 : Int := s_1.2.1
 let t_3 : (List Int) := s_1.2.2
 bif decide (t_2 < (wi64 ((List.length b : Int) + 1))) then
 chk (decide ((0 : Int) ≤ (wi64 (t + t_2))) && decide ((wi64 (t + t_2)) < (List.length t_3 : Int))) (
 (trace_natural_digit a t).bind fun (t_4 : Int) =>
 (trace_natural_digit b t_2).bind fun (t_5 : Int) =>
 let carry_1 : Int := wu64 (carry + (wu64 ((wu64 (lget 0 t_3 (wi64 (t + t_2)))) + (wu64 (t_4 * t_5)))))
 chk (decide ((0 : Int) ≤ (wi64 (t + t_2))) && decide ((wi64 (t + t_2)) < (List.length t_3 : Int))) (
 let t_6 : (List Int) := lset t_3 (wi64 (t + t_2)) (wu32 carry_1)
 chk (decide ((0 : Int) ≤ 32)) (
 let t_7 : Int := ishr .u64 carry_1 32
 some (.inl (t_7, wi64 (t_2 + 1), t_6)))))
 else
 some (.inr t_3)) (0, 0, t_1)).bind fun (t_8 : (List Int)) =>
 some (.inl (wi64 (t + 1), t_8))
 else
 some (.inr t_1)) (0, List.replicate (Int.toNat (wi64 ((wi64 ((List.length a : Int) + (List.length b : Int))) + 1))) 0)).bind fun (t_9 : (List Int)) =>
 (trace_trimmed t_9).bind fun (t_10 : (List Int)) =>
 some t_10)
noncomputable def trace_natural_plus (a : (List Int)) (b : (List Int)) : Option ((List Int)) :=
 (loopM (S := (List Int) × Int × Int) (R := (List Int)) (fun s =>
 let out : (List Int) := s.1
 let carry : Int := s.2.1
 let t : Int := s.2.2
 bif decide (t < (wi64 ((imax (List.length a : Int) (List.length b : Int)) + 1))) then
 (trace_natural_digit a t).bind fun (t_1 : Int) =>
 (trace_natural_digit b t).bind fun (t_2 : Int) =>
 let carry_1 : Int := wu64 (carry + (wu64 (t_1 + t_2)))
 (app out [wu32 carry_1]).bind fun (t_3 : List Int) =>
 chk (decide ((0 : Int) ≤ 32)) (
 let t_4 : Int := ishr .u64 carry_1 32
 some (.inl (t_3, t_4, wi64 (t + 1))))
 else
 some (.inr out)) ([], 0, 0)).bind fun (out_1 : (List Int)) =>
 (trace_trimmed out_1).bind fun (t_5 : (List Int)) =>
 some t_5
noncomputable def trace_natural_minus (a : (List Int)) (b : (List Int)) : Option ((List Int)) :=
 (loopM (S := (List Int) × Int × Int) (R := (List Int)) (fun s =>
 let out : (List Int) := s.1
 let borrow : Int := s.2.1
 let t : Int := s.2.2
 bif decide (t < (List.length a : Int)) then
 (trace_natural_digit a t).bind fun (t_1 : Int) =>
 (trace_natural_digit b t).bind fun (t_2 : Int) =>
 let d : Int := wu64 ((wu64 (t_1 - t_2)) - borrow)
 (app out [wu32 d]).bind fun (t_3 : List Int) =>
 chk (decide ((0 : Int) ≤ 63)) (
 some (.inl (t_3, ishr .u64 d 63, wi64 (t + 1))))
 else
 some (.inr out)) ([], 0, 0)).bind fun (out_1 : (List Int)) =>
 (trace_trimmed out_1).bind fun (t_4 : (List Int)) =>
 some t_4
noncomputable def slices_Clone_uint32 (x : List Int) : Option (List Int) := app [] x
noncomputable def bits_Len32 (x : Int) : Option (Int) :=
 (bif decide (x ≥ 65536) then
 chk (decide ((0 : Int) ≤ 16)) (
 some (ishr .u32 x 16, 16))
 else
 some (x, 0)).bind fun (j : Int × Int) =>
 let x_1 : Int := j.1
 let n : Int := j.2
 (bif decide (x_1 ≥ 256) then
 chk (decide ((0 : Int) ≤ 8)) (
 some (ishr .u32 x_1 8, wi64 (n + 8)))
 else
 some (x_1, n)).bind fun (j_1 : Int × Int) =>
 let x_2 : Int := j_1.1
 let n_1 : Int := j_1.2
 chk (decide ((0 : Int) ≤ (wu8 x_2)) && decide ((wu8 x_2) < (ByteArray.size (bytes [0, 1, 2, 2, 3, 3, 3, 3, 4, 4, 4, 4, 4, 4, 4, 4, 5, 5, 5, 5, 5, 5, 5, 5, 5, 5, 5, 5, 5, 5, 5, 5, 6, 6, 6, 6, 6, 6, 6, 6, 6, 6, 6, 6, 6, 6, 6, 6, 6, 6, 6, 6, 6, 6, 6, 6, 6, 6, 6, 6, 6, 6, 6, 6, 7, 7, 7, 7, 7, 7, 7, 7, 7, 7, 7, 7, 7, 7, 7, 7, 7, 7, 7, 7, 7, 7, 7, 7, 7, 7, 7, 7, 7, 7, 7, 7, 7, 7, 7, 7, 7, 7, 7, 7, 7, 7, 7, 7, 7, 7, 7, 7, 7, 7, 7, 7, 7, 7, 7, 7, 7, 7, 7, 7, 7, 7, 7, 7, 8, 8, 8, 8, 8, 8, 8, 8, 8, 8, 8, 8, 8, 8, 8, 8, 8, 8, 8, 8, 8, 8, 8, 8, 8, 8, 8, 8, 8, 8, 8, 8, 8, 8, 8, 8, 8, 8, 8, 8, 8, 8, 8, 8, 8, 8, 8, 8, 8, 8, 8, 8, 8, 8, 8, 8, 8, 8, 8, 8, 8, 8, 8, 8, 8, 8, 8, 8, 8, 8, 8, 8, 8, 8, 8, 8, 8, 8, 8, 8, 8, 8, 8, 8, 8, 8, 8, 8, 8, 8, 8, 8, 8, 8, 8, 8, 8, 8, 8, 8, 8, 8, 8, 8, 8, 8, 8, 8, 8, 8, 8, 8, 8, 8, 8, 8, 8, 8, 8, 8, 8, 8, 8, 8, 8, 8, 8, 8]) : Int))) (
 let n_2 : Int := wi64 (n_1 + (wi64 (sget (bytes [0, 1, 2, 2, 3, 3, 3, 3, 4, 4, 4, 4, 4, 4, 4, 4, 5, 5, 5, 5, 5, 5, 5, 5, 5, 5, 5, 5, 5, 5, 5, 5, 6, 6, 6, 6, 6, 6, 6, 6, 6, 6, 6, 6, 6, 6, 6, 6, 6, 6, 6, 6, 6, 6, 6, 6, 6, 6, 6, 6, 6, 6, 6, 6, 7, 7, 7, 7, 7, 7, 7, 7, 7, 7, 7, 7, 7, 7, 7, 7, 7, 7, 7, 7, 7, 7, 7, 7, 7, 7, 7, 7, 7, 7, 7, 7, 7, 7, 7, 7, 7, 7, 7, 7, 7, 7, 7, 7, 7, 7, 7, 7, 7, 7, 7, 7, 7, 7, 7, 7, 7, 7, 7, 7, 7, 7, 7, 7, 8, 8, 8, 8, 8, 8, 8, 8, 8, 8, 8, 8, 8, 8, 8, 8, 8, 8, 8, 8, 8, 8, 8, 8, 8, 8, 8, 8, 8, 8, 8, 8, 8, 8, 8, 8, 8, 8, 8, 8, 8, 8, 8, 8, 8, 8, 8, 8, 8, 8, 8, 8, 8, 8, 8, 8, 8, 8, 8, 8, 8, 8, 8, 8, 8, 8, 8, 8, 8, 8, 8, 8, 8, 8, 8, 8, 8, 8, 8, 8, 8, 8, 8, 8, 8, 8, 8, 8, 8, 8, 8, 8, 8, 8, 8, 8, 8, 8, 8, 8, 8, 8, 8, 8, 8, 8, 8, 8, 8, 8, 8, 8, 8, 8, 8, 8, 8, 8, 8, 8, 8, 8, 8, 8, 8, 8, 8, 8]) (wu8 x_2))))
 some n_2)
noncomputable def trace_natural_length (a : (List Int)) : Option (Int) :=
 bif ((List.length a : Int) == 0) then
 some 0
 else
 chk (decide ((0 : Int) ≤ (wi64 ((List.length a : Int) - 1))) && decide ((wi64 ((List.length a : Int) - 1)) < (List.length a : Int))) (
 (bits_Len32 (lget 0 a (wi64 ((List.length a : Int) - 1)))).bind fun (t : Int) =>
 let t_1 : Int := wi64 ((wi64 ((wi64 ((List.length a : Int) - 1)) * 32)) + t)
 some t_1)
noncomputable def trace_natural_shifted (a : (List Int)) (by_ : Int) : Option ((List Int)) :=
 chk (32 != 0) (
 let t : Int := wi64 (Int.tdiv by_ 32)
 chk (decide ((0 : Int) ≤ t) && decide (t ≤ 4294967296) && (t == t)) (
 let out : (List Int) := List.replicate (Int.toNat t) 0
 (loopM (S := (List Int) × Int × Int) (R := (List Int)) (fun s =>
 let out_1 : (List Int) := s.1
 let carry : Int := s.2.1
 let t_1 : Int := s.2.2
 bif decide (t_1 < (wi64 ((List.length a : Int) + 1))) then
 (trace_natural_digit a t_1).bind fun (t_2 : Int) =>
 chk (32 != 0) (
 chk (decide ((0 : Int) ≤ Int.tmod by_ 32)) (
 let t_3 : Int := ishl .u64 t_2 (Int.tmod by_ 32)
 (app out_1 [wu32 (ior .u64 carry t_3)]).bind fun (t_4 : List Int) =>
 chk (decide ((0 : Int) ≤ 32)) (
 let t_5 : Int := ishr .u64 (ior .u64 carry t_3) 32
 some (.inl (t_4, t_5, wi64 (t_1 + 1))))))
 else
 some (.inr out_1)) (out, 0, 0)).bind fun (out_2 : (List Int)) =>
 (trace_trimmed out_2).bind fun (t_6 : (List Int)) =>
 some t_6))
noncomputable def trace_natural_divided (a : (List Int)) (b : (List Int)) : Option ((List Int) × (List Int)) :=
 (slices_Clone_uint32 a).bind fun (t : (List Int)) =>
 (trace_natural_length a).bind fun (t_1 : Int) =>
 (trace_natural_length b).bind fun (t_2 : Int) =>
 (loopM (S := (List Int) × (List Int) × Int) (R := (List Int) × (List Int)) (fun s =>
 let quotient : (List Int) := s.1
 let rest : (List Int) := s.2.1
 let by_ : Int := s.2.2
 bif decide (by_ ≥ 0) then
 (trace_natural_shifted quotient 1).bind fun (t_3 : (List Int)) =>
 (trace_natural_shifted b by_).bind fun (t_4 : (List Int)) =>
 (trace_natural_cmp rest t_4).bind fun (t_5 : Int) =>
 (bif decide (t_5 ≥ 0) then
 (trace_natural_minus rest t_4).bind fun (t_6 : (List Int)) =>
 (trace_natural_plus t_3 [1]).bind fun (t_7 : (List Int)) =>
 some (t_7, t_6)
 else
 some (t_3, rest)).bind fun (j : (List Int) × (List Int)) =>
 let quotient_1 : (List Int) := j.1
 let rest_1 : (List Int) := j.2
 some (.inl (quotient_1, rest_1, wi64 (by_ - 1)))
 else
 some (.inr (quotient, rest))) ([], t, wi64 (t_1 - t_2))).bind fun (b_1 : (List Int) × (List Int)) =>
 let quotient_2 : (List Int) := b_1.1
 let rest_2 : (List Int) := b_1.2
 some (quotient_2, rest_2)
noncomputable def trace_divisor (a : (List Int)) (b : (List Int)) : Option ((List Int)) :=
 (loopM (S := (List Int) × (List Int)) (R := (List Int)) (fun s =>
 let a_1 : (List Int) := s.1
 let b_1 : (List Int) := s.2
 bif decide ((List.length b_1 : Int) > 0) then
 (trace_natural_divided a_1 b_1).bind fun (r : (List Int) × (List Int)) =>
 some (.inl (b_1, r.2))
 else
 some (.inr a_1)) (a, b)).bind fun (a_2 : (List Int)) =>
 some a_2
noncomputable def trace_ratioOf (negative : Bool) (num : (List Int)) (den : (List Int)) : Option (Dtrace_ratio) :=
 (trace_divisor num den).bind fun (t : (List Int)) =>
 (trace_natural_divided num t).bind fun (r : (List Int) × (List Int)) =>
 (trace_natural_divided den t).bind fun (r_1 : (List Int) × (List Int)) =>
 some ((negative && (decide ((List.length r.1 : Int) > 0))), (r.1, r_1.1))
noncomputable def trace_ratio_plus (a : Dtrace_ratio) (b : Dtrace_ratio) : Option (Dtrace_ratio) :=
 (trace_natural_times a.2.1 b.2.2).bind fun (t : (List Int)) =>
 (trace_natural_times b.2.1 a.2.2).bind fun (t_1 : (List Int)) =>
 (trace_natural_times a.2.2 b.2.2).bind fun (t_2 : (List Int)) =>
 bif (a.1 == b.1) then
 (trace_natural_plus t t_1).bind fun (t_3 : (List Int)) =>
 (trace_ratioOf a.1 t_3 t_2).bind fun (t_4 : Dtrace_ratio) =>
 some t_4
 else
 (trace_natural_cmp t t_1).bind fun (t_5 : Int) =>
 bif decide (t_5 ≥ 0) then
 (trace_natural_minus t t_1).bind fun (t_6 : (List Int)) =>
 (trace_ratioOf a.1 t_6 t_2).bind fun (t_7 : Dtrace_ratio) =>
 some t_7
 else
 (trace_natural_minus t_1 t).bind fun (t_8 : (List Int)) =>
 (trace_ratioOf b.1 t_8 t_2).bind fun (t_9 : Dtrace_ratio) =>
 some t_9
noncomputable def trace_ratio_opposite (a : Dtrace_ratio) : Option (Dtrace_ratio) :=
 some (((!a.1) && (decide ((List.length a.2.1 : Int) > 0))), (a.2.1, a.2.2))
noncomputable def trace_ratio_minus (a : Dtrace_ratio) (b : Dtrace_ratio) : Option (Dtrace_ratio) :=
 (trace_ratio_opposite b).bind fun (t : Dtrace_ratio) =>
 (trace_ratio_plus a t).bind fun (t_1 : Dtrace_ratio) =>
 some t_1
noncomputable def trace_ratio_cmp (a : Dtrace_ratio) (b : Dtrace_ratio) : Option (Int) :=
 (trace_ratio_minus a b).bind fun (t : Dtrace_ratio) =>
 let t_1 : Bool := ((List.length t.2.1 : Int) == 0)
 bif t_1 then
 some 0
 else
 bif t.1 then
 some (-1)
 else
 some 1
noncomputable def trace_ratio_between (a : Dtrace_ratio) (lo : Dtrace_ratio) (hi : Dtrace_ratio) : Option (Bool) :=
 (trace_ratio_cmp lo a).bind fun (t : Int) =>
 (bif decide (t ≤ 0) then
 (trace_ratio_cmp a hi).bind fun (t_1 : Int) =>
 some (decide (t_1 ≤ 0))
 else some false).bind fun (c : Bool) =>
 some c
noncomputable def trace_strip_has (s : (List Dtrace_section)) (position : Int) : Option (Bool) :=
 (trace_whole position).bind fun (t : Dtrace_ratio) =>
 (trace_whole 0).bind fun (t_1 : Dtrace_ratio) =>
 (trace_strip_length s).bind fun (t_2 : Dtrace_ratio) =>
 (trace_ratio_between t t_1 t_2).bind fun (t_3 : Bool) =>
 some t_3
noncomputable def trace_isPosition (n : Int) : Option (Bool) :=
 (trace_within n 0 1000000).bind fun (t : Bool) =>
 some t
noncomputable def slices_IndexFunc_int (s : (List Int)) (f : (Int → Option Bool)) : Option (Int) :=
 (loopM (S := Int) (R := (Unit) ⊕ (Int)) (fun t =>
 bif decide (t < (List.length s : Int)) then
 chk (decide ((0 : Int) ≤ t) && decide (t < (List.length s : Int))) (
 (f (lget 0 s t)).bind fun (t_1 : Bool) =>
 bif t_1 then
 Option.map Sum.inr (Option.map Sum.inr (
 some t))
 else
 some (.inl (wi64 (t + 1))))
 else
 some (.inr (.inl ()))) 0).bind fun j => match j with
 | .inl _ => (
 some (-1))
 | .inr r => some r
noncomputable def slices_ContainsFunc_int (s : (List Int)) (f : (Int → Option Bool)) : Option (Bool) :=
 (slices_IndexFunc_int s f).bind fun (t : Int) =>
 some (decide (t ≥ 0))
noncomputable def trace_strip_step_1 (n : Int) : Option (Bool) :=
 (trace_isArea n).bind fun (t : Bool) =>
 some (!t)
noncomputable def trace_ratio_times (a : Dtrace_ratio) (b : Dtrace_ratio) : Option (Dtrace_ratio) :=
 (trace_natural_times a.2.1 b.2.1).bind fun (t : (List Int)) =>
 (trace_natural_times a.2.2 b.2.2).bind fun (t_1 : (List Int)) =>
 (trace_ratioOf (a.1 != b.1) t t_1).bind fun (t_2 : Dtrace_ratio) =>
 some t_2
noncomputable def trace_quotient (n : Int) (by_ : Int) : Option (Dtrace_ratio) :=
 (trace_size n).bind fun (t : Int) =>
 (trace_naturalOf t).bind fun (t_1 : (List Int)) =>
 (trace_size by_).bind fun (t_2 : Int) =>
 (trace_naturalOf t_2).bind fun (t_3 : (List Int)) =>
 (trace_ratioOf (decide (n < 0)) t_1 t_3).bind fun (t_4 : Dtrace_ratio) =>
 some t_4
noncomputable def trace_section_length (s : Dtrace_section) : Option (Dtrace_ratio) :=
 chk (decide ((0 : Int) ≤ 1) && decide ((1 : Int) < 2)) (
 chk (decide ((0 : Int) ≤ 0) && decide ((0 : Int) < 2)) (
 (trace_ratio_minus (aget s.2.1 1) (aget s.2.1 0)).bind fun (t : Dtrace_ratio) =>
 some t))
noncomputable def trace_strip_rolled (s : (List Dtrace_section)) (areas : (List Int)) : Option ((List Dtrace_section)) :=
 (trace_whole 0).bind fun (t : Dtrace_ratio) =>
 (loopM (S := (List Dtrace_section) × Int × Dtrace_ratio) (R := (List Dtrace_section)) (fun s_1 =>
 let out : (List Dtrace_section) := s_1.1
 let t_1 : Int := s_1.2.1
 let at_ : Dtrace_ratio := s_1.2.2
 bif decide (t_1 < (List.length s : Int)) then
 chk (decide ((0 : Int) ≤ t_1) && decide (t_1 < (List.length s : Int))) (
 let x : Dtrace_section := lget ((fun _ => (false, ([], []))), ((fun _ => (false, ([], []))), (0, 0))) s t_1
 (trace_section_length x).bind fun (t_2 : Dtrace_ratio) =>
 chk (decide ((0 : Int) ≤ t_1) && decide (t_1 < (List.length areas : Int))) (
 (trace_quotient x.2.2.2 (lget 0 areas t_1)).bind fun (t_3 : Dtrace_ratio) =>
 (trace_ratio_times t_2 t_3).bind fun (t_4 : Dtrace_ratio) =>
 (trace_ratio_plus at_ t_4).bind fun (t_5 : Dtrace_ratio) =>
 chk (decide ((0 : Int) ≤ t_1) && decide (t_1 < (List.length areas : Int))) (
 (app out [(x.1, (aset (aset (fun _ => (false, ([], []))) 0 at_) 1 t_5, (x.2.2.1, lget 0 areas t_1)))]).bind fun (t_6 : List Dtrace_section) =>
 some (.inl (t_6, wi64 (t_1 + 1), t_5)))))
 else
 some (.inr out)) ([], 0, t)).bind fun (out_1 : (List Dtrace_section)) =>
 some out_1
noncomputable def trace_strip_cut (s : (List Dtrace_section)) (lo : Int) (hi : Int) : Option ((List Dtrace_section)) :=
 (trace_whole lo).bind fun (t : Dtrace_ratio) =>
 (trace_whole hi).bind fun (t_1 : Dtrace_ratio) =>
 (loopM (S := (List Dtrace_section) × Int) (R := (List Dtrace_section)) (fun s_1 =>
 let out : (List Dtrace_section) := s_1.1
 let t_2 : Int := s_1.2
 bif decide (t_2 < (List.length s : Int)) then
 chk (decide ((0 : Int) ≤ t_2) && decide (t_2 < (List.length s : Int))) (
 let x : Dtrace_section := lget ((fun _ => (false, ([], []))), ((fun _ => (false, ([], []))), (0, 0))) s t_2
 chk (decide ((0 : Int) ≤ 0) && decide ((0 : Int) < 2)) (
 (trace_ratio_cmp (aget x.2.1 0) t).bind fun (t_3 : Int) =>
 (bif decide (t_3 < 0) then
 chk (decide ((0 : Int) ≤ 0) && decide ((0 : Int) < 2)) (
 some (aset x.2.1 0 t))
 else
 some x.2.1).bind fun (ends : (Nat → Dtrace_ratio)) =>
 chk (decide ((0 : Int) ≤ 1) && decide ((1 : Int) < 2)) (
 (trace_ratio_cmp (aget ends 1) t_1).bind fun (t_4 : Int) =>
 (bif decide (t_4 > 0) then
 chk (decide ((0 : Int) ≤ 1) && decide ((1 : Int) < 2)) (
 some (aset ends 1 t_1))
 else
 some ends).bind fun (ends_1 : (Nat → Dtrace_ratio)) =>
 chk (decide ((0 : Int) ≤ 0) && decide ((0 : Int) < 2)) (
 chk (decide ((0 : Int) ≤ 1) && decide ((1 : Int) < 2)) (
 (trace_ratio_cmp (aget ends_1 0) (aget ends_1 1)).bind fun (t_5 : Int) =>
 bif decide (t_5 ≥ 0) then
 some (.inl (out, wi64 (t_2 + 1)))
 else
 (loopM (S := Int × Dtrace_section) (R := Dtrace_section) (fun s_2 =>
 let t_6 : Int := s_2.1
 let kept_ : Dtrace_section := s_2.2
 bif decide (t_6 < 2) then
 chk (decide ((0 : Int) ≤ t_6) && decide ((t_6 : Int) < 2)) (
 chk (decide ((0 : Int) ≤ 0) && decide ((0 : Int) < 2)) (
 chk (decide ((0 : Int) ≤ 0) && decide ((0 : Int) < 2)) (
 (trace_ratio_minus (aget ends_1 t_6) (aget x.2.1 0)).bind fun (t_7 : Dtrace_ratio) =>
 (trace_quotient x.2.2.2 x.2.2.1).bind fun (t_8 : Dtrace_ratio) =>
 (trace_ratio_times t_7 t_8).bind fun (t_9 : Dtrace_ratio) =>
 (trace_ratio_plus (aget x.1 0) t_9).bind fun (t_10 : Dtrace_ratio) =>
 chk (decide ((0 : Int) ≤ t_6) && decide ((t_6 : Int) < 2)) (
 (trace_ratio_minus (aget ends_1 t_6) t).bind fun (t_11 : Dtrace_ratio) =>
 chk (decide ((0 : Int) ≤ t_6) && decide ((t_6 : Int) < 2)) (
 some (.inl (wi64 (t_6 + 1), (aset kept_.1 t_6 t_10, (aset kept_.2.1 t_6 t_11, kept_.2.2)))))))))
 else
 some (.inr kept_)) (0, ((fun _ => (false, ([], []))), ((fun _ => (false, ([], []))), (x.2.2.1, x.2.2.2))))).bind fun (kept__1 : Dtrace_section) =>
 (app out [kept__1]).bind fun (t_12 : List Dtrace_section) =>
 some (.inl (t_12, wi64 (t_2 + 1))))))))
 else
 some (.inr out)) ([], 0)).bind fun (out_1 : (List Dtrace_section)) =>
 some out_1
noncomputable def trace_ratio_frac (a : Dtrace_ratio) : Option (Dapi_Frac × Bool) :=
 (trace_naturalOf 1000000000).bind fun (t : (List Int)) =>
 (trace_natural_cmp a.2.1 t).bind fun (t_1 : Int) =>
 (bif decide (t_1 > 0) then some true else
 (trace_natural_cmp a.2.2 t).bind fun (t_2 : Int) =>
 some (decide (t_2 > 0))).bind fun (c : Bool) =>
 bif c then
 some ((0, 0), false)
 else
 (trace_natural_digit a.2.1 0).bind fun (t_3 : Int) =>
 (bif a.1 then
 let num : Int := wi64 (0 - (wi64 t_3))
 some num
 else
 some (wi64 t_3)).bind fun (num_1 : Int) =>
 (trace_natural_digit a.2.2 0).bind fun (t_4 : Int) =>
 some ((num_1, wi64 t_4), true)
noncomputable def trace_strip_isSmall (s : (List Dtrace_section)) : Option (Bool) :=
 (loopM (S := Int) (R := (Unit) ⊕ (Bool)) (fun t =>
 bif decide (t < (List.length s : Int)) then
 chk (decide ((0 : Int) ≤ t) && decide (t < (List.length s : Int))) (
 let x : Dtrace_section := lget ((fun _ => (false, ([], []))), ((fun _ => (false, ([], []))), (0, 0))) s t
 (trace_section_length x).bind fun (t_1 : Dtrace_ratio) =>
 (trace_ratio_frac t_1).bind fun (r : Dapi_Frac × Bool) =>
 chk (decide ((0 : Int) ≤ 1) && decide ((1 : Int) < 2)) (
 (trace_ratio_frac (aget x.2.1 1)).bind fun (r_1 : Dapi_Frac × Bool) =>
 bif ((!r.2) || (!r_1.2)) then
 Option.map Sum.inr (Option.map Sum.inr (
 some false))
 else
 some (.inl (wi64 (t + 1)))))
 else
 some (.inr (.inl ()))) 0).bind fun j => match j with
 | .inl _ => (
 some true)
 | .inr r => some r
noncomputable def trace_strip_step (s : (List Dtrace_section)) (x : Dapi_TraceStep) : Option ((List Dtrace_section) × Int) :=
 (bif (x.1 == 0) then
 (slices_ContainsFunc_int x.2.1 (fun x => trace_strip_step_1 x)).bind fun (t : Bool) =>
 (trace_unless ((x.2.2.1 == 0) && (x.2.2.2 == 0)) 3).bind fun (t_1 : Int) =>
 (trace_unless ((List.length x.2.1 : Int) == (List.length s : Int)) 10).bind fun (t_2 : Int) =>
 (trace_unless (!t) 2).bind fun (t_3 : Int) =>
 (trace_first [t_1, t_2, t_3]).bind fun (t_4 : Int) =>
 bif (t_4 != 0) then
 Option.map Sum.inr (
 some ([], t_4))
 else
 (trace_strip_rolled s x.2.1).bind fun (t_5 : (List Dtrace_section)) =>
 some (.inl t_5)
 else
 bif (x.1 == 1) then
 (trace_unless ((List.length x.2.1 : Int) == 0) 3).bind fun (t_6 : Int) =>
 (trace_isPosition x.2.2.1).bind fun (t_7 : Bool) =>
 (bif t_7 then
 (trace_isPosition x.2.2.2).bind fun (t_8 : Bool) =>
 some t_8
 else some false).bind fun (c : Bool) =>
 (trace_unless c 2).bind fun (t_9 : Int) =>
 (trace_unless (decide (x.2.2.1 < x.2.2.2)) 9).bind fun (t_10 : Int) =>
 (trace_strip_has s (imax 0 x.2.2.2)).bind fun (t_11 : Bool) =>
 (trace_unless t_11 6).bind fun (t_12 : Int) =>
 (trace_first [t_6, t_9, t_10, t_12]).bind fun (t_13 : Int) =>
 bif (t_13 != 0) then
 Option.map Sum.inr (
 some ([], t_13))
 else
 (trace_strip_cut s x.2.2.1 x.2.2.2).bind fun (t_14 : (List Dtrace_section)) =>
 some (.inl t_14)
 else
 Option.map Sum.inr (
 some ([], 15)) : Option (((List Dtrace_section)) ⊕ ((List Dtrace_section) × Int))).bind fun j => match j with
 | .inl out => (
 (trace_strip_isSmall out).bind fun (t_15 : Bool) =>
 (trace_unless t_15 8).bind fun (t_16 : Int) =>
 some (out, t_16))
 | .inr r => some r
noncomputable def trace_open (c : Dapi_TraceCourse) : Option (Dtrace_course × Int × Int) :=
 (trace_isName c.1).bind fun (t : Bool) =>
 (trace_unless t 4).bind fun (t_1 : Int) =>
 (trace_unless ((decide ((List.length c.2.1 : Int) > 0)) && ((List.length c.2.2.1 : Int) == (List.length c.2.1 : Int))) 10).bind fun (t_2 : Int) =>
 (trace_unless (decide ((List.length c.2.1 : Int) ≤ 6)) 8).bind fun (t_3 : Int) =>
 (trace_first [t_1, t_2, t_3]).bind fun (t_4 : Int) =>
 bif (t_4 != 0) then
 some ((c, []), 0, t_4)
 else
 (loopM (S := (List Dtrace_section) × Int × Int) (R := ((List Dtrace_section)) ⊕ (Dtrace_course × Int × Int)) (fun s =>
 let slab : (List Dtrace_section) := s.1
 let at_ : Int := s.2.1
 let t_5 : Int := s.2.2
 bif decide (t_5 < (List.length c.2.1 : Int)) then
 chk (decide ((0 : Int) ≤ t_5) && decide (t_5 < (List.length c.2.1 : Int))) (
 (trace_within (lget 0 c.2.1 t_5) 1 20000).bind fun (t_6 : Bool) =>
 (bif !t_6 then some true else
 chk (decide ((0 : Int) ≤ t_5) && decide (t_5 < (List.length c.2.2.1 : Int))) (
 (trace_isArea (lget 0 c.2.2.1 t_5)).bind fun (t_7 : Bool) =>
 some (!t_7))).bind fun (c_1 : Bool) =>
 bif c_1 then
 Option.map Sum.inr (Option.map Sum.inr (
 some ((c, []), 0, 2)))
 else
 (trace_whole at_).bind fun (t_8 : Dtrace_ratio) =>
 (trace_whole (wi64 (at_ + (lget 0 c.2.1 t_5)))).bind fun (t_9 : Dtrace_ratio) =>
 let ends : (Nat → Dtrace_ratio) := aset (aset (fun _ => (false, ([], []))) 0 t_8) 1 t_9
 chk (decide ((0 : Int) ≤ t_5) && decide (t_5 < (List.length c.2.2.1 : Int))) (
 chk (decide ((0 : Int) ≤ t_5) && decide (t_5 < (List.length c.2.2.1 : Int))) (
 (app slab [(ends, (ends, (lget 0 c.2.2.1 t_5, lget 0 c.2.2.1 t_5)))]).bind fun (t_10 : List Dtrace_section) =>
 let at__1 : Int := wi64 (at_ + (lget 0 c.2.1 t_5))
 some (.inl (t_10, at__1, wi64 (t_5 + 1))))))
 else
 some (.inr (.inl slab))) ([], 0, 0)).bind fun j => match j with
 | .inl slab_1 => (
 bif decide ((List.length c.2.2.2 : Int) > 10) then
 some ((c, []), 0, 8)
 else
 (loopM (S := Int × Dtrace_course) (R := (Dtrace_course) ⊕ (Dtrace_course × Int × Int)) (fun s_1 =>
 let t_11 : Int := s_1.1
 let out : Dtrace_course := s_1.2
 bif decide (t_11 < (List.length c.2.2.2 : Int)) then
 chk (decide ((0 : Int) ≤ t_11) && decide (t_11 < (List.length c.2.2.2 : Int))) (
 let x : Dapi_TraceStep := lget (0, ([], (0, 0))) c.2.2.2 t_11
 chk (decide ((0 : Int) ≤ t_11) && decide (t_11 < (List.length out.2 : Int))) (
 (trace_strip_step (lget [] out.2 t_11) x).bind fun (r : (List Dtrace_section) × Int) =>
 bif (r.2 != 0) then
 Option.map Sum.inr (Option.map Sum.inr (
 some (out, t_11, r.2)))
 else
 (app out.2 [r.1]).bind fun (t_12 : List (List Dtrace_section)) =>
 some (.inl (wi64 (t_11 + 1), (out.1, t_12)))))
 else
 some (.inr (.inl out))) (0, (c, [slab_1]))).bind fun j => match j with
 | .inl out_1 => (
 some (out_1, 0, 0))
 | .inr r => some r)
 | .inr r => some r
noncomputable def trace_opened (c : Dapi_TraceCourse) (steps : (List Int)) : Option (Dtrace_course × Int) :=
 (trace_open c).bind fun (r : Dtrace_course × Int × Int) =>
 (loopM (S := Int × Int) (R := Int) (fun s =>
 let e : Int := s.1
 let t : Int := s.2
 bif decide (t < (List.length steps : Int)) then
 chk (decide ((0 : Int) ≤ t) && decide (t < (List.length steps : Int))) (
 (trace_course_stepsErr r.1 (lget 0 steps t)).bind fun (t_1 : Int) =>
 (trace_first [e, t_1]).bind fun (t_2 : Int) =>
 some (.inl (t_2, wi64 (t + 1))))
 else
 some (.inr e)) (r.2.2, 0)).bind fun (e_1 : Int) =>
 some (r.1, e_1)
noncomputable def trace_course_readingErr (c : Dtrace_course) (r : Dapi_TraceReading) : Option (Int) :=
 (trace_course_stepsErr c r.1).bind fun (t : Int) =>
 bif (t != 0) then
 some t
 else
 chk (decide ((0 : Int) ≤ r.1) && decide (r.1 < (List.length c.2 : Int))) (
 (trace_strip_has (lget [] c.2 r.1) r.2.1).bind fun (t_1 : Bool) =>
 (trace_unless t_1 6).bind fun (t_2 : Int) =>
 some t_2)
noncomputable def trace_strip_slabAt (s : (List Dtrace_section)) (position : Dtrace_ratio) : Option (Dtrace_ratio) :=
 (loopM (S := Int) (R := (Unit) ⊕ (Dtrace_ratio)) (fun t =>
 bif decide (t < (List.length s : Int)) then
 chk (decide ((0 : Int) ≤ t) && decide (t < (List.length s : Int))) (
 let x : Dtrace_section := lget ((fun _ => (false, ([], []))), ((fun _ => (false, ([], []))), (0, 0))) s t
 chk (decide ((0 : Int) ≤ 0) && decide ((0 : Int) < 2)) (
 chk (decide ((0 : Int) ≤ 1) && decide ((1 : Int) < 2)) (
 (trace_ratio_between position (aget x.2.1 0) (aget x.2.1 1)).bind fun (t_1 : Bool) =>
 bif t_1 then
 chk (decide ((0 : Int) ≤ 0) && decide ((0 : Int) < 2)) (
 chk (decide ((0 : Int) ≤ 0) && decide ((0 : Int) < 2)) (
 (trace_ratio_minus position (aget x.2.1 0)).bind fun (t_2 : Dtrace_ratio) =>
 (trace_quotient x.2.2.2 x.2.2.1).bind fun (t_3 : Dtrace_ratio) =>
 (trace_ratio_times t_2 t_3).bind fun (t_4 : Dtrace_ratio) =>
 (trace_ratio_plus (aget x.1 0) t_4).bind fun (t_5 : Dtrace_ratio) =>
 Option.map Sum.inr (Option.map Sum.inr (
 some t_5))))
 else
 some (.inl (wi64 (t + 1))))))
 else
 some (.inr (.inl ()))) 0).bind fun j => match j with
 | .inl _ => (
 some (false, ([], [])))
 | .inr r => some r
noncomputable def trace_strip_at (s : (List Dtrace_section)) (slab : Dtrace_ratio) : Option (Dtrace_ratio × Bool) :=
 (loopM (S := Int) (R := (Unit) ⊕ (Dtrace_ratio × Bool)) (fun t =>
 bif decide (t < (List.length s : Int)) then
 chk (decide ((0 : Int) ≤ t) && decide (t < (List.length s : Int))) (
 let x : Dtrace_section := lget ((fun _ => (false, ([], []))), ((fun _ => (false, ([], []))), (0, 0))) s t
 chk (decide ((0 : Int) ≤ 0) && decide ((0 : Int) < 2)) (
 chk (decide ((0 : Int) ≤ 1) && decide ((1 : Int) < 2)) (
 (trace_ratio_between slab (aget x.1 0) (aget x.1 1)).bind fun (t_1 : Bool) =>
 bif t_1 then
 chk (decide ((0 : Int) ≤ 0) && decide ((0 : Int) < 2)) (
 chk (decide ((0 : Int) ≤ 0) && decide ((0 : Int) < 2)) (
 (trace_ratio_minus slab (aget x.1 0)).bind fun (t_2 : Dtrace_ratio) =>
 (trace_quotient x.2.2.1 x.2.2.2).bind fun (t_3 : Dtrace_ratio) =>
 (trace_ratio_times t_2 t_3).bind fun (t_4 : Dtrace_ratio) =>
 (trace_ratio_plus (aget x.2.1 0) t_4).bind fun (t_5 : Dtrace_ratio) =>
 Option.map Sum.inr (Option.map Sum.inr (
 some (t_5, true)))))
 else
 some (.inl (wi64 (t + 1))))))
 else
 some (.inr (.inl ()))) 0).bind fun j => match j with
 | .inl _ => (
 some ((false, ([], [])), false))
 | .inr r => some r
noncomputable def trace_course_place (c : Dtrace_course) (r : Dapi_TraceReading) (steps : Int) : Option (Dtrace_ratio × Bool) :=
 chk (decide ((0 : Int) ≤ steps) && decide (steps < (List.length c.2 : Int))) (
 chk (decide ((0 : Int) ≤ r.1) && decide (r.1 < (List.length c.2 : Int))) (
 (trace_whole r.2.1).bind fun (t : Dtrace_ratio) =>
 (trace_strip_slabAt (lget [] c.2 r.1) t).bind fun (t_1 : Dtrace_ratio) =>
 (trace_strip_at (lget [] c.2 steps) t_1).bind fun (r_1 : Dtrace_ratio × Bool) =>
 some (r_1.1, r_1.2)))
noncomputable def trace_small (r : Dtrace_ratio) : Option (Dapi_Frac × Int) :=
 (trace_ratio_frac r).bind fun (r_1 : Dapi_Frac × Bool) =>
 (trace_unless r_1.2 8).bind fun (t : Int) =>
 some (r_1.1, t)
noncomputable def trace_PlaceOf (c : Dapi_TraceCourse) (r : Dapi_TraceReading) (steps : Int) : Option (Dapi_Frac × Int) :=
 (trace_opened c []).bind fun (r_1 : Dtrace_course × Int) =>
 (bif (r_1.2 == 0) then
 (trace_course_readingErr r_1.1 r).bind fun (t : Int) =>
 (trace_course_stepsErr r_1.1 steps).bind fun (t_1 : Int) =>
 (trace_first [t, t_1]).bind fun (t_2 : Int) =>
 some t_2
 else
 some r_1.2).bind fun (e : Int) =>
 bif (e != 0) then
 some ((0, 0), e)
 else
 (trace_course_place r_1.1 r steps).bind fun (r_2 : Dtrace_ratio × Bool) =>
 bif !r_2.2 then
 some ((0, 0), 12)
 else
 (trace_small r_2.1).bind fun (r_3 : Dapi_Frac × Int) =>
 some (r_3.1, r_3.2)
noncomputable def trace_course_last (c : Dtrace_course) : Option ((List Dtrace_section)) :=
 chk (decide ((0 : Int) ≤ (wi64 ((List.length c.2 : Int) - 1))) && decide ((wi64 ((List.length c.2 : Int) - 1)) < (List.length c.2 : Int))) (
 let t : (List Dtrace_section) := lget [] c.2 (wi64 ((List.length c.2 : Int) - 1))
 some t)
noncomputable def trace_PiecesOf (c : Dapi_TraceCourse) (length : Int) : Option ((List Dapi_Span) × Int) :=
 (trace_opened c []).bind fun (r : Dtrace_course × Int) =>
 (trace_within length 1 1000000).bind fun (t : Bool) =>
 (trace_unless t 2).bind fun (t_1 : Int) =>
 (trace_first [r.2, t_1]).bind fun (t_2 : Int) =>
 bif (t_2 != 0) then
 some ([], t_2)
 else
 (trace_course_last r.1).bind fun (t_3 : (List Dtrace_section)) =>
 (trace_strip_length t_3).bind fun (t_4 : Dtrace_ratio) =>
 (trace_whole (wi64 (50 * length))).bind fun (t_5 : Dtrace_ratio) =>
 (trace_ratio_cmp t_4 t_5).bind fun (t_6 : Int) =>
 bif decide (t_6 > 0) then
 some ([], 16)
 else
 (loopM (S := (List Dapi_Span) × Int) (R := ((List Dapi_Span)) ⊕ ((List Dapi_Span) × Int)) (fun s =>
 let out : (List Dapi_Span) := s.1
 let at_ : Int := s.2
 (trace_whole at_).bind fun (t_7 : Dtrace_ratio) =>
 (trace_strip_length t_3).bind fun (t_8 : Dtrace_ratio) =>
 (trace_ratio_cmp t_7 t_8).bind fun (t_9 : Int) =>
 bif decide (t_9 < 0) then
 (trace_whole (wi64 (at_ + length))).bind fun (t_10 : Dtrace_ratio) =>
 (trace_strip_length t_3).bind fun (t_11 : Dtrace_ratio) =>
 (trace_ratio_cmp t_10 t_11).bind fun (t_12 : Int) =>
 (bif decide (t_12 > 0) then
 (trace_strip_length t_3).bind fun (t_13 : Dtrace_ratio) =>
 some t_13
 else
 some t_10).bind fun (end_ : Dtrace_ratio) =>
 (trace_whole at_).bind fun (t_14 : Dtrace_ratio) =>
 (trace_strip_slabAt t_3 t_14).bind fun (t_15 : Dtrace_ratio) =>
 (trace_small t_15).bind fun (r_1 : Dapi_Frac × Int) =>
 (trace_strip_slabAt t_3 end_).bind fun (t_16 : Dtrace_ratio) =>
 (trace_small t_16).bind fun (r_2 : Dapi_Frac × Int) =>
 (trace_first [r_1.2, r_2.2]).bind fun (t_17 : Int) =>
 bif (t_17 != 0) then
 Option.map Sum.inr (Option.map Sum.inr (
 some ([], t_17)))
 else
 (app out [(r_1.1, r_2.1)]).bind fun (t_18 : List Dapi_Span) =>
 let at__1 : Int := wi64 (at_ + length)
 some (.inl (t_18, at__1))
 else
 some (.inr (.inl out))) ([], 0)).bind fun j => match j with
 | .inl out_1 => (
 some (out_1, 0))
 | .inr r => some r
noncomputable def l9_Course  : Option (Dapi_TraceCourse) :=
 some ((bytes [115, 49]), ([1000, 500], ([30, 60], [(0, ([10, 10], (0, 0))), (1, ([], (1000, 5000)))])))
noncomputable def trace_course_openReadings (c : Dtrace_course) (l : (List Dapi_TraceReading)) : Option (Int) :=
 bif decide ((List.length l : Int) > 10) then
 some 8
 else
 (loopM (S := Int) (R := (Unit) ⊕ (Int)) (fun t =>
 bif decide (t < (List.length l : Int)) then
 chk (decide ((0 : Int) ≤ t) && decide (t < (List.length l : Int))) (
 let r : Dapi_TraceReading := lget (0, (0, false)) l t
 (trace_course_readingErr c r).bind fun (t_1 : Int) =>
 bif (t_1 != 0) then
 Option.map Sum.inr (Option.map Sum.inr (
 some t_1))
 else
 some (.inl (wi64 (t + 1))))
 else
 some (.inr (.inl ()))) 0).bind fun j => match j with
 | .inl _ => (
 some 0)
 | .inr r => some r
noncomputable def slices_IndexFunc_apiTraceCause (s : (List Dapi_TraceCause)) (f : (Dapi_TraceCause → Option Bool)) : Option (Int) :=
 (loopM (S := Int) (R := (Unit) ⊕ (Int)) (fun t =>
 bif decide (t < (List.length s : Int)) then
 chk (decide ((0 : Int) ≤ t) && decide (t < (List.length s : Int))) (
 (f (lget (ByteArray.empty, (0, (0, (0, 0)))) s t)).bind fun (t_1 : Bool) =>
 bif t_1 then
 Option.map Sum.inr (Option.map Sum.inr (
 some t))
 else
 some (.inl (wi64 (t + 1))))
 else
 some (.inr (.inl ()))) 0).bind fun j => match j with
 | .inl _ => (
 some (-1))
 | .inr r => some r
noncomputable def slices_ContainsFunc_apiTraceCause (s : (List Dapi_TraceCause)) (f : (Dapi_TraceCause → Option Bool)) : Option (Bool) :=
 (slices_IndexFunc_apiTraceCause s f).bind fun (t : Int) =>
 some (decide (t ≥ 0))
noncomputable def trace_openCauses_1 (o : Dapi_TraceCause) (x : Dapi_TraceCause) : Option (Bool) :=
 some (seqb o.1 x.1)
noncomputable def trace_openCauses (c : Dapi_TraceCourse) (l : (List Dapi_TraceCause)) : Option (Dtrace_course × Int × Int) :=
 (trace_opened c []).bind fun (r : Dtrace_course × Int) =>
 (trace_unless (decide ((List.length l : Int) ≤ 5)) 8).bind fun (t : Int) =>
 (trace_first [r.2, t]).bind fun (t_1 : Int) =>
 bif (t_1 != 0) then
 some (r.1, 0, t_1)
 else
 (loopM (S := Int) (R := (Unit) ⊕ (Dtrace_course × Int × Int)) (fun t_2 =>
 bif decide (t_2 < (List.length l : Int)) then
 chk (decide ((0 : Int) ≤ t_2) && decide (t_2 < (List.length l : Int))) (
 let own : Dapi_TraceCause := lget (ByteArray.empty, (0, (0, (0, 0)))) l t_2
 chk (decide ((0 : Int) ≤ 0) && decide ((0 : Int) ≤ t_2) && decide (t_2 ≤ (List.length l : Int))) (
 (slices_ContainsFunc_apiTraceCause (List.drop (Int.toNat 0) (List.take (Int.toNat t_2) l)) (fun x => trace_openCauses_1 x own)).bind fun (t_3 : Bool) =>
 (trace_isName own.1).bind fun (t_4 : Bool) =>
 (trace_unless t_4 4).bind fun (t_5 : Int) =>
 (trace_unless (!t_3) 5).bind fun (t_6 : Int) =>
 (trace_course_stepsErr r.1 own.2.1).bind fun (t_7 : Int) =>
 (trace_isPosition own.2.2.1).bind fun (t_8 : Bool) =>
 (bif t_8 then
 (trace_isPosition own.2.2.2.1).bind fun (t_9 : Bool) =>
 some t_9
 else some false).bind fun (c_1 : Bool) =>
 (bif c_1 then
 (trace_isPosition own.2.2.2.2).bind fun (t_10 : Bool) =>
 some t_10
 else some false).bind fun (c_2 : Bool) =>
 (trace_unless c_2 2).bind fun (t_11 : Int) =>
 (trace_unless (decide (own.2.2.1 ≤ own.2.2.2.1)) 9).bind fun (t_12 : Int) =>
 (trace_unless ((own.2.2.2.2 == 0) || (decide (own.2.2.2.2 > (wi64 (own.2.2.2.1 - own.2.2.1))))) 13).bind fun (t_13 : Int) =>
 (trace_first [t_5, t_6, t_7, t_11, t_12, t_13]).bind fun (t_14 : Int) =>
 bif (t_14 != 0) then
 Option.map Sum.inr (Option.map Sum.inr (
 some (r.1, t_2, t_14)))
 else
 some (.inl (wi64 (t_2 + 1)))))
 else
 some (.inr (.inl ()))) 0).bind fun j => match j with
 | .inl _ => (
 some (r.1, 0, 0))
 | .inr r => some r
noncomputable def trace_ratio_over (a : Dtrace_ratio) (b : Dtrace_ratio) : Option (Dtrace_ratio) :=
 (trace_ratio_times a (false, (b.2.2, b.2.1))).bind fun (t : Dtrace_ratio) =>
 some t
noncomputable def trace_ratio_floor (a : Dtrace_ratio) : Option (Dtrace_ratio) :=
 (trace_natural_divided a.2.1 a.2.2).bind fun (r : (List Int) × (List Int)) =>
 some (false, (r.1, [1]))
noncomputable def trace_course_predicts (c : Dtrace_course) (x : Dapi_TraceCause) (r : Dapi_TraceReading) : Option (Bool) :=
 bif decide (x.2.1 > r.1) then
 some false
 else
 (trace_course_place c r x.2.1).bind fun (r_1 : Dtrace_ratio × Bool) =>
 (trace_whole x.2.2.1).bind fun (t : Dtrace_ratio) =>
 (trace_ratio_minus r_1.1 t).bind fun (t_1 : Dtrace_ratio) =>
 bif t_1.1 then
 some false
 else
 (bif decide (x.2.2.2.2 > 0) then
 (trace_whole x.2.2.2.2).bind fun (t_2 : Dtrace_ratio) =>
 (trace_ratio_over t_1 t_2).bind fun (t_3 : Dtrace_ratio) =>
 (trace_ratio_floor t_3).bind fun (t_4 : Dtrace_ratio) =>
 (trace_ratio_times t_4 t_2).bind fun (t_5 : Dtrace_ratio) =>
 (trace_ratio_minus t_1 t_5).bind fun (t_6 : Dtrace_ratio) =>
 some t_6
 else
 some t_1).bind fun (over : Dtrace_ratio) =>
 (trace_whole (wi64 (x.2.2.2.1 - x.2.2.1))).bind fun (t_7 : Dtrace_ratio) =>
 (trace_ratio_cmp over t_7).bind fun (t_8 : Int) =>
 some (decide (t_8 ≤ 0))
noncomputable def trace_course_evidenceOf (c : Dtrace_course) (l : (List Dapi_TraceCause)) (readings : (List Dapi_TraceReading)) : Option (Dtrace_evidence) :=
 (loopM (S := Int × Dtrace_evidence) (R := Dtrace_evidence) (fun s =>
 let t : Int := s.1
 let out : Dtrace_evidence := s.2
 bif decide (t < (List.length readings : Int)) then
 chk (decide ((0 : Int) ≤ t) && decide (t < (List.length readings : Int))) (
 let r : Dapi_TraceReading := lget (0, (0, false)) readings t
 (loopM (S := Int × Int) (R := Int) (fun s_1 =>
 let by_ : Int := s_1.1
 let t_1 : Int := s_1.2
 bif decide (t_1 < (List.length l : Int)) then
 chk (decide ((0 : Int) ≤ t_1) && decide (t_1 < (List.length l : Int))) (
 let x : Dapi_TraceCause := lget (ByteArray.empty, (0, (0, (0, 0)))) l t_1
 (trace_course_predicts c x r).bind fun (t_2 : Bool) =>
 (bif t_2 then
 chk (decide ((0 : Int) ≤ t_1)) (
 let by__1 : Int := ior .u64 by_ (ishl .u64 1 t_1)
 some by__1)
 else
 some by_).bind fun (by__2 : Int) =>
 some (.inl (by__2, wi64 (t_1 + 1))))
 else
 some (.inr by_)) (0, 0)).bind fun (by__3 : Int) =>
 (app out.2.1 [by__3]).bind fun (t_3 : List Int) =>
 (app out.2.2 [r.2.2]).bind fun (t_4 : List Bool) =>
 some (.inl (wi64 (t + 1), (out.1, (t_3, t_4)))))
 else
 some (.inr out)) (0, ((List.length l : Int), ([], [])))).bind fun (out_1 : Dtrace_evidence) =>
 some out_1
noncomputable def trace_openEvidence (c : Dapi_TraceCourse) (l : (List Dapi_TraceCause)) (r : (List Dapi_TraceReading)) : Option (Dtrace_course × Dtrace_evidence × Int) :=
 (trace_openCauses c l).bind fun (r_1 : Dtrace_course × Int × Int) =>
 (bif (r_1.2.2 == 0) then
 (trace_course_openReadings r_1.1 r).bind fun (t : Int) =>
 some t
 else
 some r_1.2.2).bind fun (e : Int) =>
 bif (e != 0) then
 some (r_1.1, (0, ([], [])), e)
 else
 (trace_course_evidenceOf r_1.1 l r).bind fun (t_1 : Dtrace_evidence) =>
 some (r_1.1, t_1, 0)
noncomputable def bits_OnesCount32 (x : Int) : Option (Int) :=
 chk (decide ((0 : Int) ≤ 24)) (
 chk (decide ((0 : Int) ≤ (ishr .u32 x 24)) && decide ((ishr .u32 x 24) < (ByteArray.size (bytes [0, 1, 1, 2, 1, 2, 2, 3, 1, 2, 2, 3, 2, 3, 3, 4, 1, 2, 2, 3, 2, 3, 3, 4, 2, 3, 3, 4, 3, 4, 4, 5, 1, 2, 2, 3, 2, 3, 3, 4, 2, 3, 3, 4, 3, 4, 4, 5, 2, 3, 3, 4, 3, 4, 4, 5, 3, 4, 4, 5, 4, 5, 5, 6, 1, 2, 2, 3, 2, 3, 3, 4, 2, 3, 3, 4, 3, 4, 4, 5, 2, 3, 3, 4, 3, 4, 4, 5, 3, 4, 4, 5, 4, 5, 5, 6, 2, 3, 3, 4, 3, 4, 4, 5, 3, 4, 4, 5, 4, 5, 5, 6, 3, 4, 4, 5, 4, 5, 5, 6, 4, 5, 5, 6, 5, 6, 6, 7, 1, 2, 2, 3, 2, 3, 3, 4, 2, 3, 3, 4, 3, 4, 4, 5, 2, 3, 3, 4, 3, 4, 4, 5, 3, 4, 4, 5, 4, 5, 5, 6, 2, 3, 3, 4, 3, 4, 4, 5, 3, 4, 4, 5, 4, 5, 5, 6, 3, 4, 4, 5, 4, 5, 5, 6, 4, 5, 5, 6, 5, 6, 6, 7, 2, 3, 3, 4, 3, 4, 4, 5, 3, 4, 4, 5, 4, 5, 5, 6, 3, 4, 4, 5, 4, 5, 5, 6, 4, 5, 5, 6, 5, 6, 6, 7, 3, 4, 4, 5, 4, 5, 5, 6, 4, 5, 5, 6, 5, 6, 6, 7, 4, 5, 5, 6, 5, 6, 6, 7, 5, 6, 6, 7, 6, 7, 7, 8]) : Int))) (
 chk (decide ((0 : Int) ≤ 16)) (
 chk (decide ((0 : Int) ≤ (iand .u32 (ishr .u32 x 16) 255)) && decide ((iand .u32 (ishr .u32 x 16) 255) < (ByteArray.size (bytes [0, 1, 1, 2, 1, 2, 2, 3, 1, 2, 2, 3, 2, 3, 3, 4, 1, 2, 2, 3, 2, 3, 3, 4, 2, 3, 3, 4, 3, 4, 4, 5, 1, 2, 2, 3, 2, 3, 3, 4, 2, 3, 3, 4, 3, 4, 4, 5, 2, 3, 3, 4, 3, 4, 4, 5, 3, 4, 4, 5, 4, 5, 5, 6, 1, 2, 2, 3, 2, 3, 3, 4, 2, 3, 3, 4, 3, 4, 4, 5, 2, 3, 3, 4, 3, 4, 4, 5, 3, 4, 4, 5, 4, 5, 5, 6, 2, 3, 3, 4, 3, 4, 4, 5, 3, 4, 4, 5, 4, 5, 5, 6, 3, 4, 4, 5, 4, 5, 5, 6, 4, 5, 5, 6, 5, 6, 6, 7, 1, 2, 2, 3, 2, 3, 3, 4, 2, 3, 3, 4, 3, 4, 4, 5, 2, 3, 3, 4, 3, 4, 4, 5, 3, 4, 4, 5, 4, 5, 5, 6, 2, 3, 3, 4, 3, 4, 4, 5, 3, 4, 4, 5, 4, 5, 5, 6, 3, 4, 4, 5, 4, 5, 5, 6, 4, 5, 5, 6, 5, 6, 6, 7, 2, 3, 3, 4, 3, 4, 4, 5, 3, 4, 4, 5, 4, 5, 5, 6, 3, 4, 4, 5, 4, 5, 5, 6, 4, 5, 5, 6, 5, 6, 6, 7, 3, 4, 4, 5, 4, 5, 5, 6, 4, 5, 5, 6, 5, 6, 6, 7, 4, 5, 5, 6, 5, 6, 6, 7, 5, 6, 6, 7, 6, 7, 7, 8]) : Int))) (
 chk (decide ((0 : Int) ≤ 8)) (
 chk (decide ((0 : Int) ≤ (iand .u32 (ishr .u32 x 8) 255)) && decide ((iand .u32 (ishr .u32 x 8) 255) < (ByteArray.size (bytes [0, 1, 1, 2, 1, 2, 2, 3, 1, 2, 2, 3, 2, 3, 3, 4, 1, 2, 2, 3, 2, 3, 3, 4, 2, 3, 3, 4, 3, 4, 4, 5, 1, 2, 2, 3, 2, 3, 3, 4, 2, 3, 3, 4, 3, 4, 4, 5, 2, 3, 3, 4, 3, 4, 4, 5, 3, 4, 4, 5, 4, 5, 5, 6, 1, 2, 2, 3, 2, 3, 3, 4, 2, 3, 3, 4, 3, 4, 4, 5, 2, 3, 3, 4, 3, 4, 4, 5, 3, 4, 4, 5, 4, 5, 5, 6, 2, 3, 3, 4, 3, 4, 4, 5, 3, 4, 4, 5, 4, 5, 5, 6, 3, 4, 4, 5, 4, 5, 5, 6, 4, 5, 5, 6, 5, 6, 6, 7, 1, 2, 2, 3, 2, 3, 3, 4, 2, 3, 3, 4, 3, 4, 4, 5, 2, 3, 3, 4, 3, 4, 4, 5, 3, 4, 4, 5, 4, 5, 5, 6, 2, 3, 3, 4, 3, 4, 4, 5, 3, 4, 4, 5, 4, 5, 5, 6, 3, 4, 4, 5, 4, 5, 5, 6, 4, 5, 5, 6, 5, 6, 6, 7, 2, 3, 3, 4, 3, 4, 4, 5, 3, 4, 4, 5, 4, 5, 5, 6, 3, 4, 4, 5, 4, 5, 5, 6, 4, 5, 5, 6, 5, 6, 6, 7, 3, 4, 4, 5, 4, 5, 5, 6, 4, 5, 5, 6, 5, 6, 6, 7, 4, 5, 5, 6, 5, 6, 6, 7, 5, 6, 6, 7, 6, 7, 7, 8]) : Int))) (
 chk (decide ((0 : Int) ≤ (iand .u32 x 255)) && decide ((iand .u32 x 255) < (ByteArray.size (bytes [0, 1, 1, 2, 1, 2, 2, 3, 1, 2, 2, 3, 2, 3, 3, 4, 1, 2, 2, 3, 2, 3, 3, 4, 2, 3, 3, 4, 3, 4, 4, 5, 1, 2, 2, 3, 2, 3, 3, 4, 2, 3, 3, 4, 3, 4, 4, 5, 2, 3, 3, 4, 3, 4, 4, 5, 3, 4, 4, 5, 4, 5, 5, 6, 1, 2, 2, 3, 2, 3, 3, 4, 2, 3, 3, 4, 3, 4, 4, 5, 2, 3, 3, 4, 3, 4, 4, 5, 3, 4, 4, 5, 4, 5, 5, 6, 2, 3, 3, 4, 3, 4, 4, 5, 3, 4, 4, 5, 4, 5, 5, 6, 3, 4, 4, 5, 4, 5, 5, 6, 4, 5, 5, 6, 5, 6, 6, 7, 1, 2, 2, 3, 2, 3, 3, 4, 2, 3, 3, 4, 3, 4, 4, 5, 2, 3, 3, 4, 3, 4, 4, 5, 3, 4, 4, 5, 4, 5, 5, 6, 2, 3, 3, 4, 3, 4, 4, 5, 3, 4, 4, 5, 4, 5, 5, 6, 3, 4, 4, 5, 4, 5, 5, 6, 4, 5, 5, 6, 5, 6, 6, 7, 2, 3, 3, 4, 3, 4, 4, 5, 3, 4, 4, 5, 4, 5, 5, 6, 3, 4, 4, 5, 4, 5, 5, 6, 4, 5, 5, 6, 5, 6, 6, 7, 3, 4, 4, 5, 4, 5, 5, 6, 4, 5, 5, 6, 5, 6, 6, 7, 4, 5, 5, 6, 5, 6, 6, 7, 5, 6, 6, 7, 6, 7, 7, 8]) : Int))) (
 let t : Int := wi64 (wu8 ((wu8 ((wu8 ((sget (bytes [0, 1, 1, 2, 1, 2, 2, 3, 1, 2, 2, 3, 2, 3, 3, 4, 1, 2, 2, 3, 2, 3, 3, 4, 2, 3, 3, 4, 3, 4, 4, 5, 1, 2, 2, 3, 2, 3, 3, 4, 2, 3, 3, 4, 3, 4, 4, 5, 2, 3, 3, 4, 3, 4, 4, 5, 3, 4, 4, 5, 4, 5, 5, 6, 1, 2, 2, 3, 2, 3, 3, 4, 2, 3, 3, 4, 3, 4, 4, 5, 2, 3, 3, 4, 3, 4, 4, 5, 3, 4, 4, 5, 4, 5, 5, 6, 2, 3, 3, 4, 3, 4, 4, 5, 3, 4, 4, 5, 4, 5, 5, 6, 3, 4, 4, 5, 4, 5, 5, 6, 4, 5, 5, 6, 5, 6, 6, 7, 1, 2, 2, 3, 2, 3, 3, 4, 2, 3, 3, 4, 3, 4, 4, 5, 2, 3, 3, 4, 3, 4, 4, 5, 3, 4, 4, 5, 4, 5, 5, 6, 2, 3, 3, 4, 3, 4, 4, 5, 3, 4, 4, 5, 4, 5, 5, 6, 3, 4, 4, 5, 4, 5, 5, 6, 4, 5, 5, 6, 5, 6, 6, 7, 2, 3, 3, 4, 3, 4, 4, 5, 3, 4, 4, 5, 4, 5, 5, 6, 3, 4, 4, 5, 4, 5, 5, 6, 4, 5, 5, 6, 5, 6, 6, 7, 3, 4, 4, 5, 4, 5, 5, 6, 4, 5, 5, 6, 5, 6, 6, 7, 4, 5, 5, 6, 5, 6, 6, 7, 5, 6, 6, 7, 6, 7, 7, 8]) (ishr .u32 x 24)) + (sget (bytes [0, 1, 1, 2, 1, 2, 2, 3, 1, 2, 2, 3, 2, 3, 3, 4, 1, 2, 2, 3, 2, 3, 3, 4, 2, 3, 3, 4, 3, 4, 4, 5, 1, 2, 2, 3, 2, 3, 3, 4, 2, 3, 3, 4, 3, 4, 4, 5, 2, 3, 3, 4, 3, 4, 4, 5, 3, 4, 4, 5, 4, 5, 5, 6, 1, 2, 2, 3, 2, 3, 3, 4, 2, 3, 3, 4, 3, 4, 4, 5, 2, 3, 3, 4, 3, 4, 4, 5, 3, 4, 4, 5, 4, 5, 5, 6, 2, 3, 3, 4, 3, 4, 4, 5, 3, 4, 4, 5, 4, 5, 5, 6, 3, 4, 4, 5, 4, 5, 5, 6, 4, 5, 5, 6, 5, 6, 6, 7, 1, 2, 2, 3, 2, 3, 3, 4, 2, 3, 3, 4, 3, 4, 4, 5, 2, 3, 3, 4, 3, 4, 4, 5, 3, 4, 4, 5, 4, 5, 5, 6, 2, 3, 3, 4, 3, 4, 4, 5, 3, 4, 4, 5, 4, 5, 5, 6, 3, 4, 4, 5, 4, 5, 5, 6, 4, 5, 5, 6, 5, 6, 6, 7, 2, 3, 3, 4, 3, 4, 4, 5, 3, 4, 4, 5, 4, 5, 5, 6, 3, 4, 4, 5, 4, 5, 5, 6, 4, 5, 5, 6, 5, 6, 6, 7, 3, 4, 4, 5, 4, 5, 5, 6, 4, 5, 5, 6, 5, 6, 6, 7, 4, 5, 5, 6, 5, 6, 6, 7, 5, 6, 6, 7, 6, 7, 7, 8]) (iand .u32 (ishr .u32 x 16) 255)))) + (sget (bytes [0, 1, 1, 2, 1, 2, 2, 3, 1, 2, 2, 3, 2, 3, 3, 4, 1, 2, 2, 3, 2, 3, 3, 4, 2, 3, 3, 4, 3, 4, 4, 5, 1, 2, 2, 3, 2, 3, 3, 4, 2, 3, 3, 4, 3, 4, 4, 5, 2, 3, 3, 4, 3, 4, 4, 5, 3, 4, 4, 5, 4, 5, 5, 6, 1, 2, 2, 3, 2, 3, 3, 4, 2, 3, 3, 4, 3, 4, 4, 5, 2, 3, 3, 4, 3, 4, 4, 5, 3, 4, 4, 5, 4, 5, 5, 6, 2, 3, 3, 4, 3, 4, 4, 5, 3, 4, 4, 5, 4, 5, 5, 6, 3, 4, 4, 5, 4, 5, 5, 6, 4, 5, 5, 6, 5, 6, 6, 7, 1, 2, 2, 3, 2, 3, 3, 4, 2, 3, 3, 4, 3, 4, 4, 5, 2, 3, 3, 4, 3, 4, 4, 5, 3, 4, 4, 5, 4, 5, 5, 6, 2, 3, 3, 4, 3, 4, 4, 5, 3, 4, 4, 5, 4, 5, 5, 6, 3, 4, 4, 5, 4, 5, 5, 6, 4, 5, 5, 6, 5, 6, 6, 7, 2, 3, 3, 4, 3, 4, 4, 5, 3, 4, 4, 5, 4, 5, 5, 6, 3, 4, 4, 5, 4, 5, 5, 6, 4, 5, 5, 6, 5, 6, 6, 7, 3, 4, 4, 5, 4, 5, 5, 6, 4, 5, 5, 6, 5, 6, 6, 7, 4, 5, 5, 6, 5, 6, 6, 7, 5, 6, 6, 7, 6, 7, 7, 8]) (iand .u32 (ishr .u32 x 8) 255)))) + (sget (bytes [0, 1, 1, 2, 1, 2, 2, 3, 1, 2, 2, 3, 2, 3, 3, 4, 1, 2, 2, 3, 2, 3, 3, 4, 2, 3, 3, 4, 3, 4, 4, 5, 1, 2, 2, 3, 2, 3, 3, 4, 2, 3, 3, 4, 3, 4, 4, 5, 2, 3, 3, 4, 3, 4, 4, 5, 3, 4, 4, 5, 4, 5, 5, 6, 1, 2, 2, 3, 2, 3, 3, 4, 2, 3, 3, 4, 3, 4, 4, 5, 2, 3, 3, 4, 3, 4, 4, 5, 3, 4, 4, 5, 4, 5, 5, 6, 2, 3, 3, 4, 3, 4, 4, 5, 3, 4, 4, 5, 4, 5, 5, 6, 3, 4, 4, 5, 4, 5, 5, 6, 4, 5, 5, 6, 5, 6, 6, 7, 1, 2, 2, 3, 2, 3, 3, 4, 2, 3, 3, 4, 3, 4, 4, 5, 2, 3, 3, 4, 3, 4, 4, 5, 3, 4, 4, 5, 4, 5, 5, 6, 2, 3, 3, 4, 3, 4, 4, 5, 3, 4, 4, 5, 4, 5, 5, 6, 3, 4, 4, 5, 4, 5, 5, 6, 4, 5, 5, 6, 5, 6, 6, 7, 2, 3, 3, 4, 3, 4, 4, 5, 3, 4, 4, 5, 4, 5, 5, 6, 3, 4, 4, 5, 4, 5, 5, 6, 4, 5, 5, 6, 5, 6, 6, 7, 3, 4, 4, 5, 4, 5, 5, 6, 4, 5, 5, 6, 5, 6, 6, 7, 4, 5, 5, 6, 5, 6, 6, 7, 5, 6, 6, 7, 6, 7, 7, 8]) (iand .u32 x 255))))
 some t)))))))
noncomputable def bits_OnesCount64 (x : Int) : Option (Int) :=
 chk (decide ((0 : Int) ≤ 1)) (
 let x_1 : Int := wu64 ((iand .u64 (ishr .u64 x 1) 6148914691236517205) + (iand .u64 x 6148914691236517205))
 chk (decide ((0 : Int) ≤ 2)) (
 let x_2 : Int := wu64 ((iand .u64 (ishr .u64 x_1 2) 3689348814741910323) + (iand .u64 x_1 3689348814741910323))
 chk (decide ((0 : Int) ≤ 4)) (
 let x_3 : Int := iand .u64 (wu64 ((ishr .u64 x_2 4) + x_2)) 1085102592571150095
 chk (decide ((0 : Int) ≤ 8)) (
 let x_4 : Int := wu64 (x_3 + (ishr .u64 x_3 8))
 chk (decide ((0 : Int) ≤ 16)) (
 let x_5 : Int := wu64 (x_4 + (ishr .u64 x_4 16))
 chk (decide ((0 : Int) ≤ 32)) (
 let x_6 : Int := wu64 (x_5 + (ishr .u64 x_5 32))
 let t : Int := iand .i64 (wi64 x_6) 127
 some t))))))
noncomputable def bits_OnesCount (x : Int) : Option (Int) :=
 bif false then
 (bits_OnesCount32 (wu32 x)).bind fun (t : Int) =>
 some t
 else
 (bits_OnesCount64 x).bind fun (t_1 : Int) =>
 some t_1
noncomputable def trace_set_has (s : Int) (i : Int) : Option (Bool) :=
 chk (decide ((0 : Int) ≤ i)) (
 let t : Bool := ((iand .u64 (ishr .u64 s i) 1) == 1)
 some t)
noncomputable def trace_evidence_firstWrong (v : Dtrace_evidence) (s : Int) (readings : Int) : Option (Int) :=
 (loopM (S := Int) (R := (Unit) ⊕ (Int)) (fun t =>
 bif decide (t < (List.length v.2.1 : Int)) then
 chk (decide ((0 : Int) ≤ t) && decide (t < (List.length v.2.1 : Int))) (
 (trace_set_has readings t).bind fun (t_1 : Bool) =>
 (bif t_1 then
 chk (decide ((0 : Int) ≤ t) && decide (t < (List.length v.2.2 : Int))) (
 some (((iand .u64 s (lget 0 v.2.1 t)) != 0) != (lget false v.2.2 t)))
 else some false).bind fun (c : Bool) =>
 bif c then
 Option.map Sum.inr (Option.map Sum.inr (
 some t))
 else
 some (.inl (wi64 (t + 1))))
 else
 some (.inr (.inl ()))) 0).bind fun j => match j with
 | .inl _ => (
 some (-1))
 | .inr r => some r
def extL : Nat → Int → Int → Int → List Int
 | 0, s, _, _ => [s]
 | m + 1, s, at_, n => ((List.range (n - at_).toNat).map fun (j : Nat) => extL m (ior .u64 s (ishl .u64 1 (at_ + (j : Int)))) (at_ + (j : Int) + 1) n).flatten
def setsL (n : Int) : List Int := ((List.range (n.toNat + 1)).map fun m => extL m 0 0 n).flatten
noncomputable def explStep (v : Dtrace_evidence) (r : Int) (out : List Int) (s : Int) : Option (Option (List Int)) :=
 (bif decide ((List.length out : Int) > 0) then (bits_OnesCount s).bind fun (a : Int) => (bits_OnesCount (lget 0 out 0)).bind fun (b : Int) => some (decide (a > b)) else some false).bind fun (c : Bool) =>
 bif c then some none
 else (trace_evidence_firstWrong v s r).bind fun (w : Int) =>
 bif decide (w < 0) then (app out [s]).bind fun (o : List Int) => some (some o) else some (some out)
noncomputable def explL (v : Dtrace_evidence) (r : Int) (l : List Int) (out : List Int) : Option (List Int) :=
 match l with
 | [] => some out
 | s :: l => (explStep v r out s).bind fun (o : Option (List Int)) => match o with
 | none => some out
 | some o => explL v r l o
noncomputable def explOk (v : Dtrace_evidence) (r : Int) (l : List Int) : Option Unit :=
 match l with
 | [] => some ()
 | s :: l => (trace_evidence_firstWrong v s r).bind fun (_ : Int) => explOk v r l
noncomputable def trace_evidence_explanations (v : Dtrace_evidence) (r : Int) : Option (List Int) :=
 bif decide ((0 : Int) ≤ v.1) && decide (v.1 ≤ 8) then (explOk v r (setsL v.1)).bind fun (_ : Unit) => explL v r (setsL v.1) [] else none
noncomputable def trace_evidence_every (v : Dtrace_evidence) : Option (Int) :=
 chk (decide ((0 : Int) ≤ (List.length v.2.1 : Int))) (
 let t : Int := ishl .u64 1 (List.length v.2.1 : Int)
 some (wu64 (t - 1)))
noncomputable def trace_set_list (s : Int) : Option ((List Int)) :=
 (loopM (S := (List Int) × Int) (R := (List Int)) (fun s_1 =>
 let out : (List Int) := s_1.1
 let t : Int := s_1.2
 bif decide (t < 64) then
 (trace_set_has s t).bind fun (t_1 : Bool) =>
 (bif t_1 then
 (app out [t]).bind fun (t_2 : List Int) =>
 some t_2
 else
 some out).bind fun (out_1 : (List Int)) =>
 some (.inl (out_1, wi64 (t + 1)))
 else
 some (.inr out)) ([], 0)).bind fun (out_2 : (List Int)) =>
 some out_2
noncomputable def trace_Explanations (c : Dapi_TraceCourse) (l : (List Dapi_TraceCause)) (r : (List Dapi_TraceReading)) : Option ((List (List Int)) × Int) :=
 (trace_openEvidence c l r).bind fun (r_1 : Dtrace_course × Dtrace_evidence × Int) =>
 bif (r_1.2.2 != 0) then
 some ([], r_1.2.2)
 else
 (trace_evidence_every r_1.2.1).bind fun (t : Int) =>
 (trace_evidence_explanations r_1.2.1 t).bind fun (t_1 : (List Int)) =>
 (loopM (S := (List (List Int)) × Int) (R := (List (List Int))) (fun s =>
 let out : (List (List Int)) := s.1
 let t_2 : Int := s.2
 bif decide (t_2 < (List.length t_1 : Int)) then
 chk (decide ((0 : Int) ≤ t_2) && decide (t_2 < (List.length t_1 : Int))) (
 (trace_set_list (lget 0 t_1 t_2)).bind fun (t_3 : (List Int)) =>
 (app out [t_3]).bind fun (t_4 : List (List Int)) =>
 some (.inl (t_4, wi64 (t_2 + 1))))
 else
 some (.inr out)) ([], 0)).bind fun (out_1 : (List (List Int))) =>
 (trace_unless (decide ((List.length out_1 : Int) > 0)) 12).bind fun (t_5 : Int) =>
 some (out_1, t_5)
noncomputable def l9_Causes  : Option ((List Dapi_TraceCause)) :=
 let t : (List Dapi_TraceCause) := [((bytes [97]), (0, (300, (400, 0)))), ((bytes [98]), (1, (900, (1100, 1000))))]
 some t
noncomputable def strconv_Itoa (n : Int) : Option ByteArray := bif decide ((-9223372036854775808 : Int) ≤ n) && decide (n ≤ 9223372036854775807) then some ⟨(Lib.itoa n).toArray⟩ else none
noncomputable def trace_written (f : Dapi_Frac) : Option (ByteArray) :=
 bif (f.2 == 1) then
 (strconv_Itoa f.1).bind fun (t : ByteArray) =>
 some t
 else
 (strconv_Itoa f.1).bind fun (t_1 : ByteArray) =>
 (cat t_1 (bytes [47])).bind fun t_2 =>
 (strconv_Itoa f.2).bind fun (t_3 : ByteArray) =>
 (cat t_2 t_3).bind fun t_4 =>
 some t_4
noncomputable def strings_Join (l : List ByteArray) (s : ByteArray) : Option ByteArray :=
 bif decide (l.length ≤ 4294967296) && decide ((Lib.join (l.map (·.data.toList)) s.data.toList).length ≤ 4294967296) then some ⟨(Lib.join (l.map (·.data.toList)) s.data.toList).toArray⟩ else none
noncomputable def trace_ReportOf (c : Dapi_TraceCourse) (r : (List Dapi_TraceReading)) : Option (ByteArray × Int) :=
 (trace_opened c []).bind fun (r_1 : Dtrace_course × Int) =>
 (bif (r_1.2 == 0) then
 (trace_course_openReadings r_1.1 r).bind fun (t : Int) =>
 some t
 else
 some r_1.2).bind fun (e : Int) =>
 bif (e != 0) then
 some (ByteArray.empty, e)
 else
 (trace_course_last r_1.1).bind fun (t_1 : (List Dtrace_section)) =>
 (trace_strip_length t_1).bind fun (t_2 : Dtrace_ratio) =>
 (trace_small t_2).bind fun (r_2 : Dapi_Frac × Int) =>
 bif (r_2.2 != 0) then
 some (ByteArray.empty, r_2.2)
 else
 (cat c.1 (bytes [32])).bind fun t_3 =>
 (trace_written r_2.1).bind fun (t_4 : ByteArray) =>
 (cat t_3 t_4).bind fun t_5 =>
 (loopM (S := (List ByteArray) × Int) (R := ((List ByteArray)) ⊕ (ByteArray × Int)) (fun s =>
 let parts : (List ByteArray) := s.1
 let t_6 : Int := s.2
 bif decide (t_6 < (List.length r : Int)) then
 chk (decide ((0 : Int) ≤ t_6) && decide (t_6 < (List.length r : Int))) (
 let own : Dapi_TraceReading := lget (0, (0, false)) r t_6
 (strconv_Itoa own.1).bind fun (t_7 : ByteArray) =>
 (strconv_Itoa own.2.1).bind fun (t_8 : ByteArray) =>
 (loopM (S := (List ByteArray) × Int) (R := ((List ByteArray)) ⊕ (((List ByteArray) × Int) ⊕ (((List ByteArray)) ⊕ (ByteArray × Int)))) (fun s_1 =>
 let w : (List ByteArray) := s_1.1
 let t_9 : Int := s_1.2
 bif decide (t_9 < 2) then
 chk (decide ((0 : Int) ≤ t_9) && decide ((t_9 : Int) < 2)) (
 let steps : Int := aget (aset (aset (fun _ => 0) 0 0) 1 (List.length c.2.2.2 : Int)) t_9
 (trace_course_place r_1.1 own steps).bind fun (r_3 : Dtrace_ratio × Bool) =>
 bif !r_3.2 then
 (app w [(bytes [45])]).bind fun (t_10 : List ByteArray) =>
 some (.inl (t_10, wi64 (t_9 + 1)))
 else
 (trace_small r_3.1).bind fun (r_4 : Dapi_Frac × Int) =>
 bif (r_4.2 != 0) then
 Option.map Sum.inr (Option.map Sum.inr (
 Option.map Sum.inr (Option.map Sum.inr (
 some (ByteArray.empty, r_4.2)))))
 else
 (trace_written r_4.1).bind fun (t_11 : ByteArray) =>
 (app w [t_11]).bind fun (t_12 : List ByteArray) =>
 some (.inl (t_12, wi64 (t_9 + 1))))
 else
 some (.inr (.inl w))) ([t_7, t_8], 0)).bind fun j => match j with
 | .inl w_1 => (
 (bif own.2.2 then
 let answer : ByteArray := (bytes [121, 101, 115])
 some answer
 else
 some (bytes [110, 111])).bind fun (answer_1 : ByteArray) =>
 (app w_1 [answer_1]).bind fun (t_13 : List ByteArray) =>
 (strings_Join t_13 (bytes [32])).bind fun (t_14 : ByteArray) =>
 (app parts [t_14]).bind fun (t_15 : List ByteArray) =>
 some (.inl (t_15, wi64 (t_6 + 1))))
 | .inr r => some r)
 else
 some (.inr (.inl parts))) ([t_5], 0)).bind fun j => match j with
 | .inl parts_1 => (
 (strings_Join parts_1 (bytes [59])).bind fun (t_16 : ByteArray) =>
 some (t_16, 0))
 | .inr r => some r
noncomputable def b0_Whole (n : Int) : Option (Dapi_Frac) :=
 some (n, 1)
noncomputable def b0_Ints (a : (List Int)) (b : (List Int)) : Option (Bool) :=
 bif ((List.length a : Int) != (List.length b : Int)) then
 some false
 else
 (loopM (S := Int) (R := (Unit) ⊕ (Bool)) (fun i =>
 bif decide (i < (List.length a : Int)) then
 chk (decide ((0 : Int) ≤ i) && decide (i < (List.length a : Int))) (
 chk (decide ((0 : Int) ≤ i) && decide (i < (List.length b : Int))) (
 bif ((lget 0 a i) != (lget 0 b i)) then
 Option.map Sum.inr (Option.map Sum.inr (
 some false))
 else
 some (.inl (wi64 (i + 1)))))
 else
 some (.inr (.inl ()))) 0).bind fun j => match j with
 | .inl _ => (
 some true)
 | .inr r => some r
noncomputable def b0_Lists (a : (List (List Int))) (b : (List (List Int))) : Option (Bool) :=
 bif ((List.length a : Int) != (List.length b : Int)) then
 some false
 else
 (loopM (S := Int) (R := (Unit) ⊕ (Bool)) (fun i =>
 bif decide (i < (List.length a : Int)) then
 chk (decide ((0 : Int) ≤ i) && decide (i < (List.length a : Int))) (
 chk (decide ((0 : Int) ≤ i) && decide (i < (List.length b : Int))) (
 (b0_Ints (lget [] a i) (lget [] b i)).bind fun (t : Bool) =>
 bif !t then
 Option.map Sum.inr (Option.map Sum.inr (
 some false))
 else
 some (.inl (wi64 (i + 1)))))
 else
 some (.inr (.inl ()))) 0).bind fun j => match j with
 | .inl _ => (
 some true)
 | .inr r => some r
noncomputable def l9_awake  : Option (Bool) :=
 (l9_Course).bind fun (t : Dapi_TraceCourse) =>
 (trace_PlaceOf t (1, (4500, false)) 2).bind fun (r : Dapi_Frac × Int) =>
 (l9_Course).bind fun (t_1 : Dapi_TraceCourse) =>
 (trace_PiecesOf t_1 3000).bind fun (r_1 : (List Dapi_Span) × Int) =>
 (l9_Course).bind fun (t_2 : Dapi_TraceCourse) =>
 (l9_Causes).bind fun (t_3 : (List Dapi_TraceCause)) =>
 (trace_Explanations t_2 t_3 [(1, (1000, true)), (1, (2000, true))]).bind fun (r_2 : (List (List Int)) × Int) =>
 (l9_Course).bind fun (t_4 : Dapi_TraceCourse) =>
 (trace_ReportOf t_4 [(1, (500, false))]).bind fun (r_3 : ByteArray × Int) =>
 (bif (r.2 == 0) then
 (b0_Whole 3500).bind fun (t_5 : Dapi_Frac) =>
 some (Ty.eqb Tapi_Frac r.1 t_5)
 else some false).bind fun (c : Bool) =>
 (bif ((c && (r_1.2 == 0)) && ((List.length r_1.1 : Int) == 2)) then
 chk (decide ((0 : Int) ≤ 1) && decide (1 < (List.length r_1.1 : Int))) (
 some (Ty.eqb Tapi_Span (lget ((0, 0), (0, 0)) r_1.1 1) ((3500, 3), (4000, 3))))
 else some false).bind fun (c_1 : Bool) =>
 (bif (c_1 && (r_2.2 == 0)) then
 (b0_Lists r_2.1 [[1]]).bind fun (t_6 : Bool) =>
 some t_6
 else some false).bind fun (c_2 : Bool) =>
 let t_7 : Bool := ((c_2 && (r_3.2 == 0)) && (seqb r_3.1 (bytes [115, 49, 32, 52, 48, 48, 48, 59, 49, 32, 53, 48, 48, 32, 53, 48, 48, 47, 51, 32, 45, 32, 110, 111])))
 some t_7
noncomputable def l9_Few (c : Dapi_TraceCourse) : Option (Bool) :=
 bif (((((decide ((List.length c.2.1 : Int) > 8)) || (decide ((List.length c.2.2.1 : Int) > 8))) || ((decide ((List.length c.2.2.2 : Int) > 6)) && (decide ((List.length c.2.2.2 : Int) ≤ 10)))) || (decide ((List.length c.2.2.2 : Int) > 12))) || (decide ((ByteArray.size c.1 : Int) > 30))) then
 some false
 else
 (loopM (S := Int) (R := (Unit) ⊕ (Bool)) (fun i =>
 bif decide (i < (List.length c.2.2.2 : Int)) then
 chk (decide ((0 : Int) ≤ i) && decide (i < (List.length c.2.2.2 : Int))) (
 bif decide ((List.length (((lget (0, ([], (0, 0))) c.2.2.2 i).2).1) : Int) > 8) then
 Option.map Sum.inr (Option.map Sum.inr (
 some false))
 else
 some (.inl (wi64 (i + 1))))
 else
 some (.inr (.inl ()))) 0).bind fun j => match j with
 | .inl _ => (
 some true)
 | .inr r => some r
noncomputable def b0_CopyInts (l : (List Int)) : Option ((List Int)) :=
 (app [] l).bind fun (t : List Int) =>
 some t
noncomputable def r9_CopyCourse (c : Dapi_TraceCourse) : Option (Dapi_TraceCourse) :=
 (b0_CopyInts c.2.1).bind fun (t : (List Int)) =>
 (b0_CopyInts c.2.2.1).bind fun (t_1 : (List Int)) =>
 (loopM (S := Int × Dapi_TraceCourse) (R := Dapi_TraceCourse) (fun s =>
 let i : Int := s.1
 let out : Dapi_TraceCourse := s.2
 bif decide (i < (List.length c.2.2.2 : Int)) then
 chk (decide ((0 : Int) ≤ i) && decide (i < (List.length c.2.2.2 : Int))) (
 let s_1 : Dapi_TraceStep := lget (0, ([], (0, 0))) c.2.2.2 i
 (b0_CopyInts s_1.2.1).bind fun (t_2 : (List Int)) =>
 (app out.2.2.2 [(s_1.1, (t_2, s_1.2.2))]).bind fun (t_3 : List Dapi_TraceStep) =>
 some (.inl (wi64 (i + 1), (out.1, (out.2.1, (out.2.2.1, t_3))))))
 else
 some (.inr out)) (0, (c.1, (t, (t_1, []))))).bind fun (out_1 : Dapi_TraceCourse) =>
 some out_1
noncomputable def b0_Within (n : Int) (lo : Int) (hi : Int) : Option (Bool) :=
 let t : Bool := ((decide (lo ≤ n)) && (decide (n ≤ hi)))
 some t
noncomputable def b0_IsName (s : ByteArray) : Option (Bool) :=
 bif ((decide ((ByteArray.size s : Int) < 1)) || (decide ((ByteArray.size s : Int) > 12))) then
 some false
 else
 (loopM (S := Int) (R := (Unit) ⊕ (Bool)) (fun i =>
 bif decide (i < (ByteArray.size s : Int)) then
 chk (decide ((0 : Int) ≤ i) && decide (i < (ByteArray.size s : Int))) (
 let letter : Bool := (((decide ((sget s i) ≥ 97)) && (decide ((sget s i) ≤ 122))) || ((decide ((sget s i) ≥ 65)) && (decide ((sget s i) ≤ 90))))
 bif ((!letter) && ((i == 0) || (((sget s i) != 45) && ((decide ((sget s i) < 48)) || (decide ((sget s i) > 57)))))) then
 Option.map Sum.inr (Option.map Sum.inr (
 some false))
 else
 some (.inl (wi64 (i + 1))))
 else
 some (.inr (.inl ()))) 0).bind fun j => match j with
 | .inl _ => (
 some true)
 | .inr r => some r
noncomputable def b0_trimmed (l : (List Int)) : Option ((List Int)) :=
 let n : Int := (List.length l : Int)
 (loopM (S := Int) (R := Int) (fun n_1 =>
 (bif decide (n_1 > 0) then
 chk (decide ((0 : Int) ≤ (wi64 (n_1 - 1))) && decide ((wi64 (n_1 - 1)) < (List.length l : Int))) (
 some ((lget 0 l (wi64 (n_1 - 1))) == 0))
 else some false).bind fun (c : Bool) =>
 bif c then
 some (.inl (wi64 (n_1 - 1)))
 else
 some (.inr n_1)) n).bind fun (n_2 : Int) =>
 chk (decide ((0 : Int) ≤ 0) && decide ((0 : Int) ≤ n_2) && decide (n_2 ≤ (List.length l : Int))) (
 let t : (List Int) := List.drop (Int.toNat 0) (List.take (Int.toNat n_2) l)
 some t)
noncomputable def b0_wideOf (sign : Int) (l : (List Int)) : Option (Db0_Wide) :=
 (b0_trimmed l).bind fun (t : (List Int)) =>
 (bif ((List.length t : Int) == 0) then
 some 0
 else
 some sign).bind fun (sign_1 : Int) =>
 some (sign_1, t)
noncomputable def b0_Size (n : Int) : Option (Int) :=
 let t : Int := imax n (wi64 (0 - n))
 some t
noncomputable def b0_WideOf (n : Int) : Option (Db0_Wide) :=
 (bif decide (n < 0) then
 some (-1)
 else
 some 1).bind fun (sign : Int) =>
 (loopM (S := Int × (List Int)) (R := (List Int)) (fun s =>
 let n_1 : Int := s.1
 let l : (List Int) := s.2
 bif (n_1 != 0) then
 chk (1000000000 != 0) (
 let t : Int := Int.tmod n_1 1000000000
 (b0_Size t).bind fun (t_1 : Int) =>
 (app l [t_1]).bind fun (t_2 : List Int) =>
 chk (1000000000 != 0) (
 let t_3 : Int := wi64 (Int.tdiv n_1 1000000000)
 some (.inl (t_3, t_2))))
 else
 some (.inr l)) (n, [])).bind fun (l_1 : (List Int)) =>
 (b0_wideOf sign l_1).bind fun (t_4 : Db0_Wide) =>
 some t_4
noncomputable def b0_RatioInt (n : Int) : Option (Db0_Ratio) :=
 (b0_WideOf n).bind fun (t : Db0_Wide) =>
 (b0_WideOf 1).bind fun (t_1 : Db0_Wide) =>
 some (t, t_1)
noncomputable def r9_slab (c : Dapi_TraceCourse) : Option ((List Dr9_Section)) :=
 (loopM (S := (List Dr9_Section) × Int) (R := (List Dr9_Section)) (fun s =>
 let out : (List Dr9_Section) := s.1
 let i : Int := s.2
 bif decide (i < (List.length c.2.1 : Int)) then
 chk (decide ((0 : Int) ≤ i) && decide (i < (List.length c.2.1 : Int))) (
 (b0_RatioInt (lget 0 c.2.1 i)).bind fun (t : Db0_Ratio) =>
 chk (decide ((0 : Int) ≤ i) && decide (i < (List.length c.2.2.1 : Int))) (
 (app out [(t, lget 0 c.2.2.1 i)]).bind fun (t_1 : List Dr9_Section) =>
 some (.inl (t_1, wi64 (i + 1)))))
 else
 some (.inr out)) ([], 0)).bind fun (out_1 : (List Dr9_Section)) =>
 some out_1
noncomputable def b0_WideMul (a : Db0_Wide) (b : Db0_Wide) : Option (Db0_Wide) :=
 chk (decide ((0 : Int) ≤ (wi64 ((wi64 ((List.length a.2 : Int) + (List.length b.2 : Int))) + 1))) && decide ((wi64 ((wi64 ((List.length a.2 : Int) + (List.length b.2 : Int))) + 1)) ≤ 4294967296) && ((wi64 ((wi64 ((List.length a.2 : Int) + (List.length b.2 : Int))) + 1)) == (wi64 ((wi64 ((List.length a.2 : Int) + (List.length b.2 : Int))) + 1)))) (
 (loopM (S := Int × (List Int)) (R := (List Int)) (fun s =>
 let i : Int := s.1
 let t : (List Int) := s.2
 bif decide (i < (List.length a.2 : Int)) then
 (loopM (S := Int × Int × (List Int)) (R := Int × (List Int)) (fun s_1 =>
 let carry : Int := s_1.1
 let k : Int := s_1.2.1
 let t_1 : (List Int) := s_1.2.2
 bif decide (k < (List.length b.2 : Int)) then
 chk (decide ((0 : Int) ≤ (wi64 (i + k))) && decide ((wi64 (i + k)) < (List.length t_1 : Int))) (
 chk (decide ((0 : Int) ≤ i) && decide (i < (List.length a.2 : Int))) (
 chk (decide ((0 : Int) ≤ k) && decide (k < (List.length b.2 : Int))) (
 let s_2 : Int := wi64 ((wi64 ((lget 0 t_1 (wi64 (i + k))) + (wi64 ((lget 0 a.2 i) * (lget 0 b.2 k))))) + carry)
 chk (1000000000 != 0) (
 let t_2 : Int := Int.tmod s_2 1000000000
 chk (1000000000 != 0) (
 let t_3 : Int := wi64 (Int.tdiv s_2 1000000000)
 chk (decide ((0 : Int) ≤ (wi64 (i + k))) && decide ((wi64 (i + k)) < (List.length t_1 : Int))) (
 let t_4 : (List Int) := lset t_1 (wi64 (i + k)) t_2
 some (.inl (t_3, wi64 (k + 1), t_4))))))))
 else
 some (.inr (carry, t_1))) (0, 0, t)).bind fun (b_1 : Int × (List Int)) =>
 let carry_1 : Int := b_1.1
 let t_5 : (List Int) := b_1.2
 chk (decide ((0 : Int) ≤ (wi64 (i + (List.length b.2 : Int)))) && decide ((wi64 (i + (List.length b.2 : Int))) < (List.length t_5 : Int))) (
 chk (decide ((0 : Int) ≤ (wi64 (i + (List.length b.2 : Int)))) && decide ((wi64 (i + (List.length b.2 : Int))) < (List.length t_5 : Int))) (
 let t_6 : (List Int) := lset t_5 (wi64 (i + (List.length b.2 : Int))) (wi64 ((lget 0 t_5 (wi64 (i + (List.length b.2 : Int)))) + carry_1))
 some (.inl (wi64 (i + 1), t_6))))
 else
 some (.inr t)) (0, List.replicate (Int.toNat (wi64 ((wi64 ((List.length a.2 : Int) + (List.length b.2 : Int))) + 1))) 0)).bind fun (t_7 : (List Int)) =>
 (b0_wideOf (wi64 (a.1 * b.1)) t_7).bind fun (t_8 : Db0_Wide) =>
 some t_8)
noncomputable def b0_digit (l : (List Int)) (i : Int) : Option (Int) :=
 bif decide (i < (List.length l : Int)) then
 chk (decide ((0 : Int) ≤ i) && decide (i < (List.length l : Int))) (
 some (lget 0 l i))
 else
 some 0
noncomputable def b0_addDigits (a : (List Int)) (b : (List Int)) : Option ((List Int)) :=
 (loopM (S := (List Int) × Int × Int) (R := (List Int)) (fun s =>
 let out : (List Int) := s.1
 let carry : Int := s.2.1
 let i : Int := s.2.2
 bif (((decide (i < (List.length a : Int))) || (decide (i < (List.length b : Int)))) || (decide (carry > 0))) then
 (b0_digit a i).bind fun (t : Int) =>
 (b0_digit b i).bind fun (t_1 : Int) =>
 let s_1 : Int := wi64 ((wi64 (t + t_1)) + carry)
 chk (1000000000 != 0) (
 let t_2 : Int := Int.tmod s_1 1000000000
 (app out [t_2]).bind fun (t_3 : List Int) =>
 chk (1000000000 != 0) (
 let t_4 : Int := wi64 (Int.tdiv s_1 1000000000)
 some (.inl (t_3, t_4, wi64 (i + 1)))))
 else
 some (.inr out)) ([], 0, 0)).bind fun (out_1 : (List Int)) =>
 some out_1
noncomputable def b0_cmpDigits (a : (List Int)) (b : (List Int)) : Option (Int) :=
 bif ((List.length a : Int) != (List.length b : Int)) then
 bif decide ((List.length a : Int) < (List.length b : Int)) then
 some (-1)
 else
 some 1
 else
 let i : Int := wi64 ((List.length a : Int) - 1)
 (loopM (S := Int) (R := (Unit) ⊕ (Int)) (fun i_1 =>
 bif decide (i_1 ≥ 0) then
 chk (decide ((0 : Int) ≤ i_1) && decide (i_1 < (List.length a : Int))) (
 chk (decide ((0 : Int) ≤ i_1) && decide (i_1 < (List.length b : Int))) (
 bif decide ((lget 0 a i_1) < (lget 0 b i_1)) then
 Option.map Sum.inr (Option.map Sum.inr (
 some (-1)))
 else
 chk (decide ((0 : Int) ≤ i_1) && decide (i_1 < (List.length a : Int))) (
 chk (decide ((0 : Int) ≤ i_1) && decide (i_1 < (List.length b : Int))) (
 bif decide ((lget 0 a i_1) > (lget 0 b i_1)) then
 Option.map Sum.inr (Option.map Sum.inr (
 some 1))
 else
 some (.inl (wi64 (i_1 - 1)))))))
 else
 some (.inr (.inl ()))) i).bind fun j => match j with
 | .inl _ => (
 some 0)
 | .inr r => some r
noncomputable def b0_subDigits (a : (List Int)) (b : (List Int)) : Option ((List Int)) :=
 (loopM (S := (List Int) × Int × Int) (R := (List Int)) (fun s =>
 let out : (List Int) := s.1
 let borrow : Int := s.2.1
 let i : Int := s.2.2
 bif decide (i < (List.length a : Int)) then
 chk (decide ((0 : Int) ≤ i) && decide (i < (List.length a : Int))) (
 (b0_digit b i).bind fun (t : Int) =>
 let s_1 : Int := wi64 ((wi64 ((lget 0 a i) - t)) - borrow)
 (bif decide (s_1 < 0) then
 let s_2 : Int := wi64 (s_1 + 1000000000)
 some (1, s_2)
 else
 some (0, s_1)).bind fun (j : Int × Int) =>
 let borrow_1 : Int := j.1
 let s_3 : Int := j.2
 (app out [s_3]).bind fun (t_1 : List Int) =>
 some (.inl (t_1, borrow_1, wi64 (i + 1))))
 else
 some (.inr out)) ([], 0, 0)).bind fun (out_1 : (List Int)) =>
 (b0_trimmed out_1).bind fun (t_2 : (List Int)) =>
 some t_2
noncomputable def b0_WideAdd (a : Db0_Wide) (b : Db0_Wide) : Option (Db0_Wide) :=
 bif (a.1 == 0) then
 some b
 else
 bif (b.1 == 0) then
 some a
 else
 bif (a.1 == b.1) then
 (b0_addDigits a.2 b.2).bind fun (t : (List Int)) =>
 (b0_wideOf a.1 t).bind fun (t_1 : Db0_Wide) =>
 some t_1
 else
 (b0_cmpDigits a.2 b.2).bind fun (t_2 : Int) =>
 bif (t_2 == 0) then
 some (0, [])
 else
 bif decide (t_2 > 0) then
 (b0_subDigits a.2 b.2).bind fun (t_3 : (List Int)) =>
 (b0_wideOf a.1 t_3).bind fun (t_4 : Db0_Wide) =>
 some t_4
 else
 (b0_subDigits b.2 a.2).bind fun (t_5 : (List Int)) =>
 (b0_wideOf b.1 t_5).bind fun (t_6 : Db0_Wide) =>
 some t_6
noncomputable def b0_WideNeg (a : Db0_Wide) : Option (Db0_Wide) :=
 some (wi64 (0 - a.1), a.2)
noncomputable def b0_WideSub (a : Db0_Wide) (b : Db0_Wide) : Option (Db0_Wide) :=
 (b0_WideNeg b).bind fun (t : Db0_Wide) =>
 (b0_WideAdd a t).bind fun (t_1 : Db0_Wide) =>
 some t_1
noncomputable def b0_WideCmp (a : Db0_Wide) (b : Db0_Wide) : Option (Int) :=
 (b0_WideSub a b).bind fun (t : Db0_Wide) =>
 some t.1
noncomputable def b0_WideSign (a : Db0_Wide) : Option (Int) :=
 some a.1
noncomputable def b0_WideFloor (a : Db0_Wide) (b : Db0_Wide) : Option (Db0_Wide) :=
 bif (a.1 == 0) then
 some (0, [])
 else
 chk (decide ((0 : Int) ≤ (List.length a.2 : Int)) && decide ((List.length a.2 : Int) ≤ 4294967296) && ((List.length a.2 : Int) == (List.length a.2 : Int))) (
 let i : Int := wi64 ((List.length a.2 : Int) - 1)
 (loopM (S := (List Int) × Int × (List Int)) (R := (List Int) × (List Int)) (fun s =>
 let left_ : (List Int) := s.1
 let i_1 : Int := s.2.1
 let t : (List Int) := s.2.2
 bif decide (i_1 ≥ 0) then
 chk (decide ((0 : Int) ≤ i_1) && decide (i_1 < (List.length a.2 : Int))) (
 (app [lget 0 a.2 i_1] left_).bind fun (t_1 : List Int) =>
 (b0_trimmed t_1).bind fun (t_2 : (List Int)) =>
 (loopM (S := Int × Int) (R := Int) (fun s_1 =>
 let lo : Int := s_1.1
 let hi : Int := s_1.2
 bif decide (lo < hi) then
 chk (2 != 0) (
 let t_3 : Int := wi64 (Int.tdiv (wi64 ((wi64 (lo + hi)) + 1)) 2)
 (b0_wideOf 1 b.2).bind fun (t_4 : Db0_Wide) =>
 (b0_WideOf t_3).bind fun (t_5 : Db0_Wide) =>
 (b0_WideMul t_4 t_5).bind fun (t_6 : Db0_Wide) =>
 (b0_cmpDigits t_6.2 t_2).bind fun (t_7 : Int) =>
 (bif decide (t_7 ≤ 0) then
 some (t_3, hi)
 else
 some (lo, wi64 (t_3 - 1))).bind fun (j : Int × Int) =>
 let lo_1 : Int := j.1
 let hi_1 : Int := j.2
 some (.inl (lo_1, hi_1)))
 else
 some (.inr lo)) (0, 999999999)).bind fun (lo_2 : Int) =>
 chk (decide ((0 : Int) ≤ i_1) && decide (i_1 < (List.length t : Int))) (
 (b0_wideOf 1 b.2).bind fun (t_8 : Db0_Wide) =>
 (b0_WideOf lo_2).bind fun (t_9 : Db0_Wide) =>
 (b0_WideMul t_8 t_9).bind fun (t_10 : Db0_Wide) =>
 (b0_subDigits t_2 t_10.2).bind fun (t_11 : (List Int)) =>
 some (.inl (t_11, wi64 (i_1 - 1), lset t i_1 lo_2))))
 else
 some (.inr (left_, t))) ([], i, List.replicate (Int.toNat (List.length a.2 : Int)) 0)).bind fun (b_1 : (List Int) × (List Int)) =>
 let left__1 : (List Int) := b_1.1
 let t_12 : (List Int) := b_1.2
 (b0_wideOf a.1 t_12).bind fun (t_13 : Db0_Wide) =>
 (bif ((decide (a.1 < 0)) && (decide ((List.length left__1 : Int) > 0))) then
 (b0_WideOf 1).bind fun (t_14 : Db0_Wide) =>
 (b0_WideSub t_13 t_14).bind fun (t_15 : Db0_Wide) =>
 some t_15
 else
 some t_13).bind fun (out : Db0_Wide) =>
 some out)
noncomputable def b0_wideSize (a : Db0_Wide) : Option (Db0_Wide) :=
 bif decide (a.1 < 0) then
 (b0_WideNeg a).bind fun (t : Db0_Wide) =>
 some t
 else
 some a
noncomputable def b0_wideGcd (a : Db0_Wide) (b : Db0_Wide) : Option (Db0_Wide) :=
 (b0_wideSize a).bind fun (t : Db0_Wide) =>
 (b0_wideSize b).bind fun (t_1 : Db0_Wide) =>
 (loopM (S := Db0_Wide × Db0_Wide) (R := Db0_Wide) (fun s =>
 let a_1 : Db0_Wide := s.1
 let b_1 : Db0_Wide := s.2
 (b0_WideSign b_1).bind fun (t_2 : Int) =>
 bif (t_2 != 0) then
 (b0_WideFloor a_1 b_1).bind fun (t_3 : Db0_Wide) =>
 (b0_WideMul t_3 b_1).bind fun (t_4 : Db0_Wide) =>
 (b0_WideSub a_1 t_4).bind fun (t_5 : Db0_Wide) =>
 some (.inl (b_1, t_5))
 else
 some (.inr a_1)) (t, t_1)).bind fun (a_2 : Db0_Wide) =>
 some a_2
noncomputable def b0_RatioMake (num : Db0_Wide) (den : Db0_Wide) : Option (Db0_Ratio) :=
 (b0_WideSign den).bind fun (t : Int) =>
 (bif decide (t < 0) then
 (b0_WideNeg num).bind fun (t_1 : Db0_Wide) =>
 (b0_WideNeg den).bind fun (t_2 : Db0_Wide) =>
 some (t_1, t_2)
 else
 some (num, den)).bind fun (j : Db0_Wide × Db0_Wide) =>
 let num_1 : Db0_Wide := j.1
 let den_1 : Db0_Wide := j.2
 (b0_wideGcd num_1 den_1).bind fun (t_3 : Db0_Wide) =>
 (b0_WideOf 1).bind fun (t_4 : Db0_Wide) =>
 (b0_WideCmp t_3 t_4).bind fun (t_5 : Int) =>
 bif (t_5 == 0) then
 some (num_1, den_1)
 else
 (b0_WideFloor num_1 t_3).bind fun (t_6 : Db0_Wide) =>
 (b0_WideFloor den_1 t_3).bind fun (t_7 : Db0_Wide) =>
 some (t_6, t_7)
noncomputable def b0_RatioAdd (a : Db0_Ratio) (b : Db0_Ratio) : Option (Db0_Ratio) :=
 (b0_WideMul a.1 b.2).bind fun (t : Db0_Wide) =>
 (b0_WideMul b.1 a.2).bind fun (t_1 : Db0_Wide) =>
 (b0_WideAdd t t_1).bind fun (t_2 : Db0_Wide) =>
 (b0_WideMul a.2 b.2).bind fun (t_3 : Db0_Wide) =>
 (b0_RatioMake t_2 t_3).bind fun (t_4 : Db0_Ratio) =>
 some t_4
noncomputable def r9_Strip_Length (s : (List Dr9_Section)) : Option (Db0_Ratio) :=
 (b0_RatioInt 0).bind fun (t : Db0_Ratio) =>
 (loopM (S := Int × Db0_Ratio) (R := Db0_Ratio) (fun s_1 =>
 let i : Int := s_1.1
 let at_ : Db0_Ratio := s_1.2
 bif decide (i < (List.length s : Int)) then
 chk (decide ((0 : Int) ≤ i) && decide (i < (List.length s : Int))) (
 (b0_RatioAdd at_ ((lget (((0, []), (0, [])), 0) s i).1)).bind fun (t_1 : Db0_Ratio) =>
 some (.inl (wi64 (i + 1), t_1)))
 else
 some (.inr at_)) (0, t)).bind fun (at__1 : Db0_Ratio) =>
 some at__1
noncomputable def b0_RatioCmp (a : Db0_Ratio) (b : Db0_Ratio) : Option (Int) :=
 (b0_WideMul a.1 b.2).bind fun (t : Db0_Wide) =>
 (b0_WideMul b.1 a.2).bind fun (t_1 : Db0_Wide) =>
 (b0_WideCmp t t_1).bind fun (t_2 : Int) =>
 some t_2
noncomputable def b0_RatioMul (a : Db0_Ratio) (b : Db0_Ratio) : Option (Db0_Ratio) :=
 (b0_WideMul a.1 b.1).bind fun (t : Db0_Wide) =>
 (b0_WideMul a.2 b.2).bind fun (t_1 : Db0_Wide) =>
 (b0_RatioMake t t_1).bind fun (t_2 : Db0_Ratio) =>
 some t_2
noncomputable def b0_RatioOf (num : Int) (den : Int) : Option (Db0_Ratio) :=
 (b0_WideOf num).bind fun (t : Db0_Wide) =>
 (b0_WideOf den).bind fun (t_1 : Db0_Wide) =>
 (b0_RatioMake t t_1).bind fun (t_2 : Db0_Ratio) =>
 some t_2
noncomputable def r9_pass (s : (List Dr9_Section)) (areas : (List Int)) : Option ((List Dr9_Section)) :=
 (loopM (S := (List Dr9_Section) × Int) (R := (List Dr9_Section)) (fun s_1 =>
 let out : (List Dr9_Section) := s_1.1
 let i : Int := s_1.2
 bif decide (i < (List.length s : Int)) then
 chk (decide ((0 : Int) ≤ i) && decide (i < (List.length s : Int))) (
 chk (decide ((0 : Int) ≤ i) && decide (i < (List.length s : Int))) (
 chk (decide ((0 : Int) ≤ i) && decide (i < (List.length areas : Int))) (
 (b0_RatioOf ((lget (((0, []), (0, [])), 0) s i).2) (lget 0 areas i)).bind fun (t : Db0_Ratio) =>
 (b0_RatioMul ((lget (((0, []), (0, [])), 0) s i).1) t).bind fun (t_1 : Db0_Ratio) =>
 chk (decide ((0 : Int) ≤ i) && decide (i < (List.length areas : Int))) (
 (app out [(t_1, lget 0 areas i)]).bind fun (t_2 : List Dr9_Section) =>
 some (.inl (t_2, wi64 (i + 1)))))))
 else
 some (.inr out)) ([], 0)).bind fun (out_1 : (List Dr9_Section)) =>
 some out_1
noncomputable def b0_RatioNeg (a : Db0_Ratio) : Option (Db0_Ratio) :=
 (b0_WideNeg a.1).bind fun (t : Db0_Wide) =>
 some (t, a.2)
noncomputable def b0_RatioSub (a : Db0_Ratio) (b : Db0_Ratio) : Option (Db0_Ratio) :=
 (b0_RatioNeg b).bind fun (t : Db0_Ratio) =>
 (b0_RatioAdd a t).bind fun (t_1 : Db0_Ratio) =>
 some t_1
noncomputable def r9_cut (s : (List Dr9_Section)) (from_ : Int) (to : Int) : Option ((List Dr9_Section)) :=
 (b0_RatioInt from_).bind fun (t : Db0_Ratio) =>
 (b0_RatioInt to).bind fun (t_1 : Db0_Ratio) =>
 (b0_RatioInt 0).bind fun (t_2 : Db0_Ratio) =>
 (loopM (S := (List Dr9_Section) × Int × Db0_Ratio) (R := (List Dr9_Section)) (fun s_1 =>
 let out : (List Dr9_Section) := s_1.1
 let i : Int := s_1.2.1
 let at_ : Db0_Ratio := s_1.2.2
 bif decide (i < (List.length s : Int)) then
 chk (decide ((0 : Int) ≤ i) && decide (i < (List.length s : Int))) (
 (b0_RatioAdd at_ ((lget (((0, []), (0, [])), 0) s i).1)).bind fun (t_3 : Db0_Ratio) =>
 (b0_RatioCmp at_ t).bind fun (t_4 : Int) =>
 (bif decide (t_4 < 0) then
 some t
 else
 some at_).bind fun (lo : Db0_Ratio) =>
 (b0_RatioCmp t_3 t_1).bind fun (t_5 : Int) =>
 (bif decide (t_5 > 0) then
 some t_1
 else
 some t_3).bind fun (hi : Db0_Ratio) =>
 (b0_RatioCmp lo hi).bind fun (t_6 : Int) =>
 (bif decide (t_6 < 0) then
 (b0_RatioSub hi lo).bind fun (t_7 : Db0_Ratio) =>
 chk (decide ((0 : Int) ≤ i) && decide (i < (List.length s : Int))) (
 (app out [(t_7, (lget (((0, []), (0, [])), 0) s i).2)]).bind fun (t_8 : List Dr9_Section) =>
 some t_8)
 else
 some out).bind fun (out_1 : (List Dr9_Section)) =>
 some (.inl (out_1, wi64 (i + 1), t_3)))
 else
 some (.inr out)) ([], 0, t_2)).bind fun (out_2 : (List Dr9_Section)) =>
 some out_2
noncomputable def r9_Strip_Ends (s : (List Dr9_Section)) : Option ((List Db0_Ratio)) :=
 (b0_RatioInt 0).bind fun (t : Db0_Ratio) =>
 (loopM (S := (List Db0_Ratio) × Int × Db0_Ratio) (R := (List Db0_Ratio)) (fun s_1 =>
 let out : (List Db0_Ratio) := s_1.1
 let i : Int := s_1.2.1
 let at_ : Db0_Ratio := s_1.2.2
 bif decide (i < (List.length s : Int)) then
 chk (decide ((0 : Int) ≤ i) && decide (i < (List.length s : Int))) (
 (b0_RatioAdd at_ ((lget (((0, []), (0, [])), 0) s i).1)).bind fun (t_1 : Db0_Ratio) =>
 (app out [t_1]).bind fun (t_2 : List Db0_Ratio) =>
 some (.inl (t_2, wi64 (i + 1), t_1)))
 else
 some (.inr out)) ([], 0, t)).bind fun (out_1 : (List Db0_Ratio)) =>
 some out_1
noncomputable def b0_WideInt (a : Db0_Wide) : Option (Int × Bool) :=
 bif decide ((List.length a.2 : Int) > 2) then
 some (0, false)
 else
 let i : Int := wi64 ((List.length a.2 : Int) - 1)
 (loopM (S := Int × Int) (R := Int) (fun s =>
 let n : Int := s.1
 let i_1 : Int := s.2
 bif decide (i_1 ≥ 0) then
 chk (decide ((0 : Int) ≤ i_1) && decide (i_1 < (List.length a.2 : Int))) (
 let n_1 : Int := wi64 ((wi64 (n * 1000000000)) + (lget 0 a.2 i_1))
 some (.inl (n_1, wi64 (i_1 - 1))))
 else
 some (.inr n)) (0, i)).bind fun (n_2 : Int) =>
 some (wi64 (a.1 * n_2), true)
noncomputable def b0_IsSmall (f : Dapi_Frac) : Option (Bool) :=
 (b0_Within f.1 (-1000000000) 1000000000).bind fun (t : Bool) =>
 (bif t then
 (b0_Within f.2 1 1000000000).bind fun (t_1 : Bool) =>
 some t_1
 else some false).bind fun (c : Bool) =>
 some c
noncomputable def b0_RatioFrac (a : Db0_Ratio) : Option (Dapi_Frac × Bool) :=
 (b0_WideInt a.1).bind fun (r : Int × Bool) =>
 (b0_WideInt a.2).bind fun (r_1 : Int × Bool) =>
 (bif ((!r.2) || (!r_1.2)) then some true else
 (b0_IsSmall (r.1, r_1.1)).bind fun (t : Bool) =>
 some (!t)).bind fun (c : Bool) =>
 bif c then
 some ((0, 0), false)
 else
 some ((r.1, r_1.1), true)
noncomputable def r9_isSmall (x : Db0_Ratio) : Option (Bool) :=
 (b0_RatioFrac x).bind fun (r : Dapi_Frac × Bool) =>
 some r.2
noncomputable def r9_stepErr (s : (List Dr9_Section)) (x : Dapi_TraceStep) : Option ((List Dr9_Section) × Int) :=
 (bif (x.1 == 0) then
 bif ((x.2.2.1 != 0) || (x.2.2.2 != 0)) then
 Option.map Sum.inr (
 some ([], 3))
 else
 bif ((List.length x.2.1 : Int) != (List.length s : Int)) then
 Option.map Sum.inr (
 some ([], 10))
 else
 (loopM (S := Int) (R := (Unit) ⊕ (((List Dr9_Section)) ⊕ ((List Dr9_Section) × Int))) (fun i =>
 bif decide (i < (List.length x.2.1 : Int)) then
 chk (decide ((0 : Int) ≤ i) && decide (i < (List.length x.2.1 : Int))) (
 (b0_Within (lget 0 x.2.1 i) 1 1000).bind fun (t : Bool) =>
 bif !t then
 Option.map Sum.inr (Option.map Sum.inr (
 Option.map Sum.inr (
 some ([], 2))))
 else
 some (.inl (wi64 (i + 1))))
 else
 some (.inr (.inl ()))) 0).bind fun j => match j with
 | .inl _ => (
 (r9_pass s x.2.1).bind fun (t_1 : (List Dr9_Section)) =>
 some (.inl t_1))
 | .inr r => some r
 else
 bif (x.1 == 1) then
 bif ((List.length x.2.1 : Int) != 0) then
 Option.map Sum.inr (
 some ([], 3))
 else
 (b0_Within x.2.2.1 0 1000000).bind fun (t_2 : Bool) =>
 (bif !t_2 then some true else
 (b0_Within x.2.2.2 0 1000000).bind fun (t_3 : Bool) =>
 some (!t_3)).bind fun (c : Bool) =>
 bif c then
 Option.map Sum.inr (
 some ([], 2))
 else
 bif decide (x.2.2.1 ≥ x.2.2.2) then
 Option.map Sum.inr (
 some ([], 9))
 else
 (b0_RatioInt x.2.2.2).bind fun (t_4 : Db0_Ratio) =>
 (r9_Strip_Length s).bind fun (t_5 : Db0_Ratio) =>
 (b0_RatioCmp t_4 t_5).bind fun (t_6 : Int) =>
 bif decide (t_6 > 0) then
 Option.map Sum.inr (
 some ([], 6))
 else
 (r9_cut s x.2.2.1 x.2.2.2).bind fun (t_7 : (List Dr9_Section)) =>
 some (.inl t_7)
 else
 Option.map Sum.inr (
 some ([], 15)) : Option (((List Dr9_Section)) ⊕ ((List Dr9_Section) × Int))).bind fun j => match j with
 | .inl out => (
 (r9_Strip_Ends out).bind fun (t_8 : (List Db0_Ratio)) =>
 (loopM (S := Int) (R := (Unit) ⊕ ((List Dr9_Section) × Int)) (fun i_1 =>
 bif decide (i_1 < (List.length out : Int)) then
 chk (decide ((0 : Int) ≤ i_1) && decide (i_1 < (List.length out : Int))) (
 (r9_isSmall ((lget (((0, []), (0, [])), 0) out i_1).1)).bind fun (t_9 : Bool) =>
 (bif !t_9 then some true else
 chk (decide ((0 : Int) ≤ i_1) && decide (i_1 < (List.length t_8 : Int))) (
 (r9_isSmall (lget ((0, []), (0, [])) t_8 i_1)).bind fun (t_10 : Bool) =>
 some (!t_10))).bind fun (c_1 : Bool) =>
 bif c_1 then
 Option.map Sum.inr (Option.map Sum.inr (
 some ([], 8)))
 else
 some (.inl (wi64 (i_1 + 1))))
 else
 some (.inr (.inl ()))) 0).bind fun j => match j with
 | .inl _ => (
 some (out, 0))
 | .inr r => some r)
 | .inr r => some r
noncomputable def r9_CheckCourse (c : Dapi_TraceCourse) : Option (Int × Int) :=
 (b0_IsName c.1).bind fun (t : Bool) =>
 bif !t then
 some (0, 4)
 else
 bif (((List.length c.2.1 : Int) == 0) || ((List.length c.2.2.1 : Int) != (List.length c.2.1 : Int))) then
 some (0, 10)
 else
 bif decide ((List.length c.2.1 : Int) > 6) then
 some (0, 8)
 else
 (loopM (S := Int) (R := (Unit) ⊕ (Int × Int)) (fun i =>
 bif decide (i < (List.length c.2.1 : Int)) then
 chk (decide ((0 : Int) ≤ i) && decide (i < (List.length c.2.1 : Int))) (
 (b0_Within (lget 0 c.2.1 i) 1 20000).bind fun (t_1 : Bool) =>
 (bif !t_1 then some true else
 chk (decide ((0 : Int) ≤ i) && decide (i < (List.length c.2.2.1 : Int))) (
 (b0_Within (lget 0 c.2.2.1 i) 1 1000).bind fun (t_2 : Bool) =>
 some (!t_2))).bind fun (c_1 : Bool) =>
 bif c_1 then
 Option.map Sum.inr (Option.map Sum.inr (
 some (0, 2)))
 else
 some (.inl (wi64 (i + 1))))
 else
 some (.inr (.inl ()))) 0).bind fun j => match j with
 | .inl _ => (
 bif decide ((List.length c.2.2.2 : Int) > 10) then
 some (0, 8)
 else
 (r9_slab c).bind fun (t_3 : (List Dr9_Section)) =>
 (loopM (S := (List Dr9_Section) × Int) (R := (Unit) ⊕ (Int × Int)) (fun s =>
 let s_1 : (List Dr9_Section) := s.1
 let i_1 : Int := s.2
 bif decide (i_1 < (List.length c.2.2.2 : Int)) then
 chk (decide ((0 : Int) ≤ i_1) && decide (i_1 < (List.length c.2.2.2 : Int))) (
 (r9_stepErr s_1 (lget (0, ([], (0, 0))) c.2.2.2 i_1)).bind fun (r : (List Dr9_Section) × Int) =>
 bif (r.2 != 0) then
 Option.map Sum.inr (Option.map Sum.inr (
 some (i_1, r.2)))
 else
 some (.inl (r.1, wi64 (i_1 + 1))))
 else
 some (.inr (.inl ()))) (t_3, 0)).bind fun j => match j with
 | .inl _ => (
 some (0, 0))
 | .inr r => some r)
 | .inr r => some r
noncomputable def r9_CourseErr (c : Dapi_TraceCourse) : Option (Int) :=
 (r9_CheckCourse c).bind fun (r : Int × Int) =>
 some r.2
noncomputable def r9_strips (c : Dapi_TraceCourse) (steps : Int) : Option ((List (List Dr9_Section))) :=
 (r9_slab c).bind fun (t : (List Dr9_Section)) =>
 (loopM (S := (List (List Dr9_Section)) × Int) (R := (List (List Dr9_Section))) (fun s =>
 let out : (List (List Dr9_Section)) := s.1
 let i : Int := s.2
 bif decide (i < steps) then
 chk (decide ((0 : Int) ≤ i) && decide (i < (List.length c.2.2.2 : Int))) (
 let x : Dapi_TraceStep := lget (0, ([], (0, 0))) c.2.2.2 i
 (bif (x.1 == 0) then
 chk (decide ((0 : Int) ≤ i) && decide (i < (List.length out : Int))) (
 (r9_pass (lget [] out i) x.2.1).bind fun (t_1 : (List Dr9_Section)) =>
 (app out [t_1]).bind fun (t_2 : List (List Dr9_Section)) =>
 some t_2)
 else
 chk (decide ((0 : Int) ≤ i) && decide (i < (List.length out : Int))) (
 (r9_cut (lget [] out i) x.2.2.1 x.2.2.2).bind fun (t_3 : (List Dr9_Section)) =>
 (app out [t_3]).bind fun (t_4 : List (List Dr9_Section)) =>
 some t_4)).bind fun (out_1 : (List (List Dr9_Section))) =>
 some (.inl (out_1, wi64 (i + 1))))
 else
 some (.inr out)) ([t], 0)).bind fun (out_2 : (List (List Dr9_Section))) =>
 some out_2
noncomputable def r9_After (c : Dapi_TraceCourse) (steps : Int) : Option ((List Dr9_Section)) :=
 (r9_strips c steps).bind fun (t : (List (List Dr9_Section))) =>
 chk (decide ((0 : Int) ≤ steps) && decide (steps < (List.length t : Int))) (
 some (lget [] t steps))
noncomputable def b0_RatioDiv (a : Db0_Ratio) (b : Db0_Ratio) : Option (Db0_Ratio) :=
 (b0_WideMul a.1 b.2).bind fun (t : Db0_Wide) =>
 (b0_WideMul a.2 b.1).bind fun (t_1 : Db0_Wide) =>
 (b0_RatioMake t t_1).bind fun (t_2 : Db0_Ratio) =>
 some t_2
noncomputable def r9_through (a : (List Dr9_Section)) (b : (List Dr9_Section)) (x : Db0_Ratio) : Option (Db0_Ratio) :=
 (b0_RatioInt 0).bind fun (t : Db0_Ratio) =>
 (b0_RatioInt 0).bind fun (t_1 : Db0_Ratio) =>
 (loopM (S := Int × Db0_Ratio × Db0_Ratio) (R := (Db0_Ratio) ⊕ (Db0_Ratio)) (fun s =>
 let i : Int := s.1
 let from_ : Db0_Ratio := s.2.1
 let to : Db0_Ratio := s.2.2
 bif decide (i < (List.length a : Int)) then
 chk (decide ((0 : Int) ≤ i) && decide (i < (List.length a : Int))) (
 (b0_RatioAdd from_ ((lget (((0, []), (0, [])), 0) a i).1)).bind fun (t_2 : Db0_Ratio) =>
 (bif (i == (wi64 ((List.length a : Int) - 1))) then some true else
 (b0_RatioCmp x t_2).bind fun (t_3 : Int) =>
 some (decide (t_3 ≤ 0))).bind fun (c : Bool) =>
 bif c then
 (b0_RatioSub x from_).bind fun (t_4 : Db0_Ratio) =>
 chk (decide ((0 : Int) ≤ i) && decide (i < (List.length b : Int))) (
 (b0_RatioMul t_4 ((lget (((0, []), (0, [])), 0) b i).1)).bind fun (t_5 : Db0_Ratio) =>
 chk (decide ((0 : Int) ≤ i) && decide (i < (List.length a : Int))) (
 (b0_RatioDiv t_5 ((lget (((0, []), (0, [])), 0) a i).1)).bind fun (t_6 : Db0_Ratio) =>
 (b0_RatioAdd to t_6).bind fun (t_7 : Db0_Ratio) =>
 Option.map Sum.inr (Option.map Sum.inr (
 some t_7))))
 else
 chk (decide ((0 : Int) ≤ i) && decide (i < (List.length b : Int))) (
 (b0_RatioAdd to ((lget (((0, []), (0, [])), 0) b i).1)).bind fun (t_8 : Db0_Ratio) =>
 some (.inl (wi64 (i + 1), t_2, t_8))))
 else
 some (.inr (.inl to))) (0, t, t_1)).bind fun j => match j with
 | .inl to_1 => (
 some to_1)
 | .inr r => some r
noncomputable def r9_Move (c : Dapi_TraceCourse) (x : Db0_Ratio) (from_ : Int) (to : Int) : Option (Db0_Ratio × Bool) :=
 (r9_strips c (imax from_ to)).bind fun (t : (List (List Dr9_Section))) =>
 (loopM (S := Int × Db0_Ratio) (R := Db0_Ratio) (fun s =>
 let k : Int := s.1
 let x_1 : Db0_Ratio := s.2
 bif decide (k > to) then
 chk (decide ((0 : Int) ≤ (wi64 (k - 1))) && decide ((wi64 (k - 1)) < (List.length c.2.2.2 : Int))) (
 let step : Dapi_TraceStep := lget (0, ([], (0, 0))) c.2.2.2 (wi64 (k - 1))
 (bif (step.1 == 1) then
 (b0_RatioInt step.2.2.1).bind fun (t_1 : Db0_Ratio) =>
 (b0_RatioAdd x_1 t_1).bind fun (t_2 : Db0_Ratio) =>
 some t_2
 else
 chk (decide ((0 : Int) ≤ k) && decide (k < (List.length t : Int))) (
 chk (decide ((0 : Int) ≤ (wi64 (k - 1))) && decide ((wi64 (k - 1)) < (List.length t : Int))) (
 (r9_through (lget [] t k) (lget [] t (wi64 (k - 1))) x_1).bind fun (t_3 : Db0_Ratio) =>
 some t_3))).bind fun (x_2 : Db0_Ratio) =>
 some (.inl (wi64 (k - 1), x_2)))
 else
 some (.inr x_1)) (from_, x)).bind fun (x_3 : Db0_Ratio) =>
 (loopM (S := Int × Db0_Ratio) (R := (Db0_Ratio) ⊕ (Db0_Ratio × Bool)) (fun s_1 =>
 let k_1 : Int := s_1.1
 let x_4 : Db0_Ratio := s_1.2
 bif decide (k_1 < to) then
 chk (decide ((0 : Int) ≤ k_1) && decide (k_1 < (List.length c.2.2.2 : Int))) (
 let step_1 : Dapi_TraceStep := lget (0, ([], (0, 0))) c.2.2.2 k_1
 (bif (step_1.1 == 1) then
 (b0_RatioInt step_1.2.2.1).bind fun (t_4 : Db0_Ratio) =>
 (b0_RatioCmp x_4 t_4).bind fun (t_5 : Int) =>
 (bif decide (t_5 < 0) then some true else
 (b0_RatioInt step_1.2.2.2).bind fun (t_6 : Db0_Ratio) =>
 (b0_RatioCmp x_4 t_6).bind fun (t_7 : Int) =>
 some (decide (t_7 > 0))).bind fun (c_1 : Bool) =>
 bif c_1 then
 Option.map Sum.inr (
 Option.map Sum.inr (Option.map Sum.inr (
 some (((0, []), (0, [])), false))))
 else
 (b0_RatioInt step_1.2.2.1).bind fun (t_8 : Db0_Ratio) =>
 (b0_RatioSub x_4 t_8).bind fun (t_9 : Db0_Ratio) =>
 some (.inl t_9)
 else
 chk (decide ((0 : Int) ≤ k_1) && decide (k_1 < (List.length t : Int))) (
 chk (decide ((0 : Int) ≤ (wi64 (k_1 + 1))) && decide ((wi64 (k_1 + 1)) < (List.length t : Int))) (
 (r9_through (lget [] t k_1) (lget [] t (wi64 (k_1 + 1))) x_4).bind fun (t_10 : Db0_Ratio) =>
 some (.inl t_10))) : Option ((Db0_Ratio) ⊕ ((Int × Db0_Ratio) ⊕ ((Db0_Ratio) ⊕ (Db0_Ratio × Bool))))).bind fun j => match j with
 | .inl x_5 => (
 some (.inl (wi64 (k_1 + 1), x_5)))
 | .inr r => some r)
 else
 some (.inr (.inl x_4))) (from_, x_3)).bind fun j => match j with
 | .inl x_6 => (
 some (x_6, true))
 | .inr r => some r
noncomputable def r9_StepsErr (c : Dapi_TraceCourse) (steps : Int) : Option (Int) :=
 (b0_Within steps 0 (List.length c.2.2.2 : Int)).bind fun (t : Bool) =>
 bif !t then
 some 2
 else
 some 0
noncomputable def r9_ReadingErr (c : Dapi_TraceCourse) (r : Dapi_TraceReading) : Option (Int) :=
 (r9_StepsErr c r.1).bind fun (t : Int) =>
 bif (t != 0) then
 some t
 else
 (bif decide (r.2.1 < 0) then some true else
 (b0_RatioInt r.2.1).bind fun (t_1 : Db0_Ratio) =>
 (r9_After c r.1).bind fun (t_2 : (List Dr9_Section)) =>
 (r9_Strip_Length t_2).bind fun (t_3 : Db0_Ratio) =>
 (b0_RatioCmp t_1 t_3).bind fun (t_4 : Int) =>
 some (decide (t_4 > 0))).bind fun (c_1 : Bool) =>
 bif c_1 then
 some 6
 else
 some 0
noncomputable def r9_PlaceOf (c : Dapi_TraceCourse) (r : Dapi_TraceReading) (steps : Int) : Option (Dapi_Frac × Int) :=
 (b0_RatioInt r.2.1).bind fun (t : Db0_Ratio) =>
 (r9_Move c t r.1 steps).bind fun (r_1 : Db0_Ratio × Bool) =>
 bif !r_1.2 then
 some ((0, 0), 12)
 else
 (b0_RatioFrac r_1.1).bind fun (r_2 : Dapi_Frac × Bool) =>
 bif !r_2.2 then
 some ((0, 0), 8)
 else
 some (r_2.1, 0)
end Go.Lift
