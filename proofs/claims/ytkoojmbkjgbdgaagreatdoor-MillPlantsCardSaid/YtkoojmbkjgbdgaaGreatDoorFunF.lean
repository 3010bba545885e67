/-
  The functions that the laws of the chapter reach, as plain functions.
-/
import Derived.Test.YtkoojmbkjgbdgaaGreatDoorLiftJ
import Derived.Lib.Join
import Derived.Lib.ItoaNum
import Derived.Test.YtkoojmbkjgbdgaaGreatDoorLiftN
set_option linter.unusedSectionVars false
set_option linter.unusedVariables false
set_option linter.unusedSimpArgs false
namespace Go.Lift
open Go
def wi64 (x : Int) : Int := IntKind.i64.wrap x
def wu8 (x : Int) : Int := IntKind.u8.wrap x
def bytes (l : List UInt8) : ByteArray := ⟨l.toArray⟩
end Go.Lift
namespace Go.Lift
abbrev Tapi_MillPerson : Ty := .pair .str (.int .i64)
abbrev Dapi_MillPerson : Type := (ByteArray × Int)
abbrev Tapi_MillPlant : Ty := .pair (.slice Tapi_MillPerson) (.pair (.slice .str) (.pair .str .str))
abbrev Dapi_MillPlant : Type := ((List Dapi_MillPerson) × ((List ByteArray) × (ByteArray × ByteArray)))
abbrev Tapi_ModelCorrection : Ty := .pair (.int .i64) (.int .i64)
abbrev Dapi_ModelCorrection : Type := (Int × Int)
abbrev Tpass_draught : Ty := .pair (.int .i64) Tapi_ModelCorrection
abbrev Dpass_draught : Type := (Int × Dapi_ModelCorrection)
abbrev Tapi_PassStand : Ty := .pair (.int .i64) (.pair (.int .i64) Tpass_draught)
abbrev Dapi_PassStand : Type := (Int × (Int × Dpass_draught))
abbrev Tapi_Span : Ty := .pair Tapi_ModelCorrection Tapi_ModelCorrection
abbrev Dapi_Span : Type := (Dapi_ModelCorrection × Dapi_ModelCorrection)
abbrev Tapi_PassRules : Ty := .pair (.int .i64) (.pair (.int .i64) (.pair (.int .i64) (.pair Tapi_ModelCorrection (.pair (.int .i64) (.pair (.slice Tapi_PassStand) Tapi_Span)))))
abbrev Dapi_PassRules : Type := (Int × (Int × (Int × (Dapi_ModelCorrection × (Int × ((List Dapi_PassStand) × Dapi_Span))))))
abbrev Tpass_margin : Ty := .pair Tapi_ModelCorrection (.int .i64)
abbrev Dpass_margin : Type := (Dapi_ModelCorrection × Int)
abbrev Tapi_ModelRules : Ty := .pair (.slice Tapi_ModelCorrection) (.pair Tapi_ModelCorrection Tpass_margin)
abbrev Dapi_ModelRules : Type := ((List Dapi_ModelCorrection) × (Dapi_ModelCorrection × Dpass_margin))
abbrev Tmill_works : Ty := .pair Tapi_MillPlant (.pair Tapi_PassRules Tapi_ModelRules)
abbrev Dmill_works : Type := (Dapi_MillPlant × (Dapi_PassRules × Dapi_ModelRules))
abbrev Tapi_CampaignOrder : Ty := .pair .str (.pair (.int .i64) (.pair (.int .i64) (.pair (.int .i64) (.pair (.int .i64) Tpass_margin))))
abbrev Tapi_PassSchedule : Ty := .pair .str (.slice (.int .i64))
abbrev Tapi_MillOrder : Ty := .pair Tapi_CampaignOrder (.pair .bool Tapi_PassSchedule)
abbrev Tapi_CampaignSlab : Ty := .pair .str (.pair (.int .i64) Tpass_draught)
abbrev Tapi_MillSlab : Ty := .pair Tapi_CampaignSlab Tapi_MillPerson
abbrev Tapi_TraceStep : Ty := .pair (.int .i64) (.pair (.slice (.int .i64)) Tapi_ModelCorrection)
abbrev Tapi_TraceCourse : Ty := .pair .str (.pair (.slice (.int .i64)) (.pair (.slice (.int .i64)) (.slice Tapi_TraceStep)))
abbrev Tapi_TraceReading : Ty := .pair (.int .i64) (.pair (.int .i64) .bool)
abbrev Tapi_MillCoil : Ty := .pair .str (.pair .str (.pair Tapi_TraceCourse (.pair (.slice Tapi_TraceReading) (.pair .bool .bool))))
abbrev Ttrace_ratio : Ty := .pair .bool (.pair (.slice (.int .u32)) (.slice (.int .u32)))
abbrev Ttrace_section : Ty := .pair (.arr 2 Ttrace_ratio) (.pair (.arr 2 Ttrace_ratio) Tapi_ModelCorrection)
abbrev Ttrace_course : Ty := .pair Tapi_TraceCourse (.slice (.slice Ttrace_section))
abbrev Tapi_MillEntry : Ty := .pair (.int .i64) (.pair .str .str)
abbrev Tpass_mill : Ty := .pair Tapi_PassRules (.slice Tapi_ModelCorrection)
abbrev Tapi_ModelCoil : Ty := .pair .str (.slice Tapi_ModelCorrection)
abbrev Tmodel_rules : Ty := .pair Tapi_ModelRules (.slice Tapi_ModelCorrection)
abbrev Truntime_boundsError : Ty := .pair (.int .i64) (.pair (.int .i64) (.pair .bool (.int .u8)))
abbrev Truntime_errorAddressString : Ty := .pair .str (.int .u64)
abbrev Tapi_MillLine : Ty := .pair .str (.pair (.int .i64) (.pair (.int .i64) (.pair (.slice .bool) (.pair (.slice .bool) (.pair (.slice (.int .i64)) (.pair .bool (.int .i64)))))))
abbrev Tapi_MillState : Ty := .pair Tapi_MillLine (.pair (.slice Tapi_MillOrder) (.pair (.slice Tapi_MillSlab) (.pair (.slice Tapi_MillCoil) Tapi_ModelCorrection)))
abbrev Tmill_Desk : Ty := .pair Tapi_MillPlant (.slice Tapi_MillEntry)
abbrev Tmill_line : Ty := .pair Tmill_works Tapi_MillState
abbrev Tmill_command : Ty := .pair (.slice .str) (.pair (.slice (.int .i64)) .str)
abbrev Tstrconv_NumError : Ty := .pair .str (.pair .str .err)
abbrev Tcampaign_reader : Ty := .pair (.slice .str) (.int .i64)
abbrev Terrors_errorString : Ty := .one .str
abbrev Tutf8_acceptRange : Ty := .pair (.int .u8) (.int .u8)
noncomputable def mill_first (l : (List Int)) : Option (Int) :=
 (loopM (S := Int) (R := (Unit) ⊕ (Int)) (fun t =>
 bif decide (t < (List.length l : Int)) then
 chk (decide ((0 : Int) ≤ t) && decide (t < (List.length l : Int))) (
 bif ((lget 0 l t) != 0) then
 Option.map Sum.inr (Option.map Sum.inr (
 some (lget 0 l t)))
 else
 some (.inl (wi64 (t + 1))))
 else
 some (.inr (.inl ()))) 0).bind fun j => match j with
 | .inl _ => (
 some 0)
 | .inr r => some r
noncomputable def mill_unless (is : Bool) (e : Int) : Option (Int) :=
 bif is then
 some 0
 else
 some e
noncomputable def mill_within (n : Int) (lo : Int) (hi : Int) : Option (Bool) :=
 let t : Bool := ((decide (lo ≤ n)) && (decide (n ≤ hi)))
 some t
noncomputable def mill_open_1 (x : Dapi_MillPerson) : Option (Int) :=
 (mill_within x.2 0 3).bind fun (t : Bool) =>
 (mill_unless t 15).bind fun (t_1 : Int) =>
 some t_1
noncomputable def mill_isName (s : ByteArray) : Option (Bool) :=
 (loopM (S := Int) (R := (Unit) ⊕ (Bool)) (fun t =>
 bif decide (t < (List.length (sbytes s) : Int)) then
 chk (decide ((0 : Int) ≤ t) && decide (t < (List.length (sbytes s) : Int))) (
 let c : Int := lget 0 (sbytes s) t
 let letter : Bool := (((decide (c ≥ 97)) && (decide (c ≤ 122))) || ((decide (c ≥ 65)) && (decide (c ≤ 90))))
 (bif !letter then
 (bif (t == 0) then some true else
 (bif (c != 45) then
 (mill_within (wi64 c) 48 57).bind fun (t_1 : Bool) =>
 some (!t_1)
 else some false).bind fun (c_1 : Bool) =>
 some c_1).bind fun (c_2 : Bool) =>
 some c_2
 else some false).bind fun (c_3 : Bool) =>
 bif c_3 then
 Option.map Sum.inr (Option.map Sum.inr (
 some false))
 else
 some (.inl (wi64 (t + 1))))
 else
 some (.inr (.inl ()))) 0).bind fun j => match j with
 | .inl _ => (
 (mill_within (ByteArray.size s : Int) 1 12).bind fun (t_2 : Bool) =>
 some t_2)
 | .inr r => some r
noncomputable def slices_Index_string (s : (List ByteArray)) (v : ByteArray) : Option (Int) :=
 (loopM (S := Int) (R := (Unit) ⊕ (Int)) (fun t =>
 bif decide (t < (List.length s : Int)) then
 chk (decide ((0 : Int) ≤ t) && decide (t < (List.length s : Int))) (
 bif seqb v (lget ByteArray.empty s t) then
 Option.map Sum.inr (Option.map Sum.inr (
 some t))
 else
 some (.inl (wi64 (t + 1))))
 else
 some (.inr (.inl ()))) 0).bind fun j => match j with
 | .inl _ => (
 some (-1))
 | .inr r => some r
noncomputable def slices_Contains_string (s : (List ByteArray)) (v : ByteArray) : Option (Bool) :=
 (slices_Index_string s v).bind fun (t : Int) =>
 some (decide (t ≥ 0))
noncomputable def mill_named_apiMillPerson (l : (List Dapi_MillPerson)) (name : (Dapi_MillPerson → Option ByteArray)) (err : (Dapi_MillPerson → Option Int)) : Option (Int × Int) :=
 (loopM (S := (List ByteArray) × Int) (R := (Unit) ⊕ (Int × Int)) (fun s =>
 let known : (List ByteArray) := s.1
 let t : Int := s.2
 bif decide (t < (List.length l : Int)) then
 chk (decide ((0 : Int) ≤ t) && decide (t < (List.length l : Int))) (
 let x : Dapi_MillPerson := lget (ByteArray.empty, 0) l t
 (name x).bind fun (t_1 : ByteArray) =>
 (mill_isName t_1).bind fun (t_2 : Bool) =>
 (mill_unless t_2 4).bind fun (t_3 : Int) =>
 (slices_Contains_string known t_1).bind fun (t_4 : Bool) =>
 (mill_unless (!t_4) 5).bind fun (t_5 : Int) =>
 (err x).bind fun (t_6 : Int) =>
 (mill_first [t_3, t_5, t_6]).bind fun (t_7 : Int) =>
 bif (t_7 != 0) then
 Option.map Sum.inr (Option.map Sum.inr (
 some (t, t_7)))
 else
 (app known [t_1]).bind fun (t_8 : List ByteArray) =>
 some (.inl (t_8, wi64 (t + 1))))
 else
 some (.inr (.inl ()))) ([], 0)).bind fun j => match j with
 | .inl _ => (
 some (0, 0))
 | .inr r => some r
noncomputable def mill_open_2 (x : Dapi_MillPerson) : Option (ByteArray) :=
 some x.1
noncomputable def mill_named_string (l : (List ByteArray)) (name : (ByteArray → Option ByteArray)) (err : (ByteArray → Option Int)) : Option (Int × Int) :=
 (loopM (S := (List ByteArray) × Int) (R := (Unit) ⊕ (Int × Int)) (fun s =>
 let known : (List ByteArray) := s.1
 let t : Int := s.2
 bif decide (t < (List.length l : Int)) then
 chk (decide ((0 : Int) ≤ t) && decide (t < (List.length l : Int))) (
 let x : ByteArray := lget ByteArray.empty l t
 (name x).bind fun (t_1 : ByteArray) =>
 (mill_isName t_1).bind fun (t_2 : Bool) =>
 (mill_unless t_2 4).bind fun (t_3 : Int) =>
 (slices_Contains_string known t_1).bind fun (t_4 : Bool) =>
 (mill_unless (!t_4) 5).bind fun (t_5 : Int) =>
 (err x).bind fun (t_6 : Int) =>
 (mill_first [t_3, t_5, t_6]).bind fun (t_7 : Int) =>
 bif (t_7 != 0) then
 Option.map Sum.inr (Option.map Sum.inr (
 some (t, t_7)))
 else
 (app known [t_1]).bind fun (t_8 : List ByteArray) =>
 some (.inl (t_8, wi64 (t + 1))))
 else
 some (.inr (.inl ()))) ([], 0)).bind fun j => match j with
 | .inl _ => (
 some (0, 0))
 | .inr r => some r
noncomputable def mill_open_3 (s : ByteArray) : Option (ByteArray) :=
 some s
noncomputable def mill_open_4 (x : ByteArray) : Option (Int) :=
 some 0
noncomputable def strings_Split (s sep : ByteArray) : Option (List ByteArray) := splitF sep s
noncomputable def strconv_Itoa (n : Int) : Option ByteArray := bif decide ((-9223372036854775808 : Int) ≤ n) && decide (n ≤ 9223372036854775807) then some ⟨(Lib.itoa n).toArray⟩ else none
noncomputable def strconv_Atoi (s : ByteArray) : Option (Int × Bool) := atoiF s
noncomputable def pass_numbers (words : (List ByteArray)) : Option ((List Int) × Bool) :=
 (loopM (S := (List Int) × Int) (R := ((List Int)) ⊕ ((List Int) × Bool)) (fun s =>
 let out : (List Int) := s.1
 let t : Int := s.2
 bif decide (t < (List.length words : Int)) then
 chk (decide ((0 : Int) ≤ t) && decide (t < (List.length words : Int))) (
 let w : ByteArray := lget ByteArray.empty words t
 (strconv_Atoi w).bind fun (r : Int × Bool) =>
 (bif ((!r.2) || (decide (r.1 < 0))) then some true else
 (strconv_Itoa r.1).bind fun (t_1 : ByteArray) =>
 some (!seqb t_1 w)).bind fun (c : Bool) =>
 bif (c || (decide ((ByteArray.size w : Int) > 13))) then
 Option.map Sum.inr (Option.map Sum.inr (
 some ([], false)))
 else
 (app out [r.1]).bind fun (t_2 : List Int) =>
 some (.inl (t_2, wi64 (t + 1))))
 else
 some (.inr (.inl out))) ([], 0)).bind fun j => match j with
 | .inl out_1 => (
 some (out_1, true))
 | .inr r => some r
noncomputable def pass_within (n : Int) (lo : Int) (hi : Int) : Option (Bool) :=
 let t : Bool := ((decide (lo ≤ n)) && (decide (n ≤ hi)))
 some t
noncomputable def pass_isThickness (n : Int) : Option (Bool) :=
 (pass_within n (((1, 1000) : Int × Int).1) (((1, 1000) : Int × Int).2)).bind fun (t : Bool) =>
 some t
noncomputable def pass_bounds_holds (b : Dapi_ModelCorrection) (r : Dapi_ModelCorrection) : Option (Bool) :=
 (pass_within r.1 b.1 b.2).bind fun (t : Bool) =>
 (bif t then
 (pass_within r.2 b.1 b.2).bind fun (t_1 : Bool) =>
 some t_1
 else some false).bind fun (c : Bool) =>
 some c
noncomputable def pass_first (l : (List Int)) : Option (Int) :=
 (loopM (S := Int) (R := (Unit) ⊕ (Int)) (fun t =>
 bif decide (t < (List.length l : Int)) then
 chk (decide ((0 : Int) ≤ t) && decide (t < (List.length l : Int))) (
 bif ((lget 0 l t) != 0) then
 Option.map Sum.inr (Option.map Sum.inr (
 some (lget 0 l t)))
 else
 some (.inl (wi64 (t + 1))))
 else
 some (.inr (.inl ()))) 0).bind fun j => match j with
 | .inl _ => (
 some 0)
 | .inr r => some r
noncomputable def pass_unless (ok : Bool) (e : Int) : Option (Int) :=
 bif ok then
 some 0
 else
 some e
noncomputable def slices_IndexFunc_apiRange (s : (List Dapi_ModelCorrection)) (f : (Dapi_ModelCorrection → Option Bool)) : Option (Int) :=
 (loopM (S := Int) (R := (Unit) ⊕ (Int)) (fun t =>
 bif decide (t < (List.length s : Int)) then
 chk (decide ((0 : Int) ≤ t) && decide (t < (List.length s : Int))) (
 (f (lget (0, 0) s t)).bind fun (t_1 : Bool) =>
 bif t_1 then
 Option.map Sum.inr (Option.map Sum.inr (
 some t))
 else
 some (.inl (wi64 (t + 1))))
 else
 some (.inr (.inl ()))) 0).bind fun j => match j with
 | .inl _ => (
 some (-1))
 | .inr r => some r
noncomputable def slices_ContainsFunc_apiRange (s : (List Dapi_ModelCorrection)) (f : (Dapi_ModelCorrection → Option Bool)) : Option (Bool) :=
 (slices_IndexFunc_apiRange s f).bind fun (t : Int) =>
 some (decide (t ≥ 0))
noncomputable def pass_ordered_1 (r : Dapi_ModelCorrection) : Option (Bool) :=
 some (decide (r.1 > r.2))
noncomputable def pass_ordered (l : (List Dapi_ModelCorrection)) : Option (Bool) :=
 (slices_ContainsFunc_apiRange l (fun x => pass_ordered_1 x)).bind fun (t : Bool) =>
 some (!t)
noncomputable def pass_CheckRules (r : Dapi_PassRules) : Option (Int × Int) :=
 (pass_within r.1 1 2500).bind fun (t : Bool) =>
 (bif t then
 (pass_isThickness r.2.1).bind fun (t_1 : Bool) =>
 some t_1
 else some false).bind fun (c : Bool) =>
 (bif c then
 (pass_isThickness r.2.2.1).bind fun (t_2 : Bool) =>
 some t_2
 else some false).bind fun (c_1 : Bool) =>
 (bif c_1 then
 (pass_bounds_holds ((0, 20000) : Int × Int) r.2.2.2.1).bind fun (t_3 : Bool) =>
 some t_3
 else some false).bind fun (c_2 : Bool) =>
 (bif c_2 then
 (pass_within r.2.2.2.2.1 (((0, 20000) : Int × Int).1) (((0, 20000) : Int × Int).2)).bind fun (t_4 : Bool) =>
 some t_4
 else some false).bind fun (c_3 : Bool) =>
 (bif c_3 then
 (pass_bounds_holds ((1, 100) : Int × Int) r.2.2.2.2.2.2.1).bind fun (t_5 : Bool) =>
 some t_5
 else some false).bind fun (c_4 : Bool) =>
 (bif c_4 then
 (pass_bounds_holds ((0, 100) : Int × Int) r.2.2.2.2.2.2.2).bind fun (t_6 : Bool) =>
 some t_6
 else some false).bind fun (c_5 : Bool) =>
 (pass_unless c_5 2).bind fun (t_7 : Int) =>
 (bif decide (r.2.2.1 ≤ r.2.1) then
 (pass_ordered [r.2.2.2.1, r.2.2.2.2.2.2.1, r.2.2.2.2.2.2.2]).bind fun (t_8 : Bool) =>
 some t_8
 else some false).bind fun (c_6 : Bool) =>
 (pass_unless c_6 9).bind fun (t_9 : Int) =>
 (pass_unless (decide ((List.length r.2.2.2.2.2.1 : Int) > 0)) 10).bind fun (t_10 : Int) =>
 (pass_unless (decide ((List.length r.2.2.2.2.2.1 : Int) ≤ 6)) 8).bind fun (t_11 : Int) =>
 (pass_first [t_7, t_9, t_10, t_11]).bind fun (t_12 : Int) =>
 bif (t_12 != 0) then
 some (0, t_12)
 else
 (loopM (S := Int) (R := (Unit) ⊕ (Int × Int)) (fun t_13 =>
 bif decide (t_13 < (List.length r.2.2.2.2.2.1 : Int)) then
 chk (decide ((0 : Int) ≤ t_13) && decide (t_13 < (List.length r.2.2.2.2.2.1 : Int))) (
 let s : Dapi_PassStand := lget (0, (0, (0, (0, 0)))) r.2.2.2.2.2.1 t_13
 (pass_within s.1 1 1000).bind fun (t_14 : Bool) =>
 (bif t_14 then
 (pass_within s.2.1 0 1000000000000).bind fun (t_15 : Bool) =>
 some t_15
 else some false).bind fun (c_7 : Bool) =>
 (bif c_7 then
 (pass_within s.2.2.1 0 1000000000000).bind fun (t_16 : Bool) =>
 some t_16
 else some false).bind fun (c_8 : Bool) =>
 (bif c_8 then
 (pass_bounds_holds ((0, 1000) : Int × Int) s.2.2.2).bind fun (t_17 : Bool) =>
 some t_17
 else some false).bind fun (c_9 : Bool) =>
 (pass_unless c_9 2).bind fun (t_18 : Int) =>
 (pass_ordered [s.2.2.2]).bind fun (t_19 : Bool) =>
 (pass_unless t_19 9).bind fun (t_20 : Int) =>
 (pass_first [t_18, t_20]).bind fun (t_21 : Int) =>
 bif (t_21 != 0) then
 Option.map Sum.inr (Option.map Sum.inr (
 some (t_13, t_21)))
 else
 some (.inl (wi64 (t_13 + 1))))
 else
 some (.inr (.inl ()))) 0).bind fun j => match j with
 | .inl _ => (
 some (0, 0))
 | .inr r => some r
def noRules : Dapi_PassRules := (0, (0, (0, ((0, 0), (0, ([], ((0, 0), (0, 0))))))))
def standOf (l : List Int) : Dapi_PassStand := (l.getD 0 0, (l.getD 1 0, (l.getD 2 0, (l.getD 3 0, l.getD 4 0))))
def rulesOf (l : List Int) (st : List Dapi_PassStand) : Dapi_PassRules := (l.getD 0 0, (l.getD 1 0, (l.getD 2 0, ((l.getD 3 0, l.getD 4 0), (l.getD 5 0, (st, ((l.getD 6 0, l.getD 7 0), (l.getD 8 0, l.getD 9 0))))))))
noncomputable def filled (s : ByteArray) (n : Nat) : Option (Option (List Int)) :=
 (strings_Split s (bytes [32])).bind fun ws => (pass_numbers ws).bind fun r => bif !r.2 || ((r.1.length : Int) != (n : Int)) then some none else some (some r.1)
noncomputable def standsF : List ByteArray → List Dapi_PassStand → Option (Option (List Dapi_PassStand))
 | [], out => some (some out)
 | s :: l, out => (filled s 5).bind fun r => match r with
 | none => some none
 | some x => (app out [standOf x]).bind fun o => standsF l o
noncomputable def pass_ParseRules (s : ByteArray) : Option (Dapi_PassRules × Int) :=
 bif decide (s.size ≤ 1000000) then (strings_Split s (bytes [32, 59, 32])).bind fun parts => match parts with
 | [] => none
 | p :: l => (filled p 10).bind fun r => match r with
 | none => some (noRules, 7)
 | some x => (standsF l []).bind fun st => match st with
 | none => some (noRules, 7)
 | some st => (pass_CheckRules (rulesOf x st)).bind fun e => bif e.2 != 0 then some (noRules, e.2) else some (rulesOf x st, 0)
 else none
noncomputable def strings_Cut (s sep : ByteArray) : Option (ByteArray × ByteArray × Bool) := cutF sep s
noncomputable def model_number (s : ByteArray) : Option (Int × Bool) :=
 (strconv_Atoi s).bind fun (r : Int × Bool) =>
 (bif (r.2 && (decide (r.1 ≥ 0))) then
 (strconv_Itoa r.1).bind fun (t : ByteArray) =>
 some (seqb t s)
 else some false).bind fun (c : Bool) =>
 let t_1 : Bool := (c && (decide ((ByteArray.size s : Int) ≤ 7)))
 some (r.1, t_1)
noncomputable def model_pair (s : ByteArray) (between : ByteArray) : Option (Int × Int × Bool) :=
 (strings_Cut s between).bind fun (r : ByteArray × ByteArray × Bool) =>
 (model_number r.1).bind fun (r_1 : Int × Bool) =>
 (model_number r.2.1).bind fun (r_2 : Int × Bool) =>
 some (r_1.1, r_2.1, (r_1.2 && r_2.2))
noncomputable def model_within (n : Int) (lo : Int) (hi : Int) : Option (Bool) :=
 let t : Bool := ((decide (lo ≤ n)) && (decide (n ≤ hi)))
 some t
noncomputable def model_first (l : (List Int)) : Option (Int) :=
 (loopM (S := Int) (R := (Unit) ⊕ (Int)) (fun t =>
 bif decide (t < (List.length l : Int)) then
 chk (decide ((0 : Int) ≤ t) && decide (t < (List.length l : Int))) (
 bif ((lget 0 l t) != 0) then
 Option.map Sum.inr (Option.map Sum.inr (
 some (lget 0 l t)))
 else
 some (.inl (wi64 (t + 1))))
 else
 some (.inr (.inl ()))) 0).bind fun j => match j with
 | .inl _ => (
 some 0)
 | .inr r => some r
noncomputable def model_unless (is : Bool) (e : Int) : Option (Int) :=
 bif is then
 some 0
 else
 some e
noncomputable def model_isX (n : Int) : Option (Bool) :=
 (model_within n 0 20000).bind fun (t : Bool) =>
 some t
noncomputable def model_CheckTable (l : (List Dapi_ModelCorrection)) : Option (Int × Int) :=
 (model_unless (decide ((List.length l : Int) > 0)) 10).bind fun (t : Int) =>
 (model_unless (decide ((List.length l : Int) ≤ 12)) 8).bind fun (t_1 : Int) =>
 (model_first [t, t_1]).bind fun (t_2 : Int) =>
 bif (t_2 != 0) then
 some (0, t_2)
 else
 (loopM (S := Int) (R := (Unit) ⊕ (Int × Int)) (fun t_3 =>
 bif decide (t_3 < (List.length l : Int)) then
 chk (decide ((0 : Int) ≤ t_3) && decide (t_3 < (List.length l : Int))) (
 (model_isX ((lget (0, 0) l t_3).1)).bind fun (t_4 : Bool) =>
 (bif t_4 then
 (model_within ((lget (0, 0) l t_3).2) 1 100000).bind fun (t_5 : Bool) =>
 some t_5
 else some false).bind fun (c : Bool) =>
 (model_unless c 2).bind fun (t_6 : Int) =>
 (bif (t_3 == 0) then some true else
 chk (decide ((0 : Int) ≤ (imax 0 (wi64 (t_3 - 1)))) && decide ((imax 0 (wi64 (t_3 - 1))) < (List.length l : Int))) (
 some (decide (((lget (0, 0) l t_3).1) > ((lget (0, 0) l (imax 0 (wi64 (t_3 - 1)))).1))))).bind fun (c_1 : Bool) =>
 (model_unless c_1 9).bind fun (t_7 : Int) =>
 (model_first [t_6, t_7]).bind fun (t_8 : Int) =>
 bif (t_8 != 0) then
 Option.map Sum.inr (Option.map Sum.inr (
 some (t_3, t_8)))
 else
 some (.inl (wi64 (t_3 + 1))))
 else
 some (.inr (.inl ()))) 0).bind fun j => match j with
 | .inl _ => (
 some (0, 0))
 | .inr r => some r
noncomputable def model_CheckRules_1 (n : Int) : Option (Bool) :=
 (model_within n 1 900).bind fun (t : Bool) =>
 some t
noncomputable def model_divisor (a : Int) (b : Int) : Option (Int) :=
 (loopM (S := Int × Int) (R := Int) (fun s =>
 let a_1 : Int := s.1
 let b_1 : Int := s.2
 bif (b_1 != 0) then
 chk (b_1 != 0) (
 some (.inl (b_1, Int.tmod a_1 b_1)))
 else
 some (.inr a_1)) (a, b)).bind fun (a_2 : Int) =>
 let t : Int := imax a_2 (wi64 (0 - a_2))
 some t
noncomputable def model_isLowest (f : Dapi_ModelCorrection) : Option (Bool) :=
 (bif decide (f.2 > 0) then
 (model_divisor f.1 f.2).bind fun (t : Int) =>
 some (t == 1)
 else some false).bind fun (c : Bool) =>
 some c
noncomputable def model_CheckRules (r : Dapi_ModelRules) : Option (Int × Int) :=
 (model_CheckTable r.1).bind fun (r_1 : Int × Int) =>
 bif (r_1.2 != 0) then
 some (r_1.1, r_1.2)
 else
 (model_within r.2.2.2 0 900).bind fun (t : Bool) =>
 (loopM (S := Bool × Int) (R := Bool) (fun s =>
 let right_ : Bool := s.1
 let t_1 : Int := s.2
 bif decide (t_1 < 2) then
 chk (decide ((0 : Int) ≤ t_1) && decide ((t_1 : Int) < 2)) (
 let f : Dapi_ModelCorrection := aget (aset (aset (fun _ => (0, 0)) 0 r.2.1) 1 r.2.2.1) t_1
 (bif right_ then
 (model_CheckRules_1 f.1).bind fun (t_2 : Bool) =>
 some t_2
 else some false).bind fun (c : Bool) =>
 (bif c then
 (model_CheckRules_1 f.2).bind fun (t_3 : Bool) =>
 some t_3
 else some false).bind fun (c_1 : Bool) =>
 some (.inl (c_1, wi64 (t_1 + 1))))
 else
 some (.inr right_)) (t, 0)).bind fun (right__1 : Bool) =>
 (model_isLowest r.2.1).bind fun (t_4 : Bool) =>
 (bif t_4 then
 (model_isLowest r.2.2.1).bind fun (t_5 : Bool) =>
 some t_5
 else some false).bind fun (c_2 : Bool) =>
 (model_unless c_2 3).bind fun (t_6 : Int) =>
 (model_unless right__1 2).bind fun (t_7 : Int) =>
 (model_first [t_6, t_7]).bind fun (t_8 : Int) =>
 some (0, t_8)
def noModel : Dapi_ModelRules := ([], ((0, 0), ((0, 0), 0)))
noncomputable def knotsF : List ByteArray → List (Int × Int) → Bool → Option (List (Int × Int) × Bool)
 | [], out, ok => some (out, ok)
 | s :: l, out, ok => (model_pair s (bytes [64])).bind fun r => (app out [(r.1, r.2.1)]).bind fun o => knotsF l o (bif ok then r.2.2 else false)
noncomputable def model_ParseRules (s : ByteArray) : Option (Dapi_ModelRules × Int) :=
 bif decide (s.size ≤ 1000000) then (strings_Split s (bytes [32])).bind fun w => match w with
 | a :: b :: c :: l => (model_pair a (bytes [47])).bind fun x => (model_pair b (bytes [47])).bind fun y => (model_number c).bind fun n =>
 (knotsF l [] ((x.2.2 && y.2.2) && n.2)).bind fun t => bif !t.2 then some (noModel, 7) else
 (model_CheckRules (t.1, ((x.1, x.2.1), ((y.1, y.2.1), n.1)))).bind fun e => bif e.2 != 0 then some (noModel, e.2) else some ((t.1, ((x.1, x.2.1), ((y.1, y.2.1), n.1))), 0)
 | _ => some (noModel, 7)
 else none
noncomputable def mill_open (p : Dapi_MillPlant) : Option (Dmill_works × Int × Int) :=
 (mill_unless (decide ((List.length p.1 : Int) > 0)) 10).bind fun (t : Int) =>
 (mill_unless (decide ((List.length p.1 : Int) ≤ 8)) 8).bind fun (t_1 : Int) =>
 (mill_first [t, t_1]).bind fun (t_2 : Int) =>
 bif (t_2 != 0) then
 some ((p, ((0, (0, (0, ((0, 0), (0, ([], ((0, 0), (0, 0)))))))), ([], ((0, 0), ((0, 0), 0))))), 0, t_2)
 else
 (mill_named_apiMillPerson p.1 (fun x => mill_open_2 x) (fun x => mill_open_1 x)).bind fun (r : Int × Int) =>
 bif (r.2 != 0) then
 some ((p, ((0, (0, (0, ((0, 0), (0, ([], ((0, 0), (0, 0)))))))), ([], ((0, 0), ((0, 0), 0))))), r.1, r.2)
 else
 (mill_unless (decide ((List.length p.2.1 : Int) ≥ 2)) 10).bind fun (t_3 : Int) =>
 (mill_unless (decide ((List.length p.2.1 : Int) ≤ 6)) 8).bind fun (t_4 : Int) =>
 (mill_first [t_3, t_4]).bind fun (t_5 : Int) =>
 bif (t_5 != 0) then
 some ((p, ((0, (0, (0, ((0, 0), (0, ([], ((0, 0), (0, 0)))))))), ([], ((0, 0), ((0, 0), 0))))), 0, t_5)
 else
 (mill_named_string p.2.1 (fun x => mill_open_3 x) (fun x => mill_open_4 x)).bind fun (r_1 : Int × Int) =>
 bif (r_1.2 != 0) then
 some ((p, ((0, (0, (0, ((0, 0), (0, ([], ((0, 0), (0, 0)))))))), ([], ((0, 0), ((0, 0), 0))))), r_1.1, r_1.2)
 else
 (pass_ParseRules p.2.2.1).bind fun (r_2 : Dapi_PassRules × Int) =>
 (model_ParseRules p.2.2.2).bind fun (r_3 : Dapi_ModelRules × Int) =>
 (mill_unless ((List.length r_2.1.2.2.2.2.2.1 : Int) == (List.length p.2.1 : Int)) 13).bind fun (t_6 : Int) =>
 (mill_first [r_2.2, r_3.2, t_6]).bind fun (t_7 : Int) =>
 some ((p, (r_2.1, r_3.1)), 0, t_7)
noncomputable def mill_CheckPlant (p : Dapi_MillPlant) : Option (Int × Int) :=
 (mill_open p).bind fun (r : Dmill_works × Int × Int) =>
 some (r.2.1, r.2.2)
noncomputable def b0_IsName (s : ByteArray) : Option (Bool) :=
 bif ((decide ((ByteArray.size s : Int) < 1)) || (decide ((ByteArray.size s : Int) > 12))) then
 some false
 else
 (loopM (S := Int) (R := (Unit) ⊕ (Bool)) (fun i =>
 bif decide (i < (ByteArray.size s : Int)) then
 chk (decide ((0 : Int) ≤ i) && decide (i < (ByteArray.size s : Int))) (
 let letter : Bool := (((decide ((sget s i) ≥ 97)) && (decide ((sget s i) ≤ 122))) || ((decide ((sget s i) ≥ 65)) && (decide ((sget s i) ≤ 90))))
 bif ((!letter) && ((i == 0) || (((sget s i) != 45) && ((decide ((sget s i) < 48)) || (decide ((sget s i) > 57)))))) then
 Option.map Sum.inr (Option.map Sum.inr (
 some false))
 else
 some (.inl (wi64 (i + 1))))
 else
 some (.inr (.inl ()))) 0).bind fun j => match j with
 | .inl _ => (
 some true)
 | .inr r => some r
noncomputable def b0_Within (n : Int) (lo : Int) (hi : Int) : Option (Bool) :=
 let t : Bool := ((decide (lo ≤ n)) && (decide (n ≤ hi)))
 some t
noncomputable def cobbleref10_index (l : (List ByteArray)) (s : ByteArray) : Option (Int) :=
 (loopM (S := Int) (R := (Unit) ⊕ (Int)) (fun i =>
 bif decide (i < (List.length l : Int)) then
 chk (decide ((0 : Int) ≤ i) && decide (i < (List.length l : Int))) (
 bif seqb (lget ByteArray.empty l i) s then
 Option.map Sum.inr (Option.map Sum.inr (
 some i))
 else
 some (.inl (wi64 (i + 1))))
 else
 some (.inr (.inl ()))) 0).bind fun j => match j with
 | .inl _ => (
 some (-1))
 | .inr r => some r
noncomputable def b0_Cut (s : ByteArray) (at_ : Int) : Option ((List ByteArray)) :=
 (loopM (S := (List ByteArray) × Int × Int) (R := (List ByteArray) × Int) (fun s_1 =>
 let out : (List ByteArray) := s_1.1
 let from_ : Int := s_1.2.1
 let i : Int := s_1.2.2
 bif decide (i < (ByteArray.size s : Int)) then
 chk (decide ((0 : Int) ≤ i) && decide (i < (ByteArray.size s : Int))) (
 (bif ((sget s i) == at_) then
 chk (decide ((0 : Int) ≤ from_) && decide ((from_ : Int) ≤ i) && decide (i ≤ (ByteArray.size s : Int))) (
 (app out [ByteArray.extract s (Int.toNat from_) (Int.toNat i)]).bind fun (t : List ByteArray) =>
 some (t, wi64 (i + 1)))
 else
 some (out, from_)).bind fun (j : (List ByteArray) × Int) =>
 let out_1 : (List ByteArray) := j.1
 let from__1 : Int := j.2
 some (.inl (out_1, from__1, wi64 (i + 1))))
 else
 some (.inr (out, from_))) ([], 0, 0)).bind fun (b : (List ByteArray) × Int) =>
 let out_2 : (List ByteArray) := b.1
 let from__2 : Int := b.2
 chk (decide ((0 : Int) ≤ from__2) && decide ((from__2 : Int) ≤ (ByteArray.size s : Int)) && decide ((ByteArray.size s : Int) ≤ (ByteArray.size s : Int))) (
 (app out_2 [ByteArray.extract s (Int.toNat from__2) (Int.toNat (ByteArray.size s : Int))]).bind fun (t_1 : List ByteArray) =>
 some t_1)
noncomputable def b0_Number (s : ByteArray) (digits : Int) : Option (Int × Bool) :=
 (bif decide ((ByteArray.size s : Int) > 0) then
 chk (decide ((0 : Int) ≤ 0) && decide (0 < (ByteArray.size s : Int))) (
 some ((sget s 0) == 45))
 else some false).bind fun (c : Bool) =>
 (bif c then
 some 1
 else
 some 0).bind fun (at_ : Int) =>
 (bif (((ByteArray.size s : Int) == at_) || (decide ((wi64 ((ByteArray.size s : Int) - at_)) > digits))) then some true else
 chk (decide ((0 : Int) ≤ at_) && decide (at_ < (ByteArray.size s : Int))) (
 some (((sget s at_) == 48) && (decide ((ByteArray.size s : Int) > 1))))).bind fun (c_1 : Bool) =>
 bif c_1 then
 some (0, false)
 else
 (loopM (S := Int × Int) (R := (Int) ⊕ (Int × Bool)) (fun s_1 =>
 let n : Int := s_1.1
 let i : Int := s_1.2
 bif decide (i < (ByteArray.size s : Int)) then
 chk (decide ((0 : Int) ≤ i) && decide (i < (ByteArray.size s : Int))) (
 (bif decide ((sget s i) < 48) then some true else
 chk (decide ((0 : Int) ≤ i) && decide (i < (ByteArray.size s : Int))) (
 some (decide ((sget s i) > 57)))).bind fun (c_2 : Bool) =>
 bif c_2 then
 Option.map Sum.inr (Option.map Sum.inr (
 some (0, false)))
 else
 chk (decide ((0 : Int) ≤ i) && decide (i < (ByteArray.size s : Int))) (
 let n_1 : Int := wi64 ((wi64 (10 * n)) + (wi64 (wu8 ((sget s i) - 48))))
 some (.inl (n_1, wi64 (i + 1)))))
 else
 some (.inr (.inl n))) (0, at_)).bind fun j => match j with
 | .inl n_2 => (
 (bif (at_ == 1) then
 some (wi64 (0 - n_2))
 else
 some n_2).bind fun (n_3 : Int) =>
 some (n_3, true))
 | .inr r => some r
noncomputable def cobbleref03_parsed (w : (List ByteArray)) : Option ((List Int) × Bool) :=
 (loopM (S := (List Int) × Int) (R := ((List Int)) ⊕ ((List Int) × Bool)) (fun s =>
 let out : (List Int) := s.1
 let i : Int := s.2
 bif decide (i < (List.length w : Int)) then
 chk (decide ((0 : Int) ≤ i) && decide (i < (List.length w : Int))) (
 (b0_Number (lget ByteArray.empty w i) 13).bind fun (r : Int × Bool) =>
 bif ((!r.2) || (decide (r.1 < 0))) then
 Option.map Sum.inr (Option.map Sum.inr (
 some ([], false)))
 else
 (app out [r.1]).bind fun (t : List Int) =>
 some (.inl (t, wi64 (i + 1))))
 else
 some (.inr (.inl out))) ([], 0)).bind fun j => match j with
 | .inl out_1 => (
 some (out_1, true))
 | .inr r => some r
noncomputable def cobbleref03_isThickness (n : Int) : Option (Bool) :=
 (b0_Within n 1 1000).bind fun (t : Bool) =>
 some t
noncomputable def cobbleref03_isHeat (n : Int) : Option (Bool) :=
 (b0_Within n 0 20000).bind fun (t : Bool) =>
 some t
noncomputable def cobbleref03_CheckRules (r : Dapi_PassRules) : Option (Int × Int) :=
 (b0_Within r.1 1 2500).bind fun (t : Bool) =>
 (bif !t then some true else
 (cobbleref03_isThickness r.2.1).bind fun (t_1 : Bool) =>
 some (!t_1)).bind fun (c : Bool) =>
 (bif c then some true else
 (cobbleref03_isThickness r.2.2.1).bind fun (t_2 : Bool) =>
 some (!t_2)).bind fun (c_1 : Bool) =>
 (bif c_1 then some true else
 (cobbleref03_isHeat r.2.2.2.1.1).bind fun (t_3 : Bool) =>
 some (!t_3)).bind fun (c_2 : Bool) =>
 (bif c_2 then some true else
 (cobbleref03_isHeat r.2.2.2.1.2).bind fun (t_4 : Bool) =>
 some (!t_4)).bind fun (c_3 : Bool) =>
 (bif c_3 then some true else
 (cobbleref03_isHeat r.2.2.2.2.1).bind fun (t_5 : Bool) =>
 some (!t_5)).bind fun (c_4 : Bool) =>
 (bif c_4 then some true else
 (b0_Within r.2.2.2.2.2.2.1.1 1 100).bind fun (t_6 : Bool) =>
 some (!t_6)).bind fun (c_5 : Bool) =>
 (bif c_5 then some true else
 (b0_Within r.2.2.2.2.2.2.1.2 1 100).bind fun (t_7 : Bool) =>
 some (!t_7)).bind fun (c_6 : Bool) =>
 (bif c_6 then some true else
 (b0_Within r.2.2.2.2.2.2.2.1 0 100).bind fun (t_8 : Bool) =>
 some (!t_8)).bind fun (c_7 : Bool) =>
 (bif c_7 then some true else
 (b0_Within r.2.2.2.2.2.2.2.2 0 100).bind fun (t_9 : Bool) =>
 some (!t_9)).bind fun (c_8 : Bool) =>
 bif c_8 then
 some (0, 2)
 else
 bif ((((decide (r.2.2.1 > r.2.1)) || (decide (r.2.2.2.1.1 > r.2.2.2.1.2))) || (decide (r.2.2.2.2.2.2.1.1 > r.2.2.2.2.2.2.1.2))) || (decide (r.2.2.2.2.2.2.2.1 > r.2.2.2.2.2.2.2.2))) then
 some (0, 9)
 else
 bif ((List.length r.2.2.2.2.2.1 : Int) == 0) then
 some (0, 10)
 else
 bif decide ((List.length r.2.2.2.2.2.1 : Int) > 6) then
 some (0, 8)
 else
 (loopM (S := Int) (R := (Unit) ⊕ (Int × Int)) (fun i =>
 bif decide (i < (List.length r.2.2.2.2.2.1 : Int)) then
 chk (decide ((0 : Int) ≤ i) && decide (i < (List.length r.2.2.2.2.2.1 : Int))) (
 let s : Dapi_PassStand := lget (0, (0, (0, (0, 0)))) r.2.2.2.2.2.1 i
 (b0_Within s.1 1 1000).bind fun (t_10 : Bool) =>
 (bif !t_10 then some true else
 (b0_Within s.2.1 0 1000000000000).bind fun (t_11 : Bool) =>
 some (!t_11)).bind fun (c_9 : Bool) =>
 (bif c_9 then some true else
 (b0_Within s.2.2.1 0 1000000000000).bind fun (t_12 : Bool) =>
 some (!t_12)).bind fun (c_10 : Bool) =>
 (bif c_10 then some true else
 (b0_Within s.2.2.2.1 0 1000).bind fun (t_13 : Bool) =>
 some (!t_13)).bind fun (c_11 : Bool) =>
 (bif c_11 then some true else
 (b0_Within s.2.2.2.2 0 1000).bind fun (t_14 : Bool) =>
 some (!t_14)).bind fun (c_12 : Bool) =>
 bif c_12 then
 Option.map Sum.inr (Option.map Sum.inr (
 some (i, 2)))
 else
 bif decide (s.2.2.2.1 > s.2.2.2.2) then
 Option.map Sum.inr (Option.map Sum.inr (
 some (i, 9)))
 else
 some (.inl (wi64 (i + 1))))
 else
 some (.inr (.inl ()))) 0).bind fun j => match j with
 | .inl _ => (
 some (0, 0))
 | .inr r => some r
noncomputable def cobbleref03_RulesErr (r : Dapi_PassRules) : Option (Int) :=
 (cobbleref03_CheckRules r).bind fun (r_1 : Int × Int) =>
 some r_1.2
noncomputable def cobbleref03_ParseRules (x : ByteArray) : Option (Dapi_PassRules × Int) :=
 (b0_Cut x 32).bind fun (t : (List ByteArray)) =>
 (loopM (S := Int × Int × Dapi_PassRules) (R := (Dapi_PassRules) ⊕ (Dapi_PassRules × Int)) (fun s =>
 let from_ : Int := s.1
 let i : Int := s.2.1
 let r : Dapi_PassRules := s.2.2
 bif decide (i ≤ (List.length t : Int)) then
 (bif decide (i < (List.length t : Int)) then
 chk (decide ((0 : Int) ≤ i) && decide (i < (List.length t : Int))) (
 some (!seqb (lget ByteArray.empty t i) (bytes [59])))
 else some false).bind fun (c : Bool) =>
 bif c then
 some (.inl (from_, wi64 (i + 1), r))
 else
 chk (decide ((0 : Int) ≤ from_) && decide ((from_ : Int) ≤ i) && decide (i ≤ (List.length t : Int))) (
 (cobbleref03_parsed (List.drop (Int.toNat from_) (List.take (Int.toNat i) t))).bind fun (r_1 : (List Int) × Bool) =>
 bif (((!r_1.2) || ((from_ == 0) && ((List.length r_1.1 : Int) != 10))) || ((decide (from_ > 0)) && ((List.length r_1.1 : Int) != 5))) then
 Option.map Sum.inr (Option.map Sum.inr (
 some ((0, (0, (0, ((0, 0), (0, ([], ((0, 0), (0, 0)))))))), 7)))
 else
 (bif (from_ == 0) then
 chk (decide ((0 : Int) ≤ 0) && decide (0 < (List.length r_1.1 : Int))) (
 chk (decide ((0 : Int) ≤ 1) && decide (1 < (List.length r_1.1 : Int))) (
 chk (decide ((0 : Int) ≤ 2) && decide (2 < (List.length r_1.1 : Int))) (
 chk (decide ((0 : Int) ≤ 3) && decide (3 < (List.length r_1.1 : Int))) (
 chk (decide ((0 : Int) ≤ 4) && decide (4 < (List.length r_1.1 : Int))) (
 chk (decide ((0 : Int) ≤ 5) && decide (5 < (List.length r_1.1 : Int))) (
 chk (decide ((0 : Int) ≤ 6) && decide (6 < (List.length r_1.1 : Int))) (
 chk (decide ((0 : Int) ≤ 7) && decide (7 < (List.length r_1.1 : Int))) (
 chk (decide ((0 : Int) ≤ 8) && decide (8 < (List.length r_1.1 : Int))) (
 chk (decide ((0 : Int) ≤ 9) && decide (9 < (List.length r_1.1 : Int))) (
 some (lget 0 r_1.1 0, (lget 0 r_1.1 1, (lget 0 r_1.1 2, ((lget 0 r_1.1 3, lget 0 r_1.1 4), (lget 0 r_1.1 5, ([], ((lget 0 r_1.1 6, lget 0 r_1.1 7), (lget 0 r_1.1 8, lget 0 r_1.1 9))))))))))))))))))
 else
 chk (decide ((0 : Int) ≤ 0) && decide (0 < (List.length r_1.1 : Int))) (
 chk (decide ((0 : Int) ≤ 1) && decide (1 < (List.length r_1.1 : Int))) (
 chk (decide ((0 : Int) ≤ 2) && decide (2 < (List.length r_1.1 : Int))) (
 chk (decide ((0 : Int) ≤ 3) && decide (3 < (List.length r_1.1 : Int))) (
 chk (decide ((0 : Int) ≤ 4) && decide (4 < (List.length r_1.1 : Int))) (
 (app r.2.2.2.2.2.1 [(lget 0 r_1.1 0, (lget 0 r_1.1 1, (lget 0 r_1.1 2, (lget 0 r_1.1 3, lget 0 r_1.1 4))))]).bind fun (t_1 : List Dapi_PassStand) =>
 some (r.1, (r.2.1, (r.2.2.1, (r.2.2.2.1, (r.2.2.2.2.1, (t_1, r.2.2.2.2.2.2)))))))))))).bind fun (r_2 : Dapi_PassRules) =>
 some (.inl (wi64 (i + 1), wi64 (i + 1), r_2)))
 else
 some (.inr (.inl r))) (0, 0, (0, (0, (0, ((0, 0), (0, ([], ((0, 0), (0, 0)))))))))).bind fun j => match j with
 | .inl r_3 => (
 (cobbleref03_RulesErr r_3).bind fun (t_2 : Int) =>
 bif (t_2 != 0) then
 some ((0, (0, (0, ((0, 0), (0, ([], ((0, 0), (0, 0)))))))), t_2)
 else
 some (r_3, 0))
 | .inr r => some r
noncomputable def cobbleref04_parsedNumber (s : ByteArray) : Option (Int × Bool) :=
 (b0_Number s 7).bind fun (r : Int × Bool) =>
 let t : Bool := (r.2 && (decide (r.1 ≥ 0)))
 some (r.1, t)
noncomputable def cobbleref04_parsedPair (s : ByteArray) (between : Int) : Option (Int × Int × Bool) :=
 (b0_Cut s between).bind fun (t : (List ByteArray)) =>
 bif ((List.length t : Int) != 2) then
 some (0, 0, false)
 else
 chk (decide ((0 : Int) ≤ 0) && decide (0 < (List.length t : Int))) (
 (cobbleref04_parsedNumber (lget ByteArray.empty t 0)).bind fun (r : Int × Bool) =>
 chk (decide ((0 : Int) ≤ 1) && decide (1 < (List.length t : Int))) (
 (cobbleref04_parsedNumber (lget ByteArray.empty t 1)).bind fun (r_1 : Int × Bool) =>
 some (r.1, r_1.1, (r.2 && r_1.2))))
noncomputable def cobbleref04_XErr (x : Int) : Option (Int) :=
 (b0_Within x 0 20000).bind fun (t : Bool) =>
 bif !t then
 some 2
 else
 some 0
noncomputable def cobbleref04_CheckTable (l : (List Dapi_ModelCorrection)) : Option (Int × Int) :=
 bif ((List.length l : Int) == 0) then
 some (0, 10)
 else
 bif decide ((List.length l : Int) > 12) then
 some (0, 8)
 else
 (loopM (S := Int) (R := (Unit) ⊕ (Int × Int)) (fun i =>
 bif decide (i < (List.length l : Int)) then
 chk (decide ((0 : Int) ≤ i) && decide (i < (List.length l : Int))) (
 (cobbleref04_XErr ((lget (0, 0) l i).1)).bind fun (t : Int) =>
 (bif (t != 0) then some true else
 chk (decide ((0 : Int) ≤ i) && decide (i < (List.length l : Int))) (
 (b0_Within ((lget (0, 0) l i).2) 1 100000).bind fun (t_1 : Bool) =>
 some (!t_1))).bind fun (c : Bool) =>
 bif c then
 Option.map Sum.inr (Option.map Sum.inr (
 some (i, 2)))
 else
 (bif decide (i > 0) then
 chk (decide ((0 : Int) ≤ i) && decide (i < (List.length l : Int))) (
 chk (decide ((0 : Int) ≤ (wi64 (i - 1))) && decide ((wi64 (i - 1)) < (List.length l : Int))) (
 some (decide (((lget (0, 0) l i).1) ≤ ((lget (0, 0) l (wi64 (i - 1))).1)))))
 else some false).bind fun (c_1 : Bool) =>
 bif c_1 then
 Option.map Sum.inr (Option.map Sum.inr (
 some (i, 9)))
 else
 some (.inl (wi64 (i + 1))))
 else
 some (.inr (.inl ()))) 0).bind fun j => match j with
 | .inl _ => (
 some (0, 0))
 | .inr r => some r
noncomputable def b0_Size (n : Int) : Option (Int) :=
 let t : Int := imax n (wi64 (0 - n))
 some t
noncomputable def b0_Gcd (a : Int) (b : Int) : Option (Int) :=
 (loopM (S := Int × Int) (R := Int) (fun s =>
 let a_1 : Int := s.1
 let b_1 : Int := s.2
 bif (b_1 != 0) then
 chk (b_1 != 0) (
 some (.inl (b_1, Int.tmod a_1 b_1)))
 else
 some (.inr a_1)) (a, b)).bind fun (a_2 : Int) =>
 (b0_Size a_2).bind fun (t : Int) =>
 some t
noncomputable def b0_IsLowest (f : Dapi_ModelCorrection) : Option (Bool) :=
 (bif decide (f.2 > 0) then
 (b0_Gcd f.1 f.2).bind fun (t : Int) =>
 some (t == 1)
 else some false).bind fun (c : Bool) =>
 some c
noncomputable def cobbleref04_isGain (f : Dapi_ModelCorrection) : Option (Bool) :=
 (b0_Within f.1 1 900).bind fun (t : Bool) =>
 let t_1 : Bool := (t && (decide (f.2 ≤ 900)))
 some t_1
noncomputable def cobbleref04_CheckRules (r : Dapi_ModelRules) : Option (Int × Int) :=
 (cobbleref04_CheckTable r.1).bind fun (r_1 : Int × Int) =>
 bif (r_1.2 != 0) then
 some (r_1.1, r_1.2)
 else
 (b0_IsLowest r.2.1).bind fun (t : Bool) =>
 (bif !t then some true else
 (b0_IsLowest r.2.2.1).bind fun (t_1 : Bool) =>
 some (!t_1)).bind fun (c : Bool) =>
 bif c then
 some (0, 3)
 else
 (cobbleref04_isGain r.2.1).bind fun (t_2 : Bool) =>
 (bif !t_2 then some true else
 (cobbleref04_isGain r.2.2.1).bind fun (t_3 : Bool) =>
 some (!t_3)).bind fun (c_1 : Bool) =>
 (bif c_1 then some true else
 (b0_Within r.2.2.2 0 900).bind fun (t_4 : Bool) =>
 some (!t_4)).bind fun (c_2 : Bool) =>
 bif c_2 then
 some (0, 2)
 else
 some (0, 0)
noncomputable def cobbleref04_RulesErr (r : Dapi_ModelRules) : Option (Int) :=
 (cobbleref04_CheckRules r).bind fun (r_1 : Int × Int) =>
 some r_1.2
noncomputable def cobbleref04_ParseRules (s : ByteArray) : Option (Dapi_ModelRules × Int) :=
 (b0_Cut s 32).bind fun (t : (List ByteArray)) =>
 bif decide ((List.length t : Int) < 3) then
 some (([], ((0, 0), ((0, 0), 0))), 7)
 else
 chk (decide ((0 : Int) ≤ 0) && decide (0 < (List.length t : Int))) (
 (cobbleref04_parsedPair (lget ByteArray.empty t 0) 47).bind fun (r : Int × Int × Bool) =>
 chk (decide ((0 : Int) ≤ 1) && decide (1 < (List.length t : Int))) (
 (cobbleref04_parsedPair (lget ByteArray.empty t 1) 47).bind fun (r_1 : Int × Int × Bool) =>
 chk (decide ((0 : Int) ≤ 2) && decide (2 < (List.length t : Int))) (
 (cobbleref04_parsedNumber (lget ByteArray.empty t 2)).bind fun (r_2 : Int × Bool) =>
 bif (((!r.2.2) || (!r_1.2.2)) || (!r_2.2)) then
 some (([], ((0, 0), ((0, 0), 0))), 7)
 else
 (loopM (S := Int × Dapi_ModelRules) (R := (Dapi_ModelRules) ⊕ (Dapi_ModelRules × Int)) (fun s_1 =>
 let i : Int := s_1.1
 let r_3 : Dapi_ModelRules := s_1.2
 bif decide (i < (List.length t : Int)) then
 chk (decide ((0 : Int) ≤ i) && decide (i < (List.length t : Int))) (
 (cobbleref04_parsedPair (lget ByteArray.empty t i) 64).bind fun (r_4 : Int × Int × Bool) =>
 bif !r_4.2.2 then
 Option.map Sum.inr (Option.map Sum.inr (
 some (([], ((0, 0), ((0, 0), 0))), 7)))
 else
 (app r_3.1 [(r_4.1, r_4.2.1)]).bind fun (t_1 : List Dapi_ModelCorrection) =>
 some (.inl (wi64 (i + 1), (t_1, r_3.2))))
 else
 some (.inr (.inl r_3))) (3, ([], ((r.1, r.2.1), ((r_1.1, r_1.2.1), r_2.1))))).bind fun j => match j with
 | .inl r_5 => (
 (cobbleref04_RulesErr r_5).bind fun (t_2 : Int) =>
 bif (t_2 != 0) then
 some (([], ((0, 0), ((0, 0), 0))), t_2)
 else
 some (r_5, 0))
 | .inr r => some r)))
noncomputable def cobbleref10_CheckPlant (p : Dapi_MillPlant) : Option (Int × Int) :=
 bif ((List.length p.1 : Int) == 0) then
 some (0, 10)
 else
 bif decide ((List.length p.1 : Int) > 8) then
 some (0, 8)
 else
 (loopM (S := Int) (R := (Unit) ⊕ (Int × Int)) (fun i =>
 bif decide (i < (List.length p.1 : Int)) then
 chk (decide ((0 : Int) ≤ i) && decide (i < (List.length p.1 : Int))) (
 (b0_IsName ((lget (ByteArray.empty, 0) p.1 i).1)).bind fun (t : Bool) =>
 bif !t then
 Option.map Sum.inr (Option.map Sum.inr (
 some (i, 4)))
 else
 (loopM (S := Int) (R := (Unit) ⊕ ((Int) ⊕ ((Unit) ⊕ (Int × Int)))) (fun k =>
 bif decide (k < i) then
 chk (decide ((0 : Int) ≤ k) && decide (k < (List.length p.1 : Int))) (
 chk (decide ((0 : Int) ≤ i) && decide (i < (List.length p.1 : Int))) (
 bif seqb ((lget (ByteArray.empty, 0) p.1 k).1) ((lget (ByteArray.empty, 0) p.1 i).1) then
 Option.map Sum.inr (Option.map Sum.inr (
 Option.map Sum.inr (Option.map Sum.inr (
 some (i, 5)))))
 else
 some (.inl (wi64 (k + 1)))))
 else
 some (.inr (.inl ()))) 0).bind fun j => match j with
 | .inl _ => (
 chk (decide ((0 : Int) ≤ i) && decide (i < (List.length p.1 : Int))) (
 (b0_Within ((lget (ByteArray.empty, 0) p.1 i).2) 0 3).bind fun (t_1 : Bool) =>
 bif !t_1 then
 Option.map Sum.inr (Option.map Sum.inr (
 some (i, 15)))
 else
 some (.inl (wi64 (i + 1)))))
 | .inr r => some r)
 else
 some (.inr (.inl ()))) 0).bind fun j => match j with
 | .inl _ => (
 bif decide ((List.length p.2.1 : Int) < 2) then
 some (0, 10)
 else
 bif decide ((List.length p.2.1 : Int) > 6) then
 some (0, 8)
 else
 (loopM (S := Int) (R := (Unit) ⊕ (Int × Int)) (fun i_1 =>
 bif decide (i_1 < (List.length p.2.1 : Int)) then
 chk (decide ((0 : Int) ≤ i_1) && decide (i_1 < (List.length p.2.1 : Int))) (
 (b0_IsName (lget ByteArray.empty p.2.1 i_1)).bind fun (t_2 : Bool) =>
 bif !t_2 then
 Option.map Sum.inr (Option.map Sum.inr (
 some (i_1, 4)))
 else
 chk (decide ((0 : Int) ≤ 0) && decide ((0 : Int) ≤ i_1) && decide (i_1 ≤ (List.length p.2.1 : Int))) (
 chk (decide ((0 : Int) ≤ i_1) && decide (i_1 < (List.length p.2.1 : Int))) (
 (cobbleref10_index (List.drop (Int.toNat 0) (List.take (Int.toNat i_1) p.2.1)) (lget ByteArray.empty p.2.1 i_1)).bind fun (t_3 : Int) =>
 bif decide (t_3 ≥ 0) then
 Option.map Sum.inr (Option.map Sum.inr (
 some (i_1, 5)))
 else
 some (.inl (wi64 (i_1 + 1))))))
 else
 some (.inr (.inl ()))) 0).bind fun j => match j with
 | .inl _ => (
 (cobbleref03_ParseRules p.2.2.1).bind fun (r : Dapi_PassRules × Int) =>
 bif (r.2 != 0) then
 some (0, r.2)
 else
 (cobbleref04_ParseRules p.2.2.2).bind fun (r_1 : Dapi_ModelRules × Int) =>
 bif (r_1.2 != 0) then
 some (0, r_1.2)
 else
 bif ((List.length r.1.2.2.2.2.2.1 : Int) != (List.length p.2.1 : Int)) then
 some (0, 13)
 else
 some (0, 0))
 | .inr r => some r)
 | .inr r => some r
noncomputable def b0_CopyTexts (l : (List ByteArray)) : Option ((List ByteArray)) :=
 (app [] l).bind fun (t : List ByteArray) =>
 some t
noncomputable def cobbleref10_CopyPlant (p : Dapi_MillPlant) : Option (Dapi_MillPlant) :=
 (app [] p.1).bind fun (t : List Dapi_MillPerson) =>
 (b0_CopyTexts p.2.1).bind fun (t_1 : (List ByteArray)) =>
 some (t, (t_1, p.2.2))
noncomputable def cobblelaw10_Few (p : Dapi_MillPlant) : Option (Bool) :=
 bif ((((decide ((List.length p.1 : Int) > 10)) || (decide ((List.length p.2.1 : Int) > 8))) || (decide ((ByteArray.size p.2.2.1 : Int) > 300))) || (decide ((ByteArray.size p.2.2.2 : Int) > 300))) then
 some false
 else
 (loopM (S := Int) (R := (Unit) ⊕ (Bool)) (fun i =>
 bif decide (i < (List.length p.1 : Int)) then
 chk (decide ((0 : Int) ≤ i) && decide (i < (List.length p.1 : Int))) (
 bif decide ((ByteArray.size ((lget (ByteArray.empty, 0) p.1 i).1) : Int) > 30) then
 Option.map Sum.inr (Option.map Sum.inr (
 some false))
 else
 some (.inl (wi64 (i + 1))))
 else
 some (.inr (.inl ()))) 0).bind fun j => match j with
 | .inl _ => (
 (loopM (S := Int) (R := (Unit) ⊕ (Bool)) (fun i_1 =>
 bif decide (i_1 < (List.length p.2.1 : Int)) then
 chk (decide ((0 : Int) ≤ i_1) && decide (i_1 < (List.length p.2.1 : Int))) (
 bif decide ((ByteArray.size (lget ByteArray.empty p.2.1 i_1) : Int) > 30) then
 Option.map Sum.inr (Option.map Sum.inr (
 some false))
 else
 some (.inl (wi64 (i_1 + 1))))
 else
 some (.inr (.inl ()))) 0).bind fun j => match j with
 | .inl _ => (
 some true)
 | .inr r => some r)
 | .inr r => some r
noncomputable def cobblelaw10_Passes  : Option (ByteArray) :=
 let t : ByteArray := (bytes [49, 48, 32, 49, 48, 48, 32, 54, 48, 32, 49, 48, 48, 48, 48, 32, 49, 48, 48, 48, 48, 32, 57, 48, 48, 48, 32, 50, 32, 51, 32, 55, 32, 56, 32, 59, 32, 51, 48, 48, 32, 50, 48, 48, 48, 48, 32, 52, 48, 48, 48, 48, 48, 32, 48, 32, 49, 48, 48, 32, 59, 32, 51, 48, 48, 32, 50, 48, 48, 48, 48, 32, 52, 48, 48, 48, 48, 48, 32, 48, 32, 49, 48, 48])
 some t
noncomputable def cobblelaw10_Model  : Option (ByteArray) :=
 let t : ByteArray := (bytes [49, 47, 50, 32, 49, 47, 52, 32, 52, 32, 56, 48, 48, 48, 64, 50, 48, 48, 32, 57, 48, 48, 48, 64, 49, 48, 48, 32, 49, 48, 48, 48, 48, 64, 54, 48])
 some t
noncomputable def cobblelaw10_Plant  : Option (Dapi_MillPlant) :=
 (cobblelaw10_Passes).bind fun (t : ByteArray) =>
 (cobblelaw10_Model).bind fun (t_1 : ByteArray) =>
 some ([((bytes [111, 108, 97]), 1), ((bytes [116, 111, 109]), 2), ((bytes [109, 105, 97]), 3)], ([(bytes [102, 49]), (bytes [102, 50])], (t, t_1)))
noncomputable def mill_sum (s : ByteArray) (after : Int) : Option (Int) :=
 (loopM (S := Int × Int) (R := Int) (fun s_1 =>
 let after_1 : Int := s_1.1
 let t : Int := s_1.2
 bif decide (t < (List.length (sbytes s) : Int)) then
 chk (decide ((0 : Int) ≤ t) && decide (t < (List.length (sbytes s) : Int))) (
 let c : Int := lget 0 (sbytes s) t
 chk (1000033 != 0) (
 let t_1 : Int := Int.tmod (wi64 ((wi64 ((wi64 (after_1 * 137)) + (wi64 c))) + 1)) 1000033
 some (.inl (t_1, wi64 (t + 1)))))
 else
 some (.inr after_1)) (after, 0)).bind fun (after_2 : Int) =>
 some after_2
noncomputable def mill_SumOf (s : ByteArray) (after : Int) : Option (Int × Int) :=
 (mill_within after 0 1000032).bind fun (t : Bool) =>
 bif !t then
 some (0, 2)
 else
 (mill_sum s after).bind fun (t_1 : Int) =>
 some (t_1, 0)
noncomputable def strings_Join (l : List ByteArray) (s : ByteArray) : Option ByteArray :=
 bif decide (l.length ≤ 4294967296) && decide ((Lib.join (l.map (·.data.toList)) s.data.toList).length ≤ 4294967296) then some ⟨(Lib.join (l.map (·.data.toList)) s.data.toList).toArray⟩ else none
noncomputable def mill_list (l : (List ByteArray)) : Option (ByteArray) :=
 bif ((List.length l : Int) == 0) then
 some (bytes [45])
 else
 (strings_Join l (bytes [44])).bind fun (t : ByteArray) =>
 some t
end Go.Lift
