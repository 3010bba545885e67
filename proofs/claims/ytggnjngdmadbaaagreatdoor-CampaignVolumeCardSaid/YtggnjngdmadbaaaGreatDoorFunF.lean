/-
  The functions that the laws of the chapter reach, as plain functions.
-/
import Derived.Test.YtggnjngdmadbaaaGreatDoorLiftJ
import Derived.Lib.Join
import Derived.Lib.ItoaNum
import Derived.Test.YtggnjngdmadbaaaGreatDoorLiftN
set_option linter.unusedSectionVars false
set_option linter.unusedVariables false
set_option linter.unusedSimpArgs false
namespace Go.Lift
open Go
def wi64 (x : Int) : Int := IntKind.i64.wrap x
def bytes (l : List UInt8) : ByteArray := ⟨l.toArray⟩
end Go.Lift
namespace Go.Lift
abbrev Tapi_Range : Ty := .pair (.int .i64) (.int .i64)
abbrev Dapi_Range : Type := (Int × Int)
abbrev Tapi_CampaignItem : Ty := .pair (.int .i64) (.pair (.int .i64) Tapi_Range)
abbrev Dapi_CampaignItem : Type := (Int × (Int × Dapi_Range))
abbrev Tapi_CampaignSlab : Ty := .pair .str Tapi_CampaignItem
abbrev Dapi_CampaignSlab : Type := (ByteArray × Dapi_CampaignItem)
abbrev Tapi_CampaignOrder : Ty := .pair .str (.pair (.int .i64) (.pair (.int .i64) (.pair (.int .i64) (.pair (.int .i64) (.pair Tapi_Range (.int .i64))))))
abbrev Dapi_CampaignOrder : Type := (ByteArray × (Int × (Int × (Int × (Int × (Dapi_Range × Int))))))
abbrev Tapi_CampaignRules : Ty := .pair (.int .i64) (.pair (.int .i64) (.pair (.int .i64) (.pair (.int .i64) (.pair (.int .i64) Tapi_CampaignItem))))
abbrev Dapi_CampaignRules : Type := (Int × (Int × (Int × (Int × (Int × Dapi_CampaignItem)))))
abbrev Tcampaign_rules : Ty := .pair Tapi_CampaignRules (.slice Tapi_CampaignItem)
abbrev Dcampaign_rules : Type := (Dapi_CampaignRules × (List Dapi_CampaignItem))
abbrev Tcobblelaw01_Try : Ty := .pair (.slice (.int .i64)) (.slice (.int .i64))
abbrev Tcampaign_node : Ty := .pair (.slice (.slice .str)) (.pair (.slice .str) (.pair (.slice Tapi_Range) (.int .i64)))
abbrev Truntime_boundsError : Ty := .pair (.int .i64) (.pair (.int .i64) (.pair .bool (.int .u8)))
abbrev Truntime_errorAddressString : Ty := .pair .str (.int .u64)
abbrev Tcampaign_reader : Ty := .pair (.slice .str) (.int .i64)
abbrev Tcobbleref01_state : Ty := .pair (.slice (.slice .str)) (.int .i64)
abbrev Tstrconv_NumError : Ty := .pair .str (.pair .str .err)
abbrev Tutf8_acceptRange : Ty := .pair (.int .u8) (.int .u8)
abbrev Terrors_errorString : Ty := .one .str
noncomputable def campaign_first (l : (List Int)) : Option (Int) :=
 (loopM (S := Int) (R := (Unit) ⊕ (Int)) (fun t =>
 bif decide (t < (List.length l : Int)) then
 chk (decide ((0 : Int) ≤ t) && decide (t < (List.length l : Int))) (
 bif ((lget 0 l t) != 0) then
 Option.map Sum.inr (Option.map Sum.inr (
 some (lget 0 l t)))
 else
 some (.inl (wi64 (t + 1))))
 else
 some (.inr (.inl ()))) 0).bind fun j => match j with
 | .inl _ => (
 some 0)
 | .inr r => some r
noncomputable def campaign_unless (is : Bool) (e : Int) : Option (Int) :=
 bif is then
 some 0
 else
 some e
noncomputable def campaign_within (n : Int) (lo : Int) (hi : Int) : Option (Bool) :=
 let t : Bool := ((decide (lo ≤ n)) && (decide (n ≤ hi)))
 some t
noncomputable def campaign_isName (s : ByteArray) : Option (Bool) :=
 (loopM (S := Int) (R := (Unit) ⊕ (Bool)) (fun t =>
 bif decide (t < (List.length (sbytes s) : Int)) then
 chk (decide ((0 : Int) ≤ t) && decide (t < (List.length (sbytes s) : Int))) (
 let c : Int := lget 0 (sbytes s) t
 (campaign_within (wi64 c) 97 122).bind fun (t_1 : Bool) =>
 (bif t_1 then some true else
 (campaign_within (wi64 c) 65 90).bind fun (t_2 : Bool) =>
 some t_2).bind fun (c_1 : Bool) =>
 (bif !c_1 then
 (bif (t == 0) then some true else
 (bif (c != 45) then
 (campaign_within (wi64 c) 48 57).bind fun (t_3 : Bool) =>
 some (!t_3)
 else some false).bind fun (c_2 : Bool) =>
 some c_2).bind fun (c_3 : Bool) =>
 some c_3
 else some false).bind fun (c_4 : Bool) =>
 bif c_4 then
 Option.map Sum.inr (Option.map Sum.inr (
 some false))
 else
 some (.inl (wi64 (t + 1))))
 else
 some (.inr (.inl ()))) 0).bind fun j => match j with
 | .inl _ => (
 (campaign_within (ByteArray.size s : Int) 1 12).bind fun (t_4 : Bool) =>
 some t_4)
 | .inr r => some r
noncomputable def campaign_isGrade (n : Int) : Option (Bool) :=
 (campaign_within n 1 99).bind fun (t : Bool) =>
 some t
noncomputable def campaign_isThickness (n : Int) : Option (Bool) :=
 (campaign_within n 1 300000).bind fun (t : Bool) =>
 some t
noncomputable def campaign_isWidth (n : Int) : Option (Bool) :=
 (campaign_within n 500 2500).bind fun (t : Bool) =>
 some t
noncomputable def campaign_isHeat (n : Int) : Option (Bool) :=
 (campaign_within n 0 20000).bind fun (t : Bool) =>
 some t
noncomputable def campaign_CheckOrder (o : Dapi_CampaignOrder) : Option (Int) :=
 (campaign_isGrade o.2.1).bind fun (t : Bool) =>
 (bif t then
 (campaign_isThickness o.2.2.1).bind fun (t_1 : Bool) =>
 some t_1
 else some false).bind fun (c : Bool) =>
 (bif c then
 (campaign_within o.2.2.2.1 0 (wi64 (o.2.2.1 - 1))).bind fun (t_2 : Bool) =>
 some t_2
 else some false).bind fun (c_1 : Bool) =>
 (bif c_1 then
 (campaign_isWidth o.2.2.2.2.1).bind fun (t_3 : Bool) =>
 some t_3
 else some false).bind fun (c_2 : Bool) =>
 (bif c_2 then
 (campaign_isHeat o.2.2.2.2.2.1.1).bind fun (t_4 : Bool) =>
 some t_4
 else some false).bind fun (c_3 : Bool) =>
 (bif c_3 then
 (campaign_isHeat o.2.2.2.2.2.1.2).bind fun (t_5 : Bool) =>
 some t_5
 else some false).bind fun (c_4 : Bool) =>
 (campaign_isName o.1).bind fun (t_6 : Bool) =>
 (campaign_unless t_6 4).bind fun (t_7 : Int) =>
 (campaign_unless c_4 2).bind fun (t_8 : Int) =>
 (campaign_unless (decide (o.2.2.2.2.2.1.1 ≤ o.2.2.2.2.2.1.2)) 9).bind fun (t_9 : Int) =>
 chk (10 != 0) (
 let t_10 : Int := Int.tmod o.2.2.2.2.2.1.1 10
 (bif (t_10 == 0) then
 chk (10 != 0) (
 let t_11 : Int := Int.tmod o.2.2.2.2.2.1.2 10
 some (t_11 == 0))
 else some false).bind fun (c_5 : Bool) =>
 (campaign_unless c_5 3).bind fun (t_12 : Int) =>
 (campaign_within o.2.2.2.2.2.2 0 100000).bind fun (t_13 : Bool) =>
 (campaign_unless t_13 2).bind fun (t_14 : Int) =>
 (campaign_first [t_7, t_8, t_9, t_12, t_14]).bind fun (t_15 : Int) =>
 some t_15)
noncomputable def campaign_CheckSlab (s : Dapi_CampaignSlab) : Option (Int) :=
 (campaign_isGrade s.2.1).bind fun (t : Bool) =>
 (bif t then
 (campaign_isThickness s.2.2.1).bind fun (t_1 : Bool) =>
 some t_1
 else some false).bind fun (c : Bool) =>
 (bif c then
 (campaign_isWidth s.2.2.2.1).bind fun (t_2 : Bool) =>
 some t_2
 else some false).bind fun (c_1 : Bool) =>
 (bif c_1 then
 (campaign_within s.2.2.2.2 1 20000).bind fun (t_3 : Bool) =>
 some t_3
 else some false).bind fun (c_2 : Bool) =>
 (campaign_isName s.1).bind fun (t_4 : Bool) =>
 (campaign_unless t_4 4).bind fun (t_5 : Int) =>
 (campaign_unless c_2 2).bind fun (t_6 : Int) =>
 (campaign_first [t_5, t_6]).bind fun (t_7 : Int) =>
 some t_7
noncomputable def campaign_suits (s : Dapi_CampaignSlab) (o : Dapi_CampaignOrder) : Option (Bool) :=
 (bif (s.2.1 == o.2.1) then
 (campaign_within s.2.2.2.1 o.2.2.2.2.1 (wi64 (o.2.2.2.2.1 + 100))).bind fun (t : Bool) =>
 some t
 else some false).bind fun (c : Bool) =>
 some c
noncomputable def campaign_CoilLength (s : Dapi_CampaignSlab) (o : Dapi_CampaignOrder) : Option (Dapi_Range × Int) :=
 (campaign_CheckSlab s).bind fun (t : Int) =>
 (campaign_CheckOrder o).bind fun (t_1 : Int) =>
 (campaign_suits s o).bind fun (t_2 : Bool) =>
 (campaign_unless t_2 13).bind fun (t_3 : Int) =>
 (campaign_first [t, t_1, t_3]).bind fun (t_4 : Int) =>
 bif (t_4 != 0) then
 some ((0, 0), t_4)
 else
 let volume : Int := wi64 ((wi64 (s.2.2.1 * s.2.2.2.1)) * s.2.2.2.2)
 let thin : Int := wi64 ((wi64 (o.2.2.1 - o.2.2.2.1)) * o.2.2.2.2.1)
 let thick : Int := wi64 ((wi64 (o.2.2.1 + o.2.2.2.1)) * o.2.2.2.2.1)
 chk (thick != 0) (
 let t_5 : Int := wi64 (Int.tdiv volume thick)
 chk (thin != 0) (
 let t_6 : Int := wi64 (Int.tdiv (wi64 ((wi64 (volume + thin)) - 1)) thin)
 some ((t_5, t_6), 0)))
noncomputable def slices_IndexFunc_int (s : (List Int)) (f : (Int → Option Bool)) : Option (Int) :=
 (loopM (S := Int) (R := (Unit) ⊕ (Int)) (fun t =>
 bif decide (t < (List.length s : Int)) then
 chk (decide ((0 : Int) ≤ t) && decide (t < (List.length s : Int))) (
 (f (lget 0 s t)).bind fun (t_1 : Bool) =>
 bif t_1 then
 Option.map Sum.inr (Option.map Sum.inr (
 some t))
 else
 some (.inl (wi64 (t + 1))))
 else
 some (.inr (.inl ()))) 0).bind fun j => match j with
 | .inl _ => (
 some (-1))
 | .inr r => some r
noncomputable def slices_ContainsFunc_int (s : (List Int)) (f : (Int → Option Bool)) : Option (Bool) :=
 (slices_IndexFunc_int s f).bind fun (t : Int) =>
 some (decide (t ≥ 0))
noncomputable def campaign_CheckRules_1_1 (n : Int) (x : Int) : Option (Bool) :=
 (campaign_within n 0 x).bind fun (t : Bool) =>
 some (!t)
noncomputable def campaign_CheckRules_1 (most : Int) (l : (List Int)) : Option (Bool) :=
 (slices_ContainsFunc_int l (fun x => campaign_CheckRules_1_1 x most)).bind fun (t : Bool) =>
 some (!t)
noncomputable def campaign_CheckRules (r : Dapi_CampaignRules) : Option (Int) :=
 (campaign_CheckRules_1 7 [r.1]).bind fun (t : Bool) =>
 (bif t then
 (campaign_CheckRules_1 300000 [r.2.1, r.2.2.1, r.2.2.2.1]).bind fun (t_1 : Bool) =>
 some t_1
 else some false).bind fun (c : Bool) =>
 (bif c then
 (campaign_CheckRules_1 99 [r.2.2.2.2.1]).bind fun (t_2 : Bool) =>
 some t_2
 else some false).bind fun (c_1 : Bool) =>
 (bif c_1 then
 (campaign_CheckRules_1 70000 [r.2.2.2.2.2.1]).bind fun (t_3 : Bool) =>
 some t_3
 else some false).bind fun (c_2 : Bool) =>
 (bif c_2 then
 (campaign_CheckRules_1 10000 [r.2.2.2.2.2.2.1, r.2.2.2.2.2.2.2.1, r.2.2.2.2.2.2.2.2]).bind fun (t_4 : Bool) =>
 some t_4
 else some false).bind fun (c_3 : Bool) =>
 (campaign_unless c_3 2).bind fun (t_5 : Int) =>
 some t_5
noncomputable def slices_IndexFunc_apiCampaignItem (s : (List Dapi_CampaignItem)) (f : (Dapi_CampaignItem → Option Bool)) : Option (Int) :=
 (loopM (S := Int) (R := (Unit) ⊕ (Int)) (fun t =>
 bif decide (t < (List.length s : Int)) then
 chk (decide ((0 : Int) ≤ t) && decide (t < (List.length s : Int))) (
 (f (lget (0, (0, (0, 0))) s t)).bind fun (t_1 : Bool) =>
 bif t_1 then
 Option.map Sum.inr (Option.map Sum.inr (
 some t))
 else
 some (.inl (wi64 (t + 1))))
 else
 some (.inr (.inl ()))) 0).bind fun j => match j with
 | .inl _ => (
 some (-1))
 | .inr r => some r
noncomputable def slices_ContainsFunc_apiCampaignItem (s : (List Dapi_CampaignItem)) (f : (Dapi_CampaignItem → Option Bool)) : Option (Bool) :=
 (slices_IndexFunc_apiCampaignItem s f).bind fun (t : Int) =>
 some (decide (t ≥ 0))
noncomputable def campaign_open_1 (x : Dapi_CampaignItem) : Option (Bool) :=
 (campaign_isWidth x.1).bind fun (t : Bool) =>
 (bif !t then some true else
 (campaign_isThickness x.2.1).bind fun (t_1 : Bool) =>
 some (!t_1)).bind fun (c : Bool) =>
 (bif c then some true else
 (campaign_isGrade x.2.2.1).bind fun (t_2 : Bool) =>
 some (!t_2)).bind fun (c_1 : Bool) =>
 (bif c_1 then some true else
 (campaign_within x.2.2.2 1 10000).bind fun (t_3 : Bool) =>
 some (!t_3)).bind fun (c_2 : Bool) =>
 some c_2
noncomputable def campaign_open (r : Dapi_CampaignRules) (l : (List Dapi_CampaignItem)) : Option (Dcampaign_rules × Int) :=
 (slices_ContainsFunc_apiCampaignItem l (fun x => campaign_open_1 x)).bind fun (t : Bool) =>
 (campaign_CheckRules r).bind fun (t_1 : Int) =>
 (campaign_unless (decide ((List.length l : Int) > 0)) 10).bind fun (t_2 : Int) =>
 (campaign_unless (decide ((List.length l : Int) ≤ 7)) 8).bind fun (t_3 : Int) =>
 (campaign_unless (!t) 2).bind fun (t_4 : Int) =>
 (campaign_first [t_1, t_2, t_3, t_4]).bind fun (t_5 : Int) =>
 some ((r, l), t_5)
noncomputable def campaign_numbers (count : Int) : Option ((List Int)) :=
 (loopM (S := (List Int) × Int) (R := (List Int)) (fun s =>
 let out : (List Int) := s.1
 let t : Int := s.2
 bif decide (t < count) then
 (app out [t]).bind fun (t_1 : List Int) =>
 some (.inl (t_1, wi64 (t + 1)))
 else
 some (.inr out)) ([], 0)).bind fun (out_1 : (List Int)) =>
 some out_1
noncomputable def campaign_size (n : Int) : Option (Int) :=
 let t : Int := imax n (wi64 (0 - n))
 some t
noncomputable def campaign_rules_violates (r : Dcampaign_rules) (sequence : (List Int)) (p : Int) : Option ((Nat → Bool)) :=
 chk (decide ((0 : Int) ≤ 0) && decide ((0 : Int) ≤ (wi64 (p + 1))) && decide ((wi64 (p + 1)) ≤ (List.length sequence : Int))) (
 (loopM (S := Int × Int) (R := Int) (fun s =>
 let metres : Int := s.1
 let t : Int := s.2
 bif decide (t < (List.length (List.drop (Int.toNat 0) (List.take (Int.toNat (wi64 (p + 1))) sequence)) : Int)) then
 chk (decide ((0 : Int) ≤ t) && decide (t < (List.length (List.drop (Int.toNat 0) (List.take (Int.toNat (wi64 (p + 1))) sequence)) : Int))) (
 let i : Int := lget 0 (List.drop (Int.toNat 0) (List.take (Int.toNat (wi64 (p + 1))) sequence)) t
 chk (decide ((0 : Int) ≤ i) && decide (i < (List.length r.2 : Int))) (
 let metres_1 : Int := wi64 (metres + ((((lget (0, (0, (0, 0))) r.2 i).2).2).2))
 some (.inl (metres_1, wi64 (t + 1)))))
 else
 some (.inr metres)) (0, 0)).bind fun (metres_2 : Int) =>
 chk (decide ((0 : Int) ≤ 0) && decide ((0 : Int) < 5)) (
 let out : (Nat → Bool) := aset (fun _ => false) 0 (decide (metres_2 > r.1.2.2.2.2.2.1))
 bif (p == 0) then
 some out
 else
 chk (decide ((0 : Int) ≤ p) && decide (p < (List.length sequence : Int))) (
 chk (decide ((0 : Int) ≤ (lget 0 sequence p)) && decide ((lget 0 sequence p) < (List.length r.2 : Int))) (
 chk (decide ((0 : Int) ≤ (wi64 (p - 1))) && decide ((wi64 (p - 1)) < (List.length sequence : Int))) (
 chk (decide ((0 : Int) ≤ (lget 0 sequence (wi64 (p - 1)))) && decide ((lget 0 sequence (wi64 (p - 1))) < (List.length r.2 : Int))) (
 let x : Dapi_CampaignItem := lget (0, (0, (0, 0))) r.2 (lget 0 sequence p)
 let y : Dapi_CampaignItem := lget (0, (0, (0, 0))) r.2 (lget 0 sequence (wi64 (p - 1)))
 (bif decide (p < r.1.1) then
 chk (decide ((0 : Int) ≤ 1) && decide ((1 : Int) < 5)) (
 let out_1 : (Nat → Bool) := aset out 1 (decide ((wi64 (x.1 - y.1)) < 0))
 some out_1)
 else
 chk (decide ((0 : Int) ≤ 1) && decide ((1 : Int) < 5)) (
 let out_2 : (Nat → Bool) := aset out 1 (decide ((wi64 (x.1 - y.1)) > 0))
 some out_2)).bind fun (out_3 : (Nat → Bool)) =>
 (campaign_within (wi64 (x.1 - y.1)) (wi64 (0 - r.1.2.2.1)) r.1.2.1).bind fun (t_1 : Bool) =>
 chk (decide ((0 : Int) ≤ 2) && decide ((2 : Int) < 5)) (
 let out_4 : (Nat → Bool) := aset out_3 2 (!t_1)
 (campaign_size (wi64 (x.2.1 - y.2.1))).bind fun (t_2 : Int) =>
 chk (decide ((0 : Int) ≤ 3) && decide ((3 : Int) < 5)) (
 let out_5 : (Nat → Bool) := aset out_4 3 (decide (t_2 > r.1.2.2.2.1))
 (campaign_size (wi64 (x.2.2.1 - y.2.2.1))).bind fun (t_3 : Int) =>
 chk (decide ((0 : Int) ≤ 4) && decide ((4 : Int) < 5)) (
 let out_6 : (Nat → Bool) := aset out_5 4 (decide (t_3 > r.1.2.2.2.2.1))
 some out_6)))))))))
noncomputable def slices_Index_bool (s : (List Bool)) (v : Bool) : Option (Int) :=
 (loopM (S := Int) (R := (Unit) ⊕ (Int)) (fun t =>
 bif decide (t < (List.length s : Int)) then
 chk (decide ((0 : Int) ≤ t) && decide (t < (List.length s : Int))) (
 bif (v == (lget false s t)) then
 Option.map Sum.inr (Option.map Sum.inr (
 some t))
 else
 some (.inl (wi64 (t + 1))))
 else
 some (.inr (.inl ()))) 0).bind fun j => match j with
 | .inl _ => (
 some (-1))
 | .inr r => some r
noncomputable def slices_Contains_bool (s : (List Bool)) (v : Bool) : Option (Bool) :=
 (slices_Index_bool s v).bind fun (t : Int) =>
 some (decide (t ≥ 0))
noncomputable def slices_Index_int (s : (List Int)) (v : Int) : Option (Int) :=
 (loopM (S := Int) (R := (Unit) ⊕ (Int)) (fun t =>
 bif decide (t < (List.length s : Int)) then
 chk (decide ((0 : Int) ≤ t) && decide (t < (List.length s : Int))) (
 bif (v == (lget 0 s t)) then
 Option.map Sum.inr (Option.map Sum.inr (
 some t))
 else
 some (.inl (wi64 (t + 1))))
 else
 some (.inr (.inl ()))) 0).bind fun j => match j with
 | .inl _ => (
 some (-1))
 | .inr r => some r
noncomputable def slices_Contains_int (s : (List Int)) (v : Int) : Option (Bool) :=
 (slices_Index_int s v).bind fun (t : Int) =>
 some (decide (t ≥ 0))
def catM {α β : Type} (f : α → Option (List β)) : List α → Option (List β)
  | [] => some []
  | a :: l => (f a).bind fun x => (catM f l).bind fun y => some (x ++ y)
noncomputable def begunBad (r : Dcampaign_rules) (begun : List Int) : Option Bool :=
 bif decide ((begun.length : Int) > 0) then (campaign_rules_violates r begun (wi64 ((begun.length : Int) - 1))).bind fun v => slices_Contains_bool ((List.range 5).map v) true else some false
noncomputable def campL (r : Dcampaign_rules) (items : List Int) : Nat → List Int → Option (List (List Int))
  | m, begun => (begunBad r begun).bind fun bad => bif bad then some [] else bif ((begun.length : Int) == (items.length : Int)) then some [begun] else match m with
    | 0 => none
    | m + 1 => catM (fun i => (slices_Contains_int begun i).bind fun t => bif t then some [] else campL r items m (begun ++ [i])) items
noncomputable def campaign_rules_campaigns (r : Dcampaign_rules) (items : List Int) : Option (List (List Int)) := bif decide (items.length ≤ 1000) then campL r items (items.length + 1) [] else none
noncomputable def campaign_rules_cost (r : Dcampaign_rules) (a : Int) (b : Int) : Option (Int) :=
 chk (decide ((0 : Int) ≤ a) && decide (a < (List.length r.2 : Int))) (
 chk (decide ((0 : Int) ≤ b) && decide (b < (List.length r.2 : Int))) (
 let x : Dapi_CampaignItem := lget (0, (0, (0, 0))) r.2 a
 let y : Dapi_CampaignItem := lget (0, (0, (0, 0))) r.2 b
 (campaign_size (wi64 (x.1 - y.1))).bind fun (t : Int) =>
 (campaign_size (wi64 (x.2.1 - y.2.1))).bind fun (t_1 : Int) =>
 (campaign_size (wi64 (x.2.2.1 - y.2.2.1))).bind fun (t_2 : Int) =>
 let t_3 : Int := wi64 ((wi64 ((wi64 (r.1.2.2.2.2.2.2.1 * t)) + (wi64 (r.1.2.2.2.2.2.2.2.1 * t_1)))) + (wi64 (r.1.2.2.2.2.2.2.2.2 * t_2)))
 some t_3))
noncomputable def campaign_rules_costs (r : Dcampaign_rules) (sequence : (List Int)) : Option (Int) :=
 (loopM (S := Int × Int) (R := Int) (fun s =>
 let sum : Int := s.1
 let p : Int := s.2
 bif decide (p < (List.length sequence : Int)) then
 chk (decide ((0 : Int) ≤ (wi64 (p - 1))) && decide ((wi64 (p - 1)) < (List.length sequence : Int))) (
 chk (decide ((0 : Int) ≤ p) && decide (p < (List.length sequence : Int))) (
 (campaign_rules_cost r (lget 0 sequence (wi64 (p - 1))) (lget 0 sequence p)).bind fun (t : Int) =>
 some (.inl (wi64 (sum + t), wi64 (p + 1)))))
 else
 some (.inr sum)) (0, 1)).bind fun (sum_1 : Int) =>
 some sum_1
noncomputable def bestS (x : Dcampaign_rules) (s : List Int) (b : Option (List Int × Int)) : Option (Option (List Int × Int)) :=
  (campaign_rules_costs x s).bind fun n => match b with
    | none => some (some (s, n))
    | some c => chk (!c.1.isEmpty) (bif decide (n < c.2) then some (some (s, n)) else some (some c))
noncomputable def bestF (x : Dcampaign_rules) : List (List Int) → Option (List Int × Int) → Option (Option (List Int × Int))
  | [], b => some b
  | s :: cs, b => (bestS x s b).bind fun d => bestF x cs d
noncomputable def campaign_Cheapest (r : Dapi_CampaignRules) (l : List Dapi_CampaignItem) : Option (List Int × Int × Int) :=
 (campaign_open r l).bind fun x => bif x.2 != 0 then some ([], 0, x.2) else
 (campaign_numbers (l.length : Int)).bind fun ns => (campaign_rules_campaigns x.1 ns).bind fun cs => (bestF x.1 cs none).bind fun b => match b with
 | none => some ([], 0, 12)
 | some c => chk (!c.1.isEmpty) (some (c.1, c.2, 0))
noncomputable def campaign_BoundOf_1 (n : Int) : Option (Bool) :=
 (campaign_within n (-10000) 10000).bind fun (t : Bool) =>
 some (!t)
noncomputable def slices_Sorted_int (x : List Int) : Option (List Int) := bif decide (x.length ≤ 1000000) then some (x.mergeSort fun a b => decide (a ≤ b)) else none
noncomputable def slices_Values_int (x : List Int) : Option (List Int) := bif decide (x.length ≤ 1000000) then some x else none
noncomputable def campaign_rules_tree (r : Dcampaign_rules) (prices : (List Int)) : Option (Int) :=
 (loopM (S := (List Int) × Int) (R := Int) (fun s =>
 let in_ : (List Int) := s.1
 let sum : Int := s.2
 bif decide ((List.length in_ : Int) < (List.length r.2 : Int)) then
 (loopM (S := Int × Int × Int) (R := Int × Int) (fun s_1 =>
 let next : Int := s_1.1
 let least : Int := s_1.2.1
 let t : Int := s_1.2.2
 bif decide (t < (List.length in_ : Int)) then
 chk (decide ((0 : Int) ≤ t) && decide (t < (List.length in_ : Int))) (
 (loopM (S := Int × Int × Int) (R := Int × Int) (fun s_2 =>
 let next_1 : Int := s_2.1
 let least_1 : Int := s_2.2.1
 let t_1 : Int := s_2.2.2
 bif decide (t_1 < (List.length r.2 : Int)) then
 (campaign_rules_cost r (lget 0 in_ t) t_1).bind fun (t_2 : Int) =>
 chk (decide ((0 : Int) ≤ (lget 0 in_ t)) && decide ((lget 0 in_ t) < (List.length prices : Int))) (
 chk (decide ((0 : Int) ≤ t_1) && decide (t_1 < (List.length prices : Int))) (
 let n : Int := wi64 ((wi64 (t_2 - (lget 0 prices (lget 0 in_ t)))) - (lget 0 prices t_1))
 (slices_Contains_int in_ t_1).bind fun (t_3 : Bool) =>
 (bif ((!t_3) && ((decide (next_1 < 0)) || (decide (n < least_1)))) then
 some (t_1, n)
 else
 some (next_1, least_1)).bind fun (j : Int × Int) =>
 let next_2 : Int := j.1
 let least_2 : Int := j.2
 some (.inl (next_2, least_2, wi64 (t_1 + 1)))))
 else
 some (.inr (next_1, least_1))) (next, least, 0)).bind fun (b : Int × Int) =>
 let next_3 : Int := b.1
 let least_3 : Int := b.2
 some (.inl (next_3, least_3, wi64 (t + 1))))
 else
 some (.inr (next, least))) ((-1), 0, 0)).bind fun (b_1 : Int × Int) =>
 let next_4 : Int := b_1.1
 let least_4 : Int := b_1.2
 (app in_ [next_4]).bind fun (t_4 : List Int) =>
 let sum_1 : Int := wi64 (sum + least_4)
 some (.inl (t_4, sum_1))
 else
 some (.inr sum)) ([0], 0)).bind fun (sum_2 : Int) =>
 some sum_2
noncomputable def campaign_BoundOf (r : Dapi_CampaignRules) (l : (List Dapi_CampaignItem)) (prices : (List Int)) : Option (Int × Int) :=
 (campaign_open r l).bind fun (r_1 : Dcampaign_rules × Int) =>
 (slices_ContainsFunc_int prices (fun x => campaign_BoundOf_1 x)).bind fun (t : Bool) =>
 (campaign_unless ((List.length prices : Int) == (List.length l : Int)) 10).bind fun (t_1 : Int) =>
 (campaign_unless (!t) 2).bind fun (t_2 : Int) =>
 (campaign_first [r_1.2, t_1, t_2]).bind fun (t_3 : Int) =>
 bif (t_3 != 0) then
 some (0, t_3)
 else
 bif ((List.length l : Int) == 1) then
 some (0, 0)
 else
 (loopM (S := Int × Int) (R := Int) (fun s =>
 let sum : Int := s.1
 let t_4 : Int := s.2
 bif decide (t_4 < (List.length prices : Int)) then
 chk (decide ((0 : Int) ≤ t_4) && decide (t_4 < (List.length prices : Int))) (
 let sum_1 : Int := wi64 (sum + (wi64 (2 * (lget 0 prices t_4))))
 some (.inl (sum_1, wi64 (t_4 + 1))))
 else
 some (.inr sum)) (0, 0)).bind fun (sum_2 : Int) =>
 (slices_Values_int prices).bind fun (t_5 : (List Int)) =>
 (slices_Sorted_int t_5).bind fun (t_6 : (List Int)) =>
 chk (decide ((0 : Int) ≤ (wi64 ((List.length t_6 : Int) - 2))) && decide (((wi64 ((List.length t_6 : Int) - 2)) : Int) ≤ (List.length t_6 : Int)) && decide ((List.length t_6 : Int) ≤ (List.length t_6 : Int))) (
 let top : (List Int) := List.drop (Int.toNat (wi64 ((List.length t_6 : Int) - 2))) (List.take (Int.toNat (List.length t_6 : Int)) t_6)
 (campaign_rules_tree r_1.1 prices).bind fun (t_7 : Int) =>
 chk (decide ((0 : Int) ≤ 0) && decide (0 < (List.length top : Int))) (
 chk (decide ((0 : Int) ≤ 1) && decide (1 < (List.length top : Int))) (
 let t_8 : Int := wi64 ((wi64 ((wi64 (t_7 + sum_2)) - (lget 0 top 0))) - (lget 0 top 1))
 some (t_8, 0))))
noncomputable def b0_Ints (a : (List Int)) (b : (List Int)) : Option (Bool) :=
 bif ((List.length a : Int) != (List.length b : Int)) then
 some false
 else
 (loopM (S := Int) (R := (Unit) ⊕ (Bool)) (fun i =>
 bif decide (i < (List.length a : Int)) then
 chk (decide ((0 : Int) ≤ i) && decide (i < (List.length a : Int))) (
 chk (decide ((0 : Int) ≤ i) && decide (i < (List.length b : Int))) (
 bif ((lget 0 a i) != (lget 0 b i)) then
 Option.map Sum.inr (Option.map Sum.inr (
 some false))
 else
 some (.inl (wi64 (i + 1)))))
 else
 some (.inr (.inl ()))) 0).bind fun j => match j with
 | .inl _ => (
 some true)
 | .inr r => some r
noncomputable def campaign_CheckYard (y : (List (List ByteArray))) : Option (Int × Int) :=
 (campaign_unless (decide ((List.length y : Int) > 0)) 10).bind fun (t : Int) =>
 (campaign_unless (decide ((List.length y : Int) ≤ 4)) 8).bind fun (t_1 : Int) =>
 (campaign_first [t, t_1]).bind fun (t_2 : Int) =>
 bif (t_2 != 0) then
 some (0, t_2)
 else
 (loopM (S := Int × (List (ByteArray × Bool))) (R := ((List (ByteArray × Bool))) ⊕ (Int × Int)) (fun s =>
 let t_3 : Int := s.1
 let t_4 : (List (ByteArray × Bool)) := s.2
 bif decide (t_3 < (List.length y : Int)) then
 chk (decide ((0 : Int) ≤ t_3) && decide (t_3 < (List.length y : Int))) (
 bif decide ((List.length (lget [] y t_3) : Int) > 6) then
 Option.map Sum.inr (Option.map Sum.inr (
 some (t_3, 8)))
 else
 (loopM (S := Int × (List (ByteArray × Bool))) (R := ((List (ByteArray × Bool))) ⊕ ((Int × (List (ByteArray × Bool))) ⊕ (((List (ByteArray × Bool))) ⊕ (Int × Int)))) (fun s_1 =>
 let t_5 : Int := s_1.1
 let t_6 : (List (ByteArray × Bool)) := s_1.2
 bif decide (t_5 < (List.length (lget [] y t_3) : Int)) then
 chk (decide ((0 : Int) ≤ t_5) && decide (t_5 < (List.length (lget [] y t_3) : Int))) (
 let name : ByteArray := lget ByteArray.empty (lget [] y t_3) t_5
 (campaign_isName name).bind fun (t_7 : Bool) =>
 (campaign_unless t_7 4).bind fun (t_8 : Int) =>
 (campaign_unless (!(mget .str .bool t_6 name)) 5).bind fun (t_9 : Int) =>
 (campaign_first [t_8, t_9]).bind fun (t_10 : Int) =>
 bif (t_10 != 0) then
 Option.map Sum.inr (Option.map Sum.inr (
 Option.map Sum.inr (Option.map Sum.inr (
 some (t_3, t_10)))))
 else
 let t_11 : (List (ByteArray × Bool)) := mput .str .bool t_6 name true
 some (.inl (wi64 (t_5 + 1), t_11)))
 else
 some (.inr (.inl t_6))) (0, t_4)).bind fun j => match j with
 | .inl t_12 => (
 some (.inl (wi64 (t_3 + 1), t_12)))
 | .inr r => some r)
 else
 some (.inr (.inl t_4))) (0, [])).bind fun j => match j with
 | .inl t_13 => (
 (campaign_unless (decide ((List.length t_13 : Int) ≤ 8)) 8).bind fun (t_14 : Int) =>
 some (0, t_14))
 | .inr r => some r
noncomputable def slices_Clone_string (x : List ByteArray) : Option (List ByteArray) := app [] x
noncomputable def campaign_yard_clone (y : (List (List ByteArray))) : Option ((List (List ByteArray))) :=
 (loopM (S := (List (List ByteArray)) × Int) (R := (List (List ByteArray))) (fun s =>
 let out : (List (List ByteArray)) := s.1
 let t : Int := s.2
 bif decide (t < (List.length y : Int)) then
 chk (decide ((0 : Int) ≤ t) && decide (t < (List.length y : Int))) (
 (slices_Clone_string (lget [] y t)).bind fun (t_1 : (List ByteArray)) =>
 (app out [t_1]).bind fun (t_2 : List (List ByteArray)) =>
 some (.inl (t_2, wi64 (t + 1))))
 else
 some (.inr out)) ([], 0)).bind fun (out_1 : (List (List ByteArray))) =>
 some out_1
noncomputable def campaign_openYard (y : (List (List ByteArray))) : Option ((List (List ByteArray)) × Int) :=
 (campaign_CheckYard y).bind fun (r : Int × Int) =>
 (campaign_yard_clone y).bind fun (t : (List (List ByteArray))) =>
 some (t, r.2)
noncomputable def slices_IndexFunc_string (s : (List (List ByteArray))) (f : ((List ByteArray) → Option Bool)) : Option (Int) :=
 (loopM (S := Int) (R := (Unit) ⊕ (Int)) (fun t =>
 bif decide (t < (List.length s : Int)) then
 chk (decide ((0 : Int) ≤ t) && decide (t < (List.length s : Int))) (
 (f (lget [] s t)).bind fun (t_1 : Bool) =>
 bif t_1 then
 Option.map Sum.inr (Option.map Sum.inr (
 some t))
 else
 some (.inl (wi64 (t + 1))))
 else
 some (.inr (.inl ()))) 0).bind fun j => match j with
 | .inl _ => (
 some (-1))
 | .inr r => some r
noncomputable def slices_ContainsFunc_string (s : (List (List ByteArray))) (f : ((List ByteArray) → Option Bool)) : Option (Bool) :=
 (slices_IndexFunc_string s f).bind fun (t : Int) =>
 some (decide (t ≥ 0))
noncomputable def slices_Index_string (s : (List ByteArray)) (v : ByteArray) : Option (Int) :=
 (loopM (S := Int) (R := (Unit) ⊕ (Int)) (fun t =>
 bif decide (t < (List.length s : Int)) then
 chk (decide ((0 : Int) ≤ t) && decide (t < (List.length s : Int))) (
 bif seqb v (lget ByteArray.empty s t) then
 Option.map Sum.inr (Option.map Sum.inr (
 some t))
 else
 some (.inl (wi64 (t + 1))))
 else
 some (.inr (.inl ()))) 0).bind fun j => match j with
 | .inl _ => (
 some (-1))
 | .inr r => some r
noncomputable def slices_Contains_string (s : (List ByteArray)) (v : ByteArray) : Option (Bool) :=
 (slices_Index_string s v).bind fun (t : Int) =>
 some (decide (t ≥ 0))
noncomputable def campaign_openRequest_1 (pile : (List ByteArray)) (x : ByteArray) : Option (Bool) :=
 (slices_Contains_string pile x).bind fun (t : Bool) =>
 some t
noncomputable def campaign_openRequest (y : (List (List ByteArray))) (request : (List ByteArray)) : Option ((List (List ByteArray)) × Int) :=
 (campaign_openYard y).bind fun (r : (List (List ByteArray)) × Int) =>
 bif (r.2 != 0) then
 some ([], r.2)
 else
 (loopM (S := Int) (R := (Unit) ⊕ ((List (List ByteArray)) × Int)) (fun t =>
 bif decide (t < (List.length request : Int)) then
 chk (decide ((0 : Int) ≤ t) && decide (t < (List.length request : Int))) (
 let name : ByteArray := lget ByteArray.empty request t
 (slices_ContainsFunc_string y (fun x => campaign_openRequest_1 x name)).bind fun (t_1 : Bool) =>
 (campaign_unless (!(!t_1)) 6).bind fun (t_2 : Int) =>
 chk (decide ((0 : Int) ≤ 0) && decide ((0 : Int) ≤ t) && decide (t ≤ (List.length request : Int))) (
 (slices_Contains_string (List.drop (Int.toNat 0) (List.take (Int.toNat t) request)) name).bind fun (t_3 : Bool) =>
 (campaign_unless (!t_3) 23).bind fun (t_4 : Int) =>
 (campaign_first [t_2, t_4]).bind fun (t_5 : Int) =>
 bif (t_5 != 0) then
 Option.map Sum.inr (Option.map Sum.inr (
 some ([], t_5)))
 else
 some (.inl (wi64 (t + 1)))))
 else
 some (.inr (.inl ()))) 0).bind fun j => match j with
 | .inl _ => (
 some (r.1, 0))
 | .inr r => some r
noncomputable def slices_IndexFunc_string_190 (s : (List ByteArray)) (f : (ByteArray → Option Bool)) : Option (Int) :=
 (loopM (S := Int) (R := (Unit) ⊕ (Int)) (fun t =>
 bif decide (t < (List.length s : Int)) then
 chk (decide ((0 : Int) ≤ t) && decide (t < (List.length s : Int))) (
 (f (lget ByteArray.empty s t)).bind fun (t_1 : Bool) =>
 bif t_1 then
 Option.map Sum.inr (Option.map Sum.inr (
 some t))
 else
 some (.inl (wi64 (t + 1))))
 else
 some (.inr (.inl ()))) 0).bind fun j => match j with
 | .inl _ => (
 some (-1))
 | .inr r => some r
noncomputable def slices_ContainsFunc_string_153 (s : (List ByteArray)) (f : (ByteArray → Option Bool)) : Option (Bool) :=
 (slices_IndexFunc_string_190 s f).bind fun (t : Int) =>
 some (decide (t ≥ 0))
noncomputable def campaign_later (request : (List ByteArray)) (name : ByteArray) (than : ByteArray) : Option (Bool) :=
 (slices_Index_string request name).bind fun (t : Int) =>
 (bif decide (t < 0) then some true else
 (slices_Index_string request than).bind fun (t_1 : Int) =>
 some (decide (t > t_1))).bind fun (c : Bool) =>
 some c
noncomputable def campaign_yard_blocking_1 (below : ByteArray) (x : (List ByteArray)) (x_1 : ByteArray) : Option (Bool) :=
 (slices_Contains_string x below).bind fun (t : Bool) =>
 (bif t then
 (campaign_later x x_1 below).bind fun (t_1 : Bool) =>
 some t_1
 else some false).bind fun (c : Bool) =>
 some c
noncomputable def campaign_yard_blocking (y : (List (List ByteArray))) (request : (List ByteArray)) : Option ((List ByteArray)) :=
 (loopM (S := (List ByteArray) × Int) (R := (List ByteArray)) (fun s =>
 let out : (List ByteArray) := s.1
 let t : Int := s.2
 bif decide (t < (List.length y : Int)) then
 chk (decide ((0 : Int) ≤ t) && decide (t < (List.length y : Int))) (
 (loopM (S := (List ByteArray) × Int) (R := (List ByteArray)) (fun s_1 =>
 let out_1 : (List ByteArray) := s_1.1
 let t_1 : Int := s_1.2
 bif decide (t_1 < (List.length (lget [] y t) : Int)) then
 chk (decide ((0 : Int) ≤ t_1) && decide (t_1 < (List.length (lget [] y t) : Int))) (
 let name : ByteArray := lget ByteArray.empty (lget [] y t) t_1
 chk (decide ((0 : Int) ≤ 0) && decide ((0 : Int) ≤ t_1) && decide (t_1 ≤ (List.length (lget [] y t) : Int))) (
 (slices_ContainsFunc_string_153 (List.drop (Int.toNat 0) (List.take (Int.toNat t_1) (lget [] y t))) (fun x => campaign_yard_blocking_1 x request name)).bind fun (t_2 : Bool) =>
 (bif t_2 then
 (app out_1 [name]).bind fun (t_3 : List ByteArray) =>
 some t_3
 else
 some out_1).bind fun (out_2 : (List ByteArray)) =>
 some (.inl (out_2, wi64 (t_1 + 1)))))
 else
 some (.inr out_1)) (out, 0)).bind fun (out_3 : (List ByteArray)) =>
 some (.inl (out_3, wi64 (t + 1))))
 else
 some (.inr out)) ([], 0)).bind fun (out_4 : (List ByteArray)) =>
 some out_4
noncomputable def campaign_BlockedBy (y : (List (List ByteArray))) (request : (List ByteArray)) : Option ((List ByteArray) × Int) :=
 (campaign_openRequest y request).bind fun (r : (List (List ByteArray)) × Int) =>
 bif (r.2 != 0) then
 some ([], r.2)
 else
 (campaign_yard_blocking r.1 request).bind fun (t : (List ByteArray)) =>
 some (t, 0)
noncomputable def b0_Texts (a : (List ByteArray)) (b : (List ByteArray)) : Option (Bool) :=
 bif ((List.length a : Int) != (List.length b : Int)) then
 some false
 else
 (loopM (S := Int) (R := (Unit) ⊕ (Bool)) (fun i =>
 bif decide (i < (List.length a : Int)) then
 chk (decide ((0 : Int) ≤ i) && decide (i < (List.length a : Int))) (
 chk (decide ((0 : Int) ≤ i) && decide (i < (List.length b : Int))) (
 bif !seqb (lget ByteArray.empty a i) (lget ByteArray.empty b i) then
 Option.map Sum.inr (Option.map Sum.inr (
 some false))
 else
 some (.inl (wi64 (i + 1)))))
 else
 some (.inr (.inl ()))) 0).bind fun j => match j with
 | .inl _ => (
 some true)
 | .inr r => some r
noncomputable def strings_Split (s sep : ByteArray) : Option (List ByteArray) := splitF sep s
noncomputable def strconv_Itoa (n : Int) : Option ByteArray := bif decide ((-9223372036854775808 : Int) ≤ n) && decide (n ≤ 9223372036854775807) then some ⟨(Lib.itoa n).toArray⟩ else none
noncomputable def strconv_Atoi (s : ByteArray) : Option (Int × Bool) := atoiF s
noncomputable def campaign_number (s : ByteArray) : Option (Int × Bool) :=
 (strconv_Atoi s).bind fun (r : Int × Bool) =>
 (bif (r.2 && (decide (r.1 ≥ 0))) then
 (strconv_Itoa r.1).bind fun (t : ByteArray) =>
 some (seqb t s)
 else some false).bind fun (c : Bool) =>
 let t_1 : Bool := (c && (decide ((ByteArray.size s : Int) ≤ 6)))
 some (r.1, t_1)
def wordAt (ws : List ByteArray) (i : Int) : ByteArray := if i < (ws.length : Int) then lget ByteArray.empty ws i else ByteArray.empty
noncomputable def rdNumber (ws : List ByteArray) (i : Int) : Option (Option Int) := (campaign_number (wordAt ws i)).bind fun r => some (bif r.2 then some r.1 else none)
def unitOf (us : List (ByteArray × Int)) (w : ByteArray) : Option Int := (us.find? fun p => seqb w p.1).map (·.2)
def rdUnit (us : List (ByteArray × Int)) (ws : List ByteArray) (i : Int) : Option Int := if i < (ws.length : Int) then unitOf us (wordAt ws i) else none
noncomputable def rdMeasured (us : List (ByteArray × Int)) (ws : List ByteArray) (i : Int) : Option (Int ⊕ Int) :=
  (rdNumber ws i).bind fun n => match n with
    | none => some (.inl i)
    | some n => match rdUnit us ws (i + 1) with
      | none => some (.inl (i + 1))
      | some b => some (.inr (wi64 (n * b)))
def unFine : List (ByteArray × Int) := [(bytes [117, 109], 1), (bytes [109, 109], 1000)]
def unMm : List (ByteArray × Int) := [(bytes [109, 109], 1)]
def unTo : List (ByteArray × Int) := [(bytes [116, 111], 10)]
def unC : List (ByteArray × Int) := [(bytes [67], 10)]
noncomputable def rdClause (k : Nat) (ws : List ByteArray) (o : Dapi_CampaignOrder) (i : Int) : Option (Int ⊕ (Dapi_CampaignOrder × Int)) :=
  match k with
  | 0 => (rdNumber ws i).bind fun n => match n with
    | none => some (.inl i)
    | some n => some (.inr ((o.1, (n, o.2.2)), i + 1))
  | 1 => (rdMeasured unFine ws i).bind fun v => match v with
    | .inl j => some (.inl j)
    | .inr v => some (.inr ((o.1, (o.2.1, (v, o.2.2.2))), i + 2))
  | 2 => (rdMeasured unFine ws i).bind fun v => match v with
    | .inl j => some (.inl j)
    | .inr v => some (.inr ((o.1, (o.2.1, (o.2.2.1, (v, o.2.2.2.2)))), i + 2))
  | 3 => (rdMeasured unMm ws i).bind fun v => match v with
    | .inl j => some (.inl j)
    | .inr v => some (.inr ((o.1, (o.2.1, (o.2.2.1, (o.2.2.2.1, (v, o.2.2.2.2.2))))), i + 2))
  | 4 => (rdMeasured unTo ws i).bind fun v => match v with
    | .inl j => some (.inl j)
    | .inr v => (rdMeasured unC ws (i + 2)).bind fun u => match u with
      | .inl j => some (.inl j)
      | .inr u => some (.inr ((o.1, (o.2.1, (o.2.2.1, (o.2.2.2.1, (o.2.2.2.2.1, ((v, u), o.2.2.2.2.2.2)))))), i + 4))
  | _ => (rdNumber ws i).bind fun n => match n with
    | none => some (.inl i)
    | some n => some (.inr ((o.1, (o.2.1, (o.2.2.1, (o.2.2.2.1, (o.2.2.2.2.1, (o.2.2.2.2.2.1, n)))))), i + 1))
def clauseWords : List ByteArray := [bytes [103, 114, 97, 100, 101], bytes [116, 104, 105, 99, 107, 110, 101, 115, 115], bytes [116, 111, 108, 101, 114, 97, 110, 99, 101], bytes [119, 105, 100, 116, 104], bytes [99, 111, 105, 108, 105, 110, 103], bytes [100, 117, 101]]
def clauseOf (w : ByteArray) : Option Nat := clauseWords.findIdx? fun c => seqb c w
noncomputable def rdClauses (ws : List ByteArray) : Nat → Dapi_CampaignOrder → Int → (Nat → Bool) → Option ((Int × Int) ⊕ (Dapi_CampaignOrder × (Nat → Bool)))
  | 0, _, _, _ => none
  | n + 1, o, i, given => if i < (ws.length : Int) then match clauseOf (wordAt ws i) with
      | none => some (.inl (i, 7))
      | some k => bif given k then some (.inl (i, 23)) else (rdClause k ws o (i + 1)).bind fun r => match r with
        | .inl j => some (.inl (j, 7))
        | .inr r => rdClauses ws n r.1 r.2 (upd given k true)
    else some (.inr (o, given))
def noOrder : Dapi_CampaignOrder := (ByteArray.empty, (0, (0, (0, (0, ((0, 0), 0))))))
noncomputable def campaign_ParseOrder (s : ByteArray) : Option (Dapi_CampaignOrder × Int × Int) :=
  (strings_Split s (bytes [32])).bind fun ws => (campaign_isName (wordAt ws 0)).bind fun is => bif !is then some (noOrder, 0, 7) else
    (rdClauses ws (ws.length + 1) (wordAt ws 0, (0, (0, (0, (0, ((0, 20000), 0)))))) 1 (fun _ => false)).bind fun r => match r with
      | .inl f => some (noOrder, f.1, f.2)
      | .inr r => bif !(r.2 0 && r.2 1 && r.2 3) then some (noOrder, 0, 14) else (campaign_CheckOrder r.1).bind fun e => bif e != 0 then some (noOrder, 0, e) else some (r.1, 0, 0)
noncomputable def cobblelaw01_Yard  : Option ((List (List ByteArray))) :=
 let t : (List (List ByteArray)) := [[(bytes [97]), (bytes [98]), (bytes [99])], [(bytes [100])], []]
 some t
noncomputable def cobblelaw01_Rules  : Option (Dapi_CampaignRules) :=
 some (2, (100, (150, (1000, (2, (5000, (1, (0, 10))))))))
noncomputable def cobblelaw01_Items  : Option ((List Dapi_CampaignItem)) :=
 let t : (List Dapi_CampaignItem) := [(1200, (3000, (5, 1000))), (1100, (2500, (4, 1000))), (1050, (3400, (6, 2000)))]
 some t
noncomputable def cobblelaw01_awake  : Option (Bool) :=
 (campaign_ParseOrder (bytes [97, 45, 49, 32, 119, 105, 100, 116, 104, 32, 49, 50, 48, 48, 32, 109, 109, 32, 116, 104, 105, 99, 107, 110, 101, 115, 115, 32, 51, 32, 109, 109, 32, 103, 114, 97, 100, 101, 32, 53, 32, 116, 111, 108, 101, 114, 97, 110, 99, 101, 32, 53, 48, 32, 117, 109, 32, 100, 117, 101, 32, 49, 50])).bind fun (r : Dapi_CampaignOrder × Int × Int) =>
 (campaign_CoilLength ((bytes [115]), (5, (200000, (1250, 8000)))) r.1).bind fun (r_1 : Dapi_Range × Int) =>
 (cobblelaw01_Yard).bind fun (t : (List (List ByteArray))) =>
 (campaign_BlockedBy t [(bytes [97]), (bytes [99])]).bind fun (r_2 : (List ByteArray) × Int) =>
 (cobblelaw01_Rules).bind fun (t_1 : Dapi_CampaignRules) =>
 (cobblelaw01_Items).bind fun (t_2 : (List Dapi_CampaignItem)) =>
 (campaign_Cheapest t_1 t_2).bind fun (r_3 : (List Int) × Int × Int) =>
 (cobblelaw01_Rules).bind fun (t_3 : Dapi_CampaignRules) =>
 (cobblelaw01_Items).bind fun (t_4 : (List Dapi_CampaignItem)) =>
 (campaign_BoundOf t_3 t_4 [0, 20, 0]).bind fun (r_4 : Int × Int) =>
 (bif ((r.2.2 == 0) && (r_1.2 == 0)) then
 some (Ty.eqb Tapi_Range r_1.1 (546448, 564972))
 else some false).bind fun (c : Bool) =>
 (bif (c && (r_2.2 == 0)) then
 (b0_Texts r_2.1 [(bytes [98]), (bytes [99])]).bind fun (t_5 : Bool) =>
 some t_5
 else some false).bind fun (c_1 : Bool) =>
 (bif (c_1 && (r_3.2.2 == 0)) then
 (b0_Ints r_3.1 [1, 0, 2]).bind fun (t_6 : Bool) =>
 some t_6
 else some false).bind fun (c_2 : Bool) =>
 let t_7 : Bool := (((c_2 && (r_3.2.1 == 270)) && (r_4.2 == 0)) && (r_4.1 == 160))
 some t_7
noncomputable def b0_Within (n : Int) (lo : Int) (hi : Int) : Option (Bool) :=
 let t : Bool := ((decide (lo ≤ n)) && (decide (n ≤ hi)))
 some t
noncomputable def b0_IsName (s : ByteArray) : Option (Bool) :=
 bif ((decide ((ByteArray.size s : Int) < 1)) || (decide ((ByteArray.size s : Int) > 12))) then
 some false
 else
 (loopM (S := Int) (R := (Unit) ⊕ (Bool)) (fun i =>
 bif decide (i < (ByteArray.size s : Int)) then
 chk (decide ((0 : Int) ≤ i) && decide (i < (ByteArray.size s : Int))) (
 let letter : Bool := (((decide ((sget s i) ≥ 97)) && (decide ((sget s i) ≤ 122))) || ((decide ((sget s i) ≥ 65)) && (decide ((sget s i) ≤ 90))))
 bif ((!letter) && ((i == 0) || (((sget s i) != 45) && ((decide ((sget s i) < 48)) || (decide ((sget s i) > 57)))))) then
 Option.map Sum.inr (Option.map Sum.inr (
 some false))
 else
 some (.inl (wi64 (i + 1))))
 else
 some (.inr (.inl ()))) 0).bind fun j => match j with
 | .inl _ => (
 some true)
 | .inr r => some r
noncomputable def cobbleref01_isWidth (n : Int) : Option (Bool) :=
 (b0_Within n 500 2500).bind fun (t : Bool) =>
 some t
noncomputable def cobbleref01_SlabErr (s : Dapi_CampaignSlab) : Option (Int) :=
 (b0_IsName s.1).bind fun (t : Bool) =>
 bif !t then
 some 4
 else
 (b0_Within s.2.1 1 99).bind fun (t_1 : Bool) =>
 (bif !t_1 then some true else
 (b0_Within s.2.2.1 1 300000).bind fun (t_2 : Bool) =>
 some (!t_2)).bind fun (c : Bool) =>
 (bif c then some true else
 (cobbleref01_isWidth s.2.2.2.1).bind fun (t_3 : Bool) =>
 some (!t_3)).bind fun (c_1 : Bool) =>
 (bif c_1 then some true else
 (b0_Within s.2.2.2.2 1 20000).bind fun (t_4 : Bool) =>
 some (!t_4)).bind fun (c_2 : Bool) =>
 bif c_2 then
 some 2
 else
 some 0
noncomputable def cobbleref01_OrderErr (o : Dapi_CampaignOrder) : Option (Int) :=
 (b0_IsName o.1).bind fun (t : Bool) =>
 bif !t then
 some 4
 else
 (b0_Within o.2.1 1 99).bind fun (t_1 : Bool) =>
 (bif !t_1 then some true else
 (b0_Within o.2.2.1 1 300000).bind fun (t_2 : Bool) =>
 some (!t_2)).bind fun (c : Bool) =>
 (bif c then some true else
 (b0_Within o.2.2.2.1 0 (wi64 (o.2.2.1 - 1))).bind fun (t_3 : Bool) =>
 some (!t_3)).bind fun (c_1 : Bool) =>
 (bif c_1 then some true else
 (cobbleref01_isWidth o.2.2.2.2.1).bind fun (t_4 : Bool) =>
 some (!t_4)).bind fun (c_2 : Bool) =>
 (bif c_2 then some true else
 (b0_Within o.2.2.2.2.2.1.1 0 20000).bind fun (t_5 : Bool) =>
 some (!t_5)).bind fun (c_3 : Bool) =>
 (bif c_3 then some true else
 (b0_Within o.2.2.2.2.2.1.2 0 20000).bind fun (t_6 : Bool) =>
 some (!t_6)).bind fun (c_4 : Bool) =>
 bif c_4 then
 some 2
 else
 bif decide (o.2.2.2.2.2.1.1 > o.2.2.2.2.2.1.2) then
 some 9
 else
 chk (10 != 0) (
 let t_7 : Int := Int.tmod o.2.2.2.2.2.1.1 10
 (bif (t_7 != 0) then some true else
 chk (10 != 0) (
 let t_8 : Int := Int.tmod o.2.2.2.2.2.1.2 10
 some (t_8 != 0))).bind fun (c_5 : Bool) =>
 bif c_5 then
 some 3
 else
 (b0_Within o.2.2.2.2.2.2 0 100000).bind fun (t_9 : Bool) =>
 bif !t_9 then
 some 2
 else
 some 0)
noncomputable def cobbleref01_Suits (s : Dapi_CampaignSlab) (o : Dapi_CampaignOrder) : Option (Bool) :=
 (bif (s.2.1 == o.2.1) then
 (b0_Within (wi64 (s.2.2.2.1 - o.2.2.2.2.1)) 0 100).bind fun (t : Bool) =>
 some t
 else some false).bind fun (c : Bool) =>
 some c
noncomputable def b0_Mod (n : Int) (by_ : Int) : Option (Int) :=
 chk (by_ != 0) (
 (bif decide ((Int.tmod n by_) < 0) then
 let n_1 : Int := wi64 ((Int.tmod n by_) + by_)
 some n_1
 else
 some (Int.tmod n by_)).bind fun (n_2 : Int) =>
 some n_2)
noncomputable def cobblelaw01_CampaignVolume (s : Dapi_CampaignSlab) (o : Dapi_CampaignOrder) (more : Int) : Option (Bool) :=
 (cobblelaw01_awake).bind fun (t : Bool) =>
 bif !t then
 some false
 else
 (cobbleref01_SlabErr s).bind fun (t_1 : Int) =>
 (bif (t_1 != 0) then some true else
 (cobbleref01_OrderErr o).bind fun (t_2 : Int) =>
 some (t_2 != 0)).bind fun (c : Bool) =>
 (bif c then some true else
 (cobbleref01_Suits s o).bind fun (t_3 : Bool) =>
 some (!t_3)).bind fun (c_1 : Bool) =>
 bif c_1 then
 some true
 else
 (campaign_CoilLength s o).bind fun (r : Dapi_Range × Int) =>
 (campaign_CoilLength s (o.1, (o.2.1, (o.2.2.1, (0, o.2.2.2.2))))).bind fun (r_1 : Dapi_Range × Int) =>
 (bif ((r.2 != 0) || (r_1.2 != 0)) then some true else
 (b0_Within r.1.1 0 r_1.1.1).bind fun (t_4 : Bool) =>
 some (!t_4)).bind fun (c_2 : Bool) =>
 (bif (c_2 || (decide (r.1.2 < r_1.1.2))) then some true else
 (b0_Within r_1.1.1 0 (wi64 (6000000000 * 5))).bind fun (t_5 : Bool) =>
 some (!t_5)).bind fun (c_3 : Bool) =>
 (bif c_3 then some true else
 (b0_Within (wi64 (r_1.1.2 - r_1.1.1)) 0 1).bind fun (t_6 : Bool) =>
 some (!t_6)).bind fun (c_4 : Bool) =>
 bif c_4 then
 some false
 else
 let volume : Int := wi64 ((wi64 (s.2.2.1 * s.2.2.2.1)) * s.2.2.2.2)
 let area : Int := wi64 (o.2.2.1 * o.2.2.2.2.1)
 (bif ((decide ((wi64 (r_1.1.1 * area)) > volume)) || (decide ((wi64 (r_1.1.2 * area)) < volume))) then some true else
 some (decide ((wi64 ((wi64 (r_1.1.1 + 1)) * area)) ≤ volume))).bind fun (c_5 : Bool) =>
 bif c_5 then
 some false
 else
 (b0_Mod more 100).bind fun (t_7 : Int) =>
 (cobbleref01_SlabErr (s.1, (s.2.1, (s.2.2.1, (s.2.2.2.1, wi64 (s.2.2.2.2 + t_7)))))).bind fun (t_8 : Int) =>
 bif (t_8 != 0) then
 some true
 else
 (campaign_CoilLength (s.1, (s.2.1, (s.2.2.1, (s.2.2.2.1, wi64 (s.2.2.2.2 + t_7))))) o).bind fun (r_2 : Dapi_Range × Int) =>
 let t_9 : Bool := (((r_2.2 == 0) && (decide (r_2.1.1 ≥ r.1.1))) && (decide (r_2.1.2 ≥ r.1.2)))
 some t_9
end Go.Lift
