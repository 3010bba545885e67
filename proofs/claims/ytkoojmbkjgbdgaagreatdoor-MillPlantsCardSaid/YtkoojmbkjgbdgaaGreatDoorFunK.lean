/-
  Each function's code computes the plain function, by the kernel.
-/
import Derived.Test.YtkoojmbkjgbdgaaGreatDoorFunT
set_option linter.unusedSectionVars false
set_option linter.unusedVariables false
set_option linter.unusedSimpArgs false
namespace Go.Lift
open Go Go.Proofs
theorem ck_mill_first (l : (List Int)) : funK (cx [] []) Tryz.f41 an_mill_first [(.slice (.int .i64))] [(.int .i64)] l = mill_first l := by kernel_rfl
theorem ck_mill_isName (s : ByteArray) : funK (cx [] [sg_mill_within]) Tryz.f99 an_mill_isName [.str] [.bool] s = mill_isName s := by kernel_rfl
theorem ck_mill_open_2 (x : Dapi_MillPerson) : funK (cx [] []) Tryz.f55 an_mill_open_2 [Tapi_MillPerson] [.str] x = mill_open_2 x := by kernel_rfl
theorem ck_pass_numbers (words : (List ByteArray)) : funK (cx [] [sg_strconv_Itoa, sg_strconv_Atoi]) Tryz.f158 an_pass_numbers [(.slice .str)] [(.slice (.int .i64)), .bool] words = pass_numbers words := by kernel_rfl
theorem ck_pass_first (l : (List Int)) : funK (cx [] []) Tryz.f162 an_pass_first [(.slice (.int .i64))] [(.int .i64)] l = pass_first l := by kernel_rfl
theorem ck_pass_ordered_1 (r : Dapi_ModelCorrection) : funK (cx [] []) Tryz.f219 an_pass_ordered_1 [Tapi_ModelCorrection] [.bool] r = pass_ordered_1 r := by kernel_rfl
theorem ck_model_pair (s : ByteArray) (between : ByteArray) : funK (cx [] [sg_strings_Cut, sg_model_number]) Tryz.f106 an_model_pair [.str, .str] [(.int .i64), (.int .i64), .bool] (s, between) = model_pair s between := by kernel_rfl
theorem ck_model_isX (n : Int) : funK (cx [] [sg_model_within]) Tryz.f220 an_model_isX [(.int .i64)] [.bool] n = model_isX n := by kernel_rfl
theorem ck_model_isLowest (f : Dapi_ModelCorrection) : funK (cx [] [sg_model_divisor]) Tryz.f170 an_model_isLowest [Tapi_ModelCorrection] [.bool] f = model_isLowest f := by kernel_rfl
theorem ck_b0_IsName (s : ByteArray) : funK (cx [] []) Tryz.f32 an_b0_IsName [.str] [.bool] s = b0_IsName s := by kernel_rfl
theorem ck_b0_Number (s : ByteArray) (digits : Int) : funK (cx [] []) Tryz.f109 an_b0_Number [.str, (.int .i64)] [(.int .i64), .bool] (s, digits) = b0_Number s digits := by kernel_rfl
theorem ck_cobbleref03_CheckRules (r : Dapi_PassRules) : funK (cx [] [sg_b0_Within, sg_cobbleref03_isThickness, sg_cobbleref03_isHeat]) Tryz.f110 an_cobbleref03_CheckRules [Tapi_PassRules] [(.int .i64), (.int .i64)] r = cobbleref03_CheckRules r := by kernel_rfl
theorem ck_cobbleref04_parsedPair (s : ByteArray) (between : Int) : funK (cx [] [sg_b0_Cut, sg_cobbleref04_parsedNumber]) Tryz.f64 an_cobbleref04_parsedPair [.str, (.int .u8)] [(.int .i64), (.int .i64), .bool] (s, between) = cobbleref04_parsedPair s between := by kernel_rfl
theorem ck_b0_Gcd (a : Int) (b : Int) : funK (cx [] [sg_b0_Size]) Tryz.f223 an_b0_Gcd [(.int .i64), (.int .i64)] [(.int .i64)] (a, b) = b0_Gcd a b := by kernel_rfl
theorem ck_cobbleref04_RulesErr (r : Dapi_ModelRules) : funK (cx [] [sg_cobbleref04_CheckRules]) Tryz.f66 an_cobbleref04_RulesErr [Tapi_ModelRules] [(.int .i64)] r = cobbleref04_RulesErr r := by kernel_rfl
theorem ck_cobbleref10_CopyPlant (p : Dapi_MillPlant) : funK (cx [] [sg_b0_CopyTexts]) Tryz.f9 an_cobbleref10_CopyPlant [Tapi_MillPlant] [Tapi_MillPlant] p = cobbleref10_CopyPlant p := by kernel_rfl
theorem ck_cobblelaw10_Plant  : funK (cx [] [sg_cobblelaw10_Passes, sg_cobblelaw10_Model]) Tryz.f24 an_cobblelaw10_Plant [] [Tapi_MillPlant] () = cobblelaw10_Plant := by kernel_rfl
end Go.Lift
namespace Go.Lift
open Go Go.Proofs
theorem ck_mill_unless (is : Bool) (e : Int) : funK (cx [] []) Tryz.f42 an_mill_unless [.bool, (.int .i64)] [(.int .i64)] (is, e) = mill_unless is e := by kernel_rfl
theorem ck_slices_Index_string (s : (List ByteArray)) (v : ByteArray) : funK (cx [] []) Tryz.f157 an_slices_Index_string [(.slice .str), .str] [(.int .i64)] (s, v) = slices_Index_string s v := by kernel_rfl
theorem ck_mill_named_string (l : (List ByteArray)) (name : (ByteArray → Option ByteArray)) (err : (ByteArray → Option Int)) : funK (cx [] [sg_mill_first, sg_mill_unless, sg_mill_isName, sg_slices_Contains_string]) Tryz.f56 an_mill_named_string [(.slice .str), (.fn .str .str), (.fn .str (.int .i64))] [(.int .i64), (.int .i64)] (l, name, err) = mill_named_string l name err := by kernel_rfl
theorem ck_pass_within (n : Int) (lo : Int) (hi : Int) : funK (cx [] []) Tryz.f159 an_pass_within [(.int .i64), (.int .i64), (.int .i64)] [.bool] (n, lo, hi) = pass_within n lo hi := by kernel_rfl
theorem ck_pass_unless (ok : Bool) (e : Int) : funK (cx [] []) Tryz.f163 an_pass_unless [.bool, (.int .i64)] [(.int .i64)] (ok, e) = pass_unless ok e := by kernel_rfl
theorem ck_pass_ordered (l : (List Dapi_ModelCorrection)) : funK (cx [] [sg_slices_ContainsFunc_apiRange, sg_pass_ordered_1]) Tryz.f164 an_pass_ordered [(.slice Tapi_ModelCorrection)] [.bool] l = pass_ordered l := by kernel_rfl
theorem ck_model_within (n : Int) (lo : Int) (hi : Int) : funK (cx [] []) Tryz.f167 an_model_within [(.int .i64), (.int .i64), (.int .i64)] [.bool] (n, lo, hi) = model_within n lo hi := by kernel_rfl
theorem ck_model_CheckTable (l : (List Dapi_ModelCorrection)) : funK (cx [] [sg_model_within, sg_model_first, sg_model_unless, sg_model_isX]) Tryz.f165 an_model_CheckTable [(.slice Tapi_ModelCorrection)] [(.int .i64), (.int .i64)] l = model_CheckTable l := by kernel_rfl
theorem ck_model_CheckRules (r : Dapi_ModelRules) : funK (cx [] [sg_model_CheckTable, sg_model_CheckRules_1, sg_model_within, sg_model_first, sg_model_unless, sg_model_isLowest]) Tryz.f108 an_model_CheckRules [Tapi_ModelRules] [(.int .i64), (.int .i64)] r = model_CheckRules r := by kernel_rfl
theorem ck_b0_Within (n : Int) (lo : Int) (hi : Int) : funK (cx [] []) Tryz.f33 an_b0_Within [(.int .i64), (.int .i64), (.int .i64)] [.bool] (n, lo, hi) = b0_Within n lo hi := by kernel_rfl
theorem ck_cobbleref03_parsed (w : (List ByteArray)) : funK (cx [] [sg_b0_Number]) Tryz.f62 an_cobbleref03_parsed [(.slice .str)] [(.slice (.int .i64)), .bool] w = cobbleref03_parsed w := by kernel_rfl
theorem ck_cobbleref03_RulesErr (r : Dapi_PassRules) : funK (cx [] [sg_cobbleref03_CheckRules]) Tryz.f63 an_cobbleref03_RulesErr [Tapi_PassRules] [(.int .i64)] r = cobbleref03_RulesErr r := by kernel_rfl
theorem ck_cobbleref04_XErr (x : Int) : funK (cx [] [sg_b0_Within]) Tryz.f222 an_cobbleref04_XErr [(.int .i64)] [(.int .i64)] x = cobbleref04_XErr x := by kernel_rfl
theorem ck_b0_IsLowest (f : Dapi_ModelCorrection) : funK (cx [] [sg_b0_Gcd]) Tryz.f174 an_b0_IsLowest [Tapi_ModelCorrection] [.bool] f = b0_IsLowest f := by kernel_rfl
theorem ck_cobbleref04_ParseRules (s : ByteArray) : funK (cx [] [sg_b0_Cut, sg_cobbleref04_parsedPair, sg_cobbleref04_parsedNumber, sg_cobbleref04_RulesErr]) Tryz.f36 an_cobbleref04_ParseRules [.str] [Tapi_ModelRules, (.int .i64)] s = cobbleref04_ParseRules s := by kernel_rfl
theorem ck_cobblelaw10_Few (p : Dapi_MillPlant) : funK (cx [] []) Tryz.f7 an_cobblelaw10_Few [Tapi_MillPlant] [.bool] p = cobblelaw10_Few p := by kernel_rfl
theorem ck_mill_sum (s : ByteArray) (after : Int) : funK (cx [] []) Tryz.f50 an_mill_sum [.str, (.int .i64)] [(.int .i64)] (s, after) = mill_sum s after := by kernel_rfl
end Go.Lift
namespace Go.Lift
open Go Go.Proofs
theorem ck_mill_within (n : Int) (lo : Int) (hi : Int) : funK (cx [] []) Tryz.f49 an_mill_within [(.int .i64), (.int .i64), (.int .i64)] [.bool] (n, lo, hi) = mill_within n lo hi := by kernel_rfl
theorem ck_slices_Contains_string (s : (List ByteArray)) (v : ByteArray) : funK (cx [] [sg_slices_Index_string]) Tryz.f100 an_slices_Contains_string [(.slice .str), .str] [.bool] (s, v) = slices_Contains_string s v := by kernel_rfl
theorem ck_mill_open_3 (s : ByteArray) : funK (cx [] []) Tryz.f57 an_mill_open_3 [.str] [.str] s = mill_open_3 s := by kernel_rfl
theorem ck_pass_isThickness (n : Int) : funK (cx [] [sg_pass_within]) Tryz.f160 an_pass_isThickness [(.int .i64)] [.bool] n = pass_isThickness n := by kernel_rfl
theorem ck_slices_IndexFunc_apiRange (s : (List Dapi_ModelCorrection)) (f : (Dapi_ModelCorrection → Option Bool)) : funK (cx [] []) Tryz.f277 an_slices_IndexFunc_apiRange [(.slice Tapi_ModelCorrection), (.fn Tapi_ModelCorrection .bool)] [(.int .i64)] (s, f) = slices_IndexFunc_apiRange s f := by kernel_rfl
theorem ck_pass_CheckRules (r : Dapi_PassRules) : funK (cx [] [sg_pass_within, sg_pass_isThickness, sg_pass_bounds_holds, sg_pass_first, sg_pass_unless, sg_pass_ordered]) Tryz.f105 an_pass_CheckRules [Tapi_PassRules] [(.int .i64), (.int .i64)] r = pass_CheckRules r := by kernel_rfl
theorem ck_model_first (l : (List Int)) : funK (cx [] []) Tryz.f168 an_model_first [(.slice (.int .i64))] [(.int .i64)] l = model_first l := by kernel_rfl
theorem ck_model_CheckRules_1 (n : Int) : funK (cx [] [sg_model_within]) Tryz.f166 an_model_CheckRules_1 [(.int .i64)] [.bool] n = model_CheckRules_1 n := by kernel_rfl
theorem ck_mill_open (p : Dapi_MillPlant) : funK (cx [] [sg_mill_first, sg_mill_unless, sg_mill_open_1, sg_mill_named_apiMillPerson, sg_mill_open_2, sg_mill_named_string, sg_mill_open_3, sg_mill_open_4, sg_pass_ParseRules, sg_model_ParseRules]) Tryz.f28 an_mill_open [Tapi_MillPlant] [Tmill_works, (.int .i64), (.int .i64)] p = mill_open p := by kernel_rfl
theorem ck_cobbleref10_index (l : (List ByteArray)) (s : ByteArray) : funK (cx [] []) Tryz.f34 an_cobbleref10_index [(.slice .str), .str] [(.int .i64)] (l, s) = cobbleref10_index l s := by kernel_rfl
theorem ck_cobbleref03_isThickness (n : Int) : funK (cx [] [sg_b0_Within]) Tryz.f171 an_cobbleref03_isThickness [(.int .i64)] [.bool] n = cobbleref03_isThickness n := by kernel_rfl
theorem ck_cobbleref03_ParseRules (x : ByteArray) : funK (cx [] [sg_b0_Cut, sg_cobbleref03_parsed, sg_cobbleref03_RulesErr]) Tryz.f35 an_cobbleref03_ParseRules [.str] [Tapi_PassRules, (.int .i64)] x = cobbleref03_ParseRules x := by kernel_rfl
theorem ck_cobbleref04_CheckTable (l : (List Dapi_ModelCorrection)) : funK (cx [] [sg_b0_Within, sg_cobbleref04_XErr]) Tryz.f173 an_cobbleref04_CheckTable [(.slice Tapi_ModelCorrection)] [(.int .i64), (.int .i64)] l = cobbleref04_CheckTable l := by kernel_rfl
theorem ck_cobbleref04_isGain (f : Dapi_ModelCorrection) : funK (cx [] [sg_b0_Within]) Tryz.f175 an_cobbleref04_isGain [Tapi_ModelCorrection] [.bool] f = cobbleref04_isGain f := by kernel_rfl
theorem ck_cobbleref10_CheckPlant (p : Dapi_MillPlant) : funK (cx [] [sg_b0_IsName, sg_b0_Within, sg_cobbleref10_index, sg_cobbleref03_ParseRules, sg_cobbleref04_ParseRules]) Tryz.f11 an_cobbleref10_CheckPlant [Tapi_MillPlant] [(.int .i64), (.int .i64)] p = cobbleref10_CheckPlant p := by kernel_rfl
theorem ck_cobblelaw10_Passes  : funK (cx [] []) Tryz.f47 an_cobblelaw10_Passes [] [.str] () = cobblelaw10_Passes := by kernel_rfl
theorem ck_mill_SumOf (s : ByteArray) (after : Int) : funK (cx [] [sg_mill_within, sg_mill_sum]) Tryz.f25 an_mill_SumOf [.str, (.int .i64)] [(.int .i64), (.int .i64)] (s, after) = mill_SumOf s after := by kernel_rfl
end Go.Lift
namespace Go.Lift
open Go Go.Proofs
theorem ck_mill_open_1 (x : Dapi_MillPerson) : funK (cx [] [sg_mill_unless, sg_mill_within]) Tryz.f53 an_mill_open_1 [Tapi_MillPerson] [(.int .i64)] x = mill_open_1 x := by kernel_rfl
theorem ck_mill_named_apiMillPerson (l : (List Dapi_MillPerson)) (name : (Dapi_MillPerson → Option ByteArray)) (err : (Dapi_MillPerson → Option Int)) : funK (cx [] [sg_mill_first, sg_mill_unless, sg_mill_isName, sg_slices_Contains_string]) Tryz.f54 an_mill_named_apiMillPerson [(.slice Tapi_MillPerson), (.fn Tapi_MillPerson .str), (.fn Tapi_MillPerson (.int .i64))] [(.int .i64), (.int .i64)] (l, name, err) = mill_named_apiMillPerson l name err := by kernel_rfl
theorem ck_mill_open_4 (x : ByteArray) : funK (cx [] []) Tryz.f58 an_mill_open_4 [.str] [(.int .i64)] x = mill_open_4 x := by kernel_rfl
theorem ck_pass_bounds_holds (b : Dapi_ModelCorrection) (r : Dapi_ModelCorrection) : funK (cx [] [sg_pass_within]) Tryz.f161 an_pass_bounds_holds [Tapi_ModelCorrection, Tapi_ModelCorrection] [.bool] (b, r) = pass_bounds_holds b r := by kernel_rfl
theorem ck_slices_ContainsFunc_apiRange (s : (List Dapi_ModelCorrection)) (f : (Dapi_ModelCorrection → Option Bool)) : funK (cx [] [sg_slices_IndexFunc_apiRange]) Tryz.f218 an_slices_ContainsFunc_apiRange [(.slice Tapi_ModelCorrection), (.fn Tapi_ModelCorrection .bool)] [.bool] (s, f) = slices_ContainsFunc_apiRange s f := by kernel_rfl
theorem ck_model_number (s : ByteArray) : funK (cx [] [sg_strconv_Itoa, sg_strconv_Atoi]) Tryz.f107 an_model_number [.str] [(.int .i64), .bool] s = model_number s := by kernel_rfl
theorem ck_model_unless (is : Bool) (e : Int) : funK (cx [] []) Tryz.f169 an_model_unless [.bool, (.int .i64)] [(.int .i64)] (is, e) = model_unless is e := by kernel_rfl
theorem ck_model_divisor (a : Int) (b : Int) : funK (cx [] []) Tryz.f221 an_model_divisor [(.int .i64), (.int .i64)] [(.int .i64)] (a, b) = model_divisor a b := by kernel_rfl
theorem ck_mill_CheckPlant (p : Dapi_MillPlant) : funK (cx [] [sg_mill_open]) Tryz.f8 an_mill_CheckPlant [Tapi_MillPlant] [(.int .i64), (.int .i64)] p = mill_CheckPlant p := by kernel_rfl
theorem ck_b0_Cut (s : ByteArray) (at_ : Int) : funK (cx [] []) Tryz.f61 an_b0_Cut [.str, (.int .u8)] [(.slice .str)] (s, at_) = b0_Cut s at_ := by kernel_rfl
theorem ck_cobbleref03_isHeat (n : Int) : funK (cx [] [sg_b0_Within]) Tryz.f172 an_cobbleref03_isHeat [(.int .i64)] [.bool] n = cobbleref03_isHeat n := by kernel_rfl
theorem ck_cobbleref04_parsedNumber (s : ByteArray) : funK (cx [] [sg_b0_Number]) Tryz.f65 an_cobbleref04_parsedNumber [.str] [(.int .i64), .bool] s = cobbleref04_parsedNumber s := by kernel_rfl
theorem ck_b0_Size (n : Int) : funK (cx [] []) Tryz.f278 an_b0_Size [(.int .i64)] [(.int .i64)] n = b0_Size n := by kernel_rfl
theorem ck_cobbleref04_CheckRules (r : Dapi_ModelRules) : funK (cx [] [sg_b0_Within, sg_cobbleref04_CheckTable, sg_b0_IsLowest, sg_cobbleref04_isGain]) Tryz.f111 an_cobbleref04_CheckRules [Tapi_ModelRules] [(.int .i64), (.int .i64)] r = cobbleref04_CheckRules r := by kernel_rfl
theorem ck_b0_CopyTexts (l : (List ByteArray)) : funK (cx [] []) Tryz.f29 an_b0_CopyTexts [(.slice .str)] [(.slice .str)] l = b0_CopyTexts l := by kernel_rfl
theorem ck_cobblelaw10_Model  : funK (cx [] []) Tryz.f48 an_cobblelaw10_Model [] [.str] () = cobblelaw10_Model := by kernel_rfl
theorem ck_mill_list (l : (List ByteArray)) : funK (cx [] [sg_strings_Join]) Tryz.f83 an_mill_list [(.slice .str)] [.str] l = mill_list l := by kernel_rfl
end Go.Lift
