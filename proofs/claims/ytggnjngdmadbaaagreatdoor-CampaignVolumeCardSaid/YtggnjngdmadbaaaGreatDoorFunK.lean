/-
  Each function's code computes the plain function, by the kernel.
-/
import Derived.Test.YtggnjngdmadbaaaGreatDoorFunT
set_option linter.unusedSectionVars false
set_option linter.unusedVariables false
set_option linter.unusedSimpArgs false
namespace Go.Lift
open Go Go.Proofs
theorem ck_campaign_first (l : (List Int)) : funK (cx [] []) Tryz.f80 an_campaign_first [(.slice (.int .i64))] [(.int .i64)] l = campaign_first l := by kernel_rfl
theorem ck_campaign_isGrade (n : Int) : funK (cx [] [sg_campaign_within]) Tryz.f122 an_campaign_isGrade [(.int .i64)] [.bool] n = campaign_isGrade n := by kernel_rfl
theorem ck_campaign_CheckOrder (o : Dapi_CampaignOrder) : funK (cx [] [sg_campaign_first, sg_campaign_unless, sg_campaign_within, sg_campaign_isName, sg_campaign_isGrade, sg_campaign_isThickness, sg_campaign_isWidth, sg_campaign_isHeat]) Tryz.f58 an_campaign_CheckOrder [Tapi_CampaignOrder] [(.int .i64)] o = campaign_CheckOrder o := by kernel_rfl
theorem ck_slices_IndexFunc_int (s : (List Int)) (f : (Int → Option Bool)) : funK (cx [] []) Tryz.f144 an_slices_IndexFunc_int [(.slice (.int .i64)), (.fn (.int .i64) .bool)] [(.int .i64)] (s, f) = slices_IndexFunc_int s f := by kernel_rfl
theorem ck_campaign_CheckRules (r : Dapi_CampaignRules) : funK (cx [] [sg_campaign_unless, sg_campaign_CheckRules_1]) Tryz.f51 an_campaign_CheckRules [Tapi_CampaignRules] [(.int .i64)] r = campaign_CheckRules r := by kernel_rfl
theorem ck_campaign_open (r : Dapi_CampaignRules) (l : (List Dapi_CampaignItem)) : funK (cx [] [sg_campaign_CheckRules, sg_campaign_first, sg_campaign_unless, sg_slices_ContainsFunc_apiCampaignItem, sg_campaign_open_1]) Tryz.f83 an_campaign_open [Tapi_CampaignRules, (.slice Tapi_CampaignItem)] [Tcampaign_rules, (.int .i64)] (r, l) = campaign_open r l := by kernel_rfl
theorem ck_slices_Index_bool (s : (List Bool)) (v : Bool) : funK (cx [] []) Tryz.f212 an_slices_Index_bool [(.slice .bool), .bool] [(.int .i64)] (s, v) = slices_Index_bool s v := by kernel_rfl
theorem ck_campaign_rules_cost (r : Dcampaign_rules) (a : Int) (b : Int) : funK (cx [] [sg_campaign_size]) Tryz.f143 an_campaign_rules_cost [Tcampaign_rules, (.int .i64), (.int .i64)] [(.int .i64)] (r, a, b) = campaign_rules_cost r a b := by kernel_rfl
theorem ck_campaign_BoundOf (r : Dapi_CampaignRules) (l : (List Dapi_CampaignItem)) (prices : (List Int)) : funK (cx [] [sg_campaign_first, sg_campaign_unless, sg_campaign_open, sg_slices_ContainsFunc_int, sg_campaign_BoundOf_1, sg_slices_Sorted_int, sg_slices_Values_int, sg_campaign_rules_tree]) Tryz.f26 an_campaign_BoundOf [Tapi_CampaignRules, (.slice Tapi_CampaignItem), (.slice (.int .i64))] [(.int .i64), (.int .i64)] (r, l, prices) = campaign_BoundOf r l prices := by kernel_rfl
theorem ck_campaign_openYard (y : (List (List ByteArray))) : funK (cx [] [sg_campaign_CheckYard, sg_campaign_yard_clone]) Tryz.f100 an_campaign_openYard [(.slice (.slice .str))] [(.slice (.slice .str)), (.int .i64)] y = campaign_openYard y := by kernel_rfl
theorem ck_slices_Contains_string (s : (List ByteArray)) (v : ByteArray) : funK (cx [] [sg_slices_Index_string]) Tryz.f152 an_slices_Contains_string [(.slice .str), .str] [.bool] (s, v) = slices_Contains_string s v := by kernel_rfl
theorem ck_slices_ContainsFunc_string_153 (s : (List ByteArray)) (f : (ByteArray → Option Bool)) : funK (cx [] [sg_slices_IndexFunc_string_190]) Tryz.f153 an_slices_ContainsFunc_string_153 [(.slice .str), (.fn .str .bool)] [.bool] (s, f) = slices_ContainsFunc_string_153 s f := by kernel_rfl
theorem ck_campaign_BlockedBy (y : (List (List ByteArray))) (request : (List ByteArray)) : funK (cx [] [sg_campaign_openRequest, sg_campaign_yard_blocking]) Tryz.f40 an_campaign_BlockedBy [(.slice (.slice .str)), (.slice .str)] [(.slice .str), (.int .i64)] (y, request) = campaign_BlockedBy y request := by kernel_rfl
theorem ck_cobblelaw01_Rules  : funK (cx [] []) Tryz.f76 an_cobblelaw01_Rules [] [Tapi_CampaignRules] () = cobblelaw01_Rules := by kernel_rfl
theorem ck_b0_IsName (s : ByteArray) : funK (cx [] []) Tryz.f78 an_b0_IsName [.str] [.bool] s = b0_IsName s := by kernel_rfl
theorem ck_cobbleref01_Suits (s : Dapi_CampaignSlab) (o : Dapi_CampaignOrder) : funK (cx [] [sg_b0_Within]) Tryz.f18 an_cobbleref01_Suits [Tapi_CampaignSlab, Tapi_CampaignOrder] [.bool] (s, o) = cobbleref01_Suits s o := by kernel_rfl
end Go.Lift
namespace Go.Lift
open Go Go.Proofs
theorem ck_campaign_unless (is : Bool) (e : Int) : funK (cx [] []) Tryz.f81 an_campaign_unless [.bool, (.int .i64)] [(.int .i64)] (is, e) = campaign_unless is e := by kernel_rfl
theorem ck_campaign_isThickness (n : Int) : funK (cx [] [sg_campaign_within]) Tryz.f123 an_campaign_isThickness [(.int .i64)] [.bool] n = campaign_isThickness n := by kernel_rfl
theorem ck_campaign_CheckSlab (s : Dapi_CampaignSlab) : funK (cx [] [sg_campaign_first, sg_campaign_unless, sg_campaign_within, sg_campaign_isName, sg_campaign_isGrade, sg_campaign_isThickness, sg_campaign_isWidth]) Tryz.f63 an_campaign_CheckSlab [Tapi_CampaignSlab] [(.int .i64)] s = campaign_CheckSlab s := by kernel_rfl
theorem ck_slices_ContainsFunc_int (s : (List Int)) (f : (Int → Option Bool)) : funK (cx [] [sg_slices_IndexFunc_int]) Tryz.f87 an_slices_ContainsFunc_int [(.slice (.int .i64)), (.fn (.int .i64) .bool)] [.bool] (s, f) = slices_ContainsFunc_int s f := by kernel_rfl
theorem ck_slices_IndexFunc_apiCampaignItem (s : (List Dapi_CampaignItem)) (f : (Dapi_CampaignItem → Option Bool)) : funK (cx [] []) Tryz.f180 an_slices_IndexFunc_apiCampaignItem [(.slice Tapi_CampaignItem), (.fn Tapi_CampaignItem .bool)] [(.int .i64)] (s, f) = slices_IndexFunc_apiCampaignItem s f := by kernel_rfl
theorem ck_campaign_numbers (count : Int) : funK (cx [] []) Tryz.f85 an_campaign_numbers [(.int .i64)] [(.slice (.int .i64))] count = campaign_numbers count := by kernel_rfl
theorem ck_slices_Contains_bool (s : (List Bool)) (v : Bool) : funK (cx [] [sg_slices_Index_bool]) Tryz.f182 an_slices_Contains_bool [(.slice .bool), .bool] [.bool] (s, v) = slices_Contains_bool s v := by kernel_rfl
theorem ck_campaign_rules_costs (r : Dcampaign_rules) (sequence : (List Int)) : funK (cx [] [sg_campaign_rules_cost]) Tryz.f86 an_campaign_rules_costs [Tcampaign_rules, (.slice (.int .i64))] [(.int .i64)] (r, sequence) = campaign_rules_costs r sequence := by kernel_rfl
theorem ck_b0_Ints (a : (List Int)) (b : (List Int)) : funK (cx [] []) Tryz.f32 an_b0_Ints [(.slice (.int .i64)), (.slice (.int .i64))] [.bool] (a, b) = b0_Ints a b := by kernel_rfl
theorem ck_slices_IndexFunc_string (s : (List (List ByteArray))) (f : ((List ByteArray) → Option Bool)) : funK (cx [] []) Tryz.f188 an_slices_IndexFunc_string [(.slice (.slice .str)), (.fn (.slice .str) .bool)] [(.int .i64)] (s, f) = slices_IndexFunc_string s f := by kernel_rfl
theorem ck_campaign_openRequest_1 (pile : (List ByteArray)) (x : ByteArray) : funK (cx [] [sg_slices_Contains_string]) Tryz.f151 an_campaign_openRequest_1 [(.slice .str), (.ptr .str)] [.bool] (pile, x) = campaign_openRequest_1 pile x := by kernel_rfl
theorem ck_campaign_later (request : (List ByteArray)) (name : ByteArray) (than : ByteArray) : funK (cx [] [sg_slices_Index_string]) Tryz.f155 an_campaign_later [(.slice .str), .str, .str] [.bool] (request, name, than) = campaign_later request name than := by kernel_rfl
theorem ck_b0_Texts (a : (List ByteArray)) (b : (List ByteArray)) : funK (cx [] []) Tryz.f46 an_b0_Texts [(.slice .str), (.slice .str)] [.bool] (a, b) = b0_Texts a b := by kernel_rfl
theorem ck_cobblelaw01_Items  : funK (cx [] []) Tryz.f77 an_cobblelaw01_Items [] [(.slice Tapi_CampaignItem)] () = cobblelaw01_Items := by kernel_rfl
theorem ck_cobbleref01_isWidth (n : Int) : funK (cx [] [sg_b0_Within]) Tryz.f79 an_cobbleref01_isWidth [(.int .i64)] [.bool] n = cobbleref01_isWidth n := by kernel_rfl
end Go.Lift
namespace Go.Lift
open Go Go.Proofs
theorem ck_campaign_within (n : Int) (lo : Int) (hi : Int) : funK (cx [] []) Tryz.f89 an_campaign_within [(.int .i64), (.int .i64), (.int .i64)] [.bool] (n, lo, hi) = campaign_within n lo hi := by kernel_rfl
theorem ck_campaign_isWidth (n : Int) : funK (cx [] [sg_campaign_within]) Tryz.f124 an_campaign_isWidth [(.int .i64)] [.bool] n = campaign_isWidth n := by kernel_rfl
theorem ck_campaign_suits (s : Dapi_CampaignSlab) (o : Dapi_CampaignOrder) : funK (cx [] [sg_campaign_within]) Tryz.f82 an_campaign_suits [Tapi_CampaignSlab, Tapi_CampaignOrder] [.bool] (s, o) = campaign_suits s o := by kernel_rfl
theorem ck_campaign_CheckRules_1_1 (n : Int) (x : Int) : funK (cx [] [sg_campaign_within]) Tryz.f110 an_campaign_CheckRules_1_1 [(.int .i64), (.ptr (.int .i64))] [.bool] (n, x) = campaign_CheckRules_1_1 n x := by kernel_rfl
theorem ck_slices_ContainsFunc_apiCampaignItem (s : (List Dapi_CampaignItem)) (f : (Dapi_CampaignItem → Option Bool)) : funK (cx [] [sg_slices_IndexFunc_apiCampaignItem]) Tryz.f139 an_slices_ContainsFunc_apiCampaignItem [(.slice Tapi_CampaignItem), (.fn Tapi_CampaignItem .bool)] [.bool] (s, f) = slices_ContainsFunc_apiCampaignItem s f := by kernel_rfl
theorem ck_campaign_size (n : Int) : funK (cx [] []) Tryz.f183 an_campaign_size [(.int .i64)] [(.int .i64)] n = campaign_size n := by kernel_rfl
theorem ck_slices_Index_int (s : (List Int)) (v : Int) : funK (cx [] []) Tryz.f177 an_slices_Index_int [(.slice (.int .i64)), (.int .i64)] [(.int .i64)] (s, v) = slices_Index_int s v := by kernel_rfl
theorem ck_campaign_BoundOf_1 (n : Int) : funK (cx [] [sg_campaign_within]) Tryz.f88 an_campaign_BoundOf_1 [(.int .i64)] [.bool] n = campaign_BoundOf_1 n := by kernel_rfl
theorem ck_campaign_CheckYard (y : (List (List ByteArray))) : funK (cxM [] [sg_campaign_first, sg_campaign_unless, sg_campaign_isName]) Tryz.f37 an_campaign_CheckYard [(.slice (.slice .str))] [(.int .i64), (.int .i64)] y = campaign_CheckYard y := by kernel_rfl
theorem ck_slices_ContainsFunc_string (s : (List (List ByteArray))) (f : ((List ByteArray) → Option Bool)) : funK (cx [] [sg_slices_IndexFunc_string]) Tryz.f150 an_slices_ContainsFunc_string [(.slice (.slice .str)), (.fn (.slice .str) .bool)] [.bool] (s, f) = slices_ContainsFunc_string s f := by kernel_rfl
theorem ck_campaign_openRequest (y : (List (List ByteArray))) (request : (List ByteArray)) : funK (cx [] [sg_campaign_first, sg_campaign_unless, sg_campaign_openYard, sg_slices_ContainsFunc_string, sg_campaign_openRequest_1, sg_slices_Contains_string]) Tryz.f103 an_campaign_openRequest [(.slice (.slice .str)), (.slice .str)] [(.slice (.slice .str)), (.int .i64)] (y, request) = campaign_openRequest y request := by kernel_rfl
theorem ck_campaign_yard_blocking_1 (below : ByteArray) (x : (List ByteArray)) (x_1 : ByteArray) : funK (cx [] [sg_slices_Contains_string, sg_campaign_later]) Tryz.f154 an_campaign_yard_blocking_1 [.str, (.ptr (.slice .str)), (.ptr .str)] [.bool] (below, x, x_1) = campaign_yard_blocking_1 below x x_1 := by kernel_rfl
theorem ck_campaign_number (s : ByteArray) : funK (cx [] [sg_strconv_Itoa, sg_strconv_Atoi]) Tryz.f127 an_campaign_number [.str] [(.int .i64), .bool] s = campaign_number s := by kernel_rfl
theorem ck_cobblelaw01_awake  : funK (cx [] [sg_campaign_CoilLength, sg_campaign_Cheapest, sg_campaign_BoundOf, sg_b0_Ints, sg_campaign_BlockedBy, sg_b0_Texts, sg_campaign_ParseOrder, sg_cobblelaw01_Yard, sg_cobblelaw01_Rules, sg_cobblelaw01_Items]) Tryz.f15 an_cobblelaw01_awake [] [.bool] () = cobblelaw01_awake := by kernel_rfl
theorem ck_cobbleref01_SlabErr (s : Dapi_CampaignSlab) : funK (cx [] [sg_b0_Within, sg_b0_IsName, sg_cobbleref01_isWidth]) Tryz.f16 an_cobbleref01_SlabErr [Tapi_CampaignSlab] [(.int .i64)] s = cobbleref01_SlabErr s := by kernel_rfl
theorem ck_b0_Mod (n : Int) (by_ : Int) : funK (cx [] []) Tryz.f21 an_b0_Mod [(.int .i64), (.int .i64)] [(.int .i64)] (n, by_) = b0_Mod n by_ := by kernel_rfl
end Go.Lift
namespace Go.Lift
open Go Go.Proofs
theorem ck_campaign_isName (s : ByteArray) : funK (cx [] [sg_campaign_within]) Tryz.f99 an_campaign_isName [.str] [.bool] s = campaign_isName s := by kernel_rfl
theorem ck_campaign_isHeat (n : Int) : funK (cx [] [sg_campaign_within]) Tryz.f125 an_campaign_isHeat [(.int .i64)] [.bool] n = campaign_isHeat n := by kernel_rfl
theorem ck_campaign_CoilLength (s : Dapi_CampaignSlab) (o : Dapi_CampaignOrder) : funK (cx [] [sg_campaign_CheckOrder, sg_campaign_CheckSlab, sg_campaign_first, sg_campaign_unless, sg_campaign_suits]) Tryz.f19 an_campaign_CoilLength [Tapi_CampaignSlab, Tapi_CampaignOrder] [Tapi_Range, (.int .i64)] (s, o) = campaign_CoilLength s o := by kernel_rfl
theorem ck_campaign_CheckRules_1 (most : Int) (l : (List Int)) : funK (cx [] [sg_slices_ContainsFunc_int, sg_campaign_CheckRules_1_1]) Tryz.f109 an_campaign_CheckRules_1 [(.int .i64), (.slice (.int .i64))] [.bool] (most, l) = campaign_CheckRules_1 most l := by kernel_rfl
theorem ck_campaign_open_1 (x : Dapi_CampaignItem) : funK (cx [] [sg_campaign_within, sg_campaign_isGrade, sg_campaign_isThickness, sg_campaign_isWidth]) Tryz.f140 an_campaign_open_1 [Tapi_CampaignItem] [.bool] x = campaign_open_1 x := by kernel_rfl
theorem ck_campaign_rules_violates (r : Dcampaign_rules) (sequence : (List Int)) (p : Int) : funK (cx [] [sg_campaign_within, sg_campaign_size]) Tryz.f181 an_campaign_rules_violates [Tcampaign_rules, (.slice (.int .i64)), (.int .i64)] [(.arr 5 .bool)] (r, sequence, p) = campaign_rules_violates r sequence p := by kernel_rfl
theorem ck_slices_Contains_int (s : (List Int)) (v : Int) : funK (cx [] [sg_slices_Index_int]) Tryz.f133 an_slices_Contains_int [(.slice (.int .i64)), (.int .i64)] [.bool] (s, v) = slices_Contains_int s v := by kernel_rfl
theorem ck_campaign_rules_tree (r : Dcampaign_rules) (prices : (List Int)) : funK (cx [] [sg_slices_Contains_int, sg_campaign_rules_cost]) Tryz.f92 an_campaign_rules_tree [Tcampaign_rules, (.slice (.int .i64))] [(.int .i64)] (r, prices) = campaign_rules_tree r prices := by kernel_rfl
theorem ck_campaign_yard_clone (y : (List (List ByteArray))) : funK (cx [] [sg_slices_Clone_string]) Tryz.f148 an_campaign_yard_clone [(.slice (.slice .str))] [(.slice (.slice .str))] y = campaign_yard_clone y := by kernel_rfl
theorem ck_slices_Index_string (s : (List ByteArray)) (v : ByteArray) : funK (cx [] []) Tryz.f189 an_slices_Index_string [(.slice .str), .str] [(.int .i64)] (s, v) = slices_Index_string s v := by kernel_rfl
theorem ck_slices_IndexFunc_string_190 (s : (List ByteArray)) (f : (ByteArray → Option Bool)) : funK (cx [] []) Tryz.f190 an_slices_IndexFunc_string_190 [(.slice .str), (.fn .str .bool)] [(.int .i64)] (s, f) = slices_IndexFunc_string_190 s f := by kernel_rfl
theorem ck_campaign_yard_blocking (y : (List (List ByteArray))) (request : (List ByteArray)) : funK (cx [] [sg_slices_ContainsFunc_string_153, sg_campaign_yard_blocking_1]) Tryz.f104 an_campaign_yard_blocking [(.slice (.slice .str)), (.slice .str)] [(.slice .str)] (y, request) = campaign_yard_blocking y request := by kernel_rfl
theorem ck_cobblelaw01_Yard  : funK (cx [] []) Tryz.f75 an_cobblelaw01_Yard [] [(.slice (.slice .str))] () = cobblelaw01_Yard := by kernel_rfl
theorem ck_b0_Within (n : Int) (lo : Int) (hi : Int) : funK (cx [] []) Tryz.f20 an_b0_Within [(.int .i64), (.int .i64), (.int .i64)] [.bool] (n, lo, hi) = b0_Within n lo hi := by kernel_rfl
theorem ck_cobbleref01_OrderErr (o : Dapi_CampaignOrder) : funK (cx [] [sg_b0_Within, sg_b0_IsName, sg_cobbleref01_isWidth]) Tryz.f17 an_cobbleref01_OrderErr [Tapi_CampaignOrder] [(.int .i64)] o = cobbleref01_OrderErr o := by kernel_rfl
theorem ck_cobblelaw01_CampaignVolume (s : Dapi_CampaignSlab) (o : Dapi_CampaignOrder) (more : Int) : funK (cx [] [sg_cobblelaw01_awake, sg_cobbleref01_SlabErr, sg_cobbleref01_OrderErr, sg_cobbleref01_Suits, sg_campaign_CoilLength, sg_b0_Within, sg_b0_Mod]) Tryz.f3 an_cobblelaw01_CampaignVolume [Tapi_CampaignSlab, Tapi_CampaignOrder, (.int .i64)] [.bool] (s, o, more) = cobblelaw01_CampaignVolume s o more := by kernel_rfl
end Go.Lift
