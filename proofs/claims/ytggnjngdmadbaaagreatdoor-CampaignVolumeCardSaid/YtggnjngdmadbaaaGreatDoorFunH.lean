/-
  The contracts of all functions.
-/
import Derived.Test.YtggnjngdmadbaaaGreatDoorFunK
set_option linter.unusedSectionVars false
set_option linter.unusedVariables false
set_option linter.unusedSimpArgs false
namespace Go.Lift
open Go Go.Proofs
set_option maxRecDepth 100000
section
variable (m_strconv_Itoa : Has Tryz.prog sg_strconv_Itoa) (m_strings_Split : Has Tryz.prog sg_strings_Split) (m_strconv_Atoi : Has Tryz.prog sg_strconv_Atoi) (m_campaign_rules_campaigns : Has Tryz.prog sg_campaign_rules_campaigns) (m_slices_Clone_string : Has Tryz.prog sg_slices_Clone_string) (m_slices_Values_int : Has Tryz.prog sg_slices_Values_int) (m_slices_Sorted_int : Has Tryz.prog sg_slices_Sorted_int) (m_campaign_Cheapest : Has Tryz.prog sg_campaign_Cheapest) (m_campaign_ParseOrder : Has Tryz.prog sg_campaign_ParseOrder)  
theorem h_campaign_first : Has Tryz.prog sg_campaign_first :=
  has_of prog_mixed tys_ok nfs_ok eqs_ok (own := []) all_nil (n := an_campaign_first) Tryz.func80 (by kernel_rfl) fun x => ck_campaign_first x
theorem h_campaign_unless : Has Tryz.prog sg_campaign_unless :=
  has_of prog_mixed tys_ok nfs_ok eqs_ok (own := []) all_nil (n := an_campaign_unless) Tryz.func81 (by kernel_rfl) fun x => ck_campaign_unless x.1 x.2
theorem h_campaign_within : Has Tryz.prog sg_campaign_within :=
  has_of prog_mixed tys_ok nfs_ok eqs_ok (own := []) all_nil (n := an_campaign_within) Tryz.func89 (by kernel_rfl) fun x => ck_campaign_within x.1 x.2.1 x.2.2
theorem h_campaign_isName : Has Tryz.prog sg_campaign_isName :=
  has_of prog_mixed tys_ok nfs_ok eqs_ok (own := []) (all_cons h_campaign_within all_nil) (n := an_campaign_isName) Tryz.func99 (by kernel_rfl) fun x => ck_campaign_isName x
theorem h_campaign_isGrade : Has Tryz.prog sg_campaign_isGrade :=
  has_of prog_mixed tys_ok nfs_ok eqs_ok (own := []) (all_cons h_campaign_within all_nil) (n := an_campaign_isGrade) Tryz.func122 (by kernel_rfl) fun x => ck_campaign_isGrade x
theorem h_campaign_isThickness : Has Tryz.prog sg_campaign_isThickness :=
  has_of prog_mixed tys_ok nfs_ok eqs_ok (own := []) (all_cons h_campaign_within all_nil) (n := an_campaign_isThickness) Tryz.func123 (by kernel_rfl) fun x => ck_campaign_isThickness x
theorem h_campaign_isWidth : Has Tryz.prog sg_campaign_isWidth :=
  has_of prog_mixed tys_ok nfs_ok eqs_ok (own := []) (all_cons h_campaign_within all_nil) (n := an_campaign_isWidth) Tryz.func124 (by kernel_rfl) fun x => ck_campaign_isWidth x
theorem h_campaign_isHeat : Has Tryz.prog sg_campaign_isHeat :=
  has_of prog_mixed tys_ok nfs_ok eqs_ok (own := []) (all_cons h_campaign_within all_nil) (n := an_campaign_isHeat) Tryz.func125 (by kernel_rfl) fun x => ck_campaign_isHeat x
theorem h_campaign_CheckOrder : Has Tryz.prog sg_campaign_CheckOrder :=
  has_of prog_mixed tys_ok nfs_ok eqs_ok (own := []) (all_cons h_campaign_first (all_cons h_campaign_unless (all_cons h_campaign_within (all_cons h_campaign_isName (all_cons h_campaign_isGrade (all_cons h_campaign_isThickness (all_cons h_campaign_isWidth (all_cons h_campaign_isHeat all_nil)))))))) (n := an_campaign_CheckOrder) Tryz.func58 (by kernel_rfl) fun x => ck_campaign_CheckOrder x
theorem h_campaign_CheckSlab : Has Tryz.prog sg_campaign_CheckSlab :=
  has_of prog_mixed tys_ok nfs_ok eqs_ok (own := []) (all_cons h_campaign_first (all_cons h_campaign_unless (all_cons h_campaign_within (all_cons h_campaign_isName (all_cons h_campaign_isGrade (all_cons h_campaign_isThickness (all_cons h_campaign_isWidth all_nil))))))) (n := an_campaign_CheckSlab) Tryz.func63 (by kernel_rfl) fun x => ck_campaign_CheckSlab x
theorem h_campaign_suits : Has Tryz.prog sg_campaign_suits :=
  has_of prog_mixed tys_ok nfs_ok eqs_ok (own := []) (all_cons h_campaign_within all_nil) (n := an_campaign_suits) Tryz.func82 (by kernel_rfl) fun x => ck_campaign_suits x.1 x.2
theorem h_campaign_CoilLength : Has Tryz.prog sg_campaign_CoilLength :=
  has_of prog_mixed tys_ok nfs_ok eqs_ok (own := []) (all_cons h_campaign_CheckOrder (all_cons h_campaign_CheckSlab (all_cons h_campaign_first (all_cons h_campaign_unless (all_cons h_campaign_suits all_nil))))) (n := an_campaign_CoilLength) Tryz.func19 (by kernel_rfl) fun x => ck_campaign_CoilLength x.1 x.2
theorem h_slices_IndexFunc_int : Has Tryz.prog sg_slices_IndexFunc_int :=
  has_of prog_mixed tys_ok nfs_ok eqs_ok (own := []) all_nil (n := an_slices_IndexFunc_int) Tryz.func144 (by kernel_rfl) fun x => ck_slices_IndexFunc_int x.1 x.2
theorem h_slices_ContainsFunc_int : Has Tryz.prog sg_slices_ContainsFunc_int :=
  has_of prog_mixed tys_ok nfs_ok eqs_ok (own := []) (all_cons h_slices_IndexFunc_int all_nil) (n := an_slices_ContainsFunc_int) Tryz.func87 (by kernel_rfl) fun x => ck_slices_ContainsFunc_int x.1 x.2
theorem h_campaign_CheckRules_1_1 : Has Tryz.prog sg_campaign_CheckRules_1_1 :=
  has_of prog_mixed tys_ok nfs_ok eqs_ok (own := []) (all_cons h_campaign_within all_nil) (n := an_campaign_CheckRules_1_1) Tryz.func110 (by kernel_rfl) fun x => ck_campaign_CheckRules_1_1 x.1 x.2
theorem h_campaign_CheckRules_1 : Has Tryz.prog sg_campaign_CheckRules_1 :=
  has_of prog_mixed tys_ok nfs_ok eqs_ok (own := []) (all_cons h_slices_ContainsFunc_int (all_cons h_campaign_CheckRules_1_1 all_nil)) (n := an_campaign_CheckRules_1) Tryz.func109 (by kernel_rfl) fun x => ck_campaign_CheckRules_1 x.1 x.2
theorem h_campaign_CheckRules : Has Tryz.prog sg_campaign_CheckRules :=
  has_of prog_mixed tys_ok nfs_ok eqs_ok (own := []) (all_cons h_campaign_unless (all_cons h_campaign_CheckRules_1 all_nil)) (n := an_campaign_CheckRules) Tryz.func51 (by kernel_rfl) fun x => ck_campaign_CheckRules x
theorem h_slices_IndexFunc_apiCampaignItem : Has Tryz.prog sg_slices_IndexFunc_apiCampaignItem :=
  has_of prog_mixed tys_ok nfs_ok eqs_ok (own := []) all_nil (n := an_slices_IndexFunc_apiCampaignItem) Tryz.func180 (by kernel_rfl) fun x => ck_slices_IndexFunc_apiCampaignItem x.1 x.2
theorem h_slices_ContainsFunc_apiCampaignItem : Has Tryz.prog sg_slices_ContainsFunc_apiCampaignItem :=
  has_of prog_mixed tys_ok nfs_ok eqs_ok (own := []) (all_cons h_slices_IndexFunc_apiCampaignItem all_nil) (n := an_slices_ContainsFunc_apiCampaignItem) Tryz.func139 (by kernel_rfl) fun x => ck_slices_ContainsFunc_apiCampaignItem x.1 x.2
theorem h_campaign_open_1 : Has Tryz.prog sg_campaign_open_1 :=
  has_of prog_mixed tys_ok nfs_ok eqs_ok (own := []) (all_cons h_campaign_within (all_cons h_campaign_isGrade (all_cons h_campaign_isThickness (all_cons h_campaign_isWidth all_nil)))) (n := an_campaign_open_1) Tryz.func140 (by kernel_rfl) fun x => ck_campaign_open_1 x
theorem h_campaign_open : Has Tryz.prog sg_campaign_open :=
  has_of prog_mixed tys_ok nfs_ok eqs_ok (own := []) (all_cons h_campaign_CheckRules (all_cons h_campaign_first (all_cons h_campaign_unless (all_cons h_slices_ContainsFunc_apiCampaignItem (all_cons h_campaign_open_1 all_nil))))) (n := an_campaign_open) Tryz.func83 (by kernel_rfl) fun x => ck_campaign_open x.1 x.2
theorem h_campaign_numbers : Has Tryz.prog sg_campaign_numbers :=
  has_of prog_mixed tys_ok nfs_ok eqs_ok (own := []) all_nil (n := an_campaign_numbers) Tryz.func85 (by kernel_rfl) fun x => ck_campaign_numbers x
theorem h_campaign_size : Has Tryz.prog sg_campaign_size :=
  has_of prog_mixed tys_ok nfs_ok eqs_ok (own := []) all_nil (n := an_campaign_size) Tryz.func183 (by kernel_rfl) fun x => ck_campaign_size x
theorem h_campaign_rules_violates : Has Tryz.prog sg_campaign_rules_violates :=
  has_of prog_mixed tys_ok nfs_ok eqs_ok (own := []) (all_cons h_campaign_within (all_cons h_campaign_size all_nil)) (n := an_campaign_rules_violates) Tryz.func181 (by kernel_rfl) fun x => ck_campaign_rules_violates x.1 x.2.1 x.2.2
theorem h_slices_Index_bool : Has Tryz.prog sg_slices_Index_bool :=
  has_of prog_mixed tys_ok nfs_ok eqs_ok (own := []) all_nil (n := an_slices_Index_bool) Tryz.func212 (by kernel_rfl) fun x => ck_slices_Index_bool x.1 x.2
theorem h_slices_Contains_bool : Has Tryz.prog sg_slices_Contains_bool :=
  has_of prog_mixed tys_ok nfs_ok eqs_ok (own := []) (all_cons h_slices_Index_bool all_nil) (n := an_slices_Contains_bool) Tryz.func182 (by kernel_rfl) fun x => ck_slices_Contains_bool x.1 x.2
theorem h_slices_Index_int : Has Tryz.prog sg_slices_Index_int :=
  has_of prog_mixed tys_ok nfs_ok eqs_ok (own := []) all_nil (n := an_slices_Index_int) Tryz.func177 (by kernel_rfl) fun x => ck_slices_Index_int x.1 x.2
theorem h_slices_Contains_int : Has Tryz.prog sg_slices_Contains_int :=
  has_of prog_mixed tys_ok nfs_ok eqs_ok (own := []) (all_cons h_slices_Index_int all_nil) (n := an_slices_Contains_int) Tryz.func133 (by kernel_rfl) fun x => ck_slices_Contains_int x.1 x.2
theorem h_campaign_rules_cost : Has Tryz.prog sg_campaign_rules_cost :=
  has_of prog_mixed tys_ok nfs_ok eqs_ok (own := []) (all_cons h_campaign_size all_nil) (n := an_campaign_rules_cost) Tryz.func143 (by kernel_rfl) fun x => ck_campaign_rules_cost x.1 x.2.1 x.2.2
theorem h_campaign_rules_costs : Has Tryz.prog sg_campaign_rules_costs :=
  has_of prog_mixed tys_ok nfs_ok eqs_ok (own := []) (all_cons h_campaign_rules_cost all_nil) (n := an_campaign_rules_costs) Tryz.func86 (by kernel_rfl) fun x => ck_campaign_rules_costs x.1 x.2
theorem h_campaign_BoundOf_1 : Has Tryz.prog sg_campaign_BoundOf_1 :=
  has_of prog_mixed tys_ok nfs_ok eqs_ok (own := []) (all_cons h_campaign_within all_nil) (n := an_campaign_BoundOf_1) Tryz.func88 (by kernel_rfl) fun x => ck_campaign_BoundOf_1 x
theorem h_campaign_rules_tree : Has Tryz.prog sg_campaign_rules_tree :=
  has_of prog_mixed tys_ok nfs_ok eqs_ok (own := []) (all_cons h_slices_Contains_int (all_cons h_campaign_rules_cost all_nil)) (n := an_campaign_rules_tree) Tryz.func92 (by kernel_rfl) fun x => ck_campaign_rules_tree x.1 x.2
include m_slices_Values_int m_slices_Sorted_int in
theorem h_campaign_BoundOf : Has Tryz.prog sg_campaign_BoundOf :=
  has_of prog_mixed tys_ok nfs_ok eqs_ok (own := []) (all_cons h_campaign_first (all_cons h_campaign_unless (all_cons h_campaign_open (all_cons h_slices_ContainsFunc_int (all_cons h_campaign_BoundOf_1 (all_cons m_slices_Sorted_int (all_cons m_slices_Values_int (all_cons h_campaign_rules_tree all_nil)))))))) (n := an_campaign_BoundOf) Tryz.func26 (by kernel_rfl) fun x => ck_campaign_BoundOf x.1 x.2.1 x.2.2
theorem h_b0_Ints : Has Tryz.prog sg_b0_Ints :=
  has_of prog_mixed tys_ok nfs_ok eqs_ok (own := []) all_nil (n := an_b0_Ints) Tryz.func32 (by kernel_rfl) fun x => ck_b0_Ints x.1 x.2
theorem h_campaign_CheckYard : Has Tryz.prog sg_campaign_CheckYard :=
  has_ofM prog_mixed tys_ok nfs_ok eqs_ok (own := []) (all_cons h_campaign_first (all_cons h_campaign_unless (all_cons h_campaign_isName all_nil))) (n := an_campaign_CheckYard) Tryz.func37 (by kernel_rfl) fun x => ck_campaign_CheckYard x
include m_slices_Clone_string in
theorem h_campaign_yard_clone : Has Tryz.prog sg_campaign_yard_clone :=
  has_of prog_mixed tys_ok nfs_ok eqs_ok (own := []) (all_cons m_slices_Clone_string all_nil) (n := an_campaign_yard_clone) Tryz.func148 (by kernel_rfl) fun x => ck_campaign_yard_clone x
include m_slices_Clone_string in
theorem h_campaign_openYard : Has Tryz.prog sg_campaign_openYard :=
  has_of prog_mixed tys_ok nfs_ok eqs_ok (own := []) (all_cons h_campaign_CheckYard (all_cons (h_campaign_yard_clone m_slices_Clone_string) all_nil)) (n := an_campaign_openYard) Tryz.func100 (by kernel_rfl) fun x => ck_campaign_openYard x
theorem h_slices_IndexFunc_string : Has Tryz.prog sg_slices_IndexFunc_string :=
  has_of prog_mixed tys_ok nfs_ok eqs_ok (own := []) all_nil (n := an_slices_IndexFunc_string) Tryz.func188 (by kernel_rfl) fun x => ck_slices_IndexFunc_string x.1 x.2
theorem h_slices_ContainsFunc_string : Has Tryz.prog sg_slices_ContainsFunc_string :=
  has_of prog_mixed tys_ok nfs_ok eqs_ok (own := []) (all_cons h_slices_IndexFunc_string all_nil) (n := an_slices_ContainsFunc_string) Tryz.func150 (by kernel_rfl) fun x => ck_slices_ContainsFunc_string x.1 x.2
theorem h_slices_Index_string : Has Tryz.prog sg_slices_Index_string :=
  has_of prog_mixed tys_ok nfs_ok eqs_ok (own := []) all_nil (n := an_slices_Index_string) Tryz.func189 (by kernel_rfl) fun x => ck_slices_Index_string x.1 x.2
theorem h_slices_Contains_string : Has Tryz.prog sg_slices_Contains_string :=
  has_of prog_mixed tys_ok nfs_ok eqs_ok (own := []) (all_cons h_slices_Index_string all_nil) (n := an_slices_Contains_string) Tryz.func152 (by kernel_rfl) fun x => ck_slices_Contains_string x.1 x.2
theorem h_campaign_openRequest_1 : Has Tryz.prog sg_campaign_openRequest_1 :=
  has_of prog_mixed tys_ok nfs_ok eqs_ok (own := []) (all_cons h_slices_Contains_string all_nil) (n := an_campaign_openRequest_1) Tryz.func151 (by kernel_rfl) fun x => ck_campaign_openRequest_1 x.1 x.2
include m_slices_Clone_string in
theorem h_campaign_openRequest : Has Tryz.prog sg_campaign_openRequest :=
  has_of prog_mixed tys_ok nfs_ok eqs_ok (own := []) (all_cons h_campaign_first (all_cons h_campaign_unless (all_cons (h_campaign_openYard m_slices_Clone_string) (all_cons h_slices_ContainsFunc_string (all_cons h_campaign_openRequest_1 (all_cons h_slices_Contains_string all_nil)))))) (n := an_campaign_openRequest) Tryz.func103 (by kernel_rfl) fun x => ck_campaign_openRequest x.1 x.2
theorem h_slices_IndexFunc_string_190 : Has Tryz.prog sg_slices_IndexFunc_string_190 :=
  has_of prog_mixed tys_ok nfs_ok eqs_ok (own := []) all_nil (n := an_slices_IndexFunc_string_190) Tryz.func190 (by kernel_rfl) fun x => ck_slices_IndexFunc_string_190 x.1 x.2
theorem h_slices_ContainsFunc_string_153 : Has Tryz.prog sg_slices_ContainsFunc_string_153 :=
  has_of prog_mixed tys_ok nfs_ok eqs_ok (own := []) (all_cons h_slices_IndexFunc_string_190 all_nil) (n := an_slices_ContainsFunc_string_153) Tryz.func153 (by kernel_rfl) fun x => ck_slices_ContainsFunc_string_153 x.1 x.2
theorem h_campaign_later : Has Tryz.prog sg_campaign_later :=
  has_of prog_mixed tys_ok nfs_ok eqs_ok (own := []) (all_cons h_slices_Index_string all_nil) (n := an_campaign_later) Tryz.func155 (by kernel_rfl) fun x => ck_campaign_later x.1 x.2.1 x.2.2
theorem h_campaign_yard_blocking_1 : Has Tryz.prog sg_campaign_yard_blocking_1 :=
  has_of prog_mixed tys_ok nfs_ok eqs_ok (own := []) (all_cons h_slices_Contains_string (all_cons h_campaign_later all_nil)) (n := an_campaign_yard_blocking_1) Tryz.func154 (by kernel_rfl) fun x => ck_campaign_yard_blocking_1 x.1 x.2.1 x.2.2
theorem h_campaign_yard_blocking : Has Tryz.prog sg_campaign_yard_blocking :=
  has_of prog_mixed tys_ok nfs_ok eqs_ok (own := []) (all_cons h_slices_ContainsFunc_string_153 (all_cons h_campaign_yard_blocking_1 all_nil)) (n := an_campaign_yard_blocking) Tryz.func104 (by kernel_rfl) fun x => ck_campaign_yard_blocking x.1 x.2
include m_slices_Clone_string in
theorem h_campaign_BlockedBy : Has Tryz.prog sg_campaign_BlockedBy :=
  has_of prog_mixed tys_ok nfs_ok eqs_ok (own := []) (all_cons (h_campaign_openRequest m_slices_Clone_string) (all_cons h_campaign_yard_blocking all_nil)) (n := an_campaign_BlockedBy) Tryz.func40 (by kernel_rfl) fun x => ck_campaign_BlockedBy x.1 x.2
theorem h_b0_Texts : Has Tryz.prog sg_b0_Texts :=
  has_of prog_mixed tys_ok nfs_ok eqs_ok (own := []) all_nil (n := an_b0_Texts) Tryz.func46 (by kernel_rfl) fun x => ck_b0_Texts x.1 x.2
include m_strconv_Itoa m_strconv_Atoi in
theorem h_campaign_number : Has Tryz.prog sg_campaign_number :=
  has_of prog_mixed tys_ok nfs_ok eqs_ok (own := []) (all_cons m_strconv_Itoa (all_cons m_strconv_Atoi all_nil)) (n := an_campaign_number) Tryz.func127 (by kernel_rfl) fun x => ck_campaign_number x
theorem h_cobblelaw01_Yard : Has Tryz.prog sg_cobblelaw01_Yard :=
  has_of prog_mixed tys_ok nfs_ok eqs_ok (own := []) all_nil (n := an_cobblelaw01_Yard) Tryz.func75 (by kernel_rfl) fun x => ck_cobblelaw01_Yard 
theorem h_cobblelaw01_Rules : Has Tryz.prog sg_cobblelaw01_Rules :=
  has_of prog_mixed tys_ok nfs_ok eqs_ok (own := []) all_nil (n := an_cobblelaw01_Rules) Tryz.func76 (by kernel_rfl) fun x => ck_cobblelaw01_Rules 
theorem h_cobblelaw01_Items : Has Tryz.prog sg_cobblelaw01_Items :=
  has_of prog_mixed tys_ok nfs_ok eqs_ok (own := []) all_nil (n := an_cobblelaw01_Items) Tryz.func77 (by kernel_rfl) fun x => ck_cobblelaw01_Items 
include m_slices_Clone_string m_slices_Values_int m_slices_Sorted_int m_campaign_Cheapest m_campaign_ParseOrder in
theorem h_cobblelaw01_awake : Has Tryz.prog sg_cobblelaw01_awake :=
  has_of prog_mixed tys_ok nfs_ok eqs_ok (own := []) (all_cons h_campaign_CoilLength (all_cons m_campaign_Cheapest (all_cons (h_campaign_BoundOf m_slices_Values_int m_slices_Sorted_int) (all_cons h_b0_Ints (all_cons (h_campaign_BlockedBy m_slices_Clone_string) (all_cons h_b0_Texts (all_cons m_campaign_ParseOrder (all_cons h_cobblelaw01_Yard (all_cons h_cobblelaw01_Rules (all_cons h_cobblelaw01_Items all_nil)))))))))) (n := an_cobblelaw01_awake) Tryz.func15 (by kernel_rfl) fun x => ck_cobblelaw01_awake 
theorem h_b0_Within : Has Tryz.prog sg_b0_Within :=
  has_of prog_mixed tys_ok nfs_ok eqs_ok (own := []) all_nil (n := an_b0_Within) Tryz.func20 (by kernel_rfl) fun x => ck_b0_Within x.1 x.2.1 x.2.2
theorem h_b0_IsName : Has Tryz.prog sg_b0_IsName :=
  has_of prog_mixed tys_ok nfs_ok eqs_ok (own := []) all_nil (n := an_b0_IsName) Tryz.func78 (by kernel_rfl) fun x => ck_b0_IsName x
theorem h_cobbleref01_isWidth : Has Tryz.prog sg_cobbleref01_isWidth :=
  has_of prog_mixed tys_ok nfs_ok eqs_ok (own := []) (all_cons h_b0_Within all_nil) (n := an_cobbleref01_isWidth) Tryz.func79 (by kernel_rfl) fun x => ck_cobbleref01_isWidth x
theorem h_cobbleref01_SlabErr : Has Tryz.prog sg_cobbleref01_SlabErr :=
  has_of prog_mixed tys_ok nfs_ok eqs_ok (own := []) (all_cons h_b0_Within (all_cons h_b0_IsName (all_cons h_cobbleref01_isWidth all_nil))) (n := an_cobbleref01_SlabErr) Tryz.func16 (by kernel_rfl) fun x => ck_cobbleref01_SlabErr x
theorem h_cobbleref01_OrderErr : Has Tryz.prog sg_cobbleref01_OrderErr :=
  has_of prog_mixed tys_ok nfs_ok eqs_ok (own := []) (all_cons h_b0_Within (all_cons h_b0_IsName (all_cons h_cobbleref01_isWidth all_nil))) (n := an_cobbleref01_OrderErr) Tryz.func17 (by kernel_rfl) fun x => ck_cobbleref01_OrderErr x
theorem h_cobbleref01_Suits : Has Tryz.prog sg_cobbleref01_Suits :=
  has_of prog_mixed tys_ok nfs_ok eqs_ok (own := []) (all_cons h_b0_Within all_nil) (n := an_cobbleref01_Suits) Tryz.func18 (by kernel_rfl) fun x => ck_cobbleref01_Suits x.1 x.2
theorem h_b0_Mod : Has Tryz.prog sg_b0_Mod :=
  has_of prog_mixed tys_ok nfs_ok eqs_ok (own := []) all_nil (n := an_b0_Mod) Tryz.func21 (by kernel_rfl) fun x => ck_b0_Mod x.1 x.2
include m_slices_Clone_string m_slices_Values_int m_slices_Sorted_int m_campaign_Cheapest m_campaign_ParseOrder in
theorem h_cobblelaw01_CampaignVolume : Has Tryz.prog sg_cobblelaw01_CampaignVolume :=
  has_of prog_mixed tys_ok nfs_ok eqs_ok (own := []) (all_cons (h_cobblelaw01_awake m_slices_Clone_string m_slices_Values_int m_slices_Sorted_int m_campaign_Cheapest m_campaign_ParseOrder) (all_cons h_cobbleref01_SlabErr (all_cons h_cobbleref01_OrderErr (all_cons h_cobbleref01_Suits (all_cons h_campaign_CoilLength (all_cons h_b0_Within (all_cons h_b0_Mod all_nil))))))) (n := an_cobblelaw01_CampaignVolume) Tryz.func3 (by kernel_rfl) fun x => ck_cobblelaw01_CampaignVolume x.1 x.2.1 x.2.2
end
end Go.Lift
