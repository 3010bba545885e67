/-
  The contracts of all functions.
-/
import Derived.Test.YtkoojmbkjgbdgaaGreatDoorFunK
set_option linter.unusedSectionVars false
set_option linter.unusedVariables false
set_option linter.unusedSimpArgs false
namespace Go.Lift
open Go Go.Proofs
set_option maxRecDepth 100000
section
variable (m_strings_Join : Has Tryz.prog sg_strings_Join) (m_strconv_Itoa : Has Tryz.prog sg_strconv_Itoa) (m_strings_Cut : Has Tryz.prog sg_strings_Cut) (m_strconv_Atoi : Has Tryz.prog sg_strconv_Atoi) (m_pass_ParseRules : Has Tryz.prog sg_pass_ParseRules) (m_model_ParseRules : Has Tryz.prog sg_model_ParseRules)
theorem h_mill_first : Has Tryz.prog sg_mill_first :=
  has_of prog_mixed tys_ok nfs_ok eqs_ok (own := []) all_nil (n := an_mill_first) Tryz.func41 (by kernel_rfl) fun x => ck_mill_first x
theorem h_mill_unless : Has Tryz.prog sg_mill_unless :=
  has_of prog_mixed tys_ok nfs_ok eqs_ok (own := []) all_nil (n := an_mill_unless) Tryz.func42 (by kernel_rfl) fun x => ck_mill_unless x.1 x.2
theorem h_mill_within : Has Tryz.prog sg_mill_within :=
  has_of prog_mixed tys_ok nfs_ok eqs_ok (own := []) all_nil (n := an_mill_within) Tryz.func49 (by kernel_rfl) fun x => ck_mill_within x.1 x.2.1 x.2.2
theorem h_mill_open_1 : Has Tryz.prog sg_mill_open_1 :=
  has_of prog_mixed tys_ok nfs_ok eqs_ok (own := []) (all_cons h_mill_unless (all_cons h_mill_within all_nil)) (n := an_mill_open_1) Tryz.func53 (by kernel_rfl) fun x => ck_mill_open_1 x
theorem h_mill_isName : Has Tryz.prog sg_mill_isName :=
  has_of prog_mixed tys_ok nfs_ok eqs_ok (own := []) (all_cons h_mill_within all_nil) (n := an_mill_isName) Tryz.func99 (by kernel_rfl) fun x => ck_mill_isName x
theorem h_slices_Index_string : Has Tryz.prog sg_slices_Index_string :=
  has_of prog_mixed tys_ok nfs_ok eqs_ok (own := []) all_nil (n := an_slices_Index_string) Tryz.func157 (by kernel_rfl) fun x => ck_slices_Index_string x.1 x.2
theorem h_slices_Contains_string : Has Tryz.prog sg_slices_Contains_string :=
  has_of prog_mixed tys_ok nfs_ok eqs_ok (own := []) (all_cons h_slices_Index_string all_nil) (n := an_slices_Contains_string) Tryz.func100 (by kernel_rfl) fun x => ck_slices_Contains_string x.1 x.2
theorem h_mill_named_apiMillPerson : Has Tryz.prog sg_mill_named_apiMillPerson :=
  has_of prog_mixed tys_ok nfs_ok eqs_ok (own := []) (all_cons h_mill_first (all_cons h_mill_unless (all_cons h_mill_isName (all_cons h_slices_Contains_string all_nil)))) (n := an_mill_named_apiMillPerson) Tryz.func54 (by kernel_rfl) fun x => ck_mill_named_apiMillPerson x.1 x.2.1 x.2.2
theorem h_mill_open_2 : Has Tryz.prog sg_mill_open_2 :=
  has_of prog_mixed tys_ok nfs_ok eqs_ok (own := []) all_nil (n := an_mill_open_2) Tryz.func55 (by kernel_rfl) fun x => ck_mill_open_2 x
theorem h_mill_named_string : Has Tryz.prog sg_mill_named_string :=
  has_of prog_mixed tys_ok nfs_ok eqs_ok (own := []) (all_cons h_mill_first (all_cons h_mill_unless (all_cons h_mill_isName (all_cons h_slices_Contains_string all_nil)))) (n := an_mill_named_string) Tryz.func56 (by kernel_rfl) fun x => ck_mill_named_string x.1 x.2.1 x.2.2
theorem h_mill_open_3 : Has Tryz.prog sg_mill_open_3 :=
  has_of prog_mixed tys_ok nfs_ok eqs_ok (own := []) all_nil (n := an_mill_open_3) Tryz.func57 (by kernel_rfl) fun x => ck_mill_open_3 x
theorem h_mill_open_4 : Has Tryz.prog sg_mill_open_4 :=
  has_of prog_mixed tys_ok nfs_ok eqs_ok (own := []) all_nil (n := an_mill_open_4) Tryz.func58 (by kernel_rfl) fun x => ck_mill_open_4 x
include m_strconv_Itoa m_strconv_Atoi in
theorem h_pass_numbers : Has Tryz.prog sg_pass_numbers :=
  has_of prog_mixed tys_ok nfs_ok eqs_ok (own := []) (all_cons m_strconv_Itoa (all_cons m_strconv_Atoi all_nil)) (n := an_pass_numbers) Tryz.func158 (by kernel_rfl) fun x => ck_pass_numbers x
theorem h_pass_within : Has Tryz.prog sg_pass_within :=
  has_of prog_mixed tys_ok nfs_ok eqs_ok (own := []) all_nil (n := an_pass_within) Tryz.func159 (by kernel_rfl) fun x => ck_pass_within x.1 x.2.1 x.2.2
theorem h_pass_isThickness : Has Tryz.prog sg_pass_isThickness :=
  has_of prog_mixed tys_ok nfs_ok eqs_ok (own := []) (all_cons h_pass_within all_nil) (n := an_pass_isThickness) Tryz.func160 (by kernel_rfl) fun x => ck_pass_isThickness x
theorem h_pass_bounds_holds : Has Tryz.prog sg_pass_bounds_holds :=
  has_of prog_mixed tys_ok nfs_ok eqs_ok (own := []) (all_cons h_pass_within all_nil) (n := an_pass_bounds_holds) Tryz.func161 (by kernel_rfl) fun x => ck_pass_bounds_holds x.1 x.2
theorem h_pass_first : Has Tryz.prog sg_pass_first :=
  has_of prog_mixed tys_ok nfs_ok eqs_ok (own := []) all_nil (n := an_pass_first) Tryz.func162 (by kernel_rfl) fun x => ck_pass_first x
theorem h_pass_unless : Has Tryz.prog sg_pass_unless :=
  has_of prog_mixed tys_ok nfs_ok eqs_ok (own := []) all_nil (n := an_pass_unless) Tryz.func163 (by kernel_rfl) fun x => ck_pass_unless x.1 x.2
theorem h_slices_IndexFunc_apiRange : Has Tryz.prog sg_slices_IndexFunc_apiRange :=
  has_of prog_mixed tys_ok nfs_ok eqs_ok (own := []) all_nil (n := an_slices_IndexFunc_apiRange) Tryz.func277 (by kernel_rfl) fun x => ck_slices_IndexFunc_apiRange x.1 x.2
theorem h_slices_ContainsFunc_apiRange : Has Tryz.prog sg_slices_ContainsFunc_apiRange :=
  has_of prog_mixed tys_ok nfs_ok eqs_ok (own := []) (all_cons h_slices_IndexFunc_apiRange all_nil) (n := an_slices_ContainsFunc_apiRange) Tryz.func218 (by kernel_rfl) fun x => ck_slices_ContainsFunc_apiRange x.1 x.2
theorem h_pass_ordered_1 : Has Tryz.prog sg_pass_ordered_1 :=
  has_of prog_mixed tys_ok nfs_ok eqs_ok (own := []) all_nil (n := an_pass_ordered_1) Tryz.func219 (by kernel_rfl) fun x => ck_pass_ordered_1 x
theorem h_pass_ordered : Has Tryz.prog sg_pass_ordered :=
  has_of prog_mixed tys_ok nfs_ok eqs_ok (own := []) (all_cons h_slices_ContainsFunc_apiRange (all_cons h_pass_ordered_1 all_nil)) (n := an_pass_ordered) Tryz.func164 (by kernel_rfl) fun x => ck_pass_ordered x
theorem h_pass_CheckRules : Has Tryz.prog sg_pass_CheckRules :=
  has_of prog_mixed tys_ok nfs_ok eqs_ok (own := []) (all_cons h_pass_within (all_cons h_pass_isThickness (all_cons h_pass_bounds_holds (all_cons h_pass_first (all_cons h_pass_unless (all_cons h_pass_ordered all_nil)))))) (n := an_pass_CheckRules) Tryz.func105 (by kernel_rfl) fun x => ck_pass_CheckRules x
include m_strconv_Itoa m_strconv_Atoi in
theorem h_model_number : Has Tryz.prog sg_model_number :=
  has_of prog_mixed tys_ok nfs_ok eqs_ok (own := []) (all_cons m_strconv_Itoa (all_cons m_strconv_Atoi all_nil)) (n := an_model_number) Tryz.func107 (by kernel_rfl) fun x => ck_model_number x
include m_strconv_Itoa m_strings_Cut m_strconv_Atoi in
theorem h_model_pair : Has Tryz.prog sg_model_pair :=
  has_of prog_mixed tys_ok nfs_ok eqs_ok (own := []) (all_cons m_strings_Cut (all_cons (h_model_number m_strconv_Itoa m_strconv_Atoi) all_nil)) (n := an_model_pair) Tryz.func106 (by kernel_rfl) fun x => ck_model_pair x.1 x.2
theorem h_model_within : Has Tryz.prog sg_model_within :=
  has_of prog_mixed tys_ok nfs_ok eqs_ok (own := []) all_nil (n := an_model_within) Tryz.func167 (by kernel_rfl) fun x => ck_model_within x.1 x.2.1 x.2.2
theorem h_model_first : Has Tryz.prog sg_model_first :=
  has_of prog_mixed tys_ok nfs_ok eqs_ok (own := []) all_nil (n := an_model_first) Tryz.func168 (by kernel_rfl) fun x => ck_model_first x
theorem h_model_unless : Has Tryz.prog sg_model_unless :=
  has_of prog_mixed tys_ok nfs_ok eqs_ok (own := []) all_nil (n := an_model_unless) Tryz.func169 (by kernel_rfl) fun x => ck_model_unless x.1 x.2
theorem h_model_isX : Has Tryz.prog sg_model_isX :=
  has_of prog_mixed tys_ok nfs_ok eqs_ok (own := []) (all_cons h_model_within all_nil) (n := an_model_isX) Tryz.func220 (by kernel_rfl) fun x => ck_model_isX x
theorem h_model_CheckTable : Has Tryz.prog sg_model_CheckTable :=
  has_of prog_mixed tys_ok nfs_ok eqs_ok (own := []) (all_cons h_model_within (all_cons h_model_first (all_cons h_model_unless (all_cons h_model_isX all_nil)))) (n := an_model_CheckTable) Tryz.func165 (by kernel_rfl) fun x => ck_model_CheckTable x
theorem h_model_CheckRules_1 : Has Tryz.prog sg_model_CheckRules_1 :=
  has_of prog_mixed tys_ok nfs_ok eqs_ok (own := []) (all_cons h_model_within all_nil) (n := an_model_CheckRules_1) Tryz.func166 (by kernel_rfl) fun x => ck_model_CheckRules_1 x
theorem h_model_divisor : Has Tryz.prog sg_model_divisor :=
  has_of prog_mixed tys_ok nfs_ok eqs_ok (own := []) all_nil (n := an_model_divisor) Tryz.func221 (by kernel_rfl) fun x => ck_model_divisor x.1 x.2
theorem h_model_isLowest : Has Tryz.prog sg_model_isLowest :=
  has_of prog_mixed tys_ok nfs_ok eqs_ok (own := []) (all_cons h_model_divisor all_nil) (n := an_model_isLowest) Tryz.func170 (by kernel_rfl) fun x => ck_model_isLowest x
theorem h_model_CheckRules : Has Tryz.prog sg_model_CheckRules :=
  has_of prog_mixed tys_ok nfs_ok eqs_ok (own := []) (all_cons h_model_CheckTable (all_cons h_model_CheckRules_1 (all_cons h_model_within (all_cons h_model_first (all_cons h_model_unless (all_cons h_model_isLowest all_nil)))))) (n := an_model_CheckRules) Tryz.func108 (by kernel_rfl) fun x => ck_model_CheckRules x
include m_pass_ParseRules m_model_ParseRules in
theorem h_mill_open : Has Tryz.prog sg_mill_open :=
  has_of prog_mixed tys_ok nfs_ok eqs_ok (own := []) (all_cons h_mill_first (all_cons h_mill_unless (all_cons h_mill_open_1 (all_cons h_mill_named_apiMillPerson (all_cons h_mill_open_2 (all_cons h_mill_named_string (all_cons h_mill_open_3 (all_cons h_mill_open_4 (all_cons m_pass_ParseRules (all_cons m_model_ParseRules all_nil)))))))))) (n := an_mill_open) Tryz.func28 (by kernel_rfl) fun x => ck_mill_open x
include m_pass_ParseRules m_model_ParseRules in
theorem h_mill_CheckPlant : Has Tryz.prog sg_mill_CheckPlant :=
  has_of prog_mixed tys_ok nfs_ok eqs_ok (own := []) (all_cons (h_mill_open m_pass_ParseRules m_model_ParseRules) all_nil) (n := an_mill_CheckPlant) Tryz.func8 (by kernel_rfl) fun x => ck_mill_CheckPlant x
theorem h_b0_IsName : Has Tryz.prog sg_b0_IsName :=
  has_of prog_mixed tys_ok nfs_ok eqs_ok (own := []) all_nil (n := an_b0_IsName) Tryz.func32 (by kernel_rfl) fun x => ck_b0_IsName x
theorem h_b0_Within : Has Tryz.prog sg_b0_Within :=
  has_of prog_mixed tys_ok nfs_ok eqs_ok (own := []) all_nil (n := an_b0_Within) Tryz.func33 (by kernel_rfl) fun x => ck_b0_Within x.1 x.2.1 x.2.2
theorem h_cobbleref10_index : Has Tryz.prog sg_cobbleref10_index :=
  has_of prog_mixed tys_ok nfs_ok eqs_ok (own := []) all_nil (n := an_cobbleref10_index) Tryz.func34 (by kernel_rfl) fun x => ck_cobbleref10_index x.1 x.2
theorem h_b0_Cut : Has Tryz.prog sg_b0_Cut :=
  has_of prog_mixed tys_ok nfs_ok eqs_ok (own := []) all_nil (n := an_b0_Cut) Tryz.func61 (by kernel_rfl) fun x => ck_b0_Cut x.1 x.2
theorem h_b0_Number : Has Tryz.prog sg_b0_Number :=
  has_of prog_mixed tys_ok nfs_ok eqs_ok (own := []) all_nil (n := an_b0_Number) Tryz.func109 (by kernel_rfl) fun x => ck_b0_Number x.1 x.2
theorem h_cobbleref03_parsed : Has Tryz.prog sg_cobbleref03_parsed :=
  has_of prog_mixed tys_ok nfs_ok eqs_ok (own := []) (all_cons h_b0_Number all_nil) (n := an_cobbleref03_parsed) Tryz.func62 (by kernel_rfl) fun x => ck_cobbleref03_parsed x
theorem h_cobbleref03_isThickness : Has Tryz.prog sg_cobbleref03_isThickness :=
  has_of prog_mixed tys_ok nfs_ok eqs_ok (own := []) (all_cons h_b0_Within all_nil) (n := an_cobbleref03_isThickness) Tryz.func171 (by kernel_rfl) fun x => ck_cobbleref03_isThickness x
theorem h_cobbleref03_isHeat : Has Tryz.prog sg_cobbleref03_isHeat :=
  has_of prog_mixed tys_ok nfs_ok eqs_ok (own := []) (all_cons h_b0_Within all_nil) (n := an_cobbleref03_isHeat) Tryz.func172 (by kernel_rfl) fun x => ck_cobbleref03_isHeat x
theorem h_cobbleref03_CheckRules : Has Tryz.prog sg_cobbleref03_CheckRules :=
  has_of prog_mixed tys_ok nfs_ok eqs_ok (own := []) (all_cons h_b0_Within (all_cons h_cobbleref03_isThickness (all_cons h_cobbleref03_isHeat all_nil))) (n := an_cobbleref03_CheckRules) Tryz.func110 (by kernel_rfl) fun x => ck_cobbleref03_CheckRules x
theorem h_cobbleref03_RulesErr : Has Tryz.prog sg_cobbleref03_RulesErr :=
  has_of prog_mixed tys_ok nfs_ok eqs_ok (own := []) (all_cons h_cobbleref03_CheckRules all_nil) (n := an_cobbleref03_RulesErr) Tryz.func63 (by kernel_rfl) fun x => ck_cobbleref03_RulesErr x
theorem h_cobbleref03_ParseRules : Has Tryz.prog sg_cobbleref03_ParseRules :=
  has_of prog_mixed tys_ok nfs_ok eqs_ok (own := []) (all_cons h_b0_Cut (all_cons h_cobbleref03_parsed (all_cons h_cobbleref03_RulesErr all_nil))) (n := an_cobbleref03_ParseRules) Tryz.func35 (by kernel_rfl) fun x => ck_cobbleref03_ParseRules x
theorem h_cobbleref04_parsedNumber : Has Tryz.prog sg_cobbleref04_parsedNumber :=
  has_of prog_mixed tys_ok nfs_ok eqs_ok (own := []) (all_cons h_b0_Number all_nil) (n := an_cobbleref04_parsedNumber) Tryz.func65 (by kernel_rfl) fun x => ck_cobbleref04_parsedNumber x
theorem h_cobbleref04_parsedPair : Has Tryz.prog sg_cobbleref04_parsedPair :=
  has_of prog_mixed tys_ok nfs_ok eqs_ok (own := []) (all_cons h_b0_Cut (all_cons h_cobbleref04_parsedNumber all_nil)) (n := an_cobbleref04_parsedPair) Tryz.func64 (by kernel_rfl) fun x => ck_cobbleref04_parsedPair x.1 x.2
theorem h_cobbleref04_XErr : Has Tryz.prog sg_cobbleref04_XErr :=
  has_of prog_mixed tys_ok nfs_ok eqs_ok (own := []) (all_cons h_b0_Within all_nil) (n := an_cobbleref04_XErr) Tryz.func222 (by kernel_rfl) fun x => ck_cobbleref04_XErr x
theorem h_cobbleref04_CheckTable : Has Tryz.prog sg_cobbleref04_CheckTable :=
  has_of prog_mixed tys_ok nfs_ok eqs_ok (own := []) (all_cons h_b0_Within (all_cons h_cobbleref04_XErr all_nil)) (n := an_cobbleref04_CheckTable) Tryz.func173 (by kernel_rfl) fun x => ck_cobbleref04_CheckTable x
theorem h_b0_Size : Has Tryz.prog sg_b0_Size :=
  has_of prog_mixed tys_ok nfs_ok eqs_ok (own := []) all_nil (n := an_b0_Size) Tryz.func278 (by kernel_rfl) fun x => ck_b0_Size x
theorem h_b0_Gcd : Has Tryz.prog sg_b0_Gcd :=
  has_of prog_mixed tys_ok nfs_ok eqs_ok (own := []) (all_cons h_b0_Size all_nil) (n := an_b0_Gcd) Tryz.func223 (by kernel_rfl) fun x => ck_b0_Gcd x.1 x.2
theorem h_b0_IsLowest : Has Tryz.prog sg_b0_IsLowest :=
  has_of prog_mixed tys_ok nfs_ok eqs_ok (own := []) (all_cons h_b0_Gcd all_nil) (n := an_b0_IsLowest) Tryz.func174 (by kernel_rfl) fun x => ck_b0_IsLowest x
theorem h_cobbleref04_isGain : Has Tryz.prog sg_cobbleref04_isGain :=
  has_of prog_mixed tys_ok nfs_ok eqs_ok (own := []) (all_cons h_b0_Within all_nil) (n := an_cobbleref04_isGain) Tryz.func175 (by kernel_rfl) fun x => ck_cobbleref04_isGain x
theorem h_cobbleref04_CheckRules : Has Tryz.prog sg_cobbleref04_CheckRules :=
  has_of prog_mixed tys_ok nfs_ok eqs_ok (own := []) (all_cons h_b0_Within (all_cons h_cobbleref04_CheckTable (all_cons h_b0_IsLowest (all_cons h_cobbleref04_isGain all_nil)))) (n := an_cobbleref04_CheckRules) Tryz.func111 (by kernel_rfl) fun x => ck_cobbleref04_CheckRules x
theorem h_cobbleref04_RulesErr : Has Tryz.prog sg_cobbleref04_RulesErr :=
  has_of prog_mixed tys_ok nfs_ok eqs_ok (own := []) (all_cons h_cobbleref04_CheckRules all_nil) (n := an_cobbleref04_RulesErr) Tryz.func66 (by kernel_rfl) fun x => ck_cobbleref04_RulesErr x
theorem h_cobbleref04_ParseRules : Has Tryz.prog sg_cobbleref04_ParseRules :=
  has_of prog_mixed tys_ok nfs_ok eqs_ok (own := []) (all_cons h_b0_Cut (all_cons h_cobbleref04_parsedPair (all_cons h_cobbleref04_parsedNumber (all_cons h_cobbleref04_RulesErr all_nil)))) (n := an_cobbleref04_ParseRules) Tryz.func36 (by kernel_rfl) fun x => ck_cobbleref04_ParseRules x
theorem h_cobbleref10_CheckPlant : Has Tryz.prog sg_cobbleref10_CheckPlant :=
  has_of prog_mixed tys_ok nfs_ok eqs_ok (own := []) (all_cons h_b0_IsName (all_cons h_b0_Within (all_cons h_cobbleref10_index (all_cons h_cobbleref03_ParseRules (all_cons h_cobbleref04_ParseRules all_nil))))) (n := an_cobbleref10_CheckPlant) Tryz.func11 (by kernel_rfl) fun x => ck_cobbleref10_CheckPlant x
theorem h_b0_CopyTexts : Has Tryz.prog sg_b0_CopyTexts :=
  has_of prog_mixed tys_ok nfs_ok eqs_ok (own := []) all_nil (n := an_b0_CopyTexts) Tryz.func29 (by kernel_rfl) fun x => ck_b0_CopyTexts x
theorem h_cobbleref10_CopyPlant : Has Tryz.prog sg_cobbleref10_CopyPlant :=
  has_of prog_mixed tys_ok nfs_ok eqs_ok (own := []) (all_cons h_b0_CopyTexts all_nil) (n := an_cobbleref10_CopyPlant) Tryz.func9 (by kernel_rfl) fun x => ck_cobbleref10_CopyPlant x
theorem h_cobblelaw10_Few : Has Tryz.prog sg_cobblelaw10_Few :=
  has_of prog_mixed tys_ok nfs_ok eqs_ok (own := []) all_nil (n := an_cobblelaw10_Few) Tryz.func7 (by kernel_rfl) fun x => ck_cobblelaw10_Few x
theorem h_cobblelaw10_Passes : Has Tryz.prog sg_cobblelaw10_Passes :=
  has_of prog_mixed tys_ok nfs_ok eqs_ok (own := []) all_nil (n := an_cobblelaw10_Passes) Tryz.func47 (by kernel_rfl) fun x => ck_cobblelaw10_Passes 
theorem h_cobblelaw10_Model : Has Tryz.prog sg_cobblelaw10_Model :=
  has_of prog_mixed tys_ok nfs_ok eqs_ok (own := []) all_nil (n := an_cobblelaw10_Model) Tryz.func48 (by kernel_rfl) fun x => ck_cobblelaw10_Model 
theorem h_cobblelaw10_Plant : Has Tryz.prog sg_cobblelaw10_Plant :=
  has_of prog_mixed tys_ok nfs_ok eqs_ok (own := []) (all_cons h_cobblelaw10_Passes (all_cons h_cobblelaw10_Model all_nil)) (n := an_cobblelaw10_Plant) Tryz.func24 (by kernel_rfl) fun x => ck_cobblelaw10_Plant 
theorem h_mill_sum : Has Tryz.prog sg_mill_sum :=
  has_of prog_mixed tys_ok nfs_ok eqs_ok (own := []) all_nil (n := an_mill_sum) Tryz.func50 (by kernel_rfl) fun x => ck_mill_sum x.1 x.2
theorem h_mill_SumOf : Has Tryz.prog sg_mill_SumOf :=
  has_of prog_mixed tys_ok nfs_ok eqs_ok (own := []) (all_cons h_mill_within (all_cons h_mill_sum all_nil)) (n := an_mill_SumOf) Tryz.func25 (by kernel_rfl) fun x => ck_mill_SumOf x.1 x.2
include m_strings_Join in
theorem h_mill_list : Has Tryz.prog sg_mill_list :=
  has_of prog_mixed tys_ok nfs_ok eqs_ok (own := []) (all_cons m_strings_Join all_nil) (n := an_mill_list) Tryz.func83 (by kernel_rfl) fun x => ck_mill_list x
end
end Go.Lift
