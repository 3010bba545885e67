/-
  The types, notes and signatures of these functions.
-/
import Derived.Test.YtggnjngdmadbaaaGreatDoorFunF
import Derived.Test.YtggnjngdmadbaaaGreatDoorLiftL
import Derived.Lib.ItoaNum
import Derived.KernelRfl
import Derived.Test.YtggnjngdmadbaaaGreatDoorProg
set_option linter.unusedSectionVars false
set_option linter.unusedVariables false
set_option linter.unusedSimpArgs false
namespace Go.Lift
open Go Go.Proofs
instance : Tab := tabsVars [(0, .u64, Lib.pow10Tab)] [(1, false), (2, true), (3, true)]
def tyTab : List (Nat × Ty) := [
  (2, (.int .i64)),
  (3, (.int .i64)),
  (4, .bool),
  (5, (.int .u8)),
  (6, (.int .u8)),
  (7, Truntime_boundsError),
  (8, Truntime_boundsError),
  (9, .str),
  (10, .str),
  (11, .str),
  (12, (.int .u64)),
  (13, Truntime_errorAddressString),
  (14, Truntime_errorAddressString),
  (21, (.int .i32)),
  (22, Tapi_CampaignSlab),
  (23, Tapi_CampaignSlab),
  (24, Tapi_Range),
  (25, Tapi_Range),
  (26, Tapi_CampaignOrder),
  (27, Tapi_CampaignOrder),
  (29, (.fn Tapi_CampaignSlab (.int .i64))),
  (30, (.fn Tapi_CampaignOrder (.int .i64))),
  (32, (.int .i64)),
  (38, Tapi_CampaignRules),
  (39, Tapi_CampaignRules),
  (40, (.slice Tapi_CampaignItem)),
  (41, (.slice (.int .i64))),
  (42, (.fn (.slice Tapi_CampaignItem) .bool)),
  (43, (.fn (.slice Tapi_CampaignItem) (.int .i64))),
  (46, (.fn (.slice Tapi_CampaignItem) (.slice Tapi_CampaignItem))),
  (49, (.fn (.slice (.int .i64)) (.slice (.int .i64)))),
  (60, (.slice (.slice .str))),
  (61, (.slice .str)),
  (62, Tapi_Range),
  (63, Tapi_Range),
  (66, (.fn (.slice (.slice .str)) (.slice (.slice .str)))),
  (71, (.fn (.slice .str) (.slice .str))),
  (81, Tapi_Range),
  (82, Tapi_Range),
  (85, (.fn Tapi_CampaignRules (.int .i64))),
  (86, (.fn Tapi_CampaignRules (.int .i64))),
  (89, Tcobblelaw01_Try),
  (90, Tcobblelaw01_Try),
  (94, Tapi_CampaignItem),
  (95, Tapi_CampaignItem),
  (96, (.fn Tapi_CampaignOrder .str)),
  (101, (.fn Tapi_CampaignOrder (.int .i64))),
  (103, (.fn Tapi_CampaignSlab .str)),
  (108, (.fn Tapi_CampaignSlab (.int .i64))),
  (110, (.slice Tapi_Range)),
  (111, (.fn (.slice (.slice .str)) (.int .i64))),
  (115, (.fn (.slice Tapi_Range) (.slice Tapi_Range))),
  (124, (.fn .str .bool)),
  (125, (.fn (.int .i64) .bool)),
  (126, (.fn (.slice (.int .i64)) (.int .i64))),
  (128, Tcampaign_rules),
  (129, Tcampaign_rules),
  (132, (.seq (.slice (.int .i64)))),
  (133, (.fn (.slice (.int .i64)) (.seq (.slice (.int .i64))))),
  (134, (.fn (.int .i64) (.slice (.int .i64)))),
  (135, (.fn (.slice (.int .i64)) (.int .i64))),
  (137, (.fn (.seq (.int .i64)) (.slice (.int .i64)))),
  (138, (.seq (.int .i64))),
  (139, (.seq (.int .i64))),
  (140, (.fn (.slice (.int .i64)) (.seq (.int .i64)))),
  (143, (.slice (.slice (.int .i64)))),
  (144, (.fn (.slice (.int .i64)) (.slice (.slice (.int .i64))))),
  (146, (.mapT .str .bool)),
  (147, (.slice (.slice .str))),
  (150, (.fn Tapi_Range (.int .i64))),
  (158, (.fn (.int .i64) (.int .i64))),
  (160, (.fn (.slice (.int .i64)) .bool)),
  (161, (.fn (.int .i64) .str)),
  (165, Tcampaign_reader),
  (166, Tcampaign_reader),
  (170, Tapi_Range),
  (171, Tapi_Range),
  (173, (.arr 6 .bool)),
  (177, (.arr 4 (.int .i64))),
  (183, Tcampaign_node),
  (184, Tcampaign_node),
  (185, (.fn Tapi_Range Tcampaign_node)),
  (186, Tcobbleref01_state),
  (187, Tcobbleref01_state),
  (189, (.slice Tcobbleref01_state)),
  (191, (.slice (.int .i64))),
  (193, (.fn Tapi_CampaignItem .bool)),
  (197, (.slice (.int .u8))),
  (200, (.fn (.slice .str) .bool)),
  (203, (.seq Tapi_Range)),
  (204, (.fn (.slice (.int .i64)) (.seq Tapi_Range))),
  (211, .err),
  (221, (.slice .bool)),
  (231, (.slice Tcampaign_node)),
  (233, (.seq Tapi_Range)),
  (237, (.arr 5 .bool)),
  (242, (.fn (.int .u64) (.int .i64))),
  (243, (.int .u64)),
  (246, (.fn Tapi_Range .bool)),
  (251, (.mapT .str (.int .i64))),
  (257, (.fn Tapi_Range .bool)),
  (260, (.int .i64)),
  (267, (.fn (.int .u32) (.int .i64))),
  (268, (.int .u32)),
  (269, (.fn (.int .u64) (.int .i64))),
  (270, (.int .u64)),
  (271, (.arr 24 (.int .u8))),
  (277, (.fn (.int .i64) (.slice (.int .u8)))),
  (278, (.fn .str (.int .i64))),
  (284, (.int .i64)),
  (290, (.int .u64)),
  (291, (.fn (.int .i64) (.int .u64))),
  (295, (.fn .bool (.int .i64))),
  (296, (.arr 20 (.int .u64))),
  (297, (.arr 65 (.int .u8))),
  (300, (.fn .str .str)),
  (301, Tstrconv_NumError),
  (302, Tstrconv_NumError),
  (303, (.fn .str .err)),
  (306, (.arr 256 (.int .u8))),
  (307, Tutf8_acceptRange),
  (308, Tutf8_acceptRange),
  (309, (.arr 16 Tutf8_acceptRange)),
  (312, (.fn (.int .u8) (.int .u8))),
  (314, Terrors_errorString),
  (315, Terrors_errorString),
  (316, (.arr 32 (.int .u8))),
  (317, (.arr 64 (.int .u8))),
  (324, (.int .u8)),
  (325, (.int .u8)),
  (327, (.int .i32)),
  (328, (.int .i32))]
def nfTab : List (Nat × Nat) := [(7, 4), (8, 4), (13, 2), (14, 2), (22, 5), (23, 5), (24, 2), (25, 2), (26, 7), (27, 7), (38, 9), (39, 9), (62, 2), (63, 2), (81, 2), (82, 2), (89, 2), (90, 2), (94, 4), (95, 4), (128, 2), (129, 2), (165, 2), (166, 2), (170, 2), (171, 2), (183, 4), (184, 4), (186, 2), (187, 2), (301, 3), (302, 3), (307, 2), (308, 2), (314, 1), (315, 1)]
def eqTab : List Nat := [9, 23, 25, 27, 82]
theorem tys_ok : tysOk Tryz.prog tyTab = true := by kernel_rfl
theorem nfs_ok : nfsOk Tryz.prog tyTab nfTab = true := by kernel_rfl
theorem eqs_ok : eqsOk Tryz.prog tyTab eqTab = true := by kernel_rfl
theorem prog_mixed : Tryz.prog.follows .mixedOrders = true := by kernel_rfl
abbrev cx (own : List Nat) (l : List Sig) : Ctx := cxOf tyTab nfTab eqTab own l
abbrev cxM (own : List Nat) (l : List Sig) : Ctx := @cxOf mfOn tyTab nfTab eqTab own l
def an_campaign_first : Ann := (.seq .nil (.seq (.seq .nil (.blk (.loopBD ⟨[⟨false, 7, 0, (.int .i64), [], false⟩], []⟩ ⟨[], []⟩ 0 .nil))) .nil))
def an_campaign_unless : Ann := .nil
def an_campaign_within : Ann := .nil
def an_campaign_isName : Ann := (.seq .nil (.seq (.seq .nil (.blk (.loopBD ⟨[⟨false, 9, 0, (.int .i64), [], false⟩], []⟩ ⟨[], []⟩ 0 .nil))) .nil))
def an_campaign_isGrade : Ann := .nil
def an_campaign_isThickness : Ann := .nil
def an_campaign_isWidth : Ann := .nil
def an_campaign_isHeat : Ann := .nil
def an_campaign_CheckOrder : Ann := .nil
def an_campaign_CheckSlab : Ann := .nil
def an_campaign_suits : Ann := .nil
def an_campaign_CoilLength : Ann := .nil
def an_slices_IndexFunc_int : Ann := (.seq .nil (.seq (.seq .nil (.blk (.loopBD ⟨[⟨false, 8, 0, (.int .i64), [], false⟩], []⟩ ⟨[], []⟩ 0 .nil))) .nil))
def an_slices_ContainsFunc_int : Ann := .nil
def an_campaign_CheckRules_1_1 : Ann := .nil
def an_campaign_CheckRules_1 : Ann := (.seq .nil (.seq (.frz 2 .nil) .nil))
def an_campaign_CheckRules : Ann := .nil
def an_slices_IndexFunc_apiCampaignItem : Ann := (.seq .nil (.seq (.seq .nil (.blk (.loopBD ⟨[⟨false, 8, 0, (.int .i64), [], false⟩], []⟩ ⟨[], []⟩ 0 .nil))) .nil))
def an_slices_ContainsFunc_apiCampaignItem : Ann := .nil
def an_campaign_open_1 : Ann := .nil
def an_campaign_open : Ann := .nil
def an_campaign_numbers : Ann := (.seq .nil (.seq .nil (.seq (.seq .nil (.blk (.loopB ⟨[⟨false, 3, 0, (.slice (.int .i64)), [([], some 101000300)], false⟩, ⟨false, 6, 0, (.int .i64), [], false⟩], []⟩ ⟨[⟨false, 3, 0, (.slice (.int .i64)), [([], some 201000300)], false⟩], []⟩ 0 .nil))) .nil)))
def an_campaign_size : Ann := .nil
def an_campaign_rules_violates : Ann := (.seq .nil (.seq .nil (.seq .nil (.seq (.seq .nil (.blk (.loopB ⟨[⟨false, 8, 0, (.int .i64), [], false⟩, ⟨false, 19, 0, (.int .i64), [], false⟩], [3, 6, 7]⟩ ⟨[⟨false, 8, 0, (.int .i64), [], false⟩], [3, 6, 7]⟩ 0 .nil))) (.seq .nil (.seq .nil (.seq .nil (.seq .nil (.seq (.seq .nil (.join ⟨[⟨true, 7, 237, (.arr 5 .bool), [], false⟩], [3, 6, 11, 12]⟩ .nil .nil)) .nil)))))))))
def an_slices_Index_bool : Ann := (.seq .nil (.seq (.seq .nil (.blk (.loopBD ⟨[⟨false, 8, 0, (.int .i64), [], false⟩], []⟩ ⟨[], []⟩ 0 .nil))) .nil))
def an_slices_Contains_bool : Ann := .nil
def an_slices_Index_int : Ann := (.seq .nil (.seq (.seq .nil (.blk (.loopBD ⟨[⟨false, 8, 0, (.int .i64), [], false⟩], []⟩ ⟨[], []⟩ 0 .nil))) .nil))
def an_slices_Contains_int : Ann := .nil
def an_campaign_rules_cost : Ann := .nil
def an_campaign_rules_costs : Ann := (.seq .nil (.seq .nil (.seq (.seq .nil (.blk (.loopB ⟨[⟨false, 5, 0, (.int .i64), [], false⟩, ⟨false, 6, 0, (.int .i64), [], false⟩], [2]⟩ ⟨[⟨false, 5, 0, (.int .i64), [], false⟩], [2]⟩ 0 .nil))) .nil)))
def an_campaign_BoundOf_1 : Ann := .nil
def an_campaign_rules_tree : Ann := (.seq .nil (.seq .nil (.seq (.blk (.loopB ⟨[⟨false, 5, 0, (.slice (.int .i64)), [([], some 2201000500)], false⟩, ⟨false, 6, 0, (.int .i64), [], false⟩], [2]⟩ ⟨[⟨false, 6, 0, (.int .i64), [], false⟩], [2]⟩ 0 (.seq .nil (.blk (.seq .nil (.seq (.seq .nil (.blk (.loopB ⟨[⟨false, 7, 0, (.int .i64), [], false⟩, ⟨false, 8, 0, (.int .i64), [], false⟩, ⟨false, 22, 0, (.int .i64), [], false⟩], [2, 2201000500]⟩ ⟨[⟨false, 7, 0, (.int .i64), [], false⟩, ⟨false, 8, 0, (.int .i64), [], false⟩], [2, 2201000500]⟩ 2 (.seq .nil (.seq .nil (.seq (.blk (.seq .nil (.seq .nil (.blk (.loopB ⟨[⟨false, 7, 0, (.int .i64), [], false⟩, ⟨false, 8, 0, (.int .i64), [], false⟩, ⟨false, 29, 0, (.int .i64), [], false⟩], [2, 2201000500]⟩ ⟨[⟨false, 7, 0, (.int .i64), [], false⟩, ⟨false, 8, 0, (.int .i64), [], false⟩], [2, 2201000500]⟩ 4 (.seq .nil (.seq .nil (.seq (.blk (.seq .nil (.seq .nil (.seq .nil (.join ⟨[⟨false, 7, 0, (.int .i64), [], false⟩, ⟨false, 8, 0, (.int .i64), [], false⟩], [2, 2201000500]⟩ .nil .nil))))) .nil)))))))) .nil)))))) .nil)))))) .nil)))
def an_campaign_BoundOf : Ann := (.seq .nil (.seq .nil (.seq .nil (.seq .nil (.seq .nil (.seq .nil (.seq (.seq .nil (.blk (.loopB ⟨[⟨false, 11, 0, (.int .i64), [], false⟩, ⟨false, 44, 0, (.int .i64), [], false⟩], [3, 8, 34]⟩ ⟨[⟨false, 11, 0, (.int .i64), [], false⟩], [3, 8, 34]⟩ 0 .nil))) .nil)))))))
def an_b0_Ints : Ann := (.seq .nil (.seq .nil (.seq (.seq .nil (.blk (.loopBD ⟨[⟨false, 5, 0, (.int .i64), [], false⟩], []⟩ ⟨[], []⟩ 0 .nil))) .nil)))
def an_campaign_CheckYard : Ann := (.seq .nil (.seq .nil (.seq .nil (.seq (.seq .nil (.blk (.loopBD ⟨[⟨false, 27, 0, (.int .i64), [], false⟩, ⟨true, 24, 146, (.mapT .str .bool), [], true⟩], [19]⟩ ⟨[⟨true, 24, 146, (.mapT .str .bool), [], true⟩], [19]⟩ 0 (.seq .nil (.seq .nil (.seq (.blk (.seq .nil (.seq .nil (.seq .nil (.blk (.loopBD ⟨[⟨false, 38, 0, (.int .i64), [], false⟩, ⟨true, 24, 146, (.mapT .str .bool), [], true⟩], [19]⟩ ⟨[⟨true, 24, 146, (.mapT .str .bool), [], true⟩], [19]⟩ 2 .nil)))))) .nil)))))) .nil))))
def an_campaign_yard_clone : Ann := (.seq .nil (.seq .nil (.seq (.seq .nil (.blk (.loopB ⟨[⟨false, 3, 0, (.slice (.slice .str)), [([], some 101000300)], false⟩, ⟨false, 8, 0, (.int .i64), [], false⟩], []⟩ ⟨[⟨false, 3, 0, (.slice (.slice .str)), [([], some 201000300)], false⟩], []⟩ 0 .nil))) .nil)))
def an_campaign_openYard : Ann := .nil
def an_slices_IndexFunc_string : Ann := (.seq .nil (.seq (.seq .nil (.blk (.loopBD ⟨[⟨false, 8, 0, (.int .i64), [], false⟩], []⟩ ⟨[], []⟩ 0 .nil))) .nil))
def an_slices_ContainsFunc_string : Ann := .nil
def an_slices_Index_string : Ann := (.seq .nil (.seq (.seq .nil (.blk (.loopBD ⟨[⟨false, 8, 0, (.int .i64), [], false⟩], []⟩ ⟨[], []⟩ 0 .nil))) .nil))
def an_slices_Contains_string : Ann := .nil
def an_campaign_openRequest_1 : Ann := .nil
def an_campaign_openRequest : Ann := (.seq .nil (.seq .nil (.seq .nil (.seq (.seq .nil (.blk (.loopBD ⟨[⟨false, 22, 0, (.int .i64), [], false⟩], []⟩ ⟨[], []⟩ 0 (.seq .nil (.seq .nil (.seq (.blk (.seq .nil (.seq (.frz 9 .nil) .nil))) .nil)))))) .nil))))
def an_slices_IndexFunc_string_190 : Ann := (.seq .nil (.seq (.seq .nil (.blk (.loopBD ⟨[⟨false, 8, 0, (.int .i64), [], false⟩], []⟩ ⟨[], []⟩ 0 .nil))) .nil))
def an_slices_ContainsFunc_string_153 : Ann := .nil
def an_campaign_later : Ann := .nil
def an_campaign_yard_blocking_1 : Ann := .nil
def an_campaign_yard_blocking : Ann := (.seq .nil (.seq (.frz 3 .nil) (.seq (.seq .nil (.blk (.loopB ⟨[⟨false, 5, 0, (.slice .str), [([], some 801000500)], false⟩, ⟨false, 12, 0, (.int .i64), [], false⟩], []⟩ ⟨[⟨false, 5, 0, (.slice .str), [([], some 1601000500)], false⟩], []⟩ 0 (.seq .nil (.seq .nil (.seq (.blk (.seq .nil (.seq .nil (.blk (.loopB ⟨[⟨false, 5, 0, (.slice .str), [([], some 1901000500)], false⟩, ⟨false, 18, 0, (.int .i64), [], false⟩], []⟩ ⟨[⟨false, 5, 0, (.slice .str), [([], some 2201000500)], false⟩], []⟩ 2 (.seq .nil (.seq .nil (.seq (.blk (.seq .nil (.seq (.frz 9 .nil) (.join ⟨[⟨false, 5, 0, (.slice .str), [([], some 2301000500)], false⟩], []⟩ .nil .nil)))) .nil)))))))) .nil)))))) .nil)))
def an_campaign_BlockedBy : Ann := .nil
def an_b0_Texts : Ann := (.seq .nil (.seq .nil (.seq (.seq .nil (.blk (.loopBD ⟨[⟨false, 5, 0, (.int .i64), [], false⟩], []⟩ ⟨[], []⟩ 0 .nil))) .nil)))
def an_campaign_number : Ann := .nil
def an_cobblelaw01_Yard : Ann := .nil
def an_cobblelaw01_Rules : Ann := .nil
def an_cobblelaw01_Items : Ann := .nil
def an_cobblelaw01_awake : Ann := .nil
def an_b0_Within : Ann := .nil
def an_b0_IsName : Ann := (.seq .nil (.seq .nil (.seq (.seq .nil (.blk (.loopBD ⟨[⟨false, 3, 0, (.int .i64), [], false⟩], []⟩ ⟨[], []⟩ 0 .nil))) .nil)))
def an_cobbleref01_isWidth : Ann := .nil
def an_cobbleref01_SlabErr : Ann := .nil
def an_cobbleref01_OrderErr : Ann := .nil
def an_cobbleref01_Suits : Ann := .nil
def an_b0_Mod : Ann := (.seq .nil (.seq .nil (.seq (.seq .nil (.join ⟨[⟨false, 0, 0, (.int .i64), [], false⟩], []⟩ .nil .nil)) .nil)))
def an_cobblelaw01_CampaignVolume : Ann := .nil
noncomputable abbrev sg_strconv_Itoa : Sig := ⟨114, [(.int .i64)], [.str], fun x => strconv_Itoa x⟩
noncomputable abbrev sg_strings_Split : Sig := ⟨117, [.str, .str], [(.slice .str)], fun x => strings_Split x.1 x.2⟩
noncomputable abbrev sg_strconv_Atoi : Sig := ⟨170, [.str], [(.int .i64), .err], fun x => strconv_Atoi x⟩
noncomputable abbrev sg_campaign_rules_campaigns : Sig := ⟨84, [Tcampaign_rules, (.slice (.int .i64))], [(.seq (.slice (.int .i64)))], fun x => campaign_rules_campaigns x.1 x.2⟩
noncomputable abbrev sg_slices_Clone_string : Sig := ⟨187, [(.slice .str)], [(.slice .str)], fun x => slices_Clone_string x⟩
noncomputable abbrev sg_slices_Values_int : Sig := ⟨91, [(.slice (.int .i64))], [(.seq (.int .i64))], fun x => slices_Values_int x⟩
noncomputable abbrev sg_slices_Sorted_int : Sig := ⟨90, [(.seq (.int .i64))], [(.slice (.int .i64))], fun x => slices_Sorted_int x⟩
noncomputable abbrev sg_campaign_Cheapest : Sig := ⟨24, [Tapi_CampaignRules, (.slice Tapi_CampaignItem)], [(.slice (.int .i64)), (.int .i64), (.int .i64)], fun x => campaign_Cheapest x.1 x.2⟩
noncomputable abbrev sg_campaign_ParseOrder : Sig := ⟨56, [.str], [Tapi_CampaignOrder, (.int .i64), (.int .i64)], fun x => campaign_ParseOrder x⟩
noncomputable abbrev sg_campaign_first : Sig := ⟨80, [(.slice (.int .i64))], [(.int .i64)], fun x => campaign_first x⟩
noncomputable abbrev sg_campaign_unless : Sig := ⟨81, [.bool, (.int .i64)], [(.int .i64)], fun x => campaign_unless x.1 x.2⟩
noncomputable abbrev sg_campaign_within : Sig := ⟨89, [(.int .i64), (.int .i64), (.int .i64)], [.bool], fun x => campaign_within x.1 x.2.1 x.2.2⟩
noncomputable abbrev sg_campaign_isName : Sig := ⟨99, [.str], [.bool], fun x => campaign_isName x⟩
noncomputable abbrev sg_campaign_isGrade : Sig := ⟨122, [(.int .i64)], [.bool], fun x => campaign_isGrade x⟩
noncomputable abbrev sg_campaign_isThickness : Sig := ⟨123, [(.int .i64)], [.bool], fun x => campaign_isThickness x⟩
noncomputable abbrev sg_campaign_isWidth : Sig := ⟨124, [(.int .i64)], [.bool], fun x => campaign_isWidth x⟩
noncomputable abbrev sg_campaign_isHeat : Sig := ⟨125, [(.int .i64)], [.bool], fun x => campaign_isHeat x⟩
noncomputable abbrev sg_campaign_CheckOrder : Sig := ⟨58, [Tapi_CampaignOrder], [(.int .i64)], fun x => campaign_CheckOrder x⟩
noncomputable abbrev sg_campaign_CheckSlab : Sig := ⟨63, [Tapi_CampaignSlab], [(.int .i64)], fun x => campaign_CheckSlab x⟩
noncomputable abbrev sg_campaign_suits : Sig := ⟨82, [Tapi_CampaignSlab, Tapi_CampaignOrder], [.bool], fun x => campaign_suits x.1 x.2⟩
noncomputable abbrev sg_campaign_CoilLength : Sig := ⟨19, [Tapi_CampaignSlab, Tapi_CampaignOrder], [Tapi_Range, (.int .i64)], fun x => campaign_CoilLength x.1 x.2⟩
noncomputable abbrev sg_slices_IndexFunc_int : Sig := ⟨144, [(.slice (.int .i64)), (.fn (.int .i64) .bool)], [(.int .i64)], fun x => slices_IndexFunc_int x.1 x.2⟩
noncomputable abbrev sg_slices_ContainsFunc_int : Sig := ⟨87, [(.slice (.int .i64)), (.fn (.int .i64) .bool)], [.bool], fun x => slices_ContainsFunc_int x.1 x.2⟩
noncomputable abbrev sg_campaign_CheckRules_1_1 : Sig := ⟨110, [(.int .i64), (.ptr (.int .i64))], [.bool], fun x => campaign_CheckRules_1_1 x.1 x.2⟩
noncomputable abbrev sg_campaign_CheckRules_1 : Sig := ⟨109, [(.int .i64), (.slice (.int .i64))], [.bool], fun x => campaign_CheckRules_1 x.1 x.2⟩
noncomputable abbrev sg_campaign_CheckRules : Sig := ⟨51, [Tapi_CampaignRules], [(.int .i64)], fun x => campaign_CheckRules x⟩
noncomputable abbrev sg_slices_IndexFunc_apiCampaignItem : Sig := ⟨180, [(.slice Tapi_CampaignItem), (.fn Tapi_CampaignItem .bool)], [(.int .i64)], fun x => slices_IndexFunc_apiCampaignItem x.1 x.2⟩
noncomputable abbrev sg_slices_ContainsFunc_apiCampaignItem : Sig := ⟨139, [(.slice Tapi_CampaignItem), (.fn Tapi_CampaignItem .bool)], [.bool], fun x => slices_ContainsFunc_apiCampaignItem x.1 x.2⟩
noncomputable abbrev sg_campaign_open_1 : Sig := ⟨140, [Tapi_CampaignItem], [.bool], fun x => campaign_open_1 x⟩
noncomputable abbrev sg_campaign_open : Sig := ⟨83, [Tapi_CampaignRules, (.slice Tapi_CampaignItem)], [Tcampaign_rules, (.int .i64)], fun x => campaign_open x.1 x.2⟩
noncomputable abbrev sg_campaign_numbers : Sig := ⟨85, [(.int .i64)], [(.slice (.int .i64))], fun x => campaign_numbers x⟩
noncomputable abbrev sg_campaign_size : Sig := ⟨183, [(.int .i64)], [(.int .i64)], fun x => campaign_size x⟩
noncomputable abbrev sg_campaign_rules_violates : Sig := ⟨181, [Tcampaign_rules, (.slice (.int .i64)), (.int .i64)], [(.arr 5 .bool)], fun x => campaign_rules_violates x.1 x.2.1 x.2.2⟩
noncomputable abbrev sg_slices_Index_bool : Sig := ⟨212, [(.slice .bool), .bool], [(.int .i64)], fun x => slices_Index_bool x.1 x.2⟩
noncomputable abbrev sg_slices_Contains_bool : Sig := ⟨182, [(.slice .bool), .bool], [.bool], fun x => slices_Contains_bool x.1 x.2⟩
noncomputable abbrev sg_slices_Index_int : Sig := ⟨177, [(.slice (.int .i64)), (.int .i64)], [(.int .i64)], fun x => slices_Index_int x.1 x.2⟩
noncomputable abbrev sg_slices_Contains_int : Sig := ⟨133, [(.slice (.int .i64)), (.int .i64)], [.bool], fun x => slices_Contains_int x.1 x.2⟩
noncomputable abbrev sg_campaign_rules_cost : Sig := ⟨143, [Tcampaign_rules, (.int .i64), (.int .i64)], [(.int .i64)], fun x => campaign_rules_cost x.1 x.2.1 x.2.2⟩
noncomputable abbrev sg_campaign_rules_costs : Sig := ⟨86, [Tcampaign_rules, (.slice (.int .i64))], [(.int .i64)], fun x => campaign_rules_costs x.1 x.2⟩
noncomputable abbrev sg_campaign_BoundOf_1 : Sig := ⟨88, [(.int .i64)], [.bool], fun x => campaign_BoundOf_1 x⟩
noncomputable abbrev sg_campaign_rules_tree : Sig := ⟨92, [Tcampaign_rules, (.slice (.int .i64))], [(.int .i64)], fun x => campaign_rules_tree x.1 x.2⟩
noncomputable abbrev sg_campaign_BoundOf : Sig := ⟨26, [Tapi_CampaignRules, (.slice Tapi_CampaignItem), (.slice (.int .i64))], [(.int .i64), (.int .i64)], fun x => campaign_BoundOf x.1 x.2.1 x.2.2⟩
noncomputable abbrev sg_b0_Ints : Sig := ⟨32, [(.slice (.int .i64)), (.slice (.int .i64))], [.bool], fun x => b0_Ints x.1 x.2⟩
noncomputable abbrev sg_campaign_CheckYard : Sig := ⟨37, [(.slice (.slice .str))], [(.int .i64), (.int .i64)], fun x => campaign_CheckYard x⟩
noncomputable abbrev sg_campaign_yard_clone : Sig := ⟨148, [(.slice (.slice .str))], [(.slice (.slice .str))], fun x => campaign_yard_clone x⟩
noncomputable abbrev sg_campaign_openYard : Sig := ⟨100, [(.slice (.slice .str))], [(.slice (.slice .str)), (.int .i64)], fun x => campaign_openYard x⟩
noncomputable abbrev sg_slices_IndexFunc_string : Sig := ⟨188, [(.slice (.slice .str)), (.fn (.slice .str) .bool)], [(.int .i64)], fun x => slices_IndexFunc_string x.1 x.2⟩
noncomputable abbrev sg_slices_ContainsFunc_string : Sig := ⟨150, [(.slice (.slice .str)), (.fn (.slice .str) .bool)], [.bool], fun x => slices_ContainsFunc_string x.1 x.2⟩
noncomputable abbrev sg_slices_Index_string : Sig := ⟨189, [(.slice .str), .str], [(.int .i64)], fun x => slices_Index_string x.1 x.2⟩
noncomputable abbrev sg_slices_Contains_string : Sig := ⟨152, [(.slice .str), .str], [.bool], fun x => slices_Contains_string x.1 x.2⟩
noncomputable abbrev sg_campaign_openRequest_1 : Sig := ⟨151, [(.slice .str), (.ptr .str)], [.bool], fun x => campaign_openRequest_1 x.1 x.2⟩
noncomputable abbrev sg_campaign_openRequest : Sig := ⟨103, [(.slice (.slice .str)), (.slice .str)], [(.slice (.slice .str)), (.int .i64)], fun x => campaign_openRequest x.1 x.2⟩
noncomputable abbrev sg_slices_IndexFunc_string_190 : Sig := ⟨190, [(.slice .str), (.fn .str .bool)], [(.int .i64)], fun x => slices_IndexFunc_string_190 x.1 x.2⟩
noncomputable abbrev sg_slices_ContainsFunc_string_153 : Sig := ⟨153, [(.slice .str), (.fn .str .bool)], [.bool], fun x => slices_ContainsFunc_string_153 x.1 x.2⟩
noncomputable abbrev sg_campaign_later : Sig := ⟨155, [(.slice .str), .str, .str], [.bool], fun x => campaign_later x.1 x.2.1 x.2.2⟩
noncomputable abbrev sg_campaign_yard_blocking_1 : Sig := ⟨154, [.str, (.ptr (.slice .str)), (.ptr .str)], [.bool], fun x => campaign_yard_blocking_1 x.1 x.2.1 x.2.2⟩
noncomputable abbrev sg_campaign_yard_blocking : Sig := ⟨104, [(.slice (.slice .str)), (.slice .str)], [(.slice .str)], fun x => campaign_yard_blocking x.1 x.2⟩
noncomputable abbrev sg_campaign_BlockedBy : Sig := ⟨40, [(.slice (.slice .str)), (.slice .str)], [(.slice .str), (.int .i64)], fun x => campaign_BlockedBy x.1 x.2⟩
noncomputable abbrev sg_b0_Texts : Sig := ⟨46, [(.slice .str), (.slice .str)], [.bool], fun x => b0_Texts x.1 x.2⟩
noncomputable abbrev sg_campaign_number : Sig := ⟨127, [.str], [(.int .i64), .bool], fun x => campaign_number x⟩
noncomputable abbrev sg_cobblelaw01_Yard : Sig := ⟨75, [], [(.slice (.slice .str))], fun _ => cobblelaw01_Yard⟩
noncomputable abbrev sg_cobblelaw01_Rules : Sig := ⟨76, [], [Tapi_CampaignRules], fun _ => cobblelaw01_Rules⟩
noncomputable abbrev sg_cobblelaw01_Items : Sig := ⟨77, [], [(.slice Tapi_CampaignItem)], fun _ => cobblelaw01_Items⟩
noncomputable abbrev sg_cobblelaw01_awake : Sig := ⟨15, [], [.bool], fun _ => cobblelaw01_awake⟩
noncomputable abbrev sg_b0_Within : Sig := ⟨20, [(.int .i64), (.int .i64), (.int .i64)], [.bool], fun x => b0_Within x.1 x.2.1 x.2.2⟩
noncomputable abbrev sg_b0_IsName : Sig := ⟨78, [.str], [.bool], fun x => b0_IsName x⟩
noncomputable abbrev sg_cobbleref01_isWidth : Sig := ⟨79, [(.int .i64)], [.bool], fun x => cobbleref01_isWidth x⟩
noncomputable abbrev sg_cobbleref01_SlabErr : Sig := ⟨16, [Tapi_CampaignSlab], [(.int .i64)], fun x => cobbleref01_SlabErr x⟩
noncomputable abbrev sg_cobbleref01_OrderErr : Sig := ⟨17, [Tapi_CampaignOrder], [(.int .i64)], fun x => cobbleref01_OrderErr x⟩
noncomputable abbrev sg_cobbleref01_Suits : Sig := ⟨18, [Tapi_CampaignSlab, Tapi_CampaignOrder], [.bool], fun x => cobbleref01_Suits x.1 x.2⟩
noncomputable abbrev sg_b0_Mod : Sig := ⟨21, [(.int .i64), (.int .i64)], [(.int .i64)], fun x => b0_Mod x.1 x.2⟩
noncomputable abbrev sg_cobblelaw01_CampaignVolume : Sig := ⟨3, [Tapi_CampaignSlab, Tapi_CampaignOrder, (.int .i64)], [.bool], fun x => cobblelaw01_CampaignVolume x.1 x.2.1 x.2.2⟩
end Go.Lift
