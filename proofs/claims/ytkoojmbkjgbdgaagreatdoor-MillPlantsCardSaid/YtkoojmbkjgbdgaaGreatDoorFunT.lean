/-
  The types, notes and signatures of these functions.
-/
import Derived.Test.YtkoojmbkjgbdgaaGreatDoorFunF
import Derived.Test.YtkoojmbkjgbdgaaGreatDoorLiftL
import Derived.Lib.ItoaNum
import Derived.KernelRfl
import Derived.Test.YtkoojmbkjgbdgaaGreatDoorProg
set_option linter.unusedSectionVars false
set_option linter.unusedVariables false
set_option linter.unusedSimpArgs false
namespace Go.Lift
open Go Go.Proofs
instance : Tab := tabsVars [(8, .u64, Lib.pow10Tab)] [(4, false), (6, true), (7, true)]
def tyTab : List (Nat × Ty) := [
  (2, (.int .i64)),
  (3, (.int .i64)),
  (4, .bool),
  (5, (.int .u8)),
  (6, (.int .u8)),
  (7, Truntime_boundsError),
  (8, Truntime_boundsError),
  (9, .str),
  (10, .str),
  (11, .str),
  (12, (.int .u64)),
  (13, Truntime_errorAddressString),
  (14, Truntime_errorAddressString),
  (21, (.int .i32)),
  (22, (.slice Tapi_MillPerson)),
  (23, (.slice .str)),
  (24, Tapi_MillPlant),
  (25, Tapi_MillPlant),
  (27, (.fn Tapi_MillPlant .bool)),
  (28, (.int .i64)),
  (31, (.fn Tapi_MillPlant Tapi_MillPlant)),
  (41, (.slice Tapi_MillEntry)),
  (45, (.fn (.slice Tapi_MillEntry) .bool)),
  (47, (.fn (.slice Tapi_MillEntry) (.slice Tapi_MillEntry))),
  (53, Tapi_MillEntry),
  (54, Tapi_MillEntry),
  (55, (.slice .bool)),
  (56, (.slice (.int .i64))),
  (57, Tapi_MillLine),
  (58, Tapi_MillLine),
  (59, (.slice Tapi_MillOrder)),
  (60, (.slice Tapi_MillSlab)),
  (61, (.slice Tapi_MillCoil)),
  (62, Tapi_ModelCorrection),
  (63, Tapi_ModelCorrection),
  (64, Tapi_MillState),
  (65, Tapi_MillState),
  (72, Tapi_MillPerson),
  (73, Tapi_MillPerson),
  (74, Tapi_ModelCorrection),
  (75, Tapi_ModelCorrection),
  (76, (.slice Tapi_PassStand)),
  (77, Tapi_PassRules),
  (78, Tapi_PassRules),
  (79, (.slice Tapi_ModelCorrection)),
  (80, Tapi_ModelCorrection),
  (81, Tapi_ModelCorrection),
  (82, Tapi_ModelRules),
  (83, Tapi_ModelRules),
  (84, Tmill_works),
  (85, Tmill_works),
  (88, (.fn (.slice .str) (.slice .str))),
  (89, (.fn (.slice Tapi_MillPerson) (.slice Tapi_MillPerson))),
  (90, Tmill_Desk),
  (91, Tmill_Desk),
  (92, (.fn .str .bool)),
  (101, (.fn (.slice Tapi_MillEntry) .str)),
  (105, (.fn (.slice (.int .i64)) (.int .i64))),
  (112, Tmill_line),
  (113, Tmill_line),
  (118, (.fn Tapi_MillPerson (.int .i64))),
  (120, (.fn Tapi_MillPerson .str)),
  (122, (.fn .str .str)),
  (123, (.fn .str (.int .i64))),
  (131, Tapi_PassStand),
  (132, Tapi_PassStand),
  (133, (.fn Tapi_PassRules (.int .i64))),
  (138, Tapi_ModelCorrection),
  (139, Tapi_ModelCorrection),
  (140, (.fn Tapi_ModelRules (.int .i64))),
  (142, (.slice (.int .u8))),
  (145, (.fn Tapi_MillEntry .str)),
  (147, .err),
  (150, (.fn (.int .i64) .str)),
  (151, (.slice (.int .i64))),
  (158, (.fn (.int .i32) .bool)),
  (166, Tmill_command),
  (167, Tmill_command),
  (170, (.fn (.slice .str) .str)),
  (171, (.fn (.fn (.int .i64) .bool) (.slice .str))),
  (172, (.fn (.int .i64) .bool)),
  (174, Tapi_CampaignOrder),
  (175, Tapi_CampaignOrder),
  (176, Tapi_PassSchedule),
  (177, Tapi_PassSchedule),
  (178, Tapi_MillOrder),
  (179, Tapi_MillOrder),
  (180, (.fn Tapi_MillOrder .str)),
  (182, Tapi_CampaignSlab),
  (183, Tapi_CampaignSlab),
  (184, Tapi_MillSlab),
  (185, Tapi_MillSlab),
  (186, (.fn Tapi_MillSlab .str)),
  (188, (.slice Tapi_TraceStep)),
  (189, Tapi_TraceCourse),
  (190, Tapi_TraceCourse),
  (191, (.slice Tapi_TraceReading)),
  (192, Tapi_MillCoil),
  (193, Tapi_MillCoil),
  (194, (.fn Tapi_MillCoil .str)),
  (195, (.fn Tapi_ModelCorrection .str)),
  (223, (.int .u64)),
  (229, (.fn Tmill_command (.int .i64))),
  (237, (.slice (.slice Ttrace_section))),
  (238, Ttrace_course),
  (239, Ttrace_course),
  (242, (.fn (.slice Tapi_TraceReading) (.int .i64))),
  (245, (.slice (.int .u32))),
  (246, (.slice (.int .u32))),
  (247, Ttrace_ratio),
  (248, Ttrace_ratio),
  (249, (.slice Ttrace_section)),
  (250, (.slice Ttrace_section)),
  (253, (.fn Tapi_ModelCorrection .str)),
  (254, Tapi_TraceReading),
  (255, Tapi_TraceReading),
  (256, (.arr 2 (.int .i64))),
  (259, Tapi_ModelCorrection),
  (260, Tapi_ModelCorrection),
  (261, (.fn Tapi_ModelCorrection .bool)),
  (262, (.fn (.slice Tapi_ModelCorrection) .bool)),
  (264, (.arr 2 Tapi_ModelCorrection)),
  (265, (.fn Tapi_ModelCorrection .bool)),
  (270, (.int .u32)),
  (273, (.int .u64)),
  (278, (.int .i64)),
  (297, (.fn .str (.int .i64))),
  (298, (.fn (.int .i64) (.int .i64))),
  (303, (.fn (.slice Tapi_TraceReading) (.slice Tapi_TraceReading))),
  (304, (.slice Tapi_ModelCorrection)),
  (305, Tapi_ModelCoil),
  (306, Tapi_ModelCoil),
  (314, (.fn Tapi_TraceReading (.int .i64))),
  (317, (.arr 2 Ttrace_ratio)),
  (318, Ttrace_section),
  (319, Ttrace_section),
  (321, (.fn Ttrace_ratio Ttrace_ratio)),
  (322, (.fn (.int .i64) Ttrace_ratio)),
  (323, (.slice Tapi_ModelCorrection)),
  (325, (.fn (.int .i64) (.int .i64))),
  (326, (.arr 24 (.int .u8))),
  (327, (.fn (.int .u64) (.int .i64))),
  (335, Tstrconv_NumError),
  (336, Tstrconv_NumError),
  (337, (.fn .str .err)),
  (339, Tcampaign_reader),
  (340, Tcampaign_reader),
  (344, Tapi_ModelCorrection),
  (345, Tapi_ModelCorrection),
  (346, (.fn Tapi_CampaignOrder (.int .i64))),
  (350, (.fn Tapi_CampaignSlab (.int .i64))),
  (353, Tpass_mill),
  (354, Tpass_mill),
  (355, (.slice Tpass_draught)),
  (358, Tpass_draught),
  (359, Tpass_draught),
  (360, Tpass_margin),
  (361, Tpass_margin),
  (362, (.arr 4 Tpass_margin)),
  (363, (.fn Tpass_draught (.arr 4 Tpass_margin))),
  (365, (.seq .str)),
  (366, (.seq .str)),
  (369, Tapi_TraceStep),
  (370, Tapi_TraceStep),
  (374, Tapi_ModelCorrection),
  (375, Tapi_ModelCorrection),
  (377, (.slice Tapi_ModelCorrection)),
  (378, Tmodel_rules),
  (379, Tmodel_rules),
  (387, (.fn (.int .u64) (.slice (.int .u32)))),
  (388, (.fn (.slice (.int .u32)) (.int .i64))),
  (389, (.fn (.int .i64) (.int .u64))),
  (393, (.fn .bool (.int .i64))),
  (394, (.arr 20 (.int .u64))),
  (395, (.arr 65 (.int .u8))),
  (396, (.fn (.int .u64) (.int .i64))),
  (397, (.fn (.int .u8) (.int .u8))),
  (399, Terrors_errorString),
  (400, Terrors_errorString),
  (414, (.fn Tapi_PassRules Tpass_mill)),
  (415, (.fn Tpass_draught Tapi_ModelCorrection)),
  (419, (.fn Tapi_ModelCorrection (.int .i64))),
  (420, (.arr 3 (.int .i64))),
  (423, (.fn Tapi_ModelCorrection (.int .i64))),
  (424, (.fn (.int .i64) (.slice (.int .u8)))),
  (425, (.fn (.slice (.int .i64)) (.slice Ttrace_section))),
  (427, (.fn (.slice (.int .u32)) (.slice (.int .u32)))),
  (428, (.fn Ttrace_ratio (.int .i64))),
  (430, (.fn (.int .u32) (.int .i64))),
  (431, (.arr 256 (.int .u8))),
  (432, Tutf8_acceptRange),
  (433, Tutf8_acceptRange),
  (434, (.arr 16 Tutf8_acceptRange)),
  (435, (.mapT .str (.int .i64))),
  (447, (.arr 32 (.int .u8))),
  (448, (.arr 64 (.int .u8))),
  (451, (.fn (.int .i64) (.slice (.int .u32)))),
  (453, (.fn Tapi_ModelCorrection .bool)),
  (459, (.int .u8)),
  (460, (.int .u8)),
  (462, (.int .i32)),
  (463, (.int .i32)),
  (466, (.fn Tpass_draught (.int .i64))),
  (468, Tapi_Span),
  (469, Tapi_Span)]
def nfTab : List (Nat × Nat) := [(7, 4), (8, 4), (13, 2), (14, 2), (24, 4), (25, 4), (53, 3), (54, 3), (57, 8), (58, 8), (62, 2), (63, 2), (64, 5), (65, 5), (72, 2), (73, 2), (74, 2), (75, 2), (77, 8), (78, 8), (80, 2), (81, 2), (82, 4), (83, 4), (84, 3), (85, 3), (90, 2), (91, 2), (112, 2), (113, 2), (131, 4), (132, 4), (138, 2), (139, 2), (166, 3), (167, 3), (174, 7), (175, 7), (176, 2), (177, 2), (178, 3), (179, 3), (182, 5), (183, 5), (184, 3), (185, 3), (189, 4), (190, 4), (192, 6), (193, 6), (238, 2), (239, 2), (247, 3), (248, 3), (254, 3), (255, 3), (259, 2), (260, 2), (305, 2), (306, 2), (318, 4), (319, 4), (335, 3), (336, 3), (339, 2), (340, 2), (344, 2), (345, 2), (353, 2), (354, 2), (358, 3), (359, 3), (360, 2), (361, 2), (369, 4), (370, 4), (374, 2), (375, 2), (378, 2), (379, 2), (399, 1), (400, 1), (432, 2), (433, 2), (468, 2), (469, 2)]
def eqTab : List Nat := [9, 54]
theorem tys_ok : tysOk Tryz.prog tyTab = true := by kernel_rfl
theorem nfs_ok : nfsOk Tryz.prog tyTab nfTab = true := by kernel_rfl
theorem eqs_ok : eqsOk Tryz.prog tyTab eqTab = true := by kernel_rfl
theorem prog_mixed : Tryz.prog.follows .mixedOrders = true := by kernel_rfl
abbrev cx (own : List Nat) (l : List Sig) : Ctx := cxOf tyTab nfTab eqTab own l
def an_mill_first : Ann := (.seq .nil (.seq (.seq .nil (.blk (.loopBD ⟨[⟨false, 7, 0, (.int .i64), [], false⟩], []⟩ ⟨[], []⟩ 0 .nil))) .nil))
def an_mill_unless : Ann := .nil
def an_mill_within : Ann := .nil
def an_mill_open_1 : Ann := .nil
def an_mill_isName : Ann := (.seq .nil (.seq (.seq .nil (.blk (.loopBD ⟨[⟨false, 9, 0, (.int .i64), [], false⟩], []⟩ ⟨[], []⟩ 0 .nil))) .nil))
def an_slices_Index_string : Ann := (.seq .nil (.seq (.seq .nil (.blk (.loopBD ⟨[⟨false, 8, 0, (.int .i64), [], false⟩], []⟩ ⟨[], []⟩ 0 .nil))) .nil))
def an_slices_Contains_string : Ann := .nil
def an_mill_named_apiMillPerson : Ann := (.seq .nil (.seq .nil (.seq (.seq .nil (.blk (.loopBD ⟨[⟨false, 8, 0, (.slice .str), [([], some 101000800)], false⟩, ⟨false, 15, 0, (.int .i64), [], false⟩], []⟩ ⟨[], []⟩ 0 .nil))) .nil)))
def an_mill_open_2 : Ann := .nil
def an_mill_named_string : Ann := (.seq .nil (.seq .nil (.seq (.seq .nil (.blk (.loopBD ⟨[⟨false, 8, 0, (.slice .str), [([], some 101000800)], false⟩, ⟨false, 15, 0, (.int .i64), [], false⟩], []⟩ ⟨[], []⟩ 0 .nil))) .nil)))
def an_mill_open_3 : Ann := .nil
def an_mill_open_4 : Ann := .nil
def an_pass_numbers : Ann := (.seq .nil (.seq .nil (.seq (.seq .nil (.blk (.loopBD ⟨[⟨false, 4, 0, (.slice (.int .i64)), [([], some 101000400)], false⟩, ⟨false, 11, 0, (.int .i64), [], false⟩], []⟩ ⟨[⟨false, 4, 0, (.slice (.int .i64)), [([], some 201000400)], false⟩], []⟩ 0 .nil))) .nil)))
def an_pass_within : Ann := .nil
def an_pass_isThickness : Ann := .nil
def an_pass_bounds_holds : Ann := .nil
def an_pass_first : Ann := (.seq .nil (.seq (.seq .nil (.blk (.loopBD ⟨[⟨false, 7, 0, (.int .i64), [], false⟩], []⟩ ⟨[], []⟩ 0 .nil))) .nil))
def an_pass_unless : Ann := .nil
def an_slices_IndexFunc_apiRange : Ann := (.seq .nil (.seq (.seq .nil (.blk (.loopBD ⟨[⟨false, 8, 0, (.int .i64), [], false⟩], []⟩ ⟨[], []⟩ 0 .nil))) .nil))
def an_slices_ContainsFunc_apiRange : Ann := .nil
def an_pass_ordered_1 : Ann := .nil
def an_pass_ordered : Ann := .nil
def an_pass_CheckRules : Ann := (.seq .nil (.seq .nil (.seq .nil (.seq .nil (.seq (.seq .nil (.blk (.loopBD ⟨[⟨false, 86, 0, (.int .i64), [], false⟩], [1, 78]⟩ ⟨[], [1, 78]⟩ 0 .nil))) .nil)))))
def an_model_number : Ann := .nil
def an_model_pair : Ann := .nil
def an_model_within : Ann := .nil
def an_model_first : Ann := (.seq .nil (.seq (.seq .nil (.blk (.loopBD ⟨[⟨false, 7, 0, (.int .i64), [], false⟩], []⟩ ⟨[], []⟩ 0 .nil))) .nil))
def an_model_unless : Ann := .nil
def an_model_isX : Ann := .nil
def an_model_CheckTable : Ann := (.seq .nil (.seq .nil (.seq (.seq .nil (.blk (.loopBD ⟨[⟨false, 23, 0, (.int .i64), [], false⟩], [16]⟩ ⟨[], [16]⟩ 0 .nil))) .nil)))
def an_model_CheckRules_1 : Ann := .nil
def an_model_divisor : Ann := (.seq .nil (.seq (.blk (.loopB ⟨[⟨false, 0, 0, (.int .i64), [], false⟩, ⟨false, 1, 0, (.int .i64), [], false⟩], []⟩ ⟨[⟨false, 0, 0, (.int .i64), [], false⟩], []⟩ 0 .nil)) .nil))
def an_model_isLowest : Ann := .nil
def an_model_CheckRules : Ann := (.seq .nil (.seq .nil (.seq .nil (.seq .nil (.seq (.seq .nil (.blk (.loopB ⟨[⟨false, 7, 0, .bool, [], false⟩, ⟨false, 28, 0, (.int .i64), [], false⟩], [1]⟩ ⟨[⟨false, 7, 0, .bool, [], false⟩], [1]⟩ 0 .nil))) .nil)))))
def an_mill_open : Ann := .nil
def an_mill_CheckPlant : Ann := .nil
def an_b0_IsName : Ann := (.seq .nil (.seq .nil (.seq (.seq .nil (.blk (.loopBD ⟨[⟨false, 3, 0, (.int .i64), [], false⟩], []⟩ ⟨[], []⟩ 0 .nil))) .nil)))
def an_b0_Within : Ann := .nil
def an_cobbleref10_index : Ann := (.seq .nil (.seq (.seq .nil (.blk (.loopBD ⟨[⟨false, 5, 0, (.int .i64), [], false⟩], []⟩ ⟨[], []⟩ 0 .nil))) .nil))
def an_b0_Cut : Ann := (.seq .nil (.seq .nil (.seq .nil (.seq (.seq .nil (.blk (.loopB ⟨[⟨false, 5, 0, (.slice .str), [([], some 201000500)], false⟩, ⟨false, 6, 0, (.int .i64), [], false⟩, ⟨false, 7, 0, (.int .i64), [], false⟩], []⟩ ⟨[⟨false, 5, 0, (.slice .str), [([], some 401000500)], false⟩, ⟨false, 6, 0, (.int .i64), [], false⟩], []⟩ 0 (.seq .nil (.seq (.blk (.seq .nil (.join ⟨[⟨false, 5, 0, (.slice .str), [([], some 501000500)], false⟩, ⟨false, 6, 0, (.int .i64), [], false⟩], []⟩ .nil .nil))) .nil))))) .nil))))
def an_b0_Number : Ann := (.seq .nil (.seq .nil (.seq (.seq .nil (.join ⟨[⟨false, 6, 0, (.int .i64), [], false⟩], []⟩ .nil .nil)) (.seq .nil (.seq .nil (.seq (.seq .nil (.blk (.loopBD ⟨[⟨false, 7, 0, (.int .i64), [], false⟩, ⟨false, 8, 0, (.int .i64), [], false⟩], []⟩ ⟨[⟨false, 7, 0, (.int .i64), [], false⟩], []⟩ 0 .nil))) (.seq (.seq .nil (.join ⟨[⟨false, 7, 0, (.int .i64), [], false⟩], []⟩ .nil .nil)) .nil)))))))
def an_cobbleref03_parsed : Ann := (.seq .nil (.seq .nil (.seq (.seq .nil (.blk (.loopBD ⟨[⟨false, 4, 0, (.slice (.int .i64)), [([], some 101000400)], false⟩, ⟨false, 5, 0, (.int .i64), [], false⟩], []⟩ ⟨[⟨false, 4, 0, (.slice (.int .i64)), [([], some 201000400)], false⟩], []⟩ 0 .nil))) .nil)))
def an_cobbleref03_isThickness : Ann := .nil
def an_cobbleref03_isHeat : Ann := .nil
def an_cobbleref03_CheckRules : Ann := (.seq .nil (.seq .nil (.seq .nil (.seq .nil (.seq .nil (.seq (.seq .nil (.blk (.loopBD ⟨[⟨false, 4, 0, (.int .i64), [], false⟩], [1]⟩ ⟨[], [1]⟩ 0 .nil))) .nil))))))
def an_cobbleref03_RulesErr : Ann := .nil
def an_cobbleref03_ParseRules : Ann := (.seq .nil (.seq .nil (.seq .nil (.seq .nil (.seq .nil (.seq (.seq .nil (.blk (.loopBD ⟨[⟨false, 8, 0, (.int .i64), [], false⟩, ⟨false, 9, 0, (.int .i64), [], false⟩, ⟨true, 7, 78, Tapi_PassRules, [([.snd, .snd, .snd, .snd, .snd, .fst], some 250000700)], false⟩], [2, 4]⟩ ⟨[⟨true, 7, 78, Tapi_PassRules, [([.snd, .snd, .snd, .snd, .snd, .fst], some 450000700)], false⟩], [2, 4]⟩ 0 (.seq .nil (.seq (.blk (.seq .nil (.seq .nil (.seq .nil (.seq (.seq .nil (.join ⟨[⟨true, 7, 78, Tapi_PassRules, [([.snd, .snd, .snd, .snd, .snd, .fst], some 550000700)], false⟩], [2, 4]⟩ .nil .nil)) .nil))))) .nil))))) .nil))))))
def an_cobbleref04_parsedNumber : Ann := .nil
def an_cobbleref04_parsedPair : Ann := .nil
def an_cobbleref04_XErr : Ann := .nil
def an_cobbleref04_CheckTable : Ann := (.seq .nil (.seq .nil (.seq .nil (.seq (.seq .nil (.blk (.loopBD ⟨[⟨false, 4, 0, (.int .i64), [], false⟩], []⟩ ⟨[], []⟩ 0 .nil))) .nil))))
def an_b0_Size : Ann := .nil
def an_b0_Gcd : Ann := (.seq .nil (.seq (.blk (.loopB ⟨[⟨false, 0, 0, (.int .i64), [], false⟩, ⟨false, 1, 0, (.int .i64), [], false⟩], []⟩ ⟨[⟨false, 0, 0, (.int .i64), [], false⟩], []⟩ 0 .nil)) .nil))
def an_b0_IsLowest : Ann := .nil
def an_cobbleref04_isGain : Ann := .nil
def an_cobbleref04_CheckRules : Ann := .nil
def an_cobbleref04_RulesErr : Ann := .nil
def an_cobbleref04_ParseRules : Ann := (.seq .nil (.seq .nil (.seq .nil (.seq .nil (.seq .nil (.seq .nil (.seq .nil (.seq .nil (.seq .nil (.seq (.seq .nil (.blk (.loopBD ⟨[⟨false, 16, 0, (.int .i64), [], false⟩, ⟨true, 15, 83, Tapi_ModelRules, [([.fst], some 150001500)], false⟩], [2, 4]⟩ ⟨[⟨true, 15, 83, Tapi_ModelRules, [([.fst], some 250001500)], false⟩], [2, 4]⟩ 0 .nil))) .nil))))))))))
def an_cobbleref10_CheckPlant : Ann := (.seq .nil (.seq .nil (.seq .nil (.seq (.seq .nil (.blk (.loopBD ⟨[⟨false, 4, 0, (.int .i64), [], false⟩], [1]⟩ ⟨[], [1]⟩ 0 (.seq .nil (.seq (.blk (.seq .nil (.seq (.seq .nil (.blk (.loopBD ⟨[⟨false, 5, 0, (.int .i64), [], false⟩], [1]⟩ ⟨[], [1]⟩ 2 .nil))) .nil))) .nil))))) (.seq .nil (.seq .nil (.seq (.seq .nil (.blk (.loopBD ⟨[⟨false, 6, 0, (.int .i64), [], false⟩], [1]⟩ ⟨[], [1]⟩ 4 .nil))) .nil)))))))
def an_b0_CopyTexts : Ann := .nil
def an_cobbleref10_CopyPlant : Ann := .nil
def an_cobblelaw10_Few : Ann := (.seq .nil (.seq .nil (.seq (.seq .nil (.blk (.loopBD ⟨[⟨false, 3, 0, (.int .i64), [], false⟩], [1]⟩ ⟨[], [1]⟩ 0 .nil))) (.seq (.seq .nil (.blk (.loopBD ⟨[⟨false, 4, 0, (.int .i64), [], false⟩], [1]⟩ ⟨[], [1]⟩ 2 .nil))) .nil))))
def an_cobblelaw10_Passes : Ann := .nil
def an_cobblelaw10_Model : Ann := .nil
def an_cobblelaw10_Plant : Ann := .nil
def an_mill_sum : Ann := (.seq .nil (.seq (.seq .nil (.blk (.loopB ⟨[⟨false, 1, 0, (.int .i64), [], false⟩, ⟨false, 10, 0, (.int .i64), [], false⟩], []⟩ ⟨[⟨false, 1, 0, (.int .i64), [], false⟩], []⟩ 0 .nil))) .nil))
def an_mill_SumOf : Ann := .nil
def an_mill_list : Ann := .nil
noncomputable abbrev sg_strings_Join : Sig := ⟨144, [(.slice .str), .str], [.str], fun x => strings_Join x.1 x.2⟩
noncomputable abbrev sg_strconv_Itoa : Sig := ⟨69, [(.int .i64)], [.str], fun x => strconv_Itoa x⟩
noncomputable abbrev sg_strings_Split : Sig := ⟨101, [.str, .str], [(.slice .str)], fun x => strings_Split x.1 x.2⟩
noncomputable abbrev sg_strings_Cut : Sig := ⟨80, [.str, .str], [.str, .str, .bool], fun x => strings_Cut x.1 x.2⟩
noncomputable abbrev sg_strconv_Atoi : Sig := ⟨75, [.str], [(.int .i64), .err], fun x => strconv_Atoi x⟩
noncomputable abbrev sg_pass_ParseRules : Sig := ⟨59, [.str], [Tapi_PassRules, (.int .i64)], fun x => pass_ParseRules x⟩
noncomputable abbrev sg_model_ParseRules : Sig := ⟨60, [.str], [Tapi_ModelRules, (.int .i64)], fun x => model_ParseRules x⟩
noncomputable abbrev sg_mill_first : Sig := ⟨41, [(.slice (.int .i64))], [(.int .i64)], fun x => mill_first x⟩
noncomputable abbrev sg_mill_unless : Sig := ⟨42, [.bool, (.int .i64)], [(.int .i64)], fun x => mill_unless x.1 x.2⟩
noncomputable abbrev sg_mill_within : Sig := ⟨49, [(.int .i64), (.int .i64), (.int .i64)], [.bool], fun x => mill_within x.1 x.2.1 x.2.2⟩
noncomputable abbrev sg_mill_open_1 : Sig := ⟨53, [Tapi_MillPerson], [(.int .i64)], fun x => mill_open_1 x⟩
noncomputable abbrev sg_mill_isName : Sig := ⟨99, [.str], [.bool], fun x => mill_isName x⟩
noncomputable abbrev sg_slices_Index_string : Sig := ⟨157, [(.slice .str), .str], [(.int .i64)], fun x => slices_Index_string x.1 x.2⟩
noncomputable abbrev sg_slices_Contains_string : Sig := ⟨100, [(.slice .str), .str], [.bool], fun x => slices_Contains_string x.1 x.2⟩
noncomputable abbrev sg_mill_named_apiMillPerson : Sig := ⟨54, [(.slice Tapi_MillPerson), (.fn Tapi_MillPerson .str), (.fn Tapi_MillPerson (.int .i64))], [(.int .i64), (.int .i64)], fun x => mill_named_apiMillPerson x.1 x.2.1 x.2.2⟩
noncomputable abbrev sg_mill_open_2 : Sig := ⟨55, [Tapi_MillPerson], [.str], fun x => mill_open_2 x⟩
noncomputable abbrev sg_mill_named_string : Sig := ⟨56, [(.slice .str), (.fn .str .str), (.fn .str (.int .i64))], [(.int .i64), (.int .i64)], fun x => mill_named_string x.1 x.2.1 x.2.2⟩
noncomputable abbrev sg_mill_open_3 : Sig := ⟨57, [.str], [.str], fun x => mill_open_3 x⟩
noncomputable abbrev sg_mill_open_4 : Sig := ⟨58, [.str], [(.int .i64)], fun x => mill_open_4 x⟩
noncomputable abbrev sg_pass_numbers : Sig := ⟨158, [(.slice .str)], [(.slice (.int .i64)), .bool], fun x => pass_numbers x⟩
noncomputable abbrev sg_pass_within : Sig := ⟨159, [(.int .i64), (.int .i64), (.int .i64)], [.bool], fun x => pass_within x.1 x.2.1 x.2.2⟩
noncomputable abbrev sg_pass_isThickness : Sig := ⟨160, [(.int .i64)], [.bool], fun x => pass_isThickness x⟩
noncomputable abbrev sg_pass_bounds_holds : Sig := ⟨161, [Tapi_ModelCorrection, Tapi_ModelCorrection], [.bool], fun x => pass_bounds_holds x.1 x.2⟩
noncomputable abbrev sg_pass_first : Sig := ⟨162, [(.slice (.int .i64))], [(.int .i64)], fun x => pass_first x⟩
noncomputable abbrev sg_pass_unless : Sig := ⟨163, [.bool, (.int .i64)], [(.int .i64)], fun x => pass_unless x.1 x.2⟩
noncomputable abbrev sg_slices_IndexFunc_apiRange : Sig := ⟨277, [(.slice Tapi_ModelCorrection), (.fn Tapi_ModelCorrection .bool)], [(.int .i64)], fun x => slices_IndexFunc_apiRange x.1 x.2⟩
noncomputable abbrev sg_slices_ContainsFunc_apiRange : Sig := ⟨218, [(.slice Tapi_ModelCorrection), (.fn Tapi_ModelCorrection .bool)], [.bool], fun x => slices_ContainsFunc_apiRange x.1 x.2⟩
noncomputable abbrev sg_pass_ordered_1 : Sig := ⟨219, [Tapi_ModelCorrection], [.bool], fun x => pass_ordered_1 x⟩
noncomputable abbrev sg_pass_ordered : Sig := ⟨164, [(.slice Tapi_ModelCorrection)], [.bool], fun x => pass_ordered x⟩
noncomputable abbrev sg_pass_CheckRules : Sig := ⟨105, [Tapi_PassRules], [(.int .i64), (.int .i64)], fun x => pass_CheckRules x⟩
noncomputable abbrev sg_model_number : Sig := ⟨107, [.str], [(.int .i64), .bool], fun x => model_number x⟩
noncomputable abbrev sg_model_pair : Sig := ⟨106, [.str, .str], [(.int .i64), (.int .i64), .bool], fun x => model_pair x.1 x.2⟩
noncomputable abbrev sg_model_within : Sig := ⟨167, [(.int .i64), (.int .i64), (.int .i64)], [.bool], fun x => model_within x.1 x.2.1 x.2.2⟩
noncomputable abbrev sg_model_first : Sig := ⟨168, [(.slice (.int .i64))], [(.int .i64)], fun x => model_first x⟩
noncomputable abbrev sg_model_unless : Sig := ⟨169, [.bool, (.int .i64)], [(.int .i64)], fun x => model_unless x.1 x.2⟩
noncomputable abbrev sg_model_isX : Sig := ⟨220, [(.int .i64)], [.bool], fun x => model_isX x⟩
noncomputable abbrev sg_model_CheckTable : Sig := ⟨165, [(.slice Tapi_ModelCorrection)], [(.int .i64), (.int .i64)], fun x => model_CheckTable x⟩
noncomputable abbrev sg_model_CheckRules_1 : Sig := ⟨166, [(.int .i64)], [.bool], fun x => model_CheckRules_1 x⟩
noncomputable abbrev sg_model_divisor : Sig := ⟨221, [(.int .i64), (.int .i64)], [(.int .i64)], fun x => model_divisor x.1 x.2⟩
noncomputable abbrev sg_model_isLowest : Sig := ⟨170, [Tapi_ModelCorrection], [.bool], fun x => model_isLowest x⟩
noncomputable abbrev sg_model_CheckRules : Sig := ⟨108, [Tapi_ModelRules], [(.int .i64), (.int .i64)], fun x => model_CheckRules x⟩
noncomputable abbrev sg_mill_open : Sig := ⟨28, [Tapi_MillPlant], [Tmill_works, (.int .i64), (.int .i64)], fun x => mill_open x⟩
noncomputable abbrev sg_mill_CheckPlant : Sig := ⟨8, [Tapi_MillPlant], [(.int .i64), (.int .i64)], fun x => mill_CheckPlant x⟩
noncomputable abbrev sg_b0_IsName : Sig := ⟨32, [.str], [.bool], fun x => b0_IsName x⟩
noncomputable abbrev sg_b0_Within : Sig := ⟨33, [(.int .i64), (.int .i64), (.int .i64)], [.bool], fun x => b0_Within x.1 x.2.1 x.2.2⟩
noncomputable abbrev sg_cobbleref10_index : Sig := ⟨34, [(.slice .str), .str], [(.int .i64)], fun x => cobbleref10_index x.1 x.2⟩
noncomputable abbrev sg_b0_Cut : Sig := ⟨61, [.str, (.int .u8)], [(.slice .str)], fun x => b0_Cut x.1 x.2⟩
noncomputable abbrev sg_b0_Number : Sig := ⟨109, [.str, (.int .i64)], [(.int .i64), .bool], fun x => b0_Number x.1 x.2⟩
noncomputable abbrev sg_cobbleref03_parsed : Sig := ⟨62, [(.slice .str)], [(.slice (.int .i64)), .bool], fun x => cobbleref03_parsed x⟩
noncomputable abbrev sg_cobbleref03_isThickness : Sig := ⟨171, [(.int .i64)], [.bool], fun x => cobbleref03_isThickness x⟩
noncomputable abbrev sg_cobbleref03_isHeat : Sig := ⟨172, [(.int .i64)], [.bool], fun x => cobbleref03_isHeat x⟩
noncomputable abbrev sg_cobbleref03_CheckRules : Sig := ⟨110, [Tapi_PassRules], [(.int .i64), (.int .i64)], fun x => cobbleref03_CheckRules x⟩
noncomputable abbrev sg_cobbleref03_RulesErr : Sig := ⟨63, [Tapi_PassRules], [(.int .i64)], fun x => cobbleref03_RulesErr x⟩
noncomputable abbrev sg_cobbleref03_ParseRules : Sig := ⟨35, [.str], [Tapi_PassRules, (.int .i64)], fun x => cobbleref03_ParseRules x⟩
noncomputable abbrev sg_cobbleref04_parsedNumber : Sig := ⟨65, [.str], [(.int .i64), .bool], fun x => cobbleref04_parsedNumber x⟩
noncomputable abbrev sg_cobbleref04_parsedPair : Sig := ⟨64, [.str, (.int .u8)], [(.int .i64), (.int .i64), .bool], fun x => cobbleref04_parsedPair x.1 x.2⟩
noncomputable abbrev sg_cobbleref04_XErr : Sig := ⟨222, [(.int .i64)], [(.int .i64)], fun x => cobbleref04_XErr x⟩
noncomputable abbrev sg_cobbleref04_CheckTable : Sig := ⟨173, [(.slice Tapi_ModelCorrection)], [(.int .i64), (.int .i64)], fun x => cobbleref04_CheckTable x⟩
noncomputable abbrev sg_b0_Size : Sig := ⟨278, [(.int .i64)], [(.int .i64)], fun x => b0_Size x⟩
noncomputable abbrev sg_b0_Gcd : Sig := ⟨223, [(.int .i64), (.int .i64)], [(.int .i64)], fun x => b0_Gcd x.1 x.2⟩
noncomputable abbrev sg_b0_IsLowest : Sig := ⟨174, [Tapi_ModelCorrection], [.bool], fun x => b0_IsLowest x⟩
noncomputable abbrev sg_cobbleref04_isGain : Sig := ⟨175, [Tapi_ModelCorrection], [.bool], fun x => cobbleref04_isGain x⟩
noncomputable abbrev sg_cobbleref04_CheckRules : Sig := ⟨111, [Tapi_ModelRules], [(.int .i64), (.int .i64)], fun x => cobbleref04_CheckRules x⟩
noncomputable abbrev sg_cobbleref04_RulesErr : Sig := ⟨66, [Tapi_ModelRules], [(.int .i64)], fun x => cobbleref04_RulesErr x⟩
noncomputable abbrev sg_cobbleref04_ParseRules : Sig := ⟨36, [.str], [Tapi_ModelRules, (.int .i64)], fun x => cobbleref04_ParseRules x⟩
noncomputable abbrev sg_cobbleref10_CheckPlant : Sig := ⟨11, [Tapi_MillPlant], [(.int .i64), (.int .i64)], fun x => cobbleref10_CheckPlant x⟩
noncomputable abbrev sg_b0_CopyTexts : Sig := ⟨29, [(.slice .str)], [(.slice .str)], fun x => b0_CopyTexts x⟩
noncomputable abbrev sg_cobbleref10_CopyPlant : Sig := ⟨9, [Tapi_MillPlant], [Tapi_MillPlant], fun x => cobbleref10_CopyPlant x⟩
noncomputable abbrev sg_cobblelaw10_Few : Sig := ⟨7, [Tapi_MillPlant], [.bool], fun x => cobblelaw10_Few x⟩
noncomputable abbrev sg_cobblelaw10_Passes : Sig := ⟨47, [], [.str], fun _ => cobblelaw10_Passes⟩
noncomputable abbrev sg_cobblelaw10_Model : Sig := ⟨48, [], [.str], fun _ => cobblelaw10_Model⟩
noncomputable abbrev sg_cobblelaw10_Plant : Sig := ⟨24, [], [Tapi_MillPlant], fun _ => cobblelaw10_Plant⟩
noncomputable abbrev sg_mill_sum : Sig := ⟨50, [.str, (.int .i64)], [(.int .i64)], fun x => mill_sum x.1 x.2⟩
noncomputable abbrev sg_mill_SumOf : Sig := ⟨25, [.str, (.int .i64)], [(.int .i64), (.int .i64)], fun x => mill_SumOf x.1 x.2⟩
noncomputable abbrev sg_mill_list : Sig := ⟨83, [(.slice .str)], [.str], fun x => mill_list x⟩
end Go.Lift
