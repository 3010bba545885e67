/-
  The types, notes and signatures of these functions.
-/
import Derived.Test.YtfihcmhknhbndaaGreatDoorFunF
import Derived.Test.YtfihcmhknhbndaaGreatDoorFunG
import Derived.Test.YtfihcmhknhbndaaGreatDoorLiftL
import Derived.Lib.ItoaNum
import Derived.KernelRfl
import Derived.Test.YtfihcmhknhbndaaGreatDoorProg
set_option linter.unusedSectionVars false
set_option linter.unusedVariables false
set_option linter.unusedSimpArgs false
namespace Go.Lift
open Go Go.Proofs
instance : Tab := tabsOf [(0, .u64, Lib.pow10Tab)]
def tyTab : List (Nat × Ty) := [
  (2, (.int .i64)),
  (3, (.int .i64)),
  (4, .bool),
  (5, (.int .u8)),
  (6, (.int .u8)),
  (7, Truntime_boundsError),
  (8, Truntime_boundsError),
  (9, .str),
  (10, .str),
  (11, .str),
  (12, (.int .u64)),
  (13, Truntime_errorAddressString),
  (14, Truntime_errorAddressString),
  (21, (.int .i32)),
  (22, (.slice (.int .i64))),
  (23, (.slice Tapi_TraceStep)),
  (24, Tapi_TraceCourse),
  (25, Tapi_TraceCourse),
  (27, (.fn Tapi_TraceCourse .bool)),
  (28, (.fn Tapi_TraceCourse (.int .i64))),
  (30, (.slice Tapi_Span)),
  (31, (.int .i64)),
  (34, (.fn Tapi_TraceCourse Tapi_TraceCourse)),
  (35, (.fn Tapi_Frac .bool)),
  (36, Tapi_Frac),
  (37, Tapi_Frac),
  (38, Tapi_Span),
  (39, Tapi_Span),
  (43, Tapi_TraceReading),
  (44, Tapi_TraceReading),
  (48, (.slice Tapi_TraceCause)),
  (49, (.slice Tapi_TraceReading)),
  (51, (.slice (.slice (.int .i64)))),
  (54, (.fn (.slice Tapi_TraceCause) (.slice Tapi_TraceCause))),
  (55, (.fn (.slice Tapi_TraceReading) (.slice Tapi_TraceReading))),
  (66, (.slice Tapi_TraceSection)),
  (67, Tapi_TraceStrip),
  (68, Tapi_TraceStrip),
  (71, Tb0_Wide),
  (72, Tb0_Wide),
  (73, Tb0_Ratio),
  (74, Tb0_Ratio),
  (75, (.fn (.int .i64) Tb0_Ratio)),
  (76, Tapi_TraceSection),
  (77, Tapi_TraceSection),
  (79, (.fn Tapi_Frac Tb0_Ratio)),
  (80, (.fn Tapi_TraceSection Tb0_Ratio)),
  (82, Tapi_TraceStep),
  (83, Tapi_TraceStep),
  (93, (.fn (.slice Tapi_TraceCause) (.slice (.int .i64)))),
  (96, (.slice (.slice .bool))),
  (98, Tapi_TraceSearch),
  (99, Tapi_TraceSearch),
  (106, Tapi_TraceCause),
  (107, Tapi_TraceCause),
  (111, (.slice Tr9_Section)),
  (112, (.slice Tr9_Section)),
  (115, (.fn (.slice Tr9_Section) Tapi_TraceStrip)),
  (118, (.fn (.slice Tr9_Section) Tb0_Ratio)),
  (120, (.slice Tapi_Span)),
  (121, Tapi_TraceMap),
  (122, Tapi_TraceMap),
  (128, Tapi_TraceMarks),
  (129, Tapi_TraceMarks),
  (130, (.slice Tapi_TraceRoll)),
  (131, (.slice .str)),
  (134, (.fn Tapi_TraceMarks Tapi_TraceMarks)),
  (135, (.fn (.slice Tapi_TraceRoll) (.slice Tapi_TraceRoll))),
  (137, Tapi_TraceRoll),
  (138, Tapi_TraceRoll),
  (139, (.arr 2 (.int .i64))),
  (149, (.fn Tapi_TraceMap .bool)),
  (151, (.fn Tapi_TraceMap Tapi_TraceMap)),
  (158, (.fn Tapi_TraceMap (.int .i64))),
  (162, (.arr 3 (.int .i64))),
  (163, Tapi_Span),
  (164, Tapi_Span),
  (170, (.fn (.int .i64) Tapi_Frac)),
  (171, (.slice (.slice Ttrace_section))),
  (172, Ttrace_course),
  (173, Ttrace_course),
  (176, (.fn (.slice (.int .i64)) (.int .i64))),
  (178, (.slice Ttrace_section)),
  (179, (.slice Ttrace_section)),
  (181, (.slice (.int .u32))),
  (182, (.slice (.int .u32))),
  (183, Ttrace_ratio),
  (184, Ttrace_ratio),
  (186, (.fn Ttrace_ratio (.int .i64))),
  (187, (.fn (.int .i64) Ttrace_ratio)),
  (189, (.fn Ttrace_ratio Ttrace_ratio)),
  (190, (.fn (.slice (.int .i64)) (.slice (.int .i64)))),
  (191, (.fn Tapi_TraceReading (.int .i64))),
  (192, (.fn (.int .i64) (.int .i64))),
  (195, (.slice (.int .u64))),
  (196, (.slice .bool)),
  (197, Ttrace_evidence),
  (198, Ttrace_evidence),
  (201, (.fn (.int .u64) (.slice (.int .u64)))),
  (202, (.int .u64)),
  (203, (.int .u64)),
  (206, (.seq (.int .u64))),
  (207, (.fn (.int .i64) (.seq (.int .u64)))),
  (209, (.fn (.int .i64) (.slice (.int .i64)))),
  (210, (.arr 2 Ttrace_ratio)),
  (211, Ttrace_section),
  (212, Ttrace_section),
  (215, (.fn (.int .i64) Tb0_Wide)),
  (225, (.fn Tapi_TraceCause .bool)),
  (226, (.fn .str .bool)),
  (229, (.fn (.slice Tapi_TraceReading) (.int .i64))),
  (232, (.fn Tapi_TraceCourse (.slice Tr9_Section))),
  (235, (.slice (.slice Tr9_Section))),
  (238, Tr9_Section),
  (239, Tr9_Section),
  (240, (.slice Ttrace_ratio)),
  (241, (.slice Ttrace_knot)),
  (242, (.slice Ttrace_knot)),
  (244, Ttrace_knot),
  (245, Ttrace_knot),
  (250, Tr9_Knot),
  (251, Tr9_Knot),
  (252, (.slice Tr9_Knot)),
  (253, (.slice Tb0_Ratio)),
  (256, (.fn (.slice Tr9_Knot) (.slice Tr9_Knot))),
  (259, (.mapT .str .bool)),
  (262, (.fn Tb0_Ratio Tb0_Wide)),
  (265, (.fn Tapi_Frac Ttrace_ratio)),
  (267, (.fn Tapi_TraceMap (.slice Tr9_Knot))),
  (270, (.fn Tapi_Frac .str)),
  (271, (.fn (.int .i64) .str)),
  (273, (.slice (.int .i64))),
  (274, (.fn (.int .u64) (.slice (.int .u32)))),
  (275, (.int .u64)),
  (276, (.fn (.int .i64) (.int .u64))),
  (277, (.int .u32)),
  (279, (.fn (.int .i64) (.int .i64))),
  (280, (.fn (.int .i64) .bool)),
  (281, (.fn (.int .u64) (.int .i64))),
  (282, (.fn (.int .u64) .bool)),
  (284, (.fn (.slice (.int .u32)) (.int .i64))),
  (286, (.fn Tb0_Wide (.int .i64))),
  (287, (.fn Tb0_Wide Tb0_Wide)),
  (291, (.fn Tb0_Ratio (.int .i64))),
  (294, (.fn (.slice (.int .u32)) (.slice (.int .u32)))),
  (298, (.fn Tb0_Ratio .bool)),
  (303, (.fn Tb0_Ratio Tb0_Ratio)),
  (306, (.slice (.int .u8))),
  (311, .err),
  (315, (.fn (.int .u32) (.int .i64))),
  (316, (.fn (.int .u64) (.int .i64))),
  (321, (.fn (.slice (.int .i64)) (.slice Ttrace_section))),
  (326, (.fn (.int .i64) (.slice (.int .u32)))),
  (328, (.arr 24 (.int .u8))),
  (334, (.fn (.int .i64) (.slice (.int .u8)))),
  (335, (.fn .bool (.int .i64))),
  (336, (.arr 20 (.int .u64))),
  (337, (.arr 65 (.int .u8))),
  (338, (.arr 32 (.int .u8))),
  (339, (.arr 64 (.int .u8))),
  (345, (.int .u8)),
  (346, (.int .u8)),
  (348, (.int .i32)),
  (349, (.int .i32))]
def nfTab : List (Nat × Nat) := [(7, 4), (8, 4), (13, 2), (14, 2), (24, 4), (25, 4), (36, 2), (37, 2), (38, 2), (39, 2), (43, 3), (44, 3), (67, 1), (68, 1), (71, 2), (72, 2), (73, 2), (74, 2), (76, 2), (77, 2), (82, 4), (83, 4), (98, 2), (99, 2), (106, 5), (107, 5), (121, 1), (122, 1), (128, 2), (129, 2), (137, 3), (138, 3), (163, 2), (164, 2), (172, 2), (173, 2), (183, 3), (184, 3), (197, 3), (198, 3), (211, 4), (212, 4), (238, 2), (239, 2), (244, 2), (245, 2), (250, 2), (251, 2)]
def eqTab : List Nat := [9, 37, 39, 77, 139, 164]
theorem tys_ok : tysOk Tryz.prog tyTab = true := by kernel_rfl
theorem nfs_ok : nfsOk Tryz.prog tyTab nfTab = true := by kernel_rfl
theorem eqs_ok : eqsOk Tryz.prog tyTab eqTab = true := by kernel_rfl
theorem prog_mixed : Tryz.prog.follows .mixedOrders = true := by kernel_rfl
abbrev cx (own : List Nat) (l : List Sig) : Ctx := cxOf tyTab nfTab eqTab own l
abbrev cxM (own : List Nat) (l : List Sig) : Ctx := @cxOf mfOn tyTab nfTab eqTab own l
def an_trace_first : Ann := (.seq .nil (.seq (.seq .nil (.blk (.loopBD ⟨[⟨false, 7, 0, (.int .i64), [], false⟩], []⟩ ⟨[], []⟩ 0 .nil))) .nil))
def an_trace_unless : Ann := .nil
def an_trace_within : Ann := .nil
def an_trace_course_stepsErr : Ann := .nil
def an_trace_trimmed : Ann := (.seq .nil (.seq (.blk (.loopB ⟨[⟨false, 0, 0, (.slice (.int .u32)), [], false⟩], []⟩ ⟨[⟨false, 0, 0, (.slice (.int .u32)), [], false⟩], []⟩ 0 .nil)) .nil))
def an_trace_naturalOf : Ann := .nil
def an_trace_size : Ann := .nil
def an_trace_whole : Ann := .nil
def an_trace_isName : Ann := (.seq .nil (.seq (.seq .nil (.blk (.loopBD ⟨[⟨false, 9, 0, (.int .i64), [], false⟩], []⟩ ⟨[], []⟩ 0 .nil))) .nil))
def an_trace_isArea : Ann := .nil
def an_trace_strip_length : Ann := .nil
def an_trace_natural_cmp : Ann := (.seq .nil (.seq .nil (.seq (.seq .nil (.blk (.loopBD ⟨[⟨false, 5, 0, (.int .i64), [], false⟩], []⟩ ⟨[], []⟩ 0 .nil))) .nil)))
def an_trace_natural_digit : Ann := .nil
def an_trace_natural_times : Ann := (.seq .nil (.seq .nil (.seq (.seq .nil (.blk (.loopB ⟨[⟨false, 18, 0, (.int .i64), [], false⟩, ⟨true, 15, 182, (.slice (.int .u32)), [], true⟩], []⟩ ⟨[⟨true, 15, 182, (.slice (.int .u32)), [], true⟩], []⟩ 0 (.seq .nil (.seq .nil (.seq (.blk (.seq .nil (.seq .nil (.seq .nil (.blk (.loopB ⟨[⟨false, 7, 0, (.int .u64), [], false⟩, ⟨false, 24, 0, (.int .i64), [], false⟩, ⟨true, 15, 182, (.slice (.int .u32)), [], true⟩], []⟩ ⟨[⟨true, 15, 182, (.slice (.int .u32)), [], true⟩], []⟩ 2 .nil)))))) .nil)))))) (.seq (.frz 15 .nil) .nil))))
def an_trace_natural_plus : Ann := (.seq .nil (.seq .nil (.seq .nil (.seq (.seq .nil (.blk (.loopB ⟨[⟨false, 5, 0, (.slice (.int .u32)), [([], some 101000500)], false⟩, ⟨false, 6, 0, (.int .u64), [], false⟩, ⟨false, 14, 0, (.int .i64), [], false⟩], []⟩ ⟨[⟨false, 5, 0, (.slice (.int .u32)), [([], some 201000500)], false⟩], []⟩ 0 .nil))) .nil))))
def an_trace_natural_minus : Ann := (.seq .nil (.seq .nil (.seq .nil (.seq (.seq .nil (.blk (.loopB ⟨[⟨false, 5, 0, (.slice (.int .u32)), [([], some 101000500)], false⟩, ⟨false, 6, 0, (.int .u64), [], false⟩, ⟨false, 11, 0, (.int .i64), [], false⟩], []⟩ ⟨[⟨false, 5, 0, (.slice (.int .u32)), [([], some 201000500)], false⟩], []⟩ 0 .nil))) .nil))))
def an_bits_Len32 : Ann := (.seq .nil (.seq (.seq .nil (.join ⟨[⟨false, 0, 0, (.int .u32), [], false⟩, ⟨false, 2, 0, (.int .i64), [], false⟩], []⟩ .nil .nil)) (.seq (.seq .nil (.join ⟨[⟨false, 0, 0, (.int .u32), [], false⟩, ⟨false, 2, 0, (.int .i64), [], false⟩], []⟩ .nil .nil)) .nil)))
def an_trace_natural_length : Ann := .nil
def an_trace_natural_shifted : Ann := (.seq .nil (.seq .nil (.seq .nil (.seq (.seq .nil (.blk (.loopB ⟨[⟨false, 5, 0, (.slice (.int .u32)), [([], some 101000500)], false⟩, ⟨false, 6, 0, (.int .u64), [], false⟩, ⟨false, 14, 0, (.int .i64), [], false⟩], []⟩ ⟨[⟨false, 5, 0, (.slice (.int .u32)), [([], some 201000500)], false⟩], []⟩ 0 .nil))) .nil))))
def an_trace_natural_divided : Ann := (.seq .nil (.seq .nil (.seq (.seq .nil (.blk (.loopB ⟨[⟨false, 4, 0, (.slice (.int .u32)), [], false⟩, ⟨false, 5, 0, (.slice (.int .u32)), [], false⟩, ⟨false, 6, 0, (.int .i64), [], false⟩], []⟩ ⟨[⟨false, 4, 0, (.slice (.int .u32)), [], false⟩, ⟨false, 5, 0, (.slice (.int .u32)), [], false⟩], []⟩ 0 (.seq .nil (.seq (.blk (.seq .nil (.seq .nil (.seq .nil (.join ⟨[⟨false, 4, 0, (.slice (.int .u32)), [], false⟩, ⟨false, 5, 0, (.slice (.int .u32)), [], false⟩], []⟩ .nil .nil))))) .nil))))) .nil)))
def an_trace_divisor : Ann := (.seq .nil (.seq (.blk (.loopB ⟨[⟨false, 0, 0, (.slice (.int .u32)), [], false⟩, ⟨false, 1, 0, (.slice (.int .u32)), [], false⟩], []⟩ ⟨[⟨false, 0, 0, (.slice (.int .u32)), [], false⟩], []⟩ 0 .nil)) .nil))
def an_trace_ratioOf : Ann := .nil
def an_trace_ratio_plus : Ann := .nil
def an_trace_ratio_opposite : Ann := .nil
def an_trace_ratio_minus : Ann := .nil
def an_trace_ratio_cmp : Ann := .nil
def an_trace_ratio_between : Ann := .nil
def an_trace_strip_has : Ann := .nil
def an_trace_isPosition : Ann := .nil
def an_slices_IndexFunc_int : Ann := (.seq .nil (.seq (.seq .nil (.blk (.loopBD ⟨[⟨false, 8, 0, (.int .i64), [], false⟩], []⟩ ⟨[], []⟩ 0 .nil))) .nil))
def an_slices_ContainsFunc_int : Ann := .nil
def an_trace_strip_step_1 : Ann := .nil
def an_trace_section_length : Ann := .nil
def an_trace_ratio_times : Ann := .nil
def an_trace_quotient : Ann := .nil
def an_trace_strip_rolled : Ann := (.seq .nil (.seq .nil (.seq .nil (.seq (.seq .nil (.blk (.loopB ⟨[⟨false, 5, 0, (.slice Ttrace_section), [([], some 101000500)], false⟩, ⟨false, 13, 0, (.int .i64), [], false⟩, ⟨true, 6, 184, Ttrace_ratio, [], false⟩], []⟩ ⟨[⟨false, 5, 0, (.slice Ttrace_section), [([], some 201000500)], false⟩], []⟩ 0 .nil))) .nil))))
def an_trace_strip_cut : Ann := (.seq .nil (.seq .nil (.seq .nil (.seq (.seq .nil (.blk (.loopB ⟨[⟨false, 7, 0, (.slice Ttrace_section), [([], some 601000700)], false⟩, ⟨false, 22, 0, (.int .i64), [], false⟩], [8, 9]⟩ ⟨[⟨false, 7, 0, (.slice Ttrace_section), [([], some 1201000700)], false⟩], [8, 9]⟩ 0 (.seq .nil (.seq .nil (.seq (.blk (.seq .nil (.seq .nil (.seq (.seq .nil (.join ⟨[⟨true, 12, 210, (.arr 2 Ttrace_ratio), [], false⟩], [8, 9, 11, 601000700]⟩ .nil .nil)) (.seq (.seq .nil (.join ⟨[⟨true, 12, 210, (.arr 2 Ttrace_ratio), [], false⟩], [8, 9, 11, 601000700]⟩ .nil .nil)) (.seq .nil (.seq .nil (.seq (.seq .nil (.blk (.loopB ⟨[⟨false, 54, 0, (.int .i64), [], false⟩, ⟨true, 13, 212, Ttrace_section, [], false⟩], [8, 9, 11, 12, 601000700]⟩ ⟨[⟨true, 13, 212, Ttrace_section, [], false⟩], [8, 9, 11, 12, 601000700]⟩ 2 .nil))) .nil)))))))) .nil)))))) .nil))))
def an_trace_ratio_frac : Ann := (.seq .nil (.seq .nil (.seq .nil (.seq .nil (.seq (.seq .nil (.join ⟨[⟨false, 5, 0, (.int .i64), [], false⟩], [1, 2]⟩ .nil .nil)) .nil)))))
def an_trace_strip_isSmall : Ann := (.seq .nil (.seq (.seq .nil (.blk (.loopBD ⟨[⟨false, 11, 0, (.int .i64), [], false⟩], []⟩ ⟨[], []⟩ 0 .nil))) .nil))
def an_trace_strip_step : Ann := (.seq .nil (.seq .nil (.seq (.seq .nil (.blk (.seq .nil (.joinD ⟨[⟨false, 6, 0, (.slice Ttrace_section), [], false⟩], [3]⟩ .nil .nil)))) .nil)))
def an_trace_open : Ann := (.seq .nil (.seq .nil (.seq .nil (.seq .nil (.seq .nil (.seq .nil (.seq (.seq .nil (.blk (.loopBD ⟨[⟨false, 7, 0, (.slice Ttrace_section), [([], some 101000700)], false⟩, ⟨false, 8, 0, (.int .i64), [], false⟩, ⟨false, 50, 0, (.int .i64), [], false⟩], [1, 2, 5, 41]⟩ ⟨[⟨false, 7, 0, (.slice Ttrace_section), [([], some 201000700)], false⟩], [1, 2, 5, 41]⟩ 0 .nil))) (.seq .nil (.seq .nil (.seq (.seq .nil (.blk (.loopBD ⟨[⟨false, 106, 0, (.int .i64), [], false⟩, ⟨true, 5, 173, Ttrace_course, [([.snd], some 450000500)], false⟩], [1, 2, 41, 201000700]⟩ ⟨[⟨true, 5, 173, Ttrace_course, [([.snd], some 550000500)], false⟩], [1, 2, 41, 201000700]⟩ 2 .nil))) .nil))))))))))
def an_trace_opened : Ann := (.seq .nil (.seq .nil (.seq (.seq .nil (.blk (.loopB ⟨[⟨false, 8, 0, (.int .i64), [], false⟩, ⟨false, 19, 0, (.int .i64), [], false⟩], [2, 4, 6]⟩ ⟨[⟨false, 8, 0, (.int .i64), [], false⟩], [2, 4, 6]⟩ 0 .nil))) .nil)))
def an_trace_course_last : Ann := .nil
def an_trace_small : Ann := .nil
def an_trace_strip_slabAt : Ann := (.seq .nil (.seq (.seq .nil (.blk (.loopBD ⟨[⟨false, 9, 0, (.int .i64), [], false⟩], [3, 4]⟩ ⟨[], [3, 4]⟩ 0 .nil))) .nil))
def an_trace_PiecesOf : Ann := (.seq .nil (.seq .nil (.seq .nil (.seq .nil (.seq .nil (.seq .nil (.seq (.seq .nil (.blk (.loopBD ⟨[⟨false, 9, 0, (.slice Tapi_Span), [([], some 201000900)], false⟩, ⟨false, 10, 0, (.int .i64), [], false⟩], [2, 6, 25]⟩ ⟨[⟨false, 9, 0, (.slice Tapi_Span), [([], some 401000900)], false⟩], [2, 6, 25]⟩ 0 (.seq .nil (.seq (.blk (.seq .nil (.seq (.seq .nil (.join ⟨[⟨true, 11, 184, Ttrace_ratio, [], false⟩], [2, 6, 25, 201000900]⟩ .nil .nil)) .nil))) .nil))))) .nil)))))))
def an_trace_course_readingErr : Ann := .nil
def an_trace_strip_at : Ann := (.seq .nil (.seq (.seq .nil (.blk (.loopBD ⟨[⟨false, 10, 0, (.int .i64), [], false⟩], [3, 4]⟩ ⟨[], [3, 4]⟩ 0 .nil))) .nil))
def an_trace_course_place : Ann := .nil
def an_trace_PlaceOf : Ann := (.seq .nil (.seq .nil (.seq (.seq .nil (.join ⟨[⟨false, 9, 0, (.int .i64), [], false⟩], [3, 4, 6, 8]⟩ .nil .nil)) .nil)))
def an_slices_IndexFunc_apiTraceCause : Ann := (.seq .nil (.seq (.seq .nil (.blk (.loopBD ⟨[⟨false, 8, 0, (.int .i64), [], false⟩], []⟩ ⟨[], []⟩ 0 .nil))) .nil))
def an_slices_ContainsFunc_apiTraceCause : Ann := .nil
def an_trace_openCauses_1 : Ann := .nil
def an_trace_openCauses : Ann := (.seq .nil (.seq .nil (.seq .nil (.seq (.seq .nil (.blk (.loopBD ⟨[⟨false, 31, 0, (.int .i64), [], false⟩], [2, 4, 7, 23]⟩ ⟨[], [2, 4, 7, 23]⟩ 0 (.seq .nil (.seq .nil (.seq (.blk (.seq .nil (.seq (.frz 10 .nil) .nil))) .nil)))))) .nil))))
def an_trace_course_openReadings : Ann := (.seq .nil (.seq .nil (.seq (.seq .nil (.blk (.loopBD ⟨[⟨false, 13, 0, (.int .i64), [], false⟩], [2]⟩ ⟨[], [2]⟩ 0 .nil))) .nil)))
def an_trace_ratio_over : Ann := .nil
def an_trace_ratio_floor : Ann := .nil
def an_trace_course_predicts : Ann := (.seq .nil (.seq .nil (.seq .nil (.seq .nil (.seq .nil (.seq (.seq .nil (.join ⟨[⟨true, 9, 184, Ttrace_ratio, [], false⟩], [3, 4, 5, 7]⟩ .nil .nil)) .nil))))))
def an_trace_course_evidenceOf : Ann := (.seq .nil (.seq .nil (.seq (.seq .nil (.blk (.loopB ⟨[⟨false, 18, 0, (.int .i64), [], false⟩, ⟨true, 7, 198, Ttrace_evidence, [([.snd, .fst], some 750000700), ([.snd, .snd], some 750000701)], false⟩], [3, 6]⟩ ⟨[⟨true, 7, 198, Ttrace_evidence, [([.snd, .fst], some 1450000700), ([.snd, .snd], some 1450000701)], false⟩], [3, 6]⟩ 0 (.seq .nil (.seq .nil (.seq (.blk (.seq .nil (.seq .nil (.seq (.seq .nil (.blk (.loopB ⟨[⟨false, 10, 0, (.int .u64), [], false⟩, ⟨false, 24, 0, (.int .i64), [], false⟩], [3, 6, 7, 9, 750000700, 750000701]⟩ ⟨[⟨false, 10, 0, (.int .u64), [], false⟩], [3, 6, 7, 9, 750000700, 750000701]⟩ 2 (.seq .nil (.seq .nil (.seq (.blk (.seq .nil (.seq .nil (.join ⟨[⟨false, 10, 0, (.int .u64), [], false⟩], [3, 6, 7, 9, 12, 750000700, 750000701]⟩ .nil .nil)))) .nil)))))) .nil)))) .nil)))))) .nil)))
def an_trace_openEvidence : Ann := (.seq .nil (.seq .nil (.seq (.seq .nil (.join ⟨[⟨false, 11, 0, (.int .i64), [], false⟩], [3, 6, 7, 9]⟩ .nil .nil)) .nil)))
def an_bits_OnesCount32 : Ann := .nil
def an_bits_OnesCount64 : Ann := .nil
def an_bits_OnesCount : Ann := .nil
def an_trace_set_has : Ann := .nil
def an_trace_evidence_firstWrong : Ann := (.seq .nil (.seq (.seq .nil (.blk (.loopBD ⟨[⟨false, 12, 0, (.int .i64), [], false⟩], [3]⟩ ⟨[], [3]⟩ 0 .nil))) .nil))
def an_trace_evidence_every : Ann := .nil
def an_trace_set_list : Ann := (.seq .nil (.seq .nil (.seq (.seq .nil (.blk (.loopB ⟨[⟨false, 3, 0, (.slice (.int .i64)), [([], some 201000300)], false⟩, ⟨false, 5, 0, (.int .i64), [], false⟩], []⟩ ⟨[⟨false, 3, 0, (.slice (.int .i64)), [([], some 401000300)], false⟩], []⟩ 0 (.seq .nil (.seq .nil (.seq (.blk (.seq .nil (.seq .nil (.join ⟨[⟨false, 3, 0, (.slice (.int .i64)), [([], some 501000300)], false⟩], []⟩ .nil .nil)))) .nil)))))) .nil)))
def an_trace_Explanations : Ann := (.seq .nil (.seq .nil (.seq .nil (.seq .nil (.seq (.seq .nil (.blk (.loopB ⟨[⟨false, 11, 0, (.slice (.slice (.int .i64))), [([], some 101001100)], false⟩, ⟨false, 30, 0, (.int .i64), [], false⟩], [3, 8, 9]⟩ ⟨[⟨false, 11, 0, (.slice (.slice (.int .i64))), [([], some 201001100)], false⟩], [3, 8, 9]⟩ 0 .nil))) .nil)))))
def an_b0_Ints : Ann := (.seq .nil (.seq .nil (.seq (.seq .nil (.blk (.loopBD ⟨[⟨false, 5, 0, (.int .i64), [], false⟩], []⟩ ⟨[], []⟩ 0 .nil))) .nil)))
def an_b0_Lists : Ann := (.seq .nil (.seq .nil (.seq (.seq .nil (.blk (.loopBD ⟨[⟨false, 5, 0, (.int .i64), [], false⟩], []⟩ ⟨[], []⟩ 0 .nil))) .nil)))
def an_l9_Course : Ann := .nil
def an_l9_Causes : Ann := .nil
def an_trace_written : Ann := .nil
def an_trace_ReportOf : Ann := (.seq .nil (.seq .nil (.seq (.seq .nil (.join ⟨[⟨false, 7, 0, (.int .i64), [], false⟩], [2, 6]⟩ .nil .nil)) (.seq .nil (.seq .nil (.seq .nil (.seq .nil (.seq (.seq .nil (.blk (.loopBD ⟨[⟨false, 9, 0, (.slice .str), [([], some 601000900)], false⟩, ⟨false, 52, 0, (.int .i64), [], false⟩], [2, 6, 8]⟩ ⟨[⟨false, 9, 0, (.slice .str), [([], some 1501000900)], false⟩], [2, 6, 8]⟩ 0 (.seq .nil (.seq .nil (.seq (.blk (.seq .nil (.seq .nil (.seq (.seq .nil (.blk (.loopBD ⟨[⟨false, 12, 0, (.slice .str), [([], some 1701001200)], false⟩, ⟨false, 67, 0, (.int .i64), [], false⟩], [2, 6, 8, 11, 601000900]⟩ ⟨[⟨false, 12, 0, (.slice .str), [([], some 1801001200)], false⟩], [2, 6, 8, 11, 601000900]⟩ 2 .nil))) (.seq .nil (.seq (.seq .nil (.join ⟨[⟨false, 19, 0, .str, [], false⟩], [2, 6, 8, 11, 601000900, 1801001200]⟩ .nil .nil)) .nil)))))) .nil)))))) .nil))))))))
def an_b0_Whole : Ann := .nil
def an_l9_awake : Ann := .nil
def an_l9_Few : Ann := (.seq .nil (.seq .nil (.seq (.seq .nil (.blk (.loopBD ⟨[⟨false, 3, 0, (.int .i64), [], false⟩], [1]⟩ ⟨[], [1]⟩ 0 .nil))) .nil)))
def an_b0_CopyInts : Ann := .nil
def an_r9_CopyCourse : Ann := (.seq .nil (.seq .nil (.seq (.seq .nil (.blk (.loopB ⟨[⟨false, 4, 0, (.int .i64), [], false⟩, ⟨true, 3, 25, Tapi_TraceCourse, [([.snd, .snd, .snd], some 150000300)], false⟩], [1, 2]⟩ ⟨[⟨true, 3, 25, Tapi_TraceCourse, [([.snd, .snd, .snd], some 250000300)], false⟩], [1, 2]⟩ 0 .nil))) .nil)))
def an_b0_Within : Ann := .nil
def an_b0_IsName : Ann := (.seq .nil (.seq .nil (.seq (.seq .nil (.blk (.loopBD ⟨[⟨false, 3, 0, (.int .i64), [], false⟩], []⟩ ⟨[], []⟩ 0 .nil))) .nil)))
def an_b0_Size : Ann := .nil
def an_b0_trimmed : Ann := (.seq .nil (.seq .nil (.seq (.blk (.loopB ⟨[⟨false, 3, 0, (.int .i64), [], false⟩], []⟩ ⟨[⟨false, 3, 0, (.int .i64), [], false⟩], []⟩ 0 .nil)) .nil)))
def an_b0_wideOf : Ann := (.seq .nil (.seq .nil (.seq (.seq .nil (.join ⟨[⟨false, 0, 0, (.int .i64), [], false⟩], [4]⟩ .nil .nil)) .nil)))
def an_b0_WideOf : Ann := (.seq .nil (.seq .nil (.seq (.seq .nil (.join ⟨[⟨false, 3, 0, (.int .i64), [], false⟩], [2]⟩ .nil .nil)) (.seq .nil (.seq (.blk (.loopB ⟨[⟨false, 0, 0, (.int .i64), [], false⟩, ⟨false, 4, 0, (.slice (.int .i64)), [([], some 201000400)], false⟩], [2]⟩ ⟨[⟨false, 4, 0, (.slice (.int .i64)), [([], some 301000400)], false⟩], [2]⟩ 0 .nil)) .nil)))))
def an_b0_RatioInt : Ann := .nil
def an_r9_slab : Ann := (.seq .nil (.seq .nil (.seq (.seq .nil (.blk (.loopB ⟨[⟨false, 3, 0, (.slice Tr9_Section), [([], some 101000300)], false⟩, ⟨false, 4, 0, (.int .i64), [], false⟩], [1]⟩ ⟨[⟨false, 3, 0, (.slice Tr9_Section), [([], some 201000300)], false⟩], [1]⟩ 0 .nil))) .nil)))
def an_b0_WideMul : Ann := (.seq .nil (.seq .nil (.seq (.seq .nil (.blk (.loopB ⟨[⟨false, 6, 0, (.int .i64), [], false⟩, ⟨true, 18, 22, (.slice (.int .i64)), [], true⟩], [2, 3, 4]⟩ ⟨[⟨true, 18, 22, (.slice (.int .i64)), [], true⟩], [2, 3, 4]⟩ 0 (.seq .nil (.seq (.blk (.seq .nil (.seq (.seq .nil (.blk (.loopB ⟨[⟨false, 7, 0, (.int .i64), [], false⟩, ⟨false, 8, 0, (.int .i64), [], false⟩, ⟨true, 18, 22, (.slice (.int .i64)), [], true⟩], [2, 3, 4]⟩ ⟨[⟨false, 7, 0, (.int .i64), [], false⟩, ⟨true, 18, 22, (.slice (.int .i64)), [], true⟩], [2, 3, 4]⟩ 2 .nil))) .nil))) .nil))))) (.seq (.frz 18 .nil) .nil))))
def an_b0_digit : Ann := .nil
def an_b0_addDigits : Ann := (.seq .nil (.seq .nil (.seq .nil (.seq (.seq .nil (.blk (.loopB ⟨[⟨false, 5, 0, (.slice (.int .i64)), [([], some 101000500)], false⟩, ⟨false, 6, 0, (.int .i64), [], false⟩, ⟨false, 7, 0, (.int .i64), [], false⟩], []⟩ ⟨[⟨false, 5, 0, (.slice (.int .i64)), [([], some 201000500)], false⟩], []⟩ 0 .nil))) .nil))))
def an_b0_cmpDigits : Ann := (.seq .nil (.seq .nil (.seq (.seq .nil (.blk (.loopBD ⟨[⟨false, 5, 0, (.int .i64), [], false⟩], []⟩ ⟨[], []⟩ 0 .nil))) .nil)))
def an_b0_subDigits : Ann := (.seq .nil (.seq .nil (.seq .nil (.seq (.seq .nil (.blk (.loopB ⟨[⟨false, 5, 0, (.slice (.int .i64)), [([], some 201000500)], false⟩, ⟨false, 6, 0, (.int .i64), [], false⟩, ⟨false, 7, 0, (.int .i64), [], false⟩], []⟩ ⟨[⟨false, 5, 0, (.slice (.int .i64)), [([], some 401000500)], false⟩], []⟩ 0 (.seq .nil (.seq (.blk (.seq .nil (.seq .nil (.seq (.seq .nil (.join ⟨[⟨false, 6, 0, (.int .i64), [], false⟩, ⟨false, 8, 0, (.int .i64), [], false⟩], [201000500]⟩ .nil .nil)) .nil)))) .nil))))) .nil))))
def an_b0_WideAdd : Ann := .nil
def an_b0_WideNeg : Ann := .nil
def an_b0_WideSub : Ann := .nil
def an_b0_WideCmp : Ann := .nil
def an_b0_RatioCmp : Ann := .nil
def an_b0_WideSign : Ann := .nil
def an_b0_WideFloor : Ann := (.seq .nil (.seq .nil (.seq .nil (.seq (.seq .nil (.blk (.loopB ⟨[⟨false, 6, 0, (.slice (.int .i64)), [], false⟩, ⟨false, 7, 0, (.int .i64), [], false⟩, ⟨true, 19, 22, (.slice (.int .i64)), [], true⟩], [2, 3, 4, 20]⟩ ⟨[⟨false, 6, 0, (.slice (.int .i64)), [], false⟩, ⟨true, 19, 22, (.slice (.int .i64)), [], true⟩], [2, 3, 4, 20]⟩ 0 (.seq .nil (.seq (.blk (.seq .nil (.seq .nil (.seq (.blk (.loopB ⟨[⟨false, 8, 0, (.int .i64), [], false⟩, ⟨false, 9, 0, (.int .i64), [], false⟩], [2, 3, 4, 19, 20, 36]⟩ ⟨[⟨false, 8, 0, (.int .i64), [], false⟩], [2, 3, 4, 19, 20, 36]⟩ 2 (.seq .nil (.blk (.seq .nil (.seq .nil (.join ⟨[⟨false, 8, 0, (.int .i64), [], false⟩, ⟨false, 9, 0, (.int .i64), [], false⟩], [2, 3, 4, 19, 20, 36]⟩ .nil .nil))))))) .nil)))) .nil))))) (.seq (.frz 19 .nil) (.seq (.seq .nil (.join ⟨[⟨true, 11, 72, Tb0_Wide, [], false⟩], [2, 3, 4, 20]⟩ .nil .nil)) .nil))))))
def an_b0_wideSize : Ann := .nil
def an_b0_wideGcd : Ann := (.seq .nil (.seq .nil (.seq (.blk (.loopB ⟨[⟨true, 2, 72, Tb0_Wide, [], false⟩, ⟨true, 3, 72, Tb0_Wide, [], false⟩], [4]⟩ ⟨[⟨true, 2, 72, Tb0_Wide, [], false⟩], [4]⟩ 0 .nil)) .nil)))
def an_b0_RatioMake : Ann := (.seq .nil (.seq (.seq .nil (.join ⟨[⟨true, 2, 72, Tb0_Wide, [], false⟩, ⟨true, 3, 72, Tb0_Wide, [], false⟩], [4]⟩ .nil .nil)) .nil))
def an_b0_RatioAdd : Ann := .nil
def an_r9_Strip_Length : Ann := (.seq .nil (.seq .nil (.seq (.seq .nil (.blk (.loopB ⟨[⟨false, 4, 0, (.int .i64), [], false⟩, ⟨true, 3, 74, Tb0_Ratio, [], false⟩], [2]⟩ ⟨[⟨true, 3, 74, Tb0_Ratio, [], false⟩], [2]⟩ 0 .nil))) .nil)))
def an_r9_Strip_Ends : Ann := (.seq .nil (.seq .nil (.seq .nil (.seq (.seq .nil (.blk (.loopB ⟨[⟨false, 4, 0, (.slice Tb0_Ratio), [([], some 101000400)], false⟩, ⟨false, 5, 0, (.int .i64), [], false⟩, ⟨true, 3, 74, Tb0_Ratio, [], false⟩], []⟩ ⟨[⟨false, 4, 0, (.slice Tb0_Ratio), [([], some 201000400)], false⟩], []⟩ 0 .nil))) .nil))))
def an_b0_RatioOf : Ann := .nil
def an_b0_RatioMul : Ann := .nil
def an_r9_pass : Ann := (.seq .nil (.seq .nil (.seq (.seq .nil (.blk (.loopB ⟨[⟨false, 5, 0, (.slice Tr9_Section), [([], some 101000500)], false⟩, ⟨false, 6, 0, (.int .i64), [], false⟩], []⟩ ⟨[⟨false, 5, 0, (.slice Tr9_Section), [([], some 201000500)], false⟩], []⟩ 0 .nil))) .nil)))
def an_b0_RatioNeg : Ann := .nil
def an_b0_RatioSub : Ann := .nil
def an_r9_cut : Ann := (.seq .nil (.seq .nil (.seq .nil (.seq .nil (.seq (.seq .nil (.blk (.loopB ⟨[⟨false, 10, 0, (.slice Tr9_Section), [([], some 401001000)], false⟩, ⟨false, 11, 0, (.int .i64), [], false⟩, ⟨true, 9, 74, Tb0_Ratio, [], false⟩], [7, 8]⟩ ⟨[⟨false, 10, 0, (.slice Tr9_Section), [([], some 801001000)], false⟩], [7, 8]⟩ 0 (.seq .nil (.seq (.blk (.seq .nil (.seq .nil (.seq (.seq .nil (.join ⟨[⟨true, 13, 74, Tb0_Ratio, [], false⟩], [7, 8, 9, 12, 14, 401001000]⟩ .nil .nil)) (.seq (.seq .nil (.join ⟨[⟨true, 14, 74, Tb0_Ratio, [], false⟩], [7, 8, 9, 12, 13, 401001000]⟩ .nil .nil)) (.seq (.seq .nil (.join ⟨[⟨false, 10, 0, (.slice Tr9_Section), [([], some 1101001000)], false⟩], [7, 8, 9, 12, 13, 14]⟩ .nil .nil)) .nil)))))) .nil))))) .nil)))))
def an_b0_IsSmall : Ann := .nil
def an_b0_WideInt : Ann := (.seq .nil (.seq .nil (.seq .nil (.seq (.seq .nil (.blk (.loopB ⟨[⟨false, 4, 0, (.int .i64), [], false⟩, ⟨false, 5, 0, (.int .i64), [], false⟩], [1]⟩ ⟨[⟨false, 4, 0, (.int .i64), [], false⟩], [1]⟩ 0 .nil))) .nil))))
def an_b0_RatioFrac : Ann := .nil
def an_r9_isSmall : Ann := .nil
def an_r9_stepErr : Ann := (.seq .nil (.seq .nil (.seq (.seq .nil (.blk (.seq .nil (.joinD ⟨[⟨false, 6, 0, (.slice Tr9_Section), [], false⟩], [3]⟩ (.seq .nil (.seq .nil (.seq (.seq .nil (.blk (.loopBD ⟨[⟨false, 7, 0, (.int .i64), [], false⟩], [3]⟩ ⟨[], [3]⟩ 1 .nil))) .nil))) .nil)))) (.seq .nil (.seq (.seq .nil (.blk (.loopBD ⟨[⟨false, 9, 0, (.int .i64), [], false⟩], [3]⟩ ⟨[], [3]⟩ 3 .nil))) .nil)))))
def an_r9_CheckCourse : Ann := (.seq .nil (.seq .nil (.seq .nil (.seq .nil (.seq (.seq .nil (.blk (.loopBD ⟨[⟨false, 4, 0, (.int .i64), [], false⟩], [1]⟩ ⟨[], [1]⟩ 0 .nil))) (.seq .nil (.seq .nil (.seq (.seq .nil (.blk (.loopBD ⟨[⟨false, 5, 0, (.slice Tr9_Section), [], false⟩, ⟨false, 6, 0, (.int .i64), [], false⟩], [1]⟩ ⟨[], [1]⟩ 2 .nil))) .nil))))))))
def an_r9_CourseErr : Ann := .nil
def an_r9_StepsErr : Ann := .nil
def an_r9_strips : Ann := (.seq .nil (.seq .nil (.seq (.seq .nil (.blk (.loopB ⟨[⟨false, 5, 0, (.slice (.slice Tr9_Section)), [([], some 201000500)], false⟩, ⟨false, 6, 0, (.int .i64), [], false⟩], [2]⟩ ⟨[⟨false, 5, 0, (.slice (.slice Tr9_Section)), [([], some 501000500)], false⟩], [2]⟩ 0 (.seq .nil (.seq (.blk (.seq .nil (.seq .nil (.join ⟨[⟨false, 5, 0, (.slice (.slice Tr9_Section)), [([], some 601000500)], false⟩], [2, 7]⟩ .nil .nil)))) .nil))))) .nil)))
def an_r9_After : Ann := .nil
noncomputable abbrev sg_slices_Clone_uint32 : Sig := ⟨235, [(.slice (.int .u32))], [(.slice (.int .u32))], fun x => slices_Clone_uint32 x⟩
noncomputable abbrev sg_trace_evidence_explanations : Sig := ⟨109, [Ttrace_evidence, (.int .u64)], [(.slice (.int .u64))], fun x => trace_evidence_explanations x.1 x.2⟩
noncomputable abbrev sg_strings_Join : Sig := ⟨170, [(.slice .str), .str], [.str], fun x => strings_Join x.1 x.2⟩
noncomputable abbrev sg_strconv_Itoa : Sig := ⟨169, [(.int .i64)], [.str], fun x => strconv_Itoa x⟩
noncomputable abbrev sg_trace_first : Sig := ⟨94, [(.slice (.int .i64))], [(.int .i64)], fun x => trace_first x⟩
noncomputable abbrev sg_trace_unless : Sig := ⟨95, [.bool, (.int .i64)], [(.int .i64)], fun x => trace_unless x.1 x.2⟩
noncomputable abbrev sg_trace_within : Sig := ⟨96, [(.int .i64), (.int .i64), (.int .i64)], [.bool], fun x => trace_within x.1 x.2.1 x.2.2⟩
noncomputable abbrev sg_trace_course_stepsErr : Sig := ⟨106, [Ttrace_course, (.int .i64)], [(.int .i64)], fun x => trace_course_stepsErr x.1 x.2⟩
noncomputable abbrev sg_trace_trimmed : Sig := ⟨220, [(.slice (.int .u32))], [(.slice (.int .u32))], fun x => trace_trimmed x⟩
noncomputable abbrev sg_trace_naturalOf : Sig := ⟨172, [(.int .u64)], [(.slice (.int .u32))], fun x => trace_naturalOf x⟩
noncomputable abbrev sg_trace_size : Sig := ⟨173, [(.int .i64)], [(.int .u64)], fun x => trace_size x⟩
noncomputable abbrev sg_trace_whole : Sig := ⟨100, [(.int .i64)], [Ttrace_ratio], fun x => trace_whole x⟩
noncomputable abbrev sg_trace_isName : Sig := ⟨193, [.str], [.bool], fun x => trace_isName x⟩
noncomputable abbrev sg_trace_isArea : Sig := ⟨199, [(.int .i64)], [.bool], fun x => trace_isArea x⟩
noncomputable abbrev sg_trace_strip_length : Sig := ⟨98, [(.slice Ttrace_section)], [Ttrace_ratio], fun x => trace_strip_length x⟩
noncomputable abbrev sg_trace_natural_cmp : Sig := ⟨181, [(.slice (.int .u32)), (.slice (.int .u32))], [(.int .i64)], fun x => trace_natural_cmp x.1 x.2⟩
noncomputable abbrev sg_trace_natural_digit : Sig := ⟨182, [(.slice (.int .u32)), (.int .i64)], [(.int .u64)], fun x => trace_natural_digit x.1 x.2⟩
noncomputable abbrev sg_trace_natural_times : Sig := ⟨201, [(.slice (.int .u32)), (.slice (.int .u32))], [(.slice (.int .u32))], fun x => trace_natural_times x.1 x.2⟩
noncomputable abbrev sg_trace_natural_plus : Sig := ⟨203, [(.slice (.int .u32)), (.slice (.int .u32))], [(.slice (.int .u32))], fun x => trace_natural_plus x.1 x.2⟩
noncomputable abbrev sg_trace_natural_minus : Sig := ⟨204, [(.slice (.int .u32)), (.slice (.int .u32))], [(.slice (.int .u32))], fun x => trace_natural_minus x.1 x.2⟩
noncomputable abbrev sg_bits_Len32 : Sig := ⟨245, [(.int .u32)], [(.int .i64)], fun x => bits_Len32 x⟩
noncomputable abbrev sg_trace_natural_length : Sig := ⟨236, [(.slice (.int .u32))], [(.int .i64)], fun x => trace_natural_length x⟩
noncomputable abbrev sg_trace_natural_shifted : Sig := ⟨237, [(.slice (.int .u32)), (.int .i64)], [(.slice (.int .u32))], fun x => trace_natural_shifted x.1 x.2⟩
noncomputable abbrev sg_trace_natural_divided : Sig := ⟨226, [(.slice (.int .u32)), (.slice (.int .u32))], [(.slice (.int .u32)), (.slice (.int .u32))], fun x => trace_natural_divided x.1 x.2⟩
noncomputable abbrev sg_trace_divisor : Sig := ⟨214, [(.slice (.int .u32)), (.slice (.int .u32))], [(.slice (.int .u32))], fun x => trace_divisor x.1 x.2⟩
noncomputable abbrev sg_trace_ratioOf : Sig := ⟨202, [.bool, (.slice (.int .u32)), (.slice (.int .u32))], [Ttrace_ratio], fun x => trace_ratioOf x.1 x.2.1 x.2.2⟩
noncomputable abbrev sg_trace_ratio_plus : Sig := ⟨136, [Ttrace_ratio, Ttrace_ratio], [Ttrace_ratio], fun x => trace_ratio_plus x.1 x.2⟩
noncomputable abbrev sg_trace_ratio_opposite : Sig := ⟨219, [Ttrace_ratio], [Ttrace_ratio], fun x => trace_ratio_opposite x⟩
noncomputable abbrev sg_trace_ratio_minus : Sig := ⟨171, [Ttrace_ratio, Ttrace_ratio], [Ttrace_ratio], fun x => trace_ratio_minus x.1 x.2⟩
noncomputable abbrev sg_trace_ratio_cmp : Sig := ⟨99, [Ttrace_ratio, Ttrace_ratio], [(.int .i64)], fun x => trace_ratio_cmp x.1 x.2⟩
noncomputable abbrev sg_trace_ratio_between : Sig := ⟨159, [Ttrace_ratio, Ttrace_ratio, Ttrace_ratio], [.bool], fun x => trace_ratio_between x.1 x.2.1 x.2.2⟩
noncomputable abbrev sg_trace_strip_has : Sig := ⟨176, [(.slice Ttrace_section), (.int .i64)], [.bool], fun x => trace_strip_has x.1 x.2⟩
noncomputable abbrev sg_trace_isPosition : Sig := ⟨194, [(.int .i64)], [.bool], fun x => trace_isPosition x⟩
noncomputable abbrev sg_slices_IndexFunc_int : Sig := ⟨238, [(.slice (.int .i64)), (.fn (.int .i64) .bool)], [(.int .i64)], fun x => slices_IndexFunc_int x.1 x.2⟩
noncomputable abbrev sg_slices_ContainsFunc_int : Sig := ⟨227, [(.slice (.int .i64)), (.fn (.int .i64) .bool)], [.bool], fun x => slices_ContainsFunc_int x.1 x.2⟩
noncomputable abbrev sg_trace_strip_step_1 : Sig := ⟨228, [(.int .i64)], [.bool], fun x => trace_strip_step_1 x⟩
noncomputable abbrev sg_trace_section_length : Sig := ⟨116, [Ttrace_section], [Ttrace_ratio], fun x => trace_section_length x⟩
noncomputable abbrev sg_trace_ratio_times : Sig := ⟨137, [Ttrace_ratio, Ttrace_ratio], [Ttrace_ratio], fun x => trace_ratio_times x.1 x.2⟩
noncomputable abbrev sg_trace_quotient : Sig := ⟨174, [(.int .i64), (.int .i64)], [Ttrace_ratio], fun x => trace_quotient x.1 x.2⟩
noncomputable abbrev sg_trace_strip_rolled : Sig := ⟨229, [(.slice Ttrace_section), (.slice (.int .i64))], [(.slice Ttrace_section)], fun x => trace_strip_rolled x.1 x.2⟩
noncomputable abbrev sg_trace_strip_cut : Sig := ⟨230, [(.slice Ttrace_section), (.int .i64), (.int .i64)], [(.slice Ttrace_section)], fun x => trace_strip_cut x.1 x.2.1 x.2.2⟩
noncomputable abbrev sg_trace_ratio_frac : Sig := ⟨117, [Ttrace_ratio], [Tapi_Frac, .bool], fun x => trace_ratio_frac x⟩
noncomputable abbrev sg_trace_strip_isSmall : Sig := ⟨231, [(.slice Ttrace_section)], [.bool], fun x => trace_strip_isSmall x⟩
noncomputable abbrev sg_trace_strip_step : Sig := ⟨200, [(.slice Ttrace_section), Tapi_TraceStep], [(.slice Ttrace_section), (.int .i64)], fun x => trace_strip_step x.1 x.2⟩
noncomputable abbrev sg_trace_open : Sig := ⟨135, [Tapi_TraceCourse], [Ttrace_course, (.int .i64), (.int .i64)], fun x => trace_open x⟩
noncomputable abbrev sg_trace_opened : Sig := ⟨93, [Tapi_TraceCourse, (.slice (.int .i64))], [Ttrace_course, (.int .i64)], fun x => trace_opened x.1 x.2⟩
noncomputable abbrev sg_trace_course_last : Sig := ⟨97, [Ttrace_course], [(.slice Ttrace_section)], fun x => trace_course_last x⟩
noncomputable abbrev sg_trace_small : Sig := ⟨101, [Ttrace_ratio], [Tapi_Frac, (.int .i64)], fun x => trace_small x⟩
noncomputable abbrev sg_trace_strip_slabAt : Sig := ⟨102, [(.slice Ttrace_section), Ttrace_ratio], [Ttrace_ratio], fun x => trace_strip_slabAt x.1 x.2⟩
noncomputable abbrev sg_trace_PiecesOf : Sig := ⟨18, [Tapi_TraceCourse, (.int .i64)], [(.slice Tapi_Span), (.int .i64)], fun x => trace_PiecesOf x.1 x.2⟩
noncomputable abbrev sg_trace_course_readingErr : Sig := ⟨105, [Ttrace_course, Tapi_TraceReading], [(.int .i64)], fun x => trace_course_readingErr x.1 x.2⟩
noncomputable abbrev sg_trace_strip_at : Sig := ⟨143, [(.slice Ttrace_section), Ttrace_ratio], [Ttrace_ratio, .bool], fun x => trace_strip_at x.1 x.2⟩
noncomputable abbrev sg_trace_course_place : Sig := ⟨107, [Ttrace_course, Tapi_TraceReading, (.int .i64)], [Ttrace_ratio, .bool], fun x => trace_course_place x.1 x.2.1 x.2.2⟩
noncomputable abbrev sg_trace_PlaceOf : Sig := ⟨23, [Tapi_TraceCourse, Tapi_TraceReading, (.int .i64)], [Tapi_Frac, (.int .i64)], fun x => trace_PlaceOf x.1 x.2.1 x.2.2⟩
noncomputable abbrev sg_slices_IndexFunc_apiTraceCause : Sig := ⟨195, [(.slice Tapi_TraceCause), (.fn Tapi_TraceCause .bool)], [(.int .i64)], fun x => slices_IndexFunc_apiTraceCause x.1 x.2⟩
noncomputable abbrev sg_slices_ContainsFunc_apiTraceCause : Sig := ⟨127, [(.slice Tapi_TraceCause), (.fn Tapi_TraceCause .bool)], [.bool], fun x => slices_ContainsFunc_apiTraceCause x.1 x.2⟩
noncomputable abbrev sg_trace_openCauses_1 : Sig := ⟨192, [Tapi_TraceCause, (.ptr Tapi_TraceCause)], [.bool], fun x => trace_openCauses_1 x.1 x.2⟩
noncomputable abbrev sg_trace_openCauses : Sig := ⟨125, [Tapi_TraceCourse, (.slice Tapi_TraceCause)], [Ttrace_course, (.int .i64), (.int .i64)], fun x => trace_openCauses x.1 x.2⟩
noncomputable abbrev sg_trace_course_openReadings : Sig := ⟨133, [Ttrace_course, (.slice Tapi_TraceReading)], [(.int .i64)], fun x => trace_course_openReadings x.1 x.2⟩
noncomputable abbrev sg_trace_ratio_over : Sig := ⟨196, [Ttrace_ratio, Ttrace_ratio], [Ttrace_ratio], fun x => trace_ratio_over x.1 x.2⟩
noncomputable abbrev sg_trace_ratio_floor : Sig := ⟨197, [Ttrace_ratio], [Ttrace_ratio], fun x => trace_ratio_floor x⟩
noncomputable abbrev sg_trace_course_predicts : Sig := ⟨129, [Ttrace_course, Tapi_TraceCause, Tapi_TraceReading], [.bool], fun x => trace_course_predicts x.1 x.2.1 x.2.2⟩
noncomputable abbrev sg_trace_course_evidenceOf : Sig := ⟨134, [Ttrace_course, (.slice Tapi_TraceCause), (.slice Tapi_TraceReading)], [Ttrace_evidence], fun x => trace_course_evidenceOf x.1 x.2.1 x.2.2⟩
noncomputable abbrev sg_trace_openEvidence : Sig := ⟨108, [Tapi_TraceCourse, (.slice Tapi_TraceCause), (.slice Tapi_TraceReading)], [Ttrace_course, Ttrace_evidence, (.int .i64)], fun x => trace_openEvidence x.1 x.2.1 x.2.2⟩
noncomputable abbrev sg_bits_OnesCount32 : Sig := ⟨221, [(.int .u32)], [(.int .i64)], fun x => bits_OnesCount32 x⟩
noncomputable abbrev sg_bits_OnesCount64 : Sig := ⟨222, [(.int .u64)], [(.int .i64)], fun x => bits_OnesCount64 x⟩
noncomputable abbrev sg_bits_OnesCount : Sig := ⟨177, [(.int .u64)], [(.int .i64)], fun x => bits_OnesCount x⟩
noncomputable abbrev sg_trace_set_has : Sig := ⟨178, [(.int .u64), (.int .i64)], [.bool], fun x => trace_set_has x.1 x.2⟩
noncomputable abbrev sg_trace_evidence_firstWrong : Sig := ⟨126, [Ttrace_evidence, (.int .u64), (.int .u64)], [(.int .i64)], fun x => trace_evidence_firstWrong x.1 x.2.1 x.2.2⟩
noncomputable abbrev sg_trace_evidence_every : Sig := ⟨110, [Ttrace_evidence], [(.int .u64)], fun x => trace_evidence_every x⟩
noncomputable abbrev sg_trace_set_list : Sig := ⟨111, [(.int .u64)], [(.slice (.int .i64))], fun x => trace_set_list x⟩
noncomputable abbrev sg_trace_Explanations : Sig := ⟨28, [Tapi_TraceCourse, (.slice Tapi_TraceCause), (.slice Tapi_TraceReading)], [(.slice (.slice (.int .i64))), (.int .i64)], fun x => trace_Explanations x.1 x.2.1 x.2.2⟩
noncomputable abbrev sg_b0_Ints : Sig := ⟨37, [(.slice (.int .i64)), (.slice (.int .i64))], [.bool], fun x => b0_Ints x.1 x.2⟩
noncomputable abbrev sg_b0_Lists : Sig := ⟨35, [(.slice (.slice (.int .i64))), (.slice (.slice (.int .i64)))], [.bool], fun x => b0_Lists x.1 x.2⟩
noncomputable abbrev sg_l9_Course : Sig := ⟨89, [], [Tapi_TraceCourse], fun _ => l9_Course⟩
noncomputable abbrev sg_l9_Causes : Sig := ⟨90, [], [(.slice Tapi_TraceCause)], fun _ => l9_Causes⟩
noncomputable abbrev sg_trace_written : Sig := ⟨168, [Tapi_Frac], [.str], fun x => trace_written x⟩
noncomputable abbrev sg_trace_ReportOf : Sig := ⟨91, [Tapi_TraceCourse, (.slice Tapi_TraceReading)], [.str, (.int .i64)], fun x => trace_ReportOf x.1 x.2⟩
noncomputable abbrev sg_b0_Whole : Sig := ⟨92, [(.int .i64)], [Tapi_Frac], fun x => b0_Whole x⟩
noncomputable abbrev sg_l9_awake : Sig := ⟨14, [], [.bool], fun _ => l9_awake⟩
noncomputable abbrev sg_l9_Few : Sig := ⟨15, [Tapi_TraceCourse], [.bool], fun x => l9_Few x⟩
noncomputable abbrev sg_b0_CopyInts : Sig := ⟨103, [(.slice (.int .i64))], [(.slice (.int .i64))], fun x => b0_CopyInts x⟩
noncomputable abbrev sg_r9_CopyCourse : Sig := ⟨19, [Tapi_TraceCourse], [Tapi_TraceCourse], fun x => r9_CopyCourse x⟩
noncomputable abbrev sg_b0_Within : Sig := ⟨17, [(.int .i64), (.int .i64), (.int .i64)], [.bool], fun x => b0_Within x.1 x.2.1 x.2.2⟩
noncomputable abbrev sg_b0_IsName : Sig := ⟨130, [.str], [.bool], fun x => b0_IsName x⟩
noncomputable abbrev sg_b0_Size : Sig := ⟨175, [(.int .i64)], [(.int .i64)], fun x => b0_Size x⟩
noncomputable abbrev sg_b0_trimmed : Sig := ⟨223, [(.slice (.int .i64))], [(.slice (.int .i64))], fun x => b0_trimmed x⟩
noncomputable abbrev sg_b0_wideOf : Sig := ⟨183, [(.int .i64), (.slice (.int .i64))], [Tb0_Wide], fun x => b0_wideOf x.1 x.2⟩
noncomputable abbrev sg_b0_WideOf : Sig := ⟨118, [(.int .i64)], [Tb0_Wide], fun x => b0_WideOf x⟩
noncomputable abbrev sg_b0_RatioInt : Sig := ⟨39, [(.int .i64)], [Tb0_Ratio], fun x => b0_RatioInt x⟩
noncomputable abbrev sg_r9_slab : Sig := ⟨138, [Tapi_TraceCourse], [(.slice Tr9_Section)], fun x => r9_slab x⟩
noncomputable abbrev sg_b0_WideMul : Sig := ⟨121, [Tb0_Wide, Tb0_Wide], [Tb0_Wide], fun x => b0_WideMul x.1 x.2⟩
noncomputable abbrev sg_b0_digit : Sig := ⟨225, [(.slice (.int .i64)), (.int .i64)], [(.int .i64)], fun x => b0_digit x.1 x.2⟩
noncomputable abbrev sg_b0_addDigits : Sig := ⟨188, [(.slice (.int .i64)), (.slice (.int .i64))], [(.slice (.int .i64))], fun x => b0_addDigits x.1 x.2⟩
noncomputable abbrev sg_b0_cmpDigits : Sig := ⟨189, [(.slice (.int .i64)), (.slice (.int .i64))], [(.int .i64)], fun x => b0_cmpDigits x.1 x.2⟩
noncomputable abbrev sg_b0_subDigits : Sig := ⟨190, [(.slice (.int .i64)), (.slice (.int .i64))], [(.slice (.int .i64))], fun x => b0_subDigits x.1 x.2⟩
noncomputable abbrev sg_b0_WideAdd : Sig := ⟨120, [Tb0_Wide, Tb0_Wide], [Tb0_Wide], fun x => b0_WideAdd x.1 x.2⟩
noncomputable abbrev sg_b0_WideNeg : Sig := ⟨185, [Tb0_Wide], [Tb0_Wide], fun x => b0_WideNeg x⟩
noncomputable abbrev sg_b0_WideSub : Sig := ⟨191, [Tb0_Wide, Tb0_Wide], [Tb0_Wide], fun x => b0_WideSub x.1 x.2⟩
noncomputable abbrev sg_b0_WideCmp : Sig := ⟨124, [Tb0_Wide, Tb0_Wide], [(.int .i64)], fun x => b0_WideCmp x.1 x.2⟩
noncomputable abbrev sg_b0_RatioCmp : Sig := ⟨43, [Tb0_Ratio, Tb0_Ratio], [(.int .i64)], fun x => b0_RatioCmp x.1 x.2⟩
noncomputable abbrev sg_b0_WideSign : Sig := ⟨184, [Tb0_Wide], [(.int .i64)], fun x => b0_WideSign x⟩
noncomputable abbrev sg_b0_WideFloor : Sig := ⟨187, [Tb0_Wide, Tb0_Wide], [Tb0_Wide], fun x => b0_WideFloor x.1 x.2⟩
noncomputable abbrev sg_b0_wideSize : Sig := ⟨224, [Tb0_Wide], [Tb0_Wide], fun x => b0_wideSize x⟩
noncomputable abbrev sg_b0_wideGcd : Sig := ⟨186, [Tb0_Wide, Tb0_Wide], [Tb0_Wide], fun x => b0_wideGcd x.1 x.2⟩
noncomputable abbrev sg_b0_RatioMake : Sig := ⟨119, [Tb0_Wide, Tb0_Wide], [Tb0_Ratio], fun x => b0_RatioMake x.1 x.2⟩
noncomputable abbrev sg_b0_RatioAdd : Sig := ⟨40, [Tb0_Ratio, Tb0_Ratio], [Tb0_Ratio], fun x => b0_RatioAdd x.1 x.2⟩
noncomputable abbrev sg_r9_Strip_Length : Sig := ⟨64, [(.slice Tr9_Section)], [Tb0_Ratio], fun x => r9_Strip_Length x⟩
noncomputable abbrev sg_r9_Strip_Ends : Sig := ⟨147, [(.slice Tr9_Section)], [(.slice Tb0_Ratio)], fun x => r9_Strip_Ends x⟩
noncomputable abbrev sg_b0_RatioOf : Sig := ⟨122, [(.int .i64), (.int .i64)], [Tb0_Ratio], fun x => b0_RatioOf x.1 x.2⟩
noncomputable abbrev sg_b0_RatioMul : Sig := ⟨123, [Tb0_Ratio, Tb0_Ratio], [Tb0_Ratio], fun x => b0_RatioMul x.1 x.2⟩
noncomputable abbrev sg_r9_pass : Sig := ⟨205, [(.slice Tr9_Section), (.slice (.int .i64))], [(.slice Tr9_Section)], fun x => r9_pass x.1 x.2⟩
noncomputable abbrev sg_b0_RatioNeg : Sig := ⟨212, [Tb0_Ratio], [Tb0_Ratio], fun x => b0_RatioNeg x⟩
noncomputable abbrev sg_b0_RatioSub : Sig := ⟨153, [Tb0_Ratio, Tb0_Ratio], [Tb0_Ratio], fun x => b0_RatioSub x.1 x.2⟩
noncomputable abbrev sg_r9_cut : Sig := ⟨206, [(.slice Tr9_Section), (.int .i64), (.int .i64)], [(.slice Tr9_Section)], fun x => r9_cut x.1 x.2.1 x.2.2⟩
noncomputable abbrev sg_b0_IsSmall : Sig := ⟨21, [Tapi_Frac], [.bool], fun x => b0_IsSmall x⟩
noncomputable abbrev sg_b0_WideInt : Sig := ⟨208, [Tb0_Wide], [(.int .i64), .bool], fun x => b0_WideInt x⟩
noncomputable abbrev sg_b0_RatioFrac : Sig := ⟨141, [Tb0_Ratio], [Tapi_Frac, .bool], fun x => b0_RatioFrac x⟩
noncomputable abbrev sg_r9_isSmall : Sig := ⟨207, [Tb0_Ratio], [.bool], fun x => r9_isSmall x⟩
noncomputable abbrev sg_r9_stepErr : Sig := ⟨139, [(.slice Tr9_Section), Tapi_TraceStep], [(.slice Tr9_Section), (.int .i64)], fun x => r9_stepErr x.1 x.2⟩
noncomputable abbrev sg_r9_CheckCourse : Sig := ⟨58, [Tapi_TraceCourse], [(.int .i64), (.int .i64)], fun x => r9_CheckCourse x⟩
noncomputable abbrev sg_r9_CourseErr : Sig := ⟨16, [Tapi_TraceCourse], [(.int .i64)], fun x => r9_CourseErr x⟩
noncomputable abbrev sg_r9_StepsErr : Sig := ⟨59, [Tapi_TraceCourse, (.int .i64)], [(.int .i64)], fun x => r9_StepsErr x.1 x.2⟩
noncomputable abbrev sg_r9_strips : Sig := ⟨140, [Tapi_TraceCourse, (.int .i64)], [(.slice (.slice Tr9_Section))], fun x => r9_strips x.1 x.2⟩
noncomputable abbrev sg_r9_After : Sig := ⟨60, [Tapi_TraceCourse, (.int .i64)], [(.slice Tr9_Section)], fun x => r9_After x.1 x.2⟩
end Go.Lift
