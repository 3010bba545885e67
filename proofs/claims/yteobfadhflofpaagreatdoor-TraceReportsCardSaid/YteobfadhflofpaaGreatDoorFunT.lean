/-
  The types, notes and signatures of these functions.
-/
import Derived.Test.YteobfadhflofpaaGreatDoorFunF
import Derived.Test.YteobfadhflofpaaGreatDoorFunG
import Derived.Test.YteobfadhflofpaaGreatDoorFunCb
import Derived.Test.YteobfadhflofpaaGreatDoorLiftN
import Derived.Test.YteobfadhflofpaaGreatDoorFunSr
import Derived.Test.YteobfadhflofpaaGreatDoorFunRp
import Derived.Test.YteobfadhflofpaaGreatDoorLiftL
import Derived.Lib.ItoaNum
import Derived.KernelRfl
import Derived.Test.YteobfadhflofpaaGreatDoorProg
set_option linter.unusedSectionVars false
set_option linter.unusedVariables false
set_option linter.unusedSimpArgs false
namespace Go.Lift
open Go Go.Proofs
instance : Tab := tabsVars [(0, .u64, Lib.pow10Tab)] [(1, false), (4, true), (5, true)]
def tyTab : List (Nat × Ty) := [
  (2, (.int .i64)),
  (3, (.int .i64)),
  (4, .bool),
  (5, (.int .u8)),
  (6, (.int .u8)),
  (7, Truntime_boundsError),
  (8, Truntime_boundsError),
  (9, .str),
  (10, .str),
  (11, .str),
  (12, (.int .u64)),
  (13, Truntime_errorAddressString),
  (14, Truntime_errorAddressString),
  (21, (.int .i32)),
  (22, (.slice (.int .i64))),
  (23, (.slice Tapi_TraceStep)),
  (24, Tapi_TraceCourse),
  (25, Tapi_TraceCourse),
  (27, (.fn Tapi_TraceCourse .bool)),
  (28, (.fn Tapi_TraceCourse .str)),
  (29, (.fn Tapi_TraceCourse Tapi_TraceCourse)),
  (30, (.int .i64)),
  (37, (.slice Tapi_TraceReading)),
  (40, (.fn (.slice Tapi_TraceReading) (.slice Tapi_TraceReading))),
  (41, (.fn Tapi_TraceCourse (.int .i64))),
  (46, Tapi_Frac),
  (47, Tapi_Frac),
  (51, Tapi_TraceReading),
  (52, Tapi_TraceReading),
  (53, (.slice Tapi_Span)),
  (56, (.slice (.slice (.int .i64)))),
  (59, (.slice Tapi_TraceCause)),
  (61, (.fn (.int .i64) Tapi_Frac)),
  (62, Tapi_Span),
  (63, Tapi_Span),
  (65, Tapi_TraceStep),
  (66, Tapi_TraceStep),
  (67, (.slice .str)),
  (68, (.fn (.int .i64) .str)),
  (71, (.fn (.slice (.int .i64)) .str)),
  (72, (.fn (.slice (.int .i64)) (.slice (.int .i64)))),
  (74, (.seq .str)),
  (75, (.seq .str)),
  (87, (.slice (.slice Ttrace_section))),
  (88, Ttrace_course),
  (89, Ttrace_course),
  (92, (.fn (.slice Tapi_TraceReading) (.int .i64))),
  (94, (.slice (.int .u32))),
  (95, (.slice (.int .u32))),
  (96, Ttrace_ratio),
  (97, Ttrace_ratio),
  (98, (.slice Ttrace_section)),
  (99, (.slice Ttrace_section)),
  (102, (.fn Tapi_Frac .str)),
  (103, (.arr 2 (.int .i64))),
  (111, Tb0_Wide),
  (112, Tb0_Wide),
  (113, Tb0_Ratio),
  (114, Tb0_Ratio),
  (115, (.slice Tr9_Section)),
  (116, (.slice Tr9_Section)),
  (121, (.fn (.slice (.int .i64)) (.int .i64))),
  (122, (.fn Tapi_TraceReading (.int .i64))),
  (123, (.fn (.int .i64) (.int .i64))),
  (126, (.fn Ttrace_ratio (.int .i64))),
  (127, (.fn (.int .i64) Ttrace_ratio)),
  (128, (.fn Ttrace_ratio Ttrace_ratio)),
  (129, (.slice (.int .u64))),
  (130, (.slice .bool)),
  (131, Ttrace_evidence),
  (132, Ttrace_evidence),
  (135, (.fn (.int .u64) (.slice (.int .u64)))),
  (136, (.int .u64)),
  (137, (.int .u64)),
  (140, Tapi_TraceCause),
  (141, Tapi_TraceCause),
  (143, (.slice (.int .u8))),
  (148, .err),
  (159, (.fn (.int .i64) (.int .i64))),
  (161, (.arr 2 Ttrace_ratio)),
  (162, Ttrace_section),
  (163, Ttrace_section),
  (165, (.fn .str .bool)),
  (166, (.fn Tapi_TraceCourse (.slice Tr9_Section))),
  (171, (.fn (.int .i64) Tb0_Ratio)),
  (173, (.fn Tapi_Frac .bool)),
  (174, (.slice (.slice Tr9_Section))),
  (177, Tr9_Section),
  (178, Tr9_Section),
  (181, (.slice (.int .i64))),
  (182, (.fn (.int .i64) .bool)),
  (183, (.fn (.int .u64) (.slice (.int .u32)))),
  (184, (.int .u64)),
  (185, (.fn (.int .i64) (.int .u64))),
  (186, (.int .u32)),
  (191, (.seq (.int .u64))),
  (192, (.fn (.int .i64) (.seq (.int .u64)))),
  (193, (.fn (.int .u64) (.int .i64))),
  (204, (.fn (.slice (.int .u32)) (.int .i64))),
  (207, (.slice Tb0_Ratio)),
  (209, (.fn Tb0_Ratio .bool)),
  (212, (.fn (.int .i64) Tb0_Wide)),
  (215, (.fn (.slice (.int .u32)) (.slice (.int .u32)))),
  (218, (.fn Tapi_TraceCause .bool)),
  (220, (.fn (.int .u64) .bool)),
  (222, (.fn (.int .u32) (.int .i64))),
  (223, (.fn (.int .u64) (.int .i64))),
  (224, (.arr 24 (.int .u8))),
  (230, (.fn (.int .i64) (.slice (.int .u8)))),
  (231, (.fn .str (.int .i64))),
  (233, (.int .i64)),
  (240, (.fn (.slice (.int .i64)) (.slice Ttrace_section))),
  (244, (.fn Tb0_Wide (.int .i64))),
  (245, (.fn Tb0_Wide Tb0_Wide)),
  (248, (.fn Tb0_Ratio Tb0_Ratio)),
  (253, (.fn .bool (.int .i64))),
  (254, (.arr 20 (.int .u64))),
  (255, (.arr 65 (.int .u8))),
  (256, (.arr 256 (.int .u8))),
  (257, Tutf8_acceptRange),
  (258, Tutf8_acceptRange),
  (259, (.arr 16 Tutf8_acceptRange)),
  (262, (.fn .str .str)),
  (263, Tstrconv_NumError),
  (264, Tstrconv_NumError),
  (265, (.fn .str .err)),
  (268, (.fn (.int .i64) (.slice (.int .u32)))),
  (271, (.fn (.int .u8) (.int .u8))),
  (273, Terrors_errorString),
  (274, Terrors_errorString),
  (275, (.arr 32 (.int .u8))),
  (276, (.arr 64 (.int .u8))),
  (282, (.int .u8)),
  (283, (.int .u8)),
  (285, (.int .i32)),
  (286, (.int .i32))]
def nfTab : List (Nat × Nat) := [(7, 4), (8, 4), (13, 2), (14, 2), (24, 4), (25, 4), (46, 2), (47, 2), (51, 3), (52, 3), (62, 2), (63, 2), (65, 4), (66, 4), (88, 2), (89, 2), (96, 3), (97, 3), (111, 2), (112, 2), (113, 2), (114, 2), (131, 3), (132, 3), (140, 5), (141, 5), (162, 4), (163, 4), (177, 2), (178, 2), (257, 2), (258, 2), (263, 3), (264, 3), (273, 1), (274, 1)]
def eqTab : List Nat := [9, 47, 63]
theorem tys_ok : tysOk Tryz.prog tyTab = true := by kernel_rfl
theorem nfs_ok : nfsOk Tryz.prog tyTab nfTab = true := by kernel_rfl
theorem eqs_ok : eqsOk Tryz.prog tyTab eqTab = true := by kernel_rfl
theorem prog_mixed : Tryz.prog.follows .mixedOrders = true := by kernel_rfl
abbrev cx (own : List Nat) (l : List Sig) : Ctx := cxOf tyTab nfTab eqTab own l
abbrev cxI (own : List Nat) (its : List (Nat × ItSig)) (l : List Sig) : Ctx := cxIter tyTab nfTab eqTab own its l
def an_trace_first : Ann := (.seq .nil (.seq (.seq .nil (.blk (.loopBD ⟨[⟨false, 7, 0, (.int .i64), [], false⟩], []⟩ ⟨[], []⟩ 0 .nil))) .nil))
def an_trace_unless : Ann := .nil
def an_trace_within : Ann := .nil
def an_trace_course_stepsErr : Ann := .nil
def an_trace_trimmed : Ann := (.seq .nil (.seq (.blk (.loopB ⟨[⟨false, 0, 0, (.slice (.int .u32)), [], false⟩], []⟩ ⟨[⟨false, 0, 0, (.slice (.int .u32)), [], false⟩], []⟩ 0 .nil)) .nil))
def an_trace_naturalOf : Ann := .nil
def an_trace_size : Ann := .nil
def an_trace_whole : Ann := .nil
def an_trace_isName : Ann := (.seq .nil (.seq (.seq .nil (.blk (.loopBD ⟨[⟨false, 9, 0, (.int .i64), [], false⟩], []⟩ ⟨[], []⟩ 0 .nil))) .nil))
def an_trace_isArea : Ann := .nil
def an_trace_strip_length : Ann := .nil
def an_trace_natural_cmp : Ann := (.seq .nil (.seq .nil (.seq (.seq .nil (.blk (.loopBD ⟨[⟨false, 5, 0, (.int .i64), [], false⟩], []⟩ ⟨[], []⟩ 0 .nil))) .nil)))
def an_trace_natural_digit : Ann := .nil
def an_trace_natural_times : Ann := (.seq .nil (.seq .nil (.seq (.seq .nil (.blk (.loopB ⟨[⟨false, 18, 0, (.int .i64), [], false⟩, ⟨true, 15, 95, (.slice (.int .u32)), [], true⟩], []⟩ ⟨[⟨true, 15, 95, (.slice (.int .u32)), [], true⟩], []⟩ 0 (.seq .nil (.seq .nil (.seq (.blk (.seq .nil (.seq .nil (.seq .nil (.blk (.loopB ⟨[⟨false, 7, 0, (.int .u64), [], false⟩, ⟨false, 24, 0, (.int .i64), [], false⟩, ⟨true, 15, 95, (.slice (.int .u32)), [], true⟩], []⟩ ⟨[⟨true, 15, 95, (.slice (.int .u32)), [], true⟩], []⟩ 2 .nil)))))) .nil)))))) (.seq (.frz 15 .nil) .nil))))
def an_trace_natural_plus : Ann := (.seq .nil (.seq .nil (.seq .nil (.seq (.seq .nil (.blk (.loopB ⟨[⟨false, 5, 0, (.slice (.int .u32)), [([], some 101000500)], false⟩, ⟨false, 6, 0, (.int .u64), [], false⟩, ⟨false, 14, 0, (.int .i64), [], false⟩], []⟩ ⟨[⟨false, 5, 0, (.slice (.int .u32)), [([], some 201000500)], false⟩], []⟩ 0 .nil))) .nil))))
def an_trace_natural_minus : Ann := (.seq .nil (.seq .nil (.seq .nil (.seq (.seq .nil (.blk (.loopB ⟨[⟨false, 5, 0, (.slice (.int .u32)), [([], some 101000500)], false⟩, ⟨false, 6, 0, (.int .u64), [], false⟩, ⟨false, 11, 0, (.int .i64), [], false⟩], []⟩ ⟨[⟨false, 5, 0, (.slice (.int .u32)), [([], some 201000500)], false⟩], []⟩ 0 .nil))) .nil))))
def an_bits_Len32 : Ann := (.seq .nil (.seq (.seq .nil (.join ⟨[⟨false, 0, 0, (.int .u32), [], false⟩, ⟨false, 2, 0, (.int .i64), [], false⟩], []⟩ .nil .nil)) (.seq (.seq .nil (.join ⟨[⟨false, 0, 0, (.int .u32), [], false⟩, ⟨false, 2, 0, (.int .i64), [], false⟩], []⟩ .nil .nil)) .nil)))
def an_trace_natural_length : Ann := .nil
def an_trace_natural_shifted : Ann := (.seq .nil (.seq .nil (.seq .nil (.seq (.seq .nil (.blk (.loopB ⟨[⟨false, 5, 0, (.slice (.int .u32)), [([], some 101000500)], false⟩, ⟨false, 6, 0, (.int .u64), [], false⟩, ⟨false, 14, 0, (.int .i64), [], false⟩], []⟩ ⟨[⟨false, 5, 0, (.slice (.int .u32)), [([], some 201000500)], false⟩], []⟩ 0 .nil))) .nil))))
def an_trace_natural_divided : Ann := (.seq .nil (.seq .nil (.seq (.seq .nil (.blk (.loopB ⟨[⟨false, 4, 0, (.slice (.int .u32)), [], false⟩, ⟨false, 5, 0, (.slice (.int .u32)), [], false⟩, ⟨false, 6, 0, (.int .i64), [], false⟩], []⟩ ⟨[⟨false, 4, 0, (.slice (.int .u32)), [], false⟩, ⟨false, 5, 0, (.slice (.int .u32)), [], false⟩], []⟩ 0 (.seq .nil (.seq (.blk (.seq .nil (.seq .nil (.seq .nil (.join ⟨[⟨false, 4, 0, (.slice (.int .u32)), [], false⟩, ⟨false, 5, 0, (.slice (.int .u32)), [], false⟩], []⟩ .nil .nil))))) .nil))))) .nil)))
def an_trace_divisor : Ann := (.seq .nil (.seq (.blk (.loopB ⟨[⟨false, 0, 0, (.slice (.int .u32)), [], false⟩, ⟨false, 1, 0, (.slice (.int .u32)), [], false⟩], []⟩ ⟨[⟨false, 0, 0, (.slice (.int .u32)), [], false⟩], []⟩ 0 .nil)) .nil))
def an_trace_ratioOf : Ann := .nil
def an_trace_ratio_plus : Ann := .nil
def an_trace_ratio_opposite : Ann := .nil
def an_trace_ratio_minus : Ann := .nil
def an_trace_ratio_cmp : Ann := .nil
def an_trace_ratio_between : Ann := .nil
def an_trace_strip_has : Ann := .nil
def an_trace_isPosition : Ann := .nil
def an_slices_IndexFunc_int : Ann := (.seq .nil (.seq (.seq .nil (.blk (.loopBD ⟨[⟨false, 8, 0, (.int .i64), [], false⟩], []⟩ ⟨[], []⟩ 0 .nil))) .nil))
def an_slices_ContainsFunc_int : Ann := .nil
def an_trace_strip_step_1 : Ann := .nil
def an_trace_ratio_times : Ann := .nil
def an_trace_quotient : Ann := .nil
def an_trace_section_length : Ann := .nil
def an_trace_strip_rolled : Ann := (.seq .nil (.seq .nil (.seq .nil (.seq (.seq .nil (.blk (.loopB ⟨[⟨false, 5, 0, (.slice Ttrace_section), [([], some 101000500)], false⟩, ⟨false, 13, 0, (.int .i64), [], false⟩, ⟨true, 6, 97, Ttrace_ratio, [], false⟩], []⟩ ⟨[⟨false, 5, 0, (.slice Ttrace_section), [([], some 201000500)], false⟩], []⟩ 0 .nil))) .nil))))
def an_trace_strip_cut : Ann := (.seq .nil (.seq .nil (.seq .nil (.seq (.seq .nil (.blk (.loopB ⟨[⟨false, 7, 0, (.slice Ttrace_section), [([], some 601000700)], false⟩, ⟨false, 22, 0, (.int .i64), [], false⟩], [8, 9]⟩ ⟨[⟨false, 7, 0, (.slice Ttrace_section), [([], some 1201000700)], false⟩], [8, 9]⟩ 0 (.seq .nil (.seq .nil (.seq (.blk (.seq .nil (.seq .nil (.seq (.seq .nil (.join ⟨[⟨true, 12, 161, (.arr 2 Ttrace_ratio), [], false⟩], [8, 9, 11, 601000700]⟩ .nil .nil)) (.seq (.seq .nil (.join ⟨[⟨true, 12, 161, (.arr 2 Ttrace_ratio), [], false⟩], [8, 9, 11, 601000700]⟩ .nil .nil)) (.seq .nil (.seq .nil (.seq (.seq .nil (.blk (.loopB ⟨[⟨false, 54, 0, (.int .i64), [], false⟩, ⟨true, 13, 163, Ttrace_section, [], false⟩], [8, 9, 11, 12, 601000700]⟩ ⟨[⟨true, 13, 163, Ttrace_section, [], false⟩], [8, 9, 11, 12, 601000700]⟩ 2 .nil))) .nil)))))))) .nil)))))) .nil))))
def an_trace_ratio_frac : Ann := (.seq .nil (.seq .nil (.seq .nil (.seq .nil (.seq (.seq .nil (.join ⟨[⟨false, 5, 0, (.int .i64), [], false⟩], [1, 2]⟩ .nil .nil)) .nil)))))
def an_trace_strip_isSmall : Ann := (.seq .nil (.seq (.seq .nil (.blk (.loopBD ⟨[⟨false, 11, 0, (.int .i64), [], false⟩], []⟩ ⟨[], []⟩ 0 .nil))) .nil))
def an_trace_strip_step : Ann := (.seq .nil (.seq .nil (.seq (.seq .nil (.blk (.seq .nil (.joinD ⟨[⟨false, 6, 0, (.slice Ttrace_section), [], false⟩], [3]⟩ .nil .nil)))) .nil)))
def an_trace_open : Ann := (.seq .nil (.seq .nil (.seq .nil (.seq .nil (.seq .nil (.seq .nil (.seq (.seq .nil (.blk (.loopBD ⟨[⟨false, 7, 0, (.slice Ttrace_section), [([], some 101000700)], false⟩, ⟨false, 8, 0, (.int .i64), [], false⟩, ⟨false, 50, 0, (.int .i64), [], false⟩], [1, 2, 5, 41]⟩ ⟨[⟨false, 7, 0, (.slice Ttrace_section), [([], some 201000700)], false⟩], [1, 2, 5, 41]⟩ 0 .nil))) (.seq .nil (.seq .nil (.seq (.seq .nil (.blk (.loopBD ⟨[⟨false, 106, 0, (.int .i64), [], false⟩, ⟨true, 5, 89, Ttrace_course, [([.snd], some 450000500)], false⟩], [1, 2, 41, 201000700]⟩ ⟨[⟨true, 5, 89, Ttrace_course, [([.snd], some 550000500)], false⟩], [1, 2, 41, 201000700]⟩ 2 .nil))) .nil))))))))))
def an_trace_opened : Ann := (.seq .nil (.seq .nil (.seq (.seq .nil (.blk (.loopB ⟨[⟨false, 8, 0, (.int .i64), [], false⟩, ⟨false, 19, 0, (.int .i64), [], false⟩], [2, 4, 6]⟩ ⟨[⟨false, 8, 0, (.int .i64), [], false⟩], [2, 4, 6]⟩ 0 .nil))) .nil)))
def an_trace_course_readingErr : Ann := .nil
def an_trace_course_openReadings : Ann := (.seq .nil (.seq .nil (.seq (.seq .nil (.blk (.loopBD ⟨[⟨false, 13, 0, (.int .i64), [], false⟩], [2]⟩ ⟨[], [2]⟩ 0 .nil))) .nil)))
def an_trace_small : Ann := .nil
def an_trace_course_last : Ann := .nil
def an_trace_written : Ann := .nil
def an_trace_strip_slabAt : Ann := (.seq .nil (.seq (.seq .nil (.blk (.loopBD ⟨[⟨false, 9, 0, (.int .i64), [], false⟩], [3, 4]⟩ ⟨[], [3, 4]⟩ 0 .nil))) .nil))
def an_trace_strip_at : Ann := (.seq .nil (.seq (.seq .nil (.blk (.loopBD ⟨[⟨false, 10, 0, (.int .i64), [], false⟩], [3, 4]⟩ ⟨[], [3, 4]⟩ 0 .nil))) .nil))
def an_trace_course_place : Ann := .nil
def an_trace_ReportOf : Ann := (.seq .nil (.seq .nil (.seq (.seq .nil (.join ⟨[⟨false, 7, 0, (.int .i64), [], false⟩], [2, 6]⟩ .nil .nil)) (.seq .nil (.seq .nil (.seq .nil (.seq .nil (.seq (.seq .nil (.blk (.loopBD ⟨[⟨false, 9, 0, (.slice .str), [([], some 601000900)], false⟩, ⟨false, 52, 0, (.int .i64), [], false⟩], [2, 6, 8]⟩ ⟨[⟨false, 9, 0, (.slice .str), [([], some 1501000900)], false⟩], [2, 6, 8]⟩ 0 (.seq .nil (.seq .nil (.seq (.blk (.seq .nil (.seq .nil (.seq (.seq .nil (.blk (.loopBD ⟨[⟨false, 12, 0, (.slice .str), [([], some 1701001200)], false⟩, ⟨false, 67, 0, (.int .i64), [], false⟩], [2, 6, 8, 11, 601000900]⟩ ⟨[⟨false, 12, 0, (.slice .str), [([], some 1801001200)], false⟩], [2, 6, 8, 11, 601000900]⟩ 2 .nil))) (.seq .nil (.seq (.seq .nil (.join ⟨[⟨false, 19, 0, .str, [], false⟩], [2, 6, 8, 11, 601000900, 1801001200]⟩ .nil .nil)) .nil)))))) .nil)))))) .nil))))))))
def an_trace_PlaceOf : Ann := (.seq .nil (.seq .nil (.seq (.seq .nil (.join ⟨[⟨false, 9, 0, (.int .i64), [], false⟩], [3, 4, 6, 8]⟩ .nil .nil)) .nil)))
def an_l9_Course : Ann := .nil
def an_trace_PiecesOf : Ann := (.seq .nil (.seq .nil (.seq .nil (.seq .nil (.seq .nil (.seq .nil (.seq (.seq .nil (.blk (.loopBD ⟨[⟨false, 9, 0, (.slice Tapi_Span), [([], some 201000900)], false⟩, ⟨false, 10, 0, (.int .i64), [], false⟩], [2, 6, 25]⟩ ⟨[⟨false, 9, 0, (.slice Tapi_Span), [([], some 401000900)], false⟩], [2, 6, 25]⟩ 0 (.seq .nil (.seq (.blk (.seq .nil (.seq (.seq .nil (.join ⟨[⟨true, 11, 97, Ttrace_ratio, [], false⟩], [2, 6, 25, 201000900]⟩ .nil .nil)) .nil))) .nil))))) .nil)))))))
def an_slices_IndexFunc_apiTraceCause : Ann := (.seq .nil (.seq (.seq .nil (.blk (.loopBD ⟨[⟨false, 8, 0, (.int .i64), [], false⟩], []⟩ ⟨[], []⟩ 0 .nil))) .nil))
def an_slices_ContainsFunc_apiTraceCause : Ann := .nil
def an_trace_openCauses_1 : Ann := .nil
def an_trace_openCauses : Ann := (.seq .nil (.seq .nil (.seq .nil (.seq (.seq .nil (.blk (.loopBD ⟨[⟨false, 31, 0, (.int .i64), [], false⟩], [2, 4, 7, 23]⟩ ⟨[], [2, 4, 7, 23]⟩ 0 (.seq .nil (.seq .nil (.seq (.blk (.seq .nil (.seq (.frz 10 .nil) .nil))) .nil)))))) .nil))))
def an_trace_ratio_over : Ann := .nil
def an_trace_ratio_floor : Ann := .nil
def an_trace_course_predicts : Ann := (.seq .nil (.seq .nil (.seq .nil (.seq .nil (.seq .nil (.seq (.seq .nil (.join ⟨[⟨true, 9, 97, Ttrace_ratio, [], false⟩], [3, 4, 5, 7]⟩ .nil .nil)) .nil))))))
def an_trace_course_evidenceOf : Ann := (.seq .nil (.seq .nil (.seq (.seq .nil (.blk (.loopB ⟨[⟨false, 18, 0, (.int .i64), [], false⟩, ⟨true, 7, 132, Ttrace_evidence, [([.snd, .fst], some 750000700), ([.snd, .snd], some 750000701)], false⟩], [3, 6]⟩ ⟨[⟨true, 7, 132, Ttrace_evidence, [([.snd, .fst], some 1450000700), ([.snd, .snd], some 1450000701)], false⟩], [3, 6]⟩ 0 (.seq .nil (.seq .nil (.seq (.blk (.seq .nil (.seq .nil (.seq (.seq .nil (.blk (.loopB ⟨[⟨false, 10, 0, (.int .u64), [], false⟩, ⟨false, 24, 0, (.int .i64), [], false⟩], [3, 6, 7, 9, 750000700, 750000701]⟩ ⟨[⟨false, 10, 0, (.int .u64), [], false⟩], [3, 6, 7, 9, 750000700, 750000701]⟩ 2 (.seq .nil (.seq .nil (.seq (.blk (.seq .nil (.seq .nil (.join ⟨[⟨false, 10, 0, (.int .u64), [], false⟩], [3, 6, 7, 9, 12, 750000700, 750000701]⟩ .nil .nil)))) .nil)))))) .nil)))) .nil)))))) .nil)))
def an_trace_openEvidence : Ann := (.seq .nil (.seq .nil (.seq (.seq .nil (.join ⟨[⟨false, 11, 0, (.int .i64), [], false⟩], [3, 6, 7, 9]⟩ .nil .nil)) .nil)))
def an_bits_OnesCount32 : Ann := .nil
def an_bits_OnesCount64 : Ann := .nil
def an_bits_OnesCount : Ann := .nil
def an_trace_set_has : Ann := .nil
def an_trace_evidence_firstWrong : Ann := (.seq .nil (.seq (.seq .nil (.blk (.loopBD ⟨[⟨false, 12, 0, (.int .i64), [], false⟩], [3]⟩ ⟨[], [3]⟩ 0 .nil))) .nil))
def an_trace_evidence_every : Ann := .nil
def an_trace_set_list : Ann := (.seq .nil (.seq .nil (.seq (.seq .nil (.blk (.loopB ⟨[⟨false, 3, 0, (.slice (.int .i64)), [([], some 201000300)], false⟩, ⟨false, 5, 0, (.int .i64), [], false⟩], []⟩ ⟨[⟨false, 3, 0, (.slice (.int .i64)), [([], some 401000300)], false⟩], []⟩ 0 (.seq .nil (.seq .nil (.seq (.blk (.seq .nil (.seq .nil (.join ⟨[⟨false, 3, 0, (.slice (.int .i64)), [([], some 501000300)], false⟩], []⟩ .nil .nil)))) .nil)))))) .nil)))
def an_trace_Explanations : Ann := (.seq .nil (.seq .nil (.seq .nil (.seq .nil (.seq (.seq .nil (.blk (.loopB ⟨[⟨false, 11, 0, (.slice (.slice (.int .i64))), [([], some 101001100)], false⟩, ⟨false, 30, 0, (.int .i64), [], false⟩], [3, 8, 9]⟩ ⟨[⟨false, 11, 0, (.slice (.slice (.int .i64))), [([], some 201001100)], false⟩], [3, 8, 9]⟩ 0 .nil))) .nil)))))
def an_l9_Causes : Ann := .nil
def an_b0_Whole : Ann := .nil
def an_b0_Ints : Ann := (.seq .nil (.seq .nil (.seq (.seq .nil (.blk (.loopBD ⟨[⟨false, 5, 0, (.int .i64), [], false⟩], []⟩ ⟨[], []⟩ 0 .nil))) .nil)))
def an_b0_Lists : Ann := (.seq .nil (.seq .nil (.seq (.seq .nil (.blk (.loopBD ⟨[⟨false, 5, 0, (.int .i64), [], false⟩], []⟩ ⟨[], []⟩ 0 .nil))) .nil)))
def an_l9_awake : Ann := .nil
def an_l9_Few : Ann := (.seq .nil (.seq .nil (.seq (.seq .nil (.blk (.loopBD ⟨[⟨false, 3, 0, (.int .i64), [], false⟩], [1]⟩ ⟨[], [1]⟩ 0 .nil))) .nil)))
def an_trace_at : Ann := .nil
def an_trace_numbers : Ann := (.seq .nil (.seq .nil (.seq (.seq .nil (.blk (.loopB ⟨[⟨false, 3, 0, (.slice .str), [([], some 101000300)], false⟩, ⟨false, 8, 0, (.int .i64), [], false⟩], []⟩ ⟨[⟨false, 3, 0, (.slice .str), [([], some 201000300)], false⟩], []⟩ 0 .nil))) .nil)))
def an_trace_FormatCourse : Ann := (.seq .nil (.seq .nil (.seq (.seq .nil (.blk (.loopB ⟨[⟨false, 3, 0, (.slice .str), [([], some 101000300)], false⟩, ⟨false, 15, 0, (.int .i64), [], false⟩], [1]⟩ ⟨[⟨false, 3, 0, (.slice .str), [([], some 201000300)], false⟩], [1]⟩ 0 .nil))) (.seq .nil (.seq (.seq .nil (.blk (.loopB ⟨[⟨false, 5, 0, (.slice .str), [([], some 401000500)], false⟩, ⟨false, 42, 0, (.int .i64), [], false⟩], [1, 201000300]⟩ ⟨[⟨false, 5, 0, (.slice .str), [([], some 501000500)], false⟩], [1, 201000300]⟩ 2 .nil))) .nil)))))
def an_b0_CopyInts : Ann := .nil
def an_r9_CopyCourse : Ann := (.seq .nil (.seq .nil (.seq (.seq .nil (.blk (.loopB ⟨[⟨false, 4, 0, (.int .i64), [], false⟩, ⟨true, 3, 25, Tapi_TraceCourse, [([.snd, .snd, .snd], some 150000300)], false⟩], [1, 2]⟩ ⟨[⟨true, 3, 25, Tapi_TraceCourse, [([.snd, .snd, .snd], some 250000300)], false⟩], [1, 2]⟩ 0 .nil))) .nil)))
def an_trace_parsed : Ann := (.seq .nil (.seq .nil (.seq (.seq .nil (.blk (.loopD ⟨[⟨true, 6, 22, (.slice (.int .i64)), [([], some 150000600)], false⟩], [4, 5]⟩ .nil))) .nil)))
def an_trace_stepOf : Ann := .nil
def an_trace_CheckCourse : Ann := .nil
def an_trace_ParseCourse : Ann := (.seq .nil (.seq .nil (.seq .nil (.seq .nil (.seq .nil (.seq (.seq .nil (.blk (.loopD ⟨[⟨true, 5, 25, Tapi_TraceCourse, [([.snd, .fst], some 150000500), ([.snd, .snd, .fst], some 150000501), ([.snd, .snd, .snd], some 150000502)], false⟩], [2, 3]⟩ .nil))) (.seq (.seq .nil (.blk (.loopBD ⟨[⟨false, 66, 0, (.int .i64), [], false⟩, ⟨true, 5, 25, Tapi_TraceCourse, [([.snd, .fst], some 350000500), ([.snd, .snd, .fst], some 350000501), ([.snd, .snd, .snd], some 350000502)], false⟩], [2, 3]⟩ ⟨[⟨true, 5, 25, Tapi_TraceCourse, [([.snd, .fst], some 450000500), ([.snd, .snd, .fst], some 450000501), ([.snd, .snd, .snd], some 450000502)], false⟩], [2, 3]⟩ 2 .nil))) .nil)))))))
def an_r9_SameCourse : Ann := (.seq .nil (.seq .nil (.seq (.seq .nil (.blk (.loopBD ⟨[⟨false, 5, 0, (.int .i64), [], false⟩], [2, 3]⟩ ⟨[], [2, 3]⟩ 0 .nil))) .nil)))
def an_r9_CopyReadings : Ann := .nil
def an_b0_IsName : Ann := (.seq .nil (.seq .nil (.seq (.seq .nil (.blk (.loopBD ⟨[⟨false, 3, 0, (.int .i64), [], false⟩], []⟩ ⟨[], []⟩ 0 .nil))) .nil)))
def an_b0_Within : Ann := .nil
def an_b0_Size : Ann := .nil
def an_b0_trimmed : Ann := (.seq .nil (.seq .nil (.seq (.blk (.loopB ⟨[⟨false, 3, 0, (.int .i64), [], false⟩], []⟩ ⟨[⟨false, 3, 0, (.int .i64), [], false⟩], []⟩ 0 .nil)) .nil)))
def an_b0_wideOf : Ann := (.seq .nil (.seq .nil (.seq (.seq .nil (.join ⟨[⟨false, 0, 0, (.int .i64), [], false⟩], [4]⟩ .nil .nil)) .nil)))
def an_b0_WideOf : Ann := (.seq .nil (.seq .nil (.seq (.seq .nil (.join ⟨[⟨false, 3, 0, (.int .i64), [], false⟩], [2]⟩ .nil .nil)) (.seq .nil (.seq (.blk (.loopB ⟨[⟨false, 0, 0, (.int .i64), [], false⟩, ⟨false, 4, 0, (.slice (.int .i64)), [([], some 201000400)], false⟩], [2]⟩ ⟨[⟨false, 4, 0, (.slice (.int .i64)), [([], some 301000400)], false⟩], [2]⟩ 0 .nil)) .nil)))))
def an_b0_RatioInt : Ann := .nil
def an_r9_slab : Ann := (.seq .nil (.seq .nil (.seq (.seq .nil (.blk (.loopB ⟨[⟨false, 3, 0, (.slice Tr9_Section), [([], some 101000300)], false⟩, ⟨false, 4, 0, (.int .i64), [], false⟩], [1]⟩ ⟨[⟨false, 3, 0, (.slice Tr9_Section), [([], some 201000300)], false⟩], [1]⟩ 0 .nil))) .nil)))
def an_b0_WideMul : Ann := (.seq .nil (.seq .nil (.seq (.seq .nil (.blk (.loopB ⟨[⟨false, 6, 0, (.int .i64), [], false⟩, ⟨true, 18, 22, (.slice (.int .i64)), [], true⟩], [2, 3, 4]⟩ ⟨[⟨true, 18, 22, (.slice (.int .i64)), [], true⟩], [2, 3, 4]⟩ 0 (.seq .nil (.seq (.blk (.seq .nil (.seq (.seq .nil (.blk (.loopB ⟨[⟨false, 7, 0, (.int .i64), [], false⟩, ⟨false, 8, 0, (.int .i64), [], false⟩, ⟨true, 18, 22, (.slice (.int .i64)), [], true⟩], [2, 3, 4]⟩ ⟨[⟨false, 7, 0, (.int .i64), [], false⟩, ⟨true, 18, 22, (.slice (.int .i64)), [], true⟩], [2, 3, 4]⟩ 2 .nil))) .nil))) .nil))))) (.seq (.frz 18 .nil) .nil))))
def an_b0_digit : Ann := .nil
def an_b0_addDigits : Ann := (.seq .nil (.seq .nil (.seq .nil (.seq (.seq .nil (.blk (.loopB ⟨[⟨false, 5, 0, (.slice (.int .i64)), [([], some 101000500)], false⟩, ⟨false, 6, 0, (.int .i64), [], false⟩, ⟨false, 7, 0, (.int .i64), [], false⟩], []⟩ ⟨[⟨false, 5, 0, (.slice (.int .i64)), [([], some 201000500)], false⟩], []⟩ 0 .nil))) .nil))))
def an_b0_cmpDigits : Ann := (.seq .nil (.seq .nil (.seq (.seq .nil (.blk (.loopBD ⟨[⟨false, 5, 0, (.int .i64), [], false⟩], []⟩ ⟨[], []⟩ 0 .nil))) .nil)))
def an_b0_subDigits : Ann := (.seq .nil (.seq .nil (.seq .nil (.seq (.seq .nil (.blk (.loopB ⟨[⟨false, 5, 0, (.slice (.int .i64)), [([], some 201000500)], false⟩, ⟨false, 6, 0, (.int .i64), [], false⟩, ⟨false, 7, 0, (.int .i64), [], false⟩], []⟩ ⟨[⟨false, 5, 0, (.slice (.int .i64)), [([], some 401000500)], false⟩], []⟩ 0 (.seq .nil (.seq (.blk (.seq .nil (.seq .nil (.seq (.seq .nil (.join ⟨[⟨false, 6, 0, (.int .i64), [], false⟩, ⟨false, 8, 0, (.int .i64), [], false⟩], [201000500]⟩ .nil .nil)) .nil)))) .nil))))) .nil))))
def an_b0_WideAdd : Ann := .nil
def an_b0_WideNeg : Ann := .nil
def an_b0_WideSub : Ann := .nil
def an_b0_WideCmp : Ann := .nil
def an_b0_WideSign : Ann := .nil
def an_b0_WideFloor : Ann := (.seq .nil (.seq .nil (.seq .nil (.seq (.seq .nil (.blk (.loopB ⟨[⟨false, 6, 0, (.slice (.int .i64)), [], false⟩, ⟨false, 7, 0, (.int .i64), [], false⟩, ⟨true, 19, 22, (.slice (.int .i64)), [], true⟩], [2, 3, 4, 20]⟩ ⟨[⟨false, 6, 0, (.slice (.int .i64)), [], false⟩, ⟨true, 19, 22, (.slice (.int .i64)), [], true⟩], [2, 3, 4, 20]⟩ 0 (.seq .nil (.seq (.blk (.seq .nil (.seq .nil (.seq (.blk (.loopB ⟨[⟨false, 8, 0, (.int .i64), [], false⟩, ⟨false, 9, 0, (.int .i64), [], false⟩], [2, 3, 4, 19, 20, 36]⟩ ⟨[⟨false, 8, 0, (.int .i64), [], false⟩], [2, 3, 4, 19, 20, 36]⟩ 2 (.seq .nil (.blk (.seq .nil (.seq .nil (.join ⟨[⟨false, 8, 0, (.int .i64), [], false⟩, ⟨false, 9, 0, (.int .i64), [], false⟩], [2, 3, 4, 19, 20, 36]⟩ .nil .nil))))))) .nil)))) .nil))))) (.seq (.frz 19 .nil) (.seq (.seq .nil (.join ⟨[⟨true, 11, 112, Tb0_Wide, [], false⟩], [2, 3, 4, 20]⟩ .nil .nil)) .nil))))))
def an_b0_wideSize : Ann := .nil
def an_b0_wideGcd : Ann := (.seq .nil (.seq .nil (.seq (.blk (.loopB ⟨[⟨true, 2, 112, Tb0_Wide, [], false⟩, ⟨true, 3, 112, Tb0_Wide, [], false⟩], [4]⟩ ⟨[⟨true, 2, 112, Tb0_Wide, [], false⟩], [4]⟩ 0 .nil)) .nil)))
def an_b0_RatioMake : Ann := (.seq .nil (.seq (.seq .nil (.join ⟨[⟨true, 2, 112, Tb0_Wide, [], false⟩, ⟨true, 3, 112, Tb0_Wide, [], false⟩], [4]⟩ .nil .nil)) .nil))
def an_b0_RatioAdd : Ann := .nil
def an_r9_Strip_Length : Ann := (.seq .nil (.seq .nil (.seq (.seq .nil (.blk (.loopB ⟨[⟨false, 4, 0, (.int .i64), [], false⟩, ⟨true, 3, 114, Tb0_Ratio, [], false⟩], [2]⟩ ⟨[⟨true, 3, 114, Tb0_Ratio, [], false⟩], [2]⟩ 0 .nil))) .nil)))
def an_b0_RatioCmp : Ann := .nil
def an_b0_RatioMul : Ann := .nil
def an_b0_RatioOf : Ann := .nil
def an_r9_pass : Ann := (.seq .nil (.seq .nil (.seq (.seq .nil (.blk (.loopB ⟨[⟨false, 5, 0, (.slice Tr9_Section), [([], some 101000500)], false⟩, ⟨false, 6, 0, (.int .i64), [], false⟩], []⟩ ⟨[⟨false, 5, 0, (.slice Tr9_Section), [([], some 201000500)], false⟩], []⟩ 0 .nil))) .nil)))
def an_b0_RatioNeg : Ann := .nil
def an_b0_RatioSub : Ann := .nil
def an_r9_cut : Ann := (.seq .nil (.seq .nil (.seq .nil (.seq .nil (.seq (.seq .nil (.blk (.loopB ⟨[⟨false, 10, 0, (.slice Tr9_Section), [([], some 401001000)], false⟩, ⟨false, 11, 0, (.int .i64), [], false⟩, ⟨true, 9, 114, Tb0_Ratio, [], false⟩], [7, 8]⟩ ⟨[⟨false, 10, 0, (.slice Tr9_Section), [([], some 801001000)], false⟩], [7, 8]⟩ 0 (.seq .nil (.seq (.blk (.seq .nil (.seq .nil (.seq (.seq .nil (.join ⟨[⟨true, 13, 114, Tb0_Ratio, [], false⟩], [7, 8, 9, 12, 14, 401001000]⟩ .nil .nil)) (.seq (.seq .nil (.join ⟨[⟨true, 14, 114, Tb0_Ratio, [], false⟩], [7, 8, 9, 12, 13, 401001000]⟩ .nil .nil)) (.seq (.seq .nil (.join ⟨[⟨false, 10, 0, (.slice Tr9_Section), [([], some 1101001000)], false⟩], [7, 8, 9, 12, 13, 14]⟩ .nil .nil)) .nil)))))) .nil))))) .nil)))))
def an_r9_Strip_Ends : Ann := (.seq .nil (.seq .nil (.seq .nil (.seq (.seq .nil (.blk (.loopB ⟨[⟨false, 4, 0, (.slice Tb0_Ratio), [([], some 101000400)], false⟩, ⟨false, 5, 0, (.int .i64), [], false⟩, ⟨true, 3, 114, Tb0_Ratio, [], false⟩], []⟩ ⟨[⟨false, 4, 0, (.slice Tb0_Ratio), [([], some 201000400)], false⟩], []⟩ 0 .nil))) .nil))))
def an_b0_WideInt : Ann := (.seq .nil (.seq .nil (.seq .nil (.seq (.seq .nil (.blk (.loopB ⟨[⟨false, 4, 0, (.int .i64), [], false⟩, ⟨false, 5, 0, (.int .i64), [], false⟩], [1]⟩ ⟨[⟨false, 4, 0, (.int .i64), [], false⟩], [1]⟩ 0 .nil))) .nil))))
def an_b0_IsSmall : Ann := .nil
def an_b0_RatioFrac : Ann := .nil
def an_r9_isSmall : Ann := .nil
def an_r9_stepErr : Ann := (.seq .nil (.seq .nil (.seq (.seq .nil (.blk (.seq .nil (.joinD ⟨[⟨false, 6, 0, (.slice Tr9_Section), [], false⟩], [3]⟩ (.seq .nil (.seq .nil (.seq (.seq .nil (.blk (.loopBD ⟨[⟨false, 7, 0, (.int .i64), [], false⟩], [3]⟩ ⟨[], [3]⟩ 1 .nil))) .nil))) .nil)))) (.seq .nil (.seq (.seq .nil (.blk (.loopBD ⟨[⟨false, 9, 0, (.int .i64), [], false⟩], [3]⟩ ⟨[], [3]⟩ 3 .nil))) .nil)))))
def an_r9_CheckCourse : Ann := (.seq .nil (.seq .nil (.seq .nil (.seq .nil (.seq (.seq .nil (.blk (.loopBD ⟨[⟨false, 4, 0, (.int .i64), [], false⟩], [1]⟩ ⟨[], [1]⟩ 0 .nil))) (.seq .nil (.seq .nil (.seq (.seq .nil (.blk (.loopBD ⟨[⟨false, 5, 0, (.slice Tr9_Section), [], false⟩, ⟨false, 6, 0, (.int .i64), [], false⟩], [1]⟩ ⟨[], [1]⟩ 2 .nil))) .nil))))))))
def an_r9_CourseErr : Ann := .nil
def an_r9_strips : Ann := (.seq .nil (.seq .nil (.seq (.seq .nil (.blk (.loopB ⟨[⟨false, 5, 0, (.slice (.slice Tr9_Section)), [([], some 201000500)], false⟩, ⟨false, 6, 0, (.int .i64), [], false⟩], [2]⟩ ⟨[⟨false, 5, 0, (.slice (.slice Tr9_Section)), [([], some 501000500)], false⟩], [2]⟩ 0 (.seq .nil (.seq (.blk (.seq .nil (.seq .nil (.join ⟨[⟨false, 5, 0, (.slice (.slice Tr9_Section)), [([], some 601000500)], false⟩], [2, 7]⟩ .nil .nil)))) .nil))))) .nil)))
def an_r9_After : Ann := .nil
def an_r9_StepsErr : Ann := .nil
def an_r9_ReadingErr : Ann := .nil
def an_r9_ReadingsErr : Ann := (.seq .nil (.seq .nil (.seq (.seq .nil (.blk (.loopBD ⟨[⟨false, 5, 0, (.int .i64), [], false⟩], [2]⟩ ⟨[], [2]⟩ 0 .nil))) .nil)))
def an_b0_Decimal : Ann := (.seq .nil (.seq .nil (.seq .nil (.seq (.seq .nil (.join ⟨[⟨false, 4, 0, .str, [], false⟩], []⟩ .nil .nil)) (.seq (.blk (.loopB ⟨[⟨false, 0, 0, (.int .i64), [], false⟩, ⟨false, 3, 0, .str, [], false⟩], []⟩ ⟨[⟨false, 3, 0, .str, [], false⟩], []⟩ 0 .nil)) .nil)))))
def an_r9_text : Ann := .nil
def an_b0_RatioDiv : Ann := .nil
def an_r9_through : Ann := (.seq .nil (.seq .nil (.seq (.seq .nil (.blk (.loopBD ⟨[⟨false, 9, 0, (.int .i64), [], false⟩, ⟨true, 7, 114, Tb0_Ratio, [], false⟩, ⟨true, 8, 114, Tb0_Ratio, [], false⟩], [5, 6]⟩ ⟨[⟨true, 8, 114, Tb0_Ratio, [], false⟩], [5, 6]⟩ 0 .nil))) .nil)))
def an_r9_Move : Ann := (.seq .nil (.seq .nil (.seq (.seq .nil (.blk (.loopB ⟨[⟨false, 11, 0, (.int .i64), [], false⟩, ⟨true, 5, 114, Tb0_Ratio, [], false⟩], [4, 8]⟩ ⟨[⟨true, 5, 114, Tb0_Ratio, [], false⟩], [4, 8]⟩ 0 (.seq .nil (.seq (.blk (.seq .nil (.seq .nil (.join ⟨[⟨true, 5, 114, Tb0_Ratio, [], false⟩], [4, 8, 12]⟩ .nil .nil)))) .nil))))) (.seq (.seq .nil (.blk (.loopBD ⟨[⟨false, 13, 0, (.int .i64), [], false⟩, ⟨true, 5, 114, Tb0_Ratio, [], false⟩], [4, 8]⟩ ⟨[⟨true, 5, 114, Tb0_Ratio, [], false⟩], [4, 8]⟩ 2 (.seq .nil (.seq (.blk (.seq .nil (.seq .nil (.joinD ⟨[⟨true, 5, 114, Tb0_Ratio, [], false⟩], [4, 8, 14]⟩ .nil .nil)))) .nil))))) .nil))))
def an_r9_PlaceOf : Ann := .nil
def an_r9_ReportOf : Ann := (.seq .nil (.seq .nil (.seq .nil (.seq (.seq .nil (.blk (.loopBD ⟨[⟨false, 8, 0, .str, [], false⟩, ⟨false, 9, 0, (.int .i64), [], false⟩], [2, 6]⟩ ⟨[⟨false, 8, 0, .str, [], false⟩], [2, 6]⟩ 0 (.seq .nil (.seq (.blk (.seq .nil (.seq .nil (.seq .nil (.seq .nil (.seq .nil (.seq (.seq .nil (.join ⟨[⟨false, 14, 0, .str, [], false⟩], [2, 6, 10, 12]⟩ .nil .nil)) (.seq .nil (.seq (.seq .nil (.join ⟨[⟨false, 15, 0, .str, [], false⟩], [2, 6, 10, 12]⟩ .nil .nil)) .nil))))))))) .nil))))) .nil))))
def an_l9_TraceReports : Ann := (.seq .nil (.seq .nil (.seq .nil (.seq .nil (.seq .nil (.seq (.seq .nil (.join ⟨[⟨false, 7, 0, (.int .i64), [], false⟩], [2]⟩ .nil .nil)) .nil))))))
noncomputable abbrev sg_slices_Clone_uint32 : Sig := ⟨200, [(.slice (.int .u32))], [(.slice (.int .u32))], fun x => slices_Clone_uint32 x⟩
noncomputable abbrev sg_trace_evidence_explanations : Sig := ⟨62, [Ttrace_evidence, (.int .u64)], [(.slice (.int .u64))], fun x => trace_evidence_explanations x.1 x.2⟩
noncomputable abbrev sg_strings_Join : Sig := ⟨27, [(.slice .str), .str], [.str], fun x => strings_Join x.1 x.2⟩
noncomputable abbrev sg_strconv_Itoa : Sig := ⟨25, [(.int .i64)], [.str], fun x => strconv_Itoa x⟩
noncomputable abbrev sg_strings_Split : Sig := ⟨30, [.str, .str], [(.slice .str)], fun x => strings_Split x.1 x.2⟩
noncomputable abbrev sg_strings_Cut : Sig := ⟨72, [.str, .str], [.str, .str, .bool], fun x => strings_Cut x.1 x.2⟩
noncomputable abbrev sg_strconv_Atoi : Sig := ⟨71, [.str], [(.int .i64), .err], fun x => strconv_Atoi x⟩
noncomputable abbrev sg_trace_first : Sig := ⟨53, [(.slice (.int .i64))], [(.int .i64)], fun x => trace_first x⟩
noncomputable abbrev sg_trace_unless : Sig := ⟨56, [.bool, (.int .i64)], [(.int .i64)], fun x => trace_unless x.1 x.2⟩
noncomputable abbrev sg_trace_within : Sig := ⟨57, [(.int .i64), (.int .i64), (.int .i64)], [.bool], fun x => trace_within x.1 x.2.1 x.2.2⟩
noncomputable abbrev sg_trace_course_stepsErr : Sig := ⟨55, [Ttrace_course, (.int .i64)], [(.int .i64)], fun x => trace_course_stepsErr x.1 x.2⟩
noncomputable abbrev sg_trace_trimmed : Sig := ⟨132, [(.slice (.int .u32))], [(.slice (.int .u32))], fun x => trace_trimmed x⟩
noncomputable abbrev sg_trace_naturalOf : Sig := ⟨92, [(.int .u64)], [(.slice (.int .u32))], fun x => trace_naturalOf x⟩
noncomputable abbrev sg_trace_size : Sig := ⟨93, [(.int .i64)], [(.int .u64)], fun x => trace_size x⟩
noncomputable abbrev sg_trace_whole : Sig := ⟨59, [(.int .i64)], [Ttrace_ratio], fun x => trace_whole x⟩
noncomputable abbrev sg_trace_isName : Sig := ⟨115, [.str], [.bool], fun x => trace_isName x⟩
noncomputable abbrev sg_trace_isArea : Sig := ⟨116, [(.int .i64)], [.bool], fun x => trace_isArea x⟩
noncomputable abbrev sg_trace_strip_length : Sig := ⟨43, [(.slice Ttrace_section)], [Ttrace_ratio], fun x => trace_strip_length x⟩
noncomputable abbrev sg_trace_natural_cmp : Sig := ⟨118, [(.slice (.int .u32)), (.slice (.int .u32))], [(.int .i64)], fun x => trace_natural_cmp x.1 x.2⟩
noncomputable abbrev sg_trace_natural_digit : Sig := ⟨119, [(.slice (.int .u32)), (.int .i64)], [(.int .u64)], fun x => trace_natural_digit x.1 x.2⟩
noncomputable abbrev sg_trace_natural_times : Sig := ⟨133, [(.slice (.int .u32)), (.slice (.int .u32))], [(.slice (.int .u32))], fun x => trace_natural_times x.1 x.2⟩
noncomputable abbrev sg_trace_natural_plus : Sig := ⟨135, [(.slice (.int .u32)), (.slice (.int .u32))], [(.slice (.int .u32))], fun x => trace_natural_plus x.1 x.2⟩
noncomputable abbrev sg_trace_natural_minus : Sig := ⟨136, [(.slice (.int .u32)), (.slice (.int .u32))], [(.slice (.int .u32))], fun x => trace_natural_minus x.1 x.2⟩
noncomputable abbrev sg_bits_Len32 : Sig := ⟨209, [(.int .u32)], [(.int .i64)], fun x => bits_Len32 x⟩
noncomputable abbrev sg_trace_natural_length : Sig := ⟨201, [(.slice (.int .u32))], [(.int .i64)], fun x => trace_natural_length x⟩
noncomputable abbrev sg_trace_natural_shifted : Sig := ⟨202, [(.slice (.int .u32)), (.int .i64)], [(.slice (.int .u32))], fun x => trace_natural_shifted x.1 x.2⟩
noncomputable abbrev sg_trace_natural_divided : Sig := ⟨179, [(.slice (.int .u32)), (.slice (.int .u32))], [(.slice (.int .u32)), (.slice (.int .u32))], fun x => trace_natural_divided x.1 x.2⟩
noncomputable abbrev sg_trace_divisor : Sig := ⟨178, [(.slice (.int .u32)), (.slice (.int .u32))], [(.slice (.int .u32))], fun x => trace_divisor x.1 x.2⟩
noncomputable abbrev sg_trace_ratioOf : Sig := ⟨134, [.bool, (.slice (.int .u32)), (.slice (.int .u32))], [Ttrace_ratio], fun x => trace_ratioOf x.1 x.2.1 x.2.2⟩
noncomputable abbrev sg_trace_ratio_plus : Sig := ⟨95, [Ttrace_ratio, Ttrace_ratio], [Ttrace_ratio], fun x => trace_ratio_plus x.1 x.2⟩
noncomputable abbrev sg_trace_ratio_opposite : Sig := ⟨131, [Ttrace_ratio], [Ttrace_ratio], fun x => trace_ratio_opposite x⟩
noncomputable abbrev sg_trace_ratio_minus : Sig := ⟨91, [Ttrace_ratio, Ttrace_ratio], [Ttrace_ratio], fun x => trace_ratio_minus x.1 x.2⟩
noncomputable abbrev sg_trace_ratio_cmp : Sig := ⟨58, [Ttrace_ratio, Ttrace_ratio], [(.int .i64)], fun x => trace_ratio_cmp x.1 x.2⟩
noncomputable abbrev sg_trace_ratio_between : Sig := ⟨94, [Ttrace_ratio, Ttrace_ratio, Ttrace_ratio], [.bool], fun x => trace_ratio_between x.1 x.2.1 x.2.2⟩
noncomputable abbrev sg_trace_strip_has : Sig := ⟨90, [(.slice Ttrace_section), (.int .i64)], [.bool], fun x => trace_strip_has x.1 x.2⟩
noncomputable abbrev sg_trace_isPosition : Sig := ⟨139, [(.int .i64)], [.bool], fun x => trace_isPosition x⟩
noncomputable abbrev sg_slices_IndexFunc_int : Sig := ⟨195, [(.slice (.int .i64)), (.fn (.int .i64) .bool)], [(.int .i64)], fun x => slices_IndexFunc_int x.1 x.2⟩
noncomputable abbrev sg_slices_ContainsFunc_int : Sig := ⟨160, [(.slice (.int .i64)), (.fn (.int .i64) .bool)], [.bool], fun x => slices_ContainsFunc_int x.1 x.2⟩
noncomputable abbrev sg_trace_strip_step_1 : Sig := ⟨161, [(.int .i64)], [.bool], fun x => trace_strip_step_1 x⟩
noncomputable abbrev sg_trace_ratio_times : Sig := ⟨96, [Ttrace_ratio, Ttrace_ratio], [Ttrace_ratio], fun x => trace_ratio_times x.1 x.2⟩
noncomputable abbrev sg_trace_quotient : Sig := ⟨97, [(.int .i64), (.int .i64)], [Ttrace_ratio], fun x => trace_quotient x.1 x.2⟩
noncomputable abbrev sg_trace_section_length : Sig := ⟨196, [Ttrace_section], [Ttrace_ratio], fun x => trace_section_length x⟩
noncomputable abbrev sg_trace_strip_rolled : Sig := ⟨162, [(.slice Ttrace_section), (.slice (.int .i64))], [(.slice Ttrace_section)], fun x => trace_strip_rolled x.1 x.2⟩
noncomputable abbrev sg_trace_strip_cut : Sig := ⟨163, [(.slice Ttrace_section), (.int .i64), (.int .i64)], [(.slice Ttrace_section)], fun x => trace_strip_cut x.1 x.2.1 x.2.2⟩
noncomputable abbrev sg_trace_ratio_frac : Sig := ⟨76, [Ttrace_ratio], [Tapi_Frac, .bool], fun x => trace_ratio_frac x⟩
noncomputable abbrev sg_trace_strip_isSmall : Sig := ⟨164, [(.slice Ttrace_section)], [.bool], fun x => trace_strip_isSmall x⟩
noncomputable abbrev sg_trace_strip_step : Sig := ⟨117, [(.slice Ttrace_section), Tapi_TraceStep], [(.slice Ttrace_section), (.int .i64)], fun x => trace_strip_step x.1 x.2⟩
noncomputable abbrev sg_trace_open : Sig := ⟨73, [Tapi_TraceCourse], [Ttrace_course, (.int .i64), (.int .i64)], fun x => trace_open x⟩
noncomputable abbrev sg_trace_opened : Sig := ⟨39, [Tapi_TraceCourse, (.slice (.int .i64))], [Ttrace_course, (.int .i64)], fun x => trace_opened x.1 x.2⟩
noncomputable abbrev sg_trace_course_readingErr : Sig := ⟨54, [Ttrace_course, Tapi_TraceReading], [(.int .i64)], fun x => trace_course_readingErr x.1 x.2⟩
noncomputable abbrev sg_trace_course_openReadings : Sig := ⟨40, [Ttrace_course, (.slice Tapi_TraceReading)], [(.int .i64)], fun x => trace_course_openReadings x.1 x.2⟩
noncomputable abbrev sg_trace_small : Sig := ⟨41, [Ttrace_ratio], [Tapi_Frac, (.int .i64)], fun x => trace_small x⟩
noncomputable abbrev sg_trace_course_last : Sig := ⟨42, [Ttrace_course], [(.slice Ttrace_section)], fun x => trace_course_last x⟩
noncomputable abbrev sg_trace_written : Sig := ⟨44, [Tapi_Frac], [.str], fun x => trace_written x⟩
noncomputable abbrev sg_trace_strip_slabAt : Sig := ⟨60, [(.slice Ttrace_section), Ttrace_ratio], [Ttrace_ratio], fun x => trace_strip_slabAt x.1 x.2⟩
noncomputable abbrev sg_trace_strip_at : Sig := ⟨77, [(.slice Ttrace_section), Ttrace_ratio], [Ttrace_ratio, .bool], fun x => trace_strip_at x.1 x.2⟩
noncomputable abbrev sg_trace_course_place : Sig := ⟨45, [Ttrace_course, Tapi_TraceReading, (.int .i64)], [Ttrace_ratio, .bool], fun x => trace_course_place x.1 x.2.1 x.2.2⟩
noncomputable abbrev sg_trace_ReportOf : Sig := ⟨13, [Tapi_TraceCourse, (.slice Tapi_TraceReading)], [.str, (.int .i64)], fun x => trace_ReportOf x.1 x.2⟩
noncomputable abbrev sg_trace_PlaceOf : Sig := ⟨18, [Tapi_TraceCourse, Tapi_TraceReading, (.int .i64)], [Tapi_Frac, (.int .i64)], fun x => trace_PlaceOf x.1 x.2.1 x.2.2⟩
noncomputable abbrev sg_l9_Course : Sig := ⟨19, [], [Tapi_TraceCourse], fun _ => l9_Course⟩
noncomputable abbrev sg_trace_PiecesOf : Sig := ⟨20, [Tapi_TraceCourse, (.int .i64)], [(.slice Tapi_Span), (.int .i64)], fun x => trace_PiecesOf x.1 x.2⟩
noncomputable abbrev sg_slices_IndexFunc_apiTraceCause : Sig := ⟨180, [(.slice Tapi_TraceCause), (.fn Tapi_TraceCause .bool)], [(.int .i64)], fun x => slices_IndexFunc_apiTraceCause x.1 x.2⟩
noncomputable abbrev sg_slices_ContainsFunc_apiTraceCause : Sig := ⟨137, [(.slice Tapi_TraceCause), (.fn Tapi_TraceCause .bool)], [.bool], fun x => slices_ContainsFunc_apiTraceCause x.1 x.2⟩
noncomputable abbrev sg_trace_openCauses_1 : Sig := ⟨138, [Tapi_TraceCause, (.ptr Tapi_TraceCause)], [.bool], fun x => trace_openCauses_1 x.1 x.2⟩
noncomputable abbrev sg_trace_openCauses : Sig := ⟨98, [Tapi_TraceCourse, (.slice Tapi_TraceCause)], [Ttrace_course, (.int .i64), (.int .i64)], fun x => trace_openCauses x.1 x.2⟩
noncomputable abbrev sg_trace_ratio_over : Sig := ⟨181, [Ttrace_ratio, Ttrace_ratio], [Ttrace_ratio], fun x => trace_ratio_over x.1 x.2⟩
noncomputable abbrev sg_trace_ratio_floor : Sig := ⟨182, [Ttrace_ratio], [Ttrace_ratio], fun x => trace_ratio_floor x⟩
noncomputable abbrev sg_trace_course_predicts : Sig := ⟨140, [Ttrace_course, Tapi_TraceCause, Tapi_TraceReading], [.bool], fun x => trace_course_predicts x.1 x.2.1 x.2.2⟩
noncomputable abbrev sg_trace_course_evidenceOf : Sig := ⟨99, [Ttrace_course, (.slice Tapi_TraceCause), (.slice Tapi_TraceReading)], [Ttrace_evidence], fun x => trace_course_evidenceOf x.1 x.2.1 x.2.2⟩
noncomputable abbrev sg_trace_openEvidence : Sig := ⟨61, [Tapi_TraceCourse, (.slice Tapi_TraceCause), (.slice Tapi_TraceReading)], [Ttrace_course, Ttrace_evidence, (.int .i64)], fun x => trace_openEvidence x.1 x.2.1 x.2.2⟩
noncomputable abbrev sg_bits_OnesCount32 : Sig := ⟨143, [(.int .u32)], [(.int .i64)], fun x => bits_OnesCount32 x⟩
noncomputable abbrev sg_bits_OnesCount64 : Sig := ⟨144, [(.int .u64)], [(.int .i64)], fun x => bits_OnesCount64 x⟩
noncomputable abbrev sg_bits_OnesCount : Sig := ⟨101, [(.int .u64)], [(.int .i64)], fun x => bits_OnesCount x⟩
noncomputable abbrev sg_trace_set_has : Sig := ⟨103, [(.int .u64), (.int .i64)], [.bool], fun x => trace_set_has x.1 x.2⟩
noncomputable abbrev sg_trace_evidence_firstWrong : Sig := ⟨102, [Ttrace_evidence, (.int .u64), (.int .u64)], [(.int .i64)], fun x => trace_evidence_firstWrong x.1 x.2.1 x.2.2⟩
noncomputable abbrev sg_trace_evidence_every : Sig := ⟨63, [Ttrace_evidence], [(.int .u64)], fun x => trace_evidence_every x⟩
noncomputable abbrev sg_trace_set_list : Sig := ⟨64, [(.int .u64)], [(.slice (.int .i64))], fun x => trace_set_list x⟩
noncomputable abbrev sg_trace_Explanations : Sig := ⟨21, [Tapi_TraceCourse, (.slice Tapi_TraceCause), (.slice Tapi_TraceReading)], [(.slice (.slice (.int .i64))), (.int .i64)], fun x => trace_Explanations x.1 x.2.1 x.2.2⟩
noncomputable abbrev sg_l9_Causes : Sig := ⟨22, [], [(.slice Tapi_TraceCause)], fun _ => l9_Causes⟩
noncomputable abbrev sg_b0_Whole : Sig := ⟨23, [(.int .i64)], [Tapi_Frac], fun x => b0_Whole x⟩
noncomputable abbrev sg_b0_Ints : Sig := ⟨38, [(.slice (.int .i64)), (.slice (.int .i64))], [.bool], fun x => b0_Ints x.1 x.2⟩
noncomputable abbrev sg_b0_Lists : Sig := ⟨24, [(.slice (.slice (.int .i64))), (.slice (.slice (.int .i64)))], [.bool], fun x => b0_Lists x.1 x.2⟩
noncomputable abbrev sg_l9_awake : Sig := ⟨5, [], [.bool], fun _ => l9_awake⟩
noncomputable abbrev sg_l9_Few : Sig := ⟨6, [Tapi_TraceCourse], [.bool], fun x => l9_Few x⟩
noncomputable abbrev sg_trace_at : Sig := ⟨26, [(.slice (.int .i64)), (.int .i64)], [(.int .i64)], fun x => trace_at x.1 x.2⟩
noncomputable abbrev sg_trace_numbers : Sig := ⟨28, [(.slice (.int .i64))], [.str], fun x => trace_numbers x⟩
noncomputable abbrev sg_trace_FormatCourse : Sig := ⟨7, [Tapi_TraceCourse], [.str], fun x => trace_FormatCourse x⟩
noncomputable abbrev sg_b0_CopyInts : Sig := ⟨29, [(.slice (.int .i64))], [(.slice (.int .i64))], fun x => b0_CopyInts x⟩
noncomputable abbrev sg_r9_CopyCourse : Sig := ⟨8, [Tapi_TraceCourse], [Tapi_TraceCourse], fun x => r9_CopyCourse x⟩
noncomputable abbrev sg_trace_parsed : Sig := ⟨32, [.str, .str], [(.slice (.int .i64)), .bool], fun x => trace_parsed x.1 x.2⟩
noncomputable abbrev sg_trace_stepOf : Sig := ⟨33, [.str], [Tapi_TraceStep, .bool], fun x => trace_stepOf x⟩
noncomputable abbrev sg_trace_CheckCourse : Sig := ⟨34, [Tapi_TraceCourse], [(.int .i64), (.int .i64)], fun x => trace_CheckCourse x⟩
noncomputable abbrev sg_trace_ParseCourse : Sig := ⟨9, [.str], [Tapi_TraceCourse, (.int .i64)], fun x => trace_ParseCourse x⟩
noncomputable abbrev sg_r9_SameCourse : Sig := ⟨12, [Tapi_TraceCourse, Tapi_TraceCourse], [.bool], fun x => r9_SameCourse x.1 x.2⟩
noncomputable abbrev sg_r9_CopyReadings : Sig := ⟨14, [(.slice Tapi_TraceReading)], [(.slice Tapi_TraceReading)], fun x => r9_CopyReadings x⟩
noncomputable abbrev sg_b0_IsName : Sig := ⟨78, [.str], [.bool], fun x => b0_IsName x⟩
noncomputable abbrev sg_b0_Within : Sig := ⟨79, [(.int .i64), (.int .i64), (.int .i64)], [.bool], fun x => b0_Within x.1 x.2.1 x.2.2⟩
noncomputable abbrev sg_b0_Size : Sig := ⟨75, [(.int .i64)], [(.int .i64)], fun x => b0_Size x⟩
noncomputable abbrev sg_b0_trimmed : Sig := ⟨197, [(.slice (.int .i64))], [(.slice (.int .i64))], fun x => b0_trimmed x⟩
noncomputable abbrev sg_b0_wideOf : Sig := ⟨168, [(.int .i64), (.slice (.int .i64))], [Tb0_Wide], fun x => b0_wideOf x.1 x.2⟩
noncomputable abbrev sg_b0_WideOf : Sig := ⟨126, [(.int .i64)], [Tb0_Wide], fun x => b0_WideOf x⟩
noncomputable abbrev sg_b0_RatioInt : Sig := ⟨84, [(.int .i64)], [Tb0_Ratio], fun x => b0_RatioInt x⟩
noncomputable abbrev sg_r9_slab : Sig := ⟨80, [Tapi_TraceCourse], [(.slice Tr9_Section)], fun x => r9_slab x⟩
noncomputable abbrev sg_b0_WideMul : Sig := ⟨125, [Tb0_Wide, Tb0_Wide], [Tb0_Wide], fun x => b0_WideMul x.1 x.2⟩
noncomputable abbrev sg_b0_digit : Sig := ⟨199, [(.slice (.int .i64)), (.int .i64)], [(.int .i64)], fun x => b0_digit x.1 x.2⟩
noncomputable abbrev sg_b0_addDigits : Sig := ⟨173, [(.slice (.int .i64)), (.slice (.int .i64))], [(.slice (.int .i64))], fun x => b0_addDigits x.1 x.2⟩
noncomputable abbrev sg_b0_cmpDigits : Sig := ⟨174, [(.slice (.int .i64)), (.slice (.int .i64))], [(.int .i64)], fun x => b0_cmpDigits x.1 x.2⟩
noncomputable abbrev sg_b0_subDigits : Sig := ⟨175, [(.slice (.int .i64)), (.slice (.int .i64))], [(.slice (.int .i64))], fun x => b0_subDigits x.1 x.2⟩
noncomputable abbrev sg_b0_WideAdd : Sig := ⟨128, [Tb0_Wide, Tb0_Wide], [Tb0_Wide], fun x => b0_WideAdd x.1 x.2⟩
noncomputable abbrev sg_b0_WideNeg : Sig := ⟨170, [Tb0_Wide], [Tb0_Wide], fun x => b0_WideNeg x⟩
noncomputable abbrev sg_b0_WideSub : Sig := ⟨167, [Tb0_Wide, Tb0_Wide], [Tb0_Wide], fun x => b0_WideSub x.1 x.2⟩
noncomputable abbrev sg_b0_WideCmp : Sig := ⟨124, [Tb0_Wide, Tb0_Wide], [(.int .i64)], fun x => b0_WideCmp x.1 x.2⟩
noncomputable abbrev sg_b0_WideSign : Sig := ⟨169, [Tb0_Wide], [(.int .i64)], fun x => b0_WideSign x⟩
noncomputable abbrev sg_b0_WideFloor : Sig := ⟨172, [Tb0_Wide, Tb0_Wide], [Tb0_Wide], fun x => b0_WideFloor x.1 x.2⟩
noncomputable abbrev sg_b0_wideSize : Sig := ⟨198, [Tb0_Wide], [Tb0_Wide], fun x => b0_wideSize x⟩
noncomputable abbrev sg_b0_wideGcd : Sig := ⟨171, [Tb0_Wide, Tb0_Wide], [Tb0_Wide], fun x => b0_wideGcd x.1 x.2⟩
noncomputable abbrev sg_b0_RatioMake : Sig := ⟨127, [Tb0_Wide, Tb0_Wide], [Tb0_Ratio], fun x => b0_RatioMake x.1 x.2⟩
noncomputable abbrev sg_b0_RatioAdd : Sig := ⟨88, [Tb0_Ratio, Tb0_Ratio], [Tb0_Ratio], fun x => b0_RatioAdd x.1 x.2⟩
noncomputable abbrev sg_r9_Strip_Length : Sig := ⟨50, [(.slice Tr9_Section)], [Tb0_Ratio], fun x => r9_Strip_Length x⟩
noncomputable abbrev sg_b0_RatioCmp : Sig := ⟨83, [Tb0_Ratio, Tb0_Ratio], [(.int .i64)], fun x => b0_RatioCmp x.1 x.2⟩
noncomputable abbrev sg_b0_RatioMul : Sig := ⟨165, [Tb0_Ratio, Tb0_Ratio], [Tb0_Ratio], fun x => b0_RatioMul x.1 x.2⟩
noncomputable abbrev sg_b0_RatioOf : Sig := ⟨166, [(.int .i64), (.int .i64)], [Tb0_Ratio], fun x => b0_RatioOf x.1 x.2⟩
noncomputable abbrev sg_r9_pass : Sig := ⟨120, [(.slice Tr9_Section), (.slice (.int .i64))], [(.slice Tr9_Section)], fun x => r9_pass x.1 x.2⟩
noncomputable abbrev sg_b0_RatioNeg : Sig := ⟨177, [Tb0_Ratio], [Tb0_Ratio], fun x => b0_RatioNeg x⟩
noncomputable abbrev sg_b0_RatioSub : Sig := ⟨130, [Tb0_Ratio, Tb0_Ratio], [Tb0_Ratio], fun x => b0_RatioSub x.1 x.2⟩
noncomputable abbrev sg_r9_cut : Sig := ⟨121, [(.slice Tr9_Section), (.int .i64), (.int .i64)], [(.slice Tr9_Section)], fun x => r9_cut x.1 x.2.1 x.2.2⟩
noncomputable abbrev sg_r9_Strip_Ends : Sig := ⟨122, [(.slice Tr9_Section)], [(.slice Tb0_Ratio)], fun x => r9_Strip_Ends x⟩
noncomputable abbrev sg_b0_WideInt : Sig := ⟨85, [Tb0_Wide], [(.int .i64), .bool], fun x => b0_WideInt x⟩
noncomputable abbrev sg_b0_IsSmall : Sig := ⟨86, [Tapi_Frac], [.bool], fun x => b0_IsSmall x⟩
noncomputable abbrev sg_b0_RatioFrac : Sig := ⟨48, [Tb0_Ratio], [Tapi_Frac, .bool], fun x => b0_RatioFrac x⟩
noncomputable abbrev sg_r9_isSmall : Sig := ⟨123, [Tb0_Ratio], [.bool], fun x => r9_isSmall x⟩
noncomputable abbrev sg_r9_stepErr : Sig := ⟨81, [(.slice Tr9_Section), Tapi_TraceStep], [(.slice Tr9_Section), (.int .i64)], fun x => r9_stepErr x.1 x.2⟩
noncomputable abbrev sg_r9_CheckCourse : Sig := ⟨46, [Tapi_TraceCourse], [(.int .i64), (.int .i64)], fun x => r9_CheckCourse x⟩
noncomputable abbrev sg_r9_CourseErr : Sig := ⟨15, [Tapi_TraceCourse], [(.int .i64)], fun x => r9_CourseErr x⟩
noncomputable abbrev sg_r9_strips : Sig := ⟨87, [Tapi_TraceCourse, (.int .i64)], [(.slice (.slice Tr9_Section))], fun x => r9_strips x.1 x.2⟩
noncomputable abbrev sg_r9_After : Sig := ⟨49, [Tapi_TraceCourse, (.int .i64)], [(.slice Tr9_Section)], fun x => r9_After x.1 x.2⟩
noncomputable abbrev sg_r9_StepsErr : Sig := ⟨82, [Tapi_TraceCourse, (.int .i64)], [(.int .i64)], fun x => r9_StepsErr x.1 x.2⟩
noncomputable abbrev sg_r9_ReadingErr : Sig := ⟨47, [Tapi_TraceCourse, Tapi_TraceReading], [(.int .i64)], fun x => r9_ReadingErr x.1 x.2⟩
noncomputable abbrev sg_r9_ReadingsErr : Sig := ⟨16, [Tapi_TraceCourse, (.slice Tapi_TraceReading)], [(.int .i64)], fun x => r9_ReadingsErr x.1 x.2⟩
noncomputable abbrev sg_b0_Decimal : Sig := ⟨37, [(.int .i64)], [.str], fun x => b0_Decimal x⟩
noncomputable abbrev sg_r9_text : Sig := ⟨51, [Tapi_Frac], [.str], fun x => r9_text x⟩
noncomputable abbrev sg_b0_RatioDiv : Sig := ⟨176, [Tb0_Ratio, Tb0_Ratio], [Tb0_Ratio], fun x => b0_RatioDiv x.1 x.2⟩
noncomputable abbrev sg_r9_through : Sig := ⟨129, [(.slice Tr9_Section), (.slice Tr9_Section), Tb0_Ratio], [Tb0_Ratio], fun x => r9_through x.1 x.2.1 x.2.2⟩
noncomputable abbrev sg_r9_Move : Sig := ⟨89, [Tapi_TraceCourse, Tb0_Ratio, (.int .i64), (.int .i64)], [Tb0_Ratio, .bool], fun x => r9_Move x.1 x.2.1 x.2.2.1 x.2.2.2⟩
noncomputable abbrev sg_r9_PlaceOf : Sig := ⟨52, [Tapi_TraceCourse, Tapi_TraceReading, (.int .i64)], [Tapi_Frac, (.int .i64)], fun x => r9_PlaceOf x.1 x.2.1 x.2.2⟩
noncomputable abbrev sg_r9_ReportOf : Sig := ⟨17, [Tapi_TraceCourse, (.slice Tapi_TraceReading)], [.str, (.int .i64)], fun x => r9_ReportOf x.1 x.2⟩
noncomputable abbrev sg_l9_TraceReports : Sig := ⟨4, [Tapi_TraceCourse, (.slice Tapi_TraceReading)], [.bool], fun x => l9_TraceReports x.1 x.2⟩
noncomputable abbrev it_strings_SplitSeq : ItSig := ⟨.str, splitF⟩
end Go.Lift
