/-
  The types, notes and signatures of these functions.
-/
import Derived.Test.YteobfadhflofpaaGreatFunF
import Derived.Test.YteobfadhflofpaaGreatFunG
import Derived.Test.YteobfadhflofpaaGreatFunCb
import Derived.Test.YteobfadhflofpaaGreatFunRe
import Derived.Test.YteobfadhflofpaaGreatFunCa
import Derived.Test.YteobfadhflofpaaGreatFunRj
import Derived.Test.YteobfadhflofpaaGreatLiftL
import Derived.Lib.ItoaNum
import Derived.KernelRfl
import Derived.Test.YteobfadhflofpaaGreatProg
set_option linter.unusedSectionVars false
set_option linter.unusedVariables false
set_option linter.unusedSimpArgs false
namespace Go.Lift
open Go Go.Proofs
instance : Tab := tabsOf []
def tyTab : List (Nat × Ty) := [
  (2, (.int .i64)),
  (3, (.int .i64)),
  (4, .bool),
  (5, (.int .u8)),
  (6, (.int .u8)),
  (7, Truntime_boundsError),
  (8, Truntime_boundsError),
  (9, .str),
  (10, .str),
  (11, .str),
  (12, (.int .u64)),
  (13, Truntime_errorAddressString),
  (14, Truntime_errorAddressString),
  (21, (.int .i32)),
  (22, (.slice (.int .i64))),
  (23, (.slice Tapi_TraceStep)),
  (24, Tapi_TraceCourse),
  (25, Tapi_TraceCourse),
  (26, (.slice Tapi_TraceCause)),
  (27, (.slice Tapi_TraceReading)),
  (29, (.fn Tapi_TraceCourse .bool)),
  (32, Tapi_TraceCause),
  (33, Tapi_TraceCause),
  (34, (.fn (.slice Tapi_TraceReading) (.slice Tapi_TraceReading))),
  (35, (.int .i64)),
  (38, (.fn Tapi_TraceCourse Tapi_TraceCourse)),
  (39, (.fn (.slice Tapi_TraceCause) (.slice Tapi_TraceCause))),
  (40, Tapi_TraceReading),
  (41, Tapi_TraceReading),
  (44, (.slice (.slice (.int .i64)))),
  (49, Tapi_TraceRoll),
  (50, Tapi_TraceRoll),
  (51, (.fn Tapi_TraceCourse (.int .i64))),
  (53, (.fn .str .bool)),
  (54, (.slice Tr9_Section)),
  (55, (.slice Tr9_Section)),
  (57, Tapi_TraceStep),
  (58, Tapi_TraceStep),
  (59, Tb0_Wide),
  (60, Tb0_Wide),
  (61, Tb0_Ratio),
  (62, Tb0_Ratio),
  (63, Tr9_Section),
  (64, Tr9_Section),
  (65, Tapi_TraceMarks),
  (66, Tapi_TraceMarks),
  (68, Tapi_Frac),
  (69, Tapi_Frac),
  (72, (.fn Tapi_Frac .bool)),
  (74, (.slice .str)),
  (77, (.fn Tapi_TraceMarks Tapi_TraceMarks)),
  (78, (.slice Tapi_TraceRoll)),
  (79, (.arr 2 (.int .i64))),
  (84, (.slice Tapi_Span)),
  (87, (.slice Tapi_Span)),
  (88, Tapi_TraceMap),
  (89, Tapi_TraceMap),
  (93, (.fn Tapi_TraceMap (.int .i64))),
  (94, (.fn (.int .i64) Tb0_Ratio)),
  (95, Tapi_Span),
  (96, Tapi_Span),
  (98, (.fn Tapi_TraceMap Tapi_TraceMap)),
  (99, (.fn (.int .i64) Tapi_Frac)),
  (103, (.fn Tapi_Frac Tb0_Ratio)),
  (110, (.slice (.slice Ttrace_section))),
  (111, Ttrace_course),
  (112, Ttrace_course),
  (115, (.fn Tapi_TraceReading (.int .i64))),
  (118, (.fn Tapi_TraceCause .bool)),
  (119, (.fn (.slice (.int .i64)) (.slice (.int .i64)))),
  (120, (.slice (.int .u64))),
  (121, (.slice .bool)),
  (122, Ttrace_evidence),
  (123, Ttrace_evidence),
  (127, (.int .u64)),
  (128, (.int .u64)),
  (130, (.fn (.int .u64) (.slice (.int .u64)))),
  (134, (.slice (.slice Tr9_Section))),
  (139, (.fn (.slice (.int .i64)) (.int .i64))),
  (140, (.fn (.int .i64) (.int .i64))),
  (141, (.slice (.int .u32))),
  (142, (.slice (.int .u32))),
  (143, Ttrace_ratio),
  (144, Ttrace_ratio),
  (148, (.slice Ttrace_ratio)),
  (151, (.mapT .str .bool)),
  (155, (.slice Ttrace_section)),
  (156, (.slice Ttrace_section)),
  (159, (.fn Ttrace_ratio (.int .i64))),
  (160, (.fn (.int .i64) Ttrace_ratio)),
  (161, (.fn Ttrace_ratio Ttrace_ratio)),
  (162, (.arr 2 Ttrace_ratio)),
  (163, Ttrace_section),
  (164, Ttrace_section),
  (165, (.slice Ttrace_knot)),
  (166, (.slice Ttrace_knot)),
  (168, Ttrace_knot),
  (169, Ttrace_knot),
  (173, (.fn (.int .i64) Tb0_Wide)),
  (176, (.fn Tapi_Frac Ttrace_ratio)),
  (183, (.fn (.int .i64) .bool)),
  (185, (.fn (.slice Tapi_TraceReading) (.int .i64))),
  (187, (.seq (.int .u64))),
  (188, (.fn (.int .i64) (.seq (.int .u64)))),
  (189, (.fn (.int .u64) (.int .i64))),
  (190, (.fn Tapi_TraceCourse (.slice Tr9_Section))),
  (196, (.slice (.int .i64))),
  (199, (.fn (.int .i64) (.int .i64))),
  (201, (.fn (.int .u64) (.slice (.int .u32)))),
  (202, (.int .u64)),
  (203, (.fn (.int .i64) (.int .u64))),
  (204, (.int .u32)),
  (207, Tapi_Span),
  (208, Tapi_Span),
  (209, (.fn (.slice (.int .u32)) (.slice (.int .u32)))),
  (211, (.fn (.slice (.int .u32)) (.int .i64))),
  (215, (.fn Tb0_Wide (.int .i64))),
  (216, (.fn Tb0_Wide Tb0_Wide)),
  (219, (.fn Tb0_Ratio Tb0_Ratio)),
  (220, (.slice (.int .u8))),
  (223, (.fn (.int .u64) .bool)),
  (225, (.fn (.int .u32) (.int .i64))),
  (226, (.fn (.int .u64) (.int .i64))),
  (227, (.slice Tb0_Ratio)),
  (229, (.fn Tb0_Ratio .bool)),
  (234, (.fn (.int .i64) (.slice (.int .u32)))),
  (237, (.fn (.slice (.int .i64)) (.slice Ttrace_section))),
  (248, (.int .u8)),
  (249, (.int .u8)),
  (252, (.int .i32)),
  (253, (.int .i32))]
def nfTab : List (Nat × Nat) := [(7, 4), (8, 4), (13, 2), (14, 2), (24, 4), (25, 4), (32, 5), (33, 5), (40, 3), (41, 3), (49, 3), (50, 3), (57, 4), (58, 4), (59, 2), (60, 2), (61, 2), (62, 2), (63, 2), (64, 2), (65, 2), (66, 2), (68, 2), (69, 2), (88, 1), (89, 1), (95, 2), (96, 2), (111, 2), (112, 2), (122, 3), (123, 3), (143, 3), (144, 3), (163, 4), (164, 4), (168, 2), (169, 2), (207, 2), (208, 2)]
def eqTab : List Nat := [9, 69]
theorem tys_ok : tysOk Tryz.prog tyTab = true := by kernel_rfl
theorem nfs_ok : nfsOk Tryz.prog tyTab nfTab = true := by kernel_rfl
theorem eqs_ok : eqsOk Tryz.prog tyTab eqTab = true := by kernel_rfl
theorem prog_mixed : Tryz.prog.follows .mixedOrders = true := by kernel_rfl
abbrev cx (own : List Nat) (l : List Sig) : Ctx := cxOf tyTab nfTab eqTab own l
abbrev cxN (own news : List Nat) (l : List Sig) : Ctx := cxNew tyTab nfTab eqTab own news l
def an_slices_IndexFunc_apiTraceCause : Ann := (.seq .nil (.seq (.seq .nil (.blk (.loopBD ⟨[⟨false, 8, 0, (.int .i64), [], false⟩], []⟩ ⟨[], []⟩ 0 .nil))) .nil))
def an_slices_ContainsFunc_apiTraceCause : Ann := .nil
def an_trace_unless : Ann := .nil
def an_trace_first : Ann := (.seq .nil (.seq (.seq .nil (.blk (.loopBD ⟨[⟨false, 7, 0, (.int .i64), [], false⟩], []⟩ ⟨[], []⟩ 0 .nil))) .nil))
def an_trace_within : Ann := .nil
def an_trace_course_stepsErr : Ann := .nil
def an_trace_trimmed : Ann := (.seq .nil (.seq (.blk (.loopB ⟨[⟨false, 0, 0, (.slice (.int .u32)), [], false⟩], []⟩ ⟨[⟨false, 0, 0, (.slice (.int .u32)), [], false⟩], []⟩ 0 .nil)) .nil))
def an_trace_naturalOf : Ann := .nil
def an_trace_size : Ann := .nil
def an_trace_whole : Ann := .nil
def an_trace_isName : Ann := (.seq .nil (.seq (.seq .nil (.blk (.loopBD ⟨[⟨false, 9, 0, (.int .i64), [], false⟩], []⟩ ⟨[], []⟩ 0 .nil))) .nil))
def an_trace_isArea : Ann := .nil
def an_trace_isPosition : Ann := .nil
def an_trace_strip_length : Ann := .nil
def an_trace_natural_digit : Ann := .nil
def an_trace_natural_times : Ann := (.seq .nil (.seq .nil (.seq (.seq .nil (.blk (.loopB ⟨[⟨false, 18, 0, (.int .i64), [], false⟩, ⟨true, 15, 142, (.slice (.int .u32)), [], true⟩], []⟩ ⟨[⟨true, 15, 142, (.slice (.int .u32)), [], true⟩], []⟩ 0 (.seq .nil (.seq .nil (.seq (.blk (.seq .nil (.seq .nil (.seq .nil (.blk (.loopB ⟨[⟨false, 7, 0, (.int .u64), [], false⟩, ⟨false, 24, 0, (.int .i64), [], false⟩, ⟨true, 15, 142, (.slice (.int .u32)), [], true⟩], []⟩ ⟨[⟨true, 15, 142, (.slice (.int .u32)), [], true⟩], []⟩ 2 .nil)))))) .nil)))))) (.seq (.frz 15 .nil) .nil))))
def an_trace_natural_plus : Ann := (.seq .nil (.seq .nil (.seq .nil (.seq (.seq .nil (.blk (.loopB ⟨[⟨false, 5, 0, (.slice (.int .u32)), [([], some 101000500)], false⟩, ⟨false, 6, 0, (.int .u64), [], false⟩, ⟨false, 14, 0, (.int .i64), [], false⟩], []⟩ ⟨[⟨false, 5, 0, (.slice (.int .u32)), [([], some 201000500)], false⟩], []⟩ 0 .nil))) .nil))))
def an_trace_natural_cmp : Ann := (.seq .nil (.seq .nil (.seq (.seq .nil (.blk (.loopBD ⟨[⟨false, 5, 0, (.int .i64), [], false⟩], []⟩ ⟨[], []⟩ 0 .nil))) .nil)))
def an_trace_natural_minus : Ann := (.seq .nil (.seq .nil (.seq .nil (.seq (.seq .nil (.blk (.loopB ⟨[⟨false, 5, 0, (.slice (.int .u32)), [([], some 101000500)], false⟩, ⟨false, 6, 0, (.int .u64), [], false⟩, ⟨false, 11, 0, (.int .i64), [], false⟩], []⟩ ⟨[⟨false, 5, 0, (.slice (.int .u32)), [([], some 201000500)], false⟩], []⟩ 0 .nil))) .nil))))
def an_bits_Len32 : Ann := (.seq .nil (.seq (.seq .nil (.join ⟨[⟨false, 0, 0, (.int .u32), [], false⟩, ⟨false, 2, 0, (.int .i64), [], false⟩], []⟩ .nil .nil)) (.seq (.seq .nil (.join ⟨[⟨false, 0, 0, (.int .u32), [], false⟩, ⟨false, 2, 0, (.int .i64), [], false⟩], []⟩ .nil .nil)) .nil)))
def an_trace_natural_length : Ann := .nil
def an_trace_natural_shifted : Ann := (.seq .nil (.seq .nil (.seq .nil (.seq (.seq .nil (.blk (.loopB ⟨[⟨false, 5, 0, (.slice (.int .u32)), [([], some 101000500)], false⟩, ⟨false, 6, 0, (.int .u64), [], false⟩, ⟨false, 14, 0, (.int .i64), [], false⟩], []⟩ ⟨[⟨false, 5, 0, (.slice (.int .u32)), [([], some 201000500)], false⟩], []⟩ 0 .nil))) .nil))))
def an_trace_natural_divided : Ann := (.seq .nil (.seq .nil (.seq (.seq .nil (.blk (.loopB ⟨[⟨false, 4, 0, (.slice (.int .u32)), [], false⟩, ⟨false, 5, 0, (.slice (.int .u32)), [], false⟩, ⟨false, 6, 0, (.int .i64), [], false⟩], []⟩ ⟨[⟨false, 4, 0, (.slice (.int .u32)), [], false⟩, ⟨false, 5, 0, (.slice (.int .u32)), [], false⟩], []⟩ 0 (.seq .nil (.seq (.blk (.seq .nil (.seq .nil (.seq .nil (.join ⟨[⟨false, 4, 0, (.slice (.int .u32)), [], false⟩, ⟨false, 5, 0, (.slice (.int .u32)), [], false⟩], []⟩ .nil .nil))))) .nil))))) .nil)))
def an_trace_divisor : Ann := (.seq .nil (.seq (.blk (.loopB ⟨[⟨false, 0, 0, (.slice (.int .u32)), [], false⟩, ⟨false, 1, 0, (.slice (.int .u32)), [], false⟩], []⟩ ⟨[⟨false, 0, 0, (.slice (.int .u32)), [], false⟩], []⟩ 0 .nil)) .nil))
def an_trace_ratioOf : Ann := .nil
def an_trace_ratio_plus : Ann := .nil
def an_trace_ratio_opposite : Ann := .nil
def an_trace_ratio_minus : Ann := .nil
def an_trace_ratio_cmp : Ann := .nil
def an_trace_ratio_between : Ann := .nil
def an_trace_strip_has : Ann := .nil
def an_slices_IndexFunc_int : Ann := (.seq .nil (.seq (.seq .nil (.blk (.loopBD ⟨[⟨false, 8, 0, (.int .i64), [], false⟩], []⟩ ⟨[], []⟩ 0 .nil))) .nil))
def an_slices_ContainsFunc_int : Ann := .nil
def an_trace_strip_step_1 : Ann := .nil
def an_trace_section_length : Ann := .nil
def an_trace_ratio_times : Ann := .nil
def an_trace_quotient : Ann := .nil
def an_trace_strip_rolled : Ann := (.seq .nil (.seq .nil (.seq .nil (.seq (.seq .nil (.blk (.loopB ⟨[⟨false, 5, 0, (.slice Ttrace_section), [([], some 101000500)], false⟩, ⟨false, 13, 0, (.int .i64), [], false⟩, ⟨true, 6, 144, Ttrace_ratio, [], false⟩], []⟩ ⟨[⟨false, 5, 0, (.slice Ttrace_section), [([], some 201000500)], false⟩], []⟩ 0 .nil))) .nil))))
def an_trace_strip_cut : Ann := (.seq .nil (.seq .nil (.seq .nil (.seq (.seq .nil (.blk (.loopB ⟨[⟨false, 7, 0, (.slice Ttrace_section), [([], some 601000700)], false⟩, ⟨false, 22, 0, (.int .i64), [], false⟩], [8, 9]⟩ ⟨[⟨false, 7, 0, (.slice Ttrace_section), [([], some 1201000700)], false⟩], [8, 9]⟩ 0 (.seq .nil (.seq .nil (.seq (.blk (.seq .nil (.seq .nil (.seq (.seq .nil (.join ⟨[⟨true, 12, 162, (.arr 2 Ttrace_ratio), [], false⟩], [8, 9, 11, 601000700]⟩ .nil .nil)) (.seq (.seq .nil (.join ⟨[⟨true, 12, 162, (.arr 2 Ttrace_ratio), [], false⟩], [8, 9, 11, 601000700]⟩ .nil .nil)) (.seq .nil (.seq .nil (.seq (.seq .nil (.blk (.loopB ⟨[⟨false, 54, 0, (.int .i64), [], false⟩, ⟨true, 13, 164, Ttrace_section, [], false⟩], [8, 9, 11, 12, 601000700]⟩ ⟨[⟨true, 13, 164, Ttrace_section, [], false⟩], [8, 9, 11, 12, 601000700]⟩ 2 .nil))) .nil)))))))) .nil)))))) .nil))))
def an_trace_ratio_frac : Ann := (.seq .nil (.seq .nil (.seq .nil (.seq .nil (.seq (.seq .nil (.join ⟨[⟨false, 5, 0, (.int .i64), [], false⟩], [1, 2]⟩ .nil .nil)) .nil)))))
def an_trace_strip_isSmall : Ann := (.seq .nil (.seq (.seq .nil (.blk (.loopBD ⟨[⟨false, 11, 0, (.int .i64), [], false⟩], []⟩ ⟨[], []⟩ 0 .nil))) .nil))
def an_trace_strip_step : Ann := (.seq .nil (.seq .nil (.seq (.seq .nil (.blk (.seq .nil (.joinD ⟨[⟨false, 6, 0, (.slice Ttrace_section), [], false⟩], [3]⟩ .nil .nil)))) .nil)))
def an_trace_open : Ann := (.seq .nil (.seq .nil (.seq .nil (.seq .nil (.seq .nil (.seq .nil (.seq (.seq .nil (.blk (.loopBD ⟨[⟨false, 7, 0, (.slice Ttrace_section), [([], some 101000700)], false⟩, ⟨false, 8, 0, (.int .i64), [], false⟩, ⟨false, 50, 0, (.int .i64), [], false⟩], [1, 2, 5, 41]⟩ ⟨[⟨false, 7, 0, (.slice Ttrace_section), [([], some 201000700)], false⟩], [1, 2, 5, 41]⟩ 0 .nil))) (.seq .nil (.seq .nil (.seq (.seq .nil (.blk (.loopBD ⟨[⟨false, 106, 0, (.int .i64), [], false⟩, ⟨true, 5, 112, Ttrace_course, [([.snd], some 450000500)], false⟩], [1, 2, 41, 201000700]⟩ ⟨[⟨true, 5, 112, Ttrace_course, [([.snd], some 550000500)], false⟩], [1, 2, 41, 201000700]⟩ 2 .nil))) .nil))))))))))
def an_trace_opened : Ann := (.seq .nil (.seq .nil (.seq (.seq .nil (.blk (.loopB ⟨[⟨false, 8, 0, (.int .i64), [], false⟩, ⟨false, 19, 0, (.int .i64), [], false⟩], [2, 4, 6]⟩ ⟨[⟨false, 8, 0, (.int .i64), [], false⟩], [2, 4, 6]⟩ 0 .nil))) .nil)))
def an_trace_openCauses_1 : Ann := .nil
def an_trace_openCauses : Ann := (.seq .nil (.seq .nil (.seq .nil (.seq (.seq .nil (.blk (.loopBD ⟨[⟨false, 31, 0, (.int .i64), [], false⟩], [2, 4, 7, 23]⟩ ⟨[], [2, 4, 7, 23]⟩ 0 (.seq .nil (.seq .nil (.seq (.blk (.seq .nil (.seq (.frz 10 .nil) .nil))) .nil)))))) .nil))))
def an_trace_course_readingErr : Ann := .nil
def an_trace_course_openReadings : Ann := (.seq .nil (.seq .nil (.seq (.seq .nil (.blk (.loopBD ⟨[⟨false, 13, 0, (.int .i64), [], false⟩], [2]⟩ ⟨[], [2]⟩ 0 .nil))) .nil)))
def an_trace_strip_slabAt : Ann := (.seq .nil (.seq (.seq .nil (.blk (.loopBD ⟨[⟨false, 9, 0, (.int .i64), [], false⟩], [3, 4]⟩ ⟨[], [3, 4]⟩ 0 .nil))) .nil))
def an_trace_strip_at : Ann := (.seq .nil (.seq (.seq .nil (.blk (.loopBD ⟨[⟨false, 10, 0, (.int .i64), [], false⟩], [3, 4]⟩ ⟨[], [3, 4]⟩ 0 .nil))) .nil))
def an_trace_course_place : Ann := .nil
def an_trace_ratio_over : Ann := .nil
def an_trace_ratio_floor : Ann := .nil
def an_trace_course_predicts : Ann := (.seq .nil (.seq .nil (.seq .nil (.seq .nil (.seq .nil (.seq (.seq .nil (.join ⟨[⟨true, 9, 144, Ttrace_ratio, [], false⟩], [3, 4, 5, 7]⟩ .nil .nil)) .nil))))))
def an_trace_course_evidenceOf : Ann := (.seq .nil (.seq .nil (.seq (.seq .nil (.blk (.loopB ⟨[⟨false, 18, 0, (.int .i64), [], false⟩, ⟨true, 7, 123, Ttrace_evidence, [([.snd, .fst], some 750000700), ([.snd, .snd], some 750000701)], false⟩], [3, 6]⟩ ⟨[⟨true, 7, 123, Ttrace_evidence, [([.snd, .fst], some 1450000700), ([.snd, .snd], some 1450000701)], false⟩], [3, 6]⟩ 0 (.seq .nil (.seq .nil (.seq (.blk (.seq .nil (.seq .nil (.seq (.seq .nil (.blk (.loopB ⟨[⟨false, 10, 0, (.int .u64), [], false⟩, ⟨false, 24, 0, (.int .i64), [], false⟩], [3, 6, 7, 9, 750000700, 750000701]⟩ ⟨[⟨false, 10, 0, (.int .u64), [], false⟩], [3, 6, 7, 9, 750000700, 750000701]⟩ 2 (.seq .nil (.seq .nil (.seq (.blk (.seq .nil (.seq .nil (.join ⟨[⟨false, 10, 0, (.int .u64), [], false⟩], [3, 6, 7, 9, 12, 750000700, 750000701]⟩ .nil .nil)))) .nil)))))) .nil)))) .nil)))))) .nil)))
def an_trace_openEvidence : Ann := (.seq .nil (.seq .nil (.seq (.seq .nil (.join ⟨[⟨false, 11, 0, (.int .i64), [], false⟩], [3, 6, 7, 9]⟩ .nil .nil)) .nil)))
def an_trace_evidence_every : Ann := .nil
def an_bits_OnesCount32 : Ann := .nil
def an_bits_OnesCount64 : Ann := .nil
def an_bits_OnesCount : Ann := .nil
def an_trace_set_has : Ann := .nil
def an_trace_evidence_firstWrong : Ann := (.seq .nil (.seq (.seq .nil (.blk (.loopBD ⟨[⟨false, 12, 0, (.int .i64), [], false⟩], [3]⟩ ⟨[], [3]⟩ 0 .nil))) .nil))
def an_trace_set_list : Ann := (.seq .nil (.seq .nil (.seq (.seq .nil (.blk (.loopB ⟨[⟨false, 3, 0, (.slice (.int .i64)), [([], some 201000300)], false⟩, ⟨false, 5, 0, (.int .i64), [], false⟩], []⟩ ⟨[⟨false, 3, 0, (.slice (.int .i64)), [([], some 401000300)], false⟩], []⟩ 0 (.seq .nil (.seq .nil (.seq (.blk (.seq .nil (.seq .nil (.join ⟨[⟨false, 3, 0, (.slice (.int .i64)), [([], some 501000300)], false⟩], []⟩ .nil .nil)))) .nil)))))) .nil)))
def an_trace_Explanations : Ann := (.seq .nil (.seq .nil (.seq .nil (.seq .nil (.seq (.seq .nil (.blk (.loopB ⟨[⟨false, 11, 0, (.slice (.slice (.int .i64))), [([], some 101001100)], false⟩, ⟨false, 30, 0, (.int .i64), [], false⟩], [3, 8, 9]⟩ ⟨[⟨false, 11, 0, (.slice (.slice (.int .i64))), [([], some 201001100)], false⟩], [3, 8, 9]⟩ 0 .nil))) .nil)))))
def an_trace_small : Ann := .nil
def an_trace_PlaceOf : Ann := (.seq .nil (.seq .nil (.seq (.seq .nil (.join ⟨[⟨false, 9, 0, (.int .i64), [], false⟩], [3, 4, 6, 8]⟩ .nil .nil)) .nil)))
def an_b0_Whole : Ann := .nil
def an_l9_Course : Ann := .nil
def an_l9_Causes : Ann := .nil
def an_b0_Ints : Ann := (.seq .nil (.seq .nil (.seq (.seq .nil (.blk (.loopBD ⟨[⟨false, 5, 0, (.int .i64), [], false⟩], []⟩ ⟨[], []⟩ 0 .nil))) .nil)))
def an_b0_Lists : Ann := (.seq .nil (.seq .nil (.seq (.seq .nil (.blk (.loopBD ⟨[⟨false, 5, 0, (.int .i64), [], false⟩], []⟩ ⟨[], []⟩ 0 .nil))) .nil)))
def an_cobbletop_traceAwake : Ann := .nil
def an_l9_Few : Ann := (.seq .nil (.seq .nil (.seq (.seq .nil (.blk (.loopBD ⟨[⟨false, 3, 0, (.int .i64), [], false⟩], [1]⟩ ⟨[], [1]⟩ 0 .nil))) .nil)))
def an_b0_Within : Ann := .nil
def an_b0_IsName : Ann := (.seq .nil (.seq .nil (.seq (.seq .nil (.blk (.loopBD ⟨[⟨false, 3, 0, (.int .i64), [], false⟩], []⟩ ⟨[], []⟩ 0 .nil))) .nil)))
def an_b0_Size : Ann := .nil
def an_b0_trimmed : Ann := (.seq .nil (.seq .nil (.seq (.blk (.loopB ⟨[⟨false, 3, 0, (.int .i64), [], false⟩], []⟩ ⟨[⟨false, 3, 0, (.int .i64), [], false⟩], []⟩ 0 .nil)) .nil)))
def an_b0_wideOf : Ann := (.seq .nil (.seq .nil (.seq (.seq .nil (.join ⟨[⟨false, 0, 0, (.int .i64), [], false⟩], [4]⟩ .nil .nil)) .nil)))
def an_b0_WideOf : Ann := (.seq .nil (.seq .nil (.seq (.seq .nil (.join ⟨[⟨false, 3, 0, (.int .i64), [], false⟩], [2]⟩ .nil .nil)) (.seq .nil (.seq (.blk (.loopB ⟨[⟨false, 0, 0, (.int .i64), [], false⟩, ⟨false, 4, 0, (.slice (.int .i64)), [([], some 201000400)], false⟩], [2]⟩ ⟨[⟨false, 4, 0, (.slice (.int .i64)), [([], some 301000400)], false⟩], [2]⟩ 0 .nil)) .nil)))))
def an_b0_RatioInt : Ann := .nil
def an_r9_slab : Ann := (.seq .nil (.seq .nil (.seq (.seq .nil (.blk (.loopB ⟨[⟨false, 3, 0, (.slice Tr9_Section), [([], some 101000300)], false⟩, ⟨false, 4, 0, (.int .i64), [], false⟩], [1]⟩ ⟨[⟨false, 3, 0, (.slice Tr9_Section), [([], some 201000300)], false⟩], [1]⟩ 0 .nil))) .nil)))
def an_b0_WideMul : Ann := (.seq .nil (.seq .nil (.seq (.seq .nil (.blk (.loopB ⟨[⟨false, 6, 0, (.int .i64), [], false⟩, ⟨true, 18, 22, (.slice (.int .i64)), [], true⟩], [2, 3, 4]⟩ ⟨[⟨true, 18, 22, (.slice (.int .i64)), [], true⟩], [2, 3, 4]⟩ 0 (.seq .nil (.seq (.blk (.seq .nil (.seq (.seq .nil (.blk (.loopB ⟨[⟨false, 7, 0, (.int .i64), [], false⟩, ⟨false, 8, 0, (.int .i64), [], false⟩, ⟨true, 18, 22, (.slice (.int .i64)), [], true⟩], [2, 3, 4]⟩ ⟨[⟨false, 7, 0, (.int .i64), [], false⟩, ⟨true, 18, 22, (.slice (.int .i64)), [], true⟩], [2, 3, 4]⟩ 2 .nil))) .nil))) .nil))))) (.seq (.frz 18 .nil) .nil))))
def an_b0_digit : Ann := .nil
def an_b0_addDigits : Ann := (.seq .nil (.seq .nil (.seq .nil (.seq (.seq .nil (.blk (.loopB ⟨[⟨false, 5, 0, (.slice (.int .i64)), [([], some 101000500)], false⟩, ⟨false, 6, 0, (.int .i64), [], false⟩, ⟨false, 7, 0, (.int .i64), [], false⟩], []⟩ ⟨[⟨false, 5, 0, (.slice (.int .i64)), [([], some 201000500)], false⟩], []⟩ 0 .nil))) .nil))))
def an_b0_cmpDigits : Ann := (.seq .nil (.seq .nil (.seq (.seq .nil (.blk (.loopBD ⟨[⟨false, 5, 0, (.int .i64), [], false⟩], []⟩ ⟨[], []⟩ 0 .nil))) .nil)))
def an_b0_subDigits : Ann := (.seq .nil (.seq .nil (.seq .nil (.seq (.seq .nil (.blk (.loopB ⟨[⟨false, 5, 0, (.slice (.int .i64)), [([], some 201000500)], false⟩, ⟨false, 6, 0, (.int .i64), [], false⟩, ⟨false, 7, 0, (.int .i64), [], false⟩], []⟩ ⟨[⟨false, 5, 0, (.slice (.int .i64)), [([], some 401000500)], false⟩], []⟩ 0 (.seq .nil (.seq (.blk (.seq .nil (.seq .nil (.seq (.seq .nil (.join ⟨[⟨false, 6, 0, (.int .i64), [], false⟩, ⟨false, 8, 0, (.int .i64), [], false⟩], [201000500]⟩ .nil .nil)) .nil)))) .nil))))) .nil))))
def an_b0_WideAdd : Ann := .nil
def an_b0_WideNeg : Ann := .nil
def an_b0_WideSub : Ann := .nil
def an_b0_WideCmp : Ann := .nil
def an_b0_RatioCmp : Ann := .nil
def an_b0_WideSign : Ann := .nil
def an_b0_WideFloor : Ann := (.seq .nil (.seq .nil (.seq .nil (.seq (.seq .nil (.blk (.loopB ⟨[⟨false, 6, 0, (.slice (.int .i64)), [], false⟩, ⟨false, 7, 0, (.int .i64), [], false⟩, ⟨true, 19, 22, (.slice (.int .i64)), [], true⟩], [2, 3, 4, 20]⟩ ⟨[⟨false, 6, 0, (.slice (.int .i64)), [], false⟩, ⟨true, 19, 22, (.slice (.int .i64)), [], true⟩], [2, 3, 4, 20]⟩ 0 (.seq .nil (.seq (.blk (.seq .nil (.seq .nil (.seq (.blk (.loopB ⟨[⟨false, 8, 0, (.int .i64), [], false⟩, ⟨false, 9, 0, (.int .i64), [], false⟩], [2, 3, 4, 19, 20, 36]⟩ ⟨[⟨false, 8, 0, (.int .i64), [], false⟩], [2, 3, 4, 19, 20, 36]⟩ 2 (.seq .nil (.blk (.seq .nil (.seq .nil (.join ⟨[⟨false, 8, 0, (.int .i64), [], false⟩, ⟨false, 9, 0, (.int .i64), [], false⟩], [2, 3, 4, 19, 20, 36]⟩ .nil .nil))))))) .nil)))) .nil))))) (.seq (.frz 19 .nil) (.seq (.seq .nil (.join ⟨[⟨true, 11, 60, Tb0_Wide, [], false⟩], [2, 3, 4, 20]⟩ .nil .nil)) .nil))))))
def an_b0_wideSize : Ann := .nil
def an_b0_wideGcd : Ann := (.seq .nil (.seq .nil (.seq (.blk (.loopB ⟨[⟨true, 2, 60, Tb0_Wide, [], false⟩, ⟨true, 3, 60, Tb0_Wide, [], false⟩], [4]⟩ ⟨[⟨true, 2, 60, Tb0_Wide, [], false⟩], [4]⟩ 0 .nil)) .nil)))
def an_b0_RatioMake : Ann := (.seq .nil (.seq (.seq .nil (.join ⟨[⟨true, 2, 60, Tb0_Wide, [], false⟩, ⟨true, 3, 60, Tb0_Wide, [], false⟩], [4]⟩ .nil .nil)) .nil))
def an_b0_RatioAdd : Ann := .nil
def an_r9_Strip_Length : Ann := (.seq .nil (.seq .nil (.seq (.seq .nil (.blk (.loopB ⟨[⟨false, 4, 0, (.int .i64), [], false⟩, ⟨true, 3, 62, Tb0_Ratio, [], false⟩], [2]⟩ ⟨[⟨true, 3, 62, Tb0_Ratio, [], false⟩], [2]⟩ 0 .nil))) .nil)))
def an_b0_RatioMul : Ann := .nil
def an_b0_RatioOf : Ann := .nil
def an_r9_pass : Ann := (.seq .nil (.seq .nil (.seq (.seq .nil (.blk (.loopB ⟨[⟨false, 5, 0, (.slice Tr9_Section), [([], some 101000500)], false⟩, ⟨false, 6, 0, (.int .i64), [], false⟩], []⟩ ⟨[⟨false, 5, 0, (.slice Tr9_Section), [([], some 201000500)], false⟩], []⟩ 0 .nil))) .nil)))
def an_b0_RatioNeg : Ann := .nil
def an_b0_RatioSub : Ann := .nil
def an_r9_cut : Ann := (.seq .nil (.seq .nil (.seq .nil (.seq .nil (.seq (.seq .nil (.blk (.loopB ⟨[⟨false, 10, 0, (.slice Tr9_Section), [([], some 401001000)], false⟩, ⟨false, 11, 0, (.int .i64), [], false⟩, ⟨true, 9, 62, Tb0_Ratio, [], false⟩], [7, 8]⟩ ⟨[⟨false, 10, 0, (.slice Tr9_Section), [([], some 801001000)], false⟩], [7, 8]⟩ 0 (.seq .nil (.seq (.blk (.seq .nil (.seq .nil (.seq (.seq .nil (.join ⟨[⟨true, 13, 62, Tb0_Ratio, [], false⟩], [7, 8, 9, 12, 14, 401001000]⟩ .nil .nil)) (.seq (.seq .nil (.join ⟨[⟨true, 14, 62, Tb0_Ratio, [], false⟩], [7, 8, 9, 12, 13, 401001000]⟩ .nil .nil)) (.seq (.seq .nil (.join ⟨[⟨false, 10, 0, (.slice Tr9_Section), [([], some 1101001000)], false⟩], [7, 8, 9, 12, 13, 14]⟩ .nil .nil)) .nil)))))) .nil))))) .nil)))))
def an_r9_Strip_Ends : Ann := (.seq .nil (.seq .nil (.seq .nil (.seq (.seq .nil (.blk (.loopB ⟨[⟨false, 4, 0, (.slice Tb0_Ratio), [([], some 101000400)], false⟩, ⟨false, 5, 0, (.int .i64), [], false⟩, ⟨true, 3, 62, Tb0_Ratio, [], false⟩], []⟩ ⟨[⟨false, 4, 0, (.slice Tb0_Ratio), [([], some 201000400)], false⟩], []⟩ 0 .nil))) .nil))))
def an_b0_IsSmall : Ann := .nil
def an_b0_WideInt : Ann := (.seq .nil (.seq .nil (.seq .nil (.seq (.seq .nil (.blk (.loopB ⟨[⟨false, 4, 0, (.int .i64), [], false⟩, ⟨false, 5, 0, (.int .i64), [], false⟩], [1]⟩ ⟨[⟨false, 4, 0, (.int .i64), [], false⟩], [1]⟩ 0 .nil))) .nil))))
def an_b0_RatioFrac : Ann := .nil
def an_r9_isSmall : Ann := .nil
def an_r9_stepErr : Ann := (.seq .nil (.seq .nil (.seq (.seq .nil (.blk (.seq .nil (.joinD ⟨[⟨false, 6, 0, (.slice Tr9_Section), [], false⟩], [3]⟩ (.seq .nil (.seq .nil (.seq (.seq .nil (.blk (.loopBD ⟨[⟨false, 7, 0, (.int .i64), [], false⟩], [3]⟩ ⟨[], [3]⟩ 1 .nil))) .nil))) .nil)))) (.seq .nil (.seq (.seq .nil (.blk (.loopBD ⟨[⟨false, 9, 0, (.int .i64), [], false⟩], [3]⟩ ⟨[], [3]⟩ 3 .nil))) .nil)))))
def an_r9_CheckCourse : Ann := (.seq .nil (.seq .nil (.seq .nil (.seq .nil (.seq (.seq .nil (.blk (.loopBD ⟨[⟨false, 4, 0, (.int .i64), [], false⟩], [1]⟩ ⟨[], [1]⟩ 0 .nil))) (.seq .nil (.seq .nil (.seq (.seq .nil (.blk (.loopBD ⟨[⟨false, 5, 0, (.slice Tr9_Section), [], false⟩, ⟨false, 6, 0, (.int .i64), [], false⟩], [1]⟩ ⟨[], [1]⟩ 2 .nil))) .nil))))))))
def an_r9_CourseErr : Ann := .nil
def an_r9_StepsErr : Ann := .nil
def an_r9_CheckCauses : Ann := (.seq .nil (.seq .nil (.seq .nil (.seq (.seq .nil (.blk (.loopBD ⟨[⟨false, 7, 0, (.int .i64), [], false⟩], [2]⟩ ⟨[], [2]⟩ 0 (.seq .nil (.seq (.blk (.seq .nil (.seq .nil (.seq (.seq .nil (.blk (.loopBD ⟨[⟨false, 9, 0, (.int .i64), [], false⟩], [2, 8]⟩ ⟨[], [2, 8]⟩ 2 .nil))) .nil)))) .nil))))) .nil))))
def an_r9_CausesErr : Ann := .nil
def an_r9_strips : Ann := (.seq .nil (.seq .nil (.seq (.seq .nil (.blk (.loopB ⟨[⟨false, 5, 0, (.slice (.slice Tr9_Section)), [([], some 201000500)], false⟩, ⟨false, 6, 0, (.int .i64), [], false⟩], [2]⟩ ⟨[⟨false, 5, 0, (.slice (.slice Tr9_Section)), [([], some 501000500)], false⟩], [2]⟩ 0 (.seq .nil (.seq (.blk (.seq .nil (.seq .nil (.join ⟨[⟨false, 5, 0, (.slice (.slice Tr9_Section)), [([], some 601000500)], false⟩], [2, 7]⟩ .nil .nil)))) .nil))))) .nil)))
def an_r9_After : Ann := .nil
def an_r9_ReadingErr : Ann := .nil
def an_r9_ReadingsErr : Ann := (.seq .nil (.seq .nil (.seq (.seq .nil (.blk (.loopBD ⟨[⟨false, 5, 0, (.int .i64), [], false⟩], [2]⟩ ⟨[], [2]⟩ 0 .nil))) .nil)))
def an_r9_CopyReadings : Ann := .nil
def an_trace_Predicts_1 : Ann := .nil
def an_trace_Predicts : Ann := (.seq .nil (.seq .nil (.seq (.seq .nil (.join ⟨[⟨false, 10, 0, (.int .i64), [], false⟩], [3, 5, 8]⟩ .nil .nil)) (.seq .nil (.seq (.frz 8 (.frz 5 .nil)) .nil)))))
def an_b0_CopyInts : Ann := .nil
def an_r9_CopyCourse : Ann := (.seq .nil (.seq .nil (.seq (.seq .nil (.blk (.loopB ⟨[⟨false, 4, 0, (.int .i64), [], false⟩, ⟨true, 3, 25, Tapi_TraceCourse, [([.snd, .snd, .snd], some 150000300)], false⟩], [1, 2]⟩ ⟨[⟨true, 3, 25, Tapi_TraceCourse, [([.snd, .snd, .snd], some 250000300)], false⟩], [1, 2]⟩ 0 .nil))) .nil)))
def an_r9_CopyCauses : Ann := .nil
def an_trace_Contradiction : Ann := .nil
def an_cobbletop_TopTraceRejected : Ann := (.seq .nil (.seq .nil (.seq .nil (.seq .nil (.seq (.seq .nil (.blk (.loopB ⟨[⟨false, 7, 0, (.slice Tapi_TraceCause), [([], some 101000700)], false⟩, ⟨false, 8, 0, (.int .i64), [], false⟩], [3]⟩ ⟨[⟨false, 7, 0, (.slice Tapi_TraceCause), [([], some 201000700)], false⟩], [3]⟩ 0 .nil))) (.seq .nil (.seq (.seq .nil (.blk (.loopBD ⟨[⟨false, 10, 0, (.int .i64), [], false⟩, ⟨true, 61, 27, (.slice Tapi_TraceReading), [], true⟩], [3, 201000700]⟩ ⟨[⟨true, 61, 27, (.slice Tapi_TraceReading), [], true⟩], [3, 201000700]⟩ 2 .nil))) (.seq (.seq (.frz 61 .nil) .nil) (.seq .nil (.seq .nil (.seq .nil (.seq (.seq .nil (.blk (.loopBD ⟨[⟨false, 17, 0, (.int .i64), [], false⟩, ⟨false, 18, 0, (.int .i64), [], false⟩], [3, 201000700]⟩ ⟨[⟨false, 17, 0, (.int .i64), [], false⟩], [3, 201000700]⟩ 4 .nil))) (.seq (.seq .nil (.blk (.loopBD ⟨[⟨false, 24, 0, (.int .i64), [], false⟩], [3, 201000700]⟩ ⟨[], [3, 201000700]⟩ 6 .nil))) .nil)))))))))))))
noncomputable abbrev sg_slices_Clone_uint32 : Sig := ⟨159, [(.slice (.int .u32))], [(.slice (.int .u32))], fun x => slices_Clone_uint32 x⟩
noncomputable abbrev sg_trace_evidence_explanations : Sig := ⟨56, [Ttrace_evidence, (.int .u64)], [(.slice (.int .u64))], fun x => trace_evidence_explanations x.1 x.2⟩
noncomputable abbrev sg_slices_IndexFunc_apiTraceCause : Sig := ⟨105, [(.slice Tapi_TraceCause), (.fn Tapi_TraceCause .bool)], [(.int .i64)], fun x => slices_IndexFunc_apiTraceCause x.1 x.2⟩
noncomputable abbrev sg_slices_ContainsFunc_apiTraceCause : Sig := ⟨49, [(.slice Tapi_TraceCause), (.fn Tapi_TraceCause .bool)], [.bool], fun x => slices_ContainsFunc_apiTraceCause x.1 x.2⟩
noncomputable abbrev sg_trace_unless : Sig := ⟨58, [.bool, (.int .i64)], [(.int .i64)], fun x => trace_unless x.1 x.2⟩
noncomputable abbrev sg_trace_first : Sig := ⟨63, [(.slice (.int .i64))], [(.int .i64)], fun x => trace_first x⟩
noncomputable abbrev sg_trace_within : Sig := ⟨71, [(.int .i64), (.int .i64), (.int .i64)], [.bool], fun x => trace_within x.1 x.2.1 x.2.2⟩
noncomputable abbrev sg_trace_course_stepsErr : Sig := ⟨64, [Ttrace_course, (.int .i64)], [(.int .i64)], fun x => trace_course_stepsErr x.1 x.2⟩
noncomputable abbrev sg_trace_trimmed : Sig := ⟨155, [(.slice (.int .u32))], [(.slice (.int .u32))], fun x => trace_trimmed x⟩
noncomputable abbrev sg_trace_naturalOf : Sig := ⟨122, [(.int .u64)], [(.slice (.int .u32))], fun x => trace_naturalOf x⟩
noncomputable abbrev sg_trace_size : Sig := ⟨123, [(.int .i64)], [(.int .u64)], fun x => trace_size x⟩
noncomputable abbrev sg_trace_whole : Sig := ⟨75, [(.int .i64)], [Ttrace_ratio], fun x => trace_whole x⟩
noncomputable abbrev sg_trace_isName : Sig := ⟨102, [.str], [.bool], fun x => trace_isName x⟩
noncomputable abbrev sg_trace_isArea : Sig := ⟨152, [(.int .i64)], [.bool], fun x => trace_isArea x⟩
noncomputable abbrev sg_trace_isPosition : Sig := ⟨103, [(.int .i64)], [.bool], fun x => trace_isPosition x⟩
noncomputable abbrev sg_trace_strip_length : Sig := ⟨73, [(.slice Ttrace_section)], [Ttrace_ratio], fun x => trace_strip_length x⟩
noncomputable abbrev sg_trace_natural_digit : Sig := ⟨154, [(.slice (.int .u32)), (.int .i64)], [(.int .u64)], fun x => trace_natural_digit x.1 x.2⟩
noncomputable abbrev sg_trace_natural_times : Sig := ⟨126, [(.slice (.int .u32)), (.slice (.int .u32))], [(.slice (.int .u32))], fun x => trace_natural_times x.1 x.2⟩
noncomputable abbrev sg_trace_natural_plus : Sig := ⟨128, [(.slice (.int .u32)), (.slice (.int .u32))], [(.slice (.int .u32))], fun x => trace_natural_plus x.1 x.2⟩
noncomputable abbrev sg_trace_natural_cmp : Sig := ⟨129, [(.slice (.int .u32)), (.slice (.int .u32))], [(.int .i64)], fun x => trace_natural_cmp x.1 x.2⟩
noncomputable abbrev sg_trace_natural_minus : Sig := ⟨130, [(.slice (.int .u32)), (.slice (.int .u32))], [(.slice (.int .u32))], fun x => trace_natural_minus x.1 x.2⟩
noncomputable abbrev sg_bits_Len32 : Sig := ⟨168, [(.int .u32)], [(.int .i64)], fun x => bits_Len32 x⟩
noncomputable abbrev sg_trace_natural_length : Sig := ⟨160, [(.slice (.int .u32))], [(.int .i64)], fun x => trace_natural_length x⟩
noncomputable abbrev sg_trace_natural_shifted : Sig := ⟨161, [(.slice (.int .u32)), (.int .i64)], [(.slice (.int .u32))], fun x => trace_natural_shifted x.1 x.2⟩
noncomputable abbrev sg_trace_natural_divided : Sig := ⟨145, [(.slice (.int .u32)), (.slice (.int .u32))], [(.slice (.int .u32)), (.slice (.int .u32))], fun x => trace_natural_divided x.1 x.2⟩
noncomputable abbrev sg_trace_divisor : Sig := ⟨134, [(.slice (.int .u32)), (.slice (.int .u32))], [(.slice (.int .u32))], fun x => trace_divisor x.1 x.2⟩
noncomputable abbrev sg_trace_ratioOf : Sig := ⟨127, [.bool, (.slice (.int .u32)), (.slice (.int .u32))], [Ttrace_ratio], fun x => trace_ratioOf x.1 x.2.1 x.2.2⟩
noncomputable abbrev sg_trace_ratio_plus : Sig := ⟨81, [Ttrace_ratio, Ttrace_ratio], [Ttrace_ratio], fun x => trace_ratio_plus x.1 x.2⟩
noncomputable abbrev sg_trace_ratio_opposite : Sig := ⟨144, [Ttrace_ratio], [Ttrace_ratio], fun x => trace_ratio_opposite x⟩
noncomputable abbrev sg_trace_ratio_minus : Sig := ⟨106, [Ttrace_ratio, Ttrace_ratio], [Ttrace_ratio], fun x => trace_ratio_minus x.1 x.2⟩
noncomputable abbrev sg_trace_ratio_cmp : Sig := ⟨74, [Ttrace_ratio, Ttrace_ratio], [(.int .i64)], fun x => trace_ratio_cmp x.1 x.2⟩
noncomputable abbrev sg_trace_ratio_between : Sig := ⟨89, [Ttrace_ratio, Ttrace_ratio, Ttrace_ratio], [.bool], fun x => trace_ratio_between x.1 x.2.1 x.2.2⟩
noncomputable abbrev sg_trace_strip_has : Sig := ⟨104, [(.slice Ttrace_section), (.int .i64)], [.bool], fun x => trace_strip_has x.1 x.2⟩
noncomputable abbrev sg_slices_IndexFunc_int : Sig := ⟨170, [(.slice (.int .i64)), (.fn (.int .i64) .bool)], [(.int .i64)], fun x => slices_IndexFunc_int x.1 x.2⟩
noncomputable abbrev sg_slices_ContainsFunc_int : Sig := ⟨163, [(.slice (.int .i64)), (.fn (.int .i64) .bool)], [.bool], fun x => slices_ContainsFunc_int x.1 x.2⟩
noncomputable abbrev sg_trace_strip_step_1 : Sig := ⟨164, [(.int .i64)], [.bool], fun x => trace_strip_step_1 x⟩
noncomputable abbrev sg_trace_section_length : Sig := ⟨82, [Ttrace_section], [Ttrace_ratio], fun x => trace_section_length x⟩
noncomputable abbrev sg_trace_ratio_times : Sig := ⟨83, [Ttrace_ratio, Ttrace_ratio], [Ttrace_ratio], fun x => trace_ratio_times x.1 x.2⟩
noncomputable abbrev sg_trace_quotient : Sig := ⟨124, [(.int .i64), (.int .i64)], [Ttrace_ratio], fun x => trace_quotient x.1 x.2⟩
noncomputable abbrev sg_trace_strip_rolled : Sig := ⟨165, [(.slice Ttrace_section), (.slice (.int .i64))], [(.slice Ttrace_section)], fun x => trace_strip_rolled x.1 x.2⟩
noncomputable abbrev sg_trace_strip_cut : Sig := ⟨166, [(.slice Ttrace_section), (.int .i64), (.int .i64)], [(.slice Ttrace_section)], fun x => trace_strip_cut x.1 x.2.1 x.2.2⟩
noncomputable abbrev sg_trace_ratio_frac : Sig := ⟨119, [Ttrace_ratio], [Tapi_Frac, .bool], fun x => trace_ratio_frac x⟩
noncomputable abbrev sg_trace_strip_isSmall : Sig := ⟨167, [(.slice Ttrace_section)], [.bool], fun x => trace_strip_isSmall x⟩
noncomputable abbrev sg_trace_strip_step : Sig := ⟨153, [(.slice Ttrace_section), Tapi_TraceStep], [(.slice Ttrace_section), (.int .i64)], fun x => trace_strip_step x.1 x.2⟩
noncomputable abbrev sg_trace_open : Sig := ⟨118, [Tapi_TraceCourse], [Ttrace_course, (.int .i64), (.int .i64)], fun x => trace_open x⟩
noncomputable abbrev sg_trace_opened : Sig := ⟨62, [Tapi_TraceCourse, (.slice (.int .i64))], [Ttrace_course, (.int .i64)], fun x => trace_opened x.1 x.2⟩
noncomputable abbrev sg_trace_openCauses_1 : Sig := ⟨101, [Tapi_TraceCause, (.ptr Tapi_TraceCause)], [.bool], fun x => trace_openCauses_1 x.1 x.2⟩
noncomputable abbrev sg_trace_openCauses : Sig := ⟨47, [Tapi_TraceCourse, (.slice Tapi_TraceCause)], [Ttrace_course, (.int .i64), (.int .i64)], fun x => trace_openCauses x.1 x.2⟩
noncomputable abbrev sg_trace_course_readingErr : Sig := ⟨48, [Ttrace_course, Tapi_TraceReading], [(.int .i64)], fun x => trace_course_readingErr x.1 x.2⟩
noncomputable abbrev sg_trace_course_openReadings : Sig := ⟨109, [Ttrace_course, (.slice Tapi_TraceReading)], [(.int .i64)], fun x => trace_course_openReadings x.1 x.2⟩
noncomputable abbrev sg_trace_strip_slabAt : Sig := ⟨76, [(.slice Ttrace_section), Ttrace_ratio], [Ttrace_ratio], fun x => trace_strip_slabAt x.1 x.2⟩
noncomputable abbrev sg_trace_strip_at : Sig := ⟨78, [(.slice Ttrace_section), Ttrace_ratio], [Ttrace_ratio, .bool], fun x => trace_strip_at x.1 x.2⟩
noncomputable abbrev sg_trace_course_place : Sig := ⟨65, [Ttrace_course, Tapi_TraceReading, (.int .i64)], [Ttrace_ratio, .bool], fun x => trace_course_place x.1 x.2.1 x.2.2⟩
noncomputable abbrev sg_trace_ratio_over : Sig := ⟨107, [Ttrace_ratio, Ttrace_ratio], [Ttrace_ratio], fun x => trace_ratio_over x.1 x.2⟩
noncomputable abbrev sg_trace_ratio_floor : Sig := ⟨108, [Ttrace_ratio], [Ttrace_ratio], fun x => trace_ratio_floor x⟩
noncomputable abbrev sg_trace_course_predicts : Sig := ⟨51, [Ttrace_course, Tapi_TraceCause, Tapi_TraceReading], [.bool], fun x => trace_course_predicts x.1 x.2.1 x.2.2⟩
noncomputable abbrev sg_trace_course_evidenceOf : Sig := ⟨110, [Ttrace_course, (.slice Tapi_TraceCause), (.slice Tapi_TraceReading)], [Ttrace_evidence], fun x => trace_course_evidenceOf x.1 x.2.1 x.2.2⟩
noncomputable abbrev sg_trace_openEvidence : Sig := ⟨53, [Tapi_TraceCourse, (.slice Tapi_TraceCause), (.slice Tapi_TraceReading)], [Ttrace_course, Ttrace_evidence, (.int .i64)], fun x => trace_openEvidence x.1 x.2.1 x.2.2⟩
noncomputable abbrev sg_trace_evidence_every : Sig := ⟨55, [Ttrace_evidence], [(.int .u64)], fun x => trace_evidence_every x⟩
noncomputable abbrev sg_bits_OnesCount32 : Sig := ⟨148, [(.int .u32)], [(.int .i64)], fun x => bits_OnesCount32 x⟩
noncomputable abbrev sg_bits_OnesCount64 : Sig := ⟨149, [(.int .u64)], [(.int .i64)], fun x => bits_OnesCount64 x⟩
noncomputable abbrev sg_bits_OnesCount : Sig := ⟨113, [(.int .u64)], [(.int .i64)], fun x => bits_OnesCount x⟩
noncomputable abbrev sg_trace_set_has : Sig := ⟨111, [(.int .u64), (.int .i64)], [.bool], fun x => trace_set_has x.1 x.2⟩
noncomputable abbrev sg_trace_evidence_firstWrong : Sig := ⟨54, [Ttrace_evidence, (.int .u64), (.int .u64)], [(.int .i64)], fun x => trace_evidence_firstWrong x.1 x.2.1 x.2.2⟩
noncomputable abbrev sg_trace_set_list : Sig := ⟨57, [(.int .u64)], [(.slice (.int .i64))], fun x => trace_set_list x⟩
noncomputable abbrev sg_trace_Explanations : Sig := ⟨15, [Tapi_TraceCourse, (.slice Tapi_TraceCause), (.slice Tapi_TraceReading)], [(.slice (.slice (.int .i64))), (.int .i64)], fun x => trace_Explanations x.1 x.2.1 x.2.2⟩
noncomputable abbrev sg_trace_small : Sig := ⟨66, [Ttrace_ratio], [Tapi_Frac, (.int .i64)], fun x => trace_small x⟩
noncomputable abbrev sg_trace_PlaceOf : Sig := ⟨22, [Tapi_TraceCourse, Tapi_TraceReading, (.int .i64)], [Tapi_Frac, (.int .i64)], fun x => trace_PlaceOf x.1 x.2.1 x.2.2⟩
noncomputable abbrev sg_b0_Whole : Sig := ⟨38, [(.int .i64)], [Tapi_Frac], fun x => b0_Whole x⟩
noncomputable abbrev sg_l9_Course : Sig := ⟨43, [], [Tapi_TraceCourse], fun _ => l9_Course⟩
noncomputable abbrev sg_l9_Causes : Sig := ⟨44, [], [(.slice Tapi_TraceCause)], fun _ => l9_Causes⟩
noncomputable abbrev sg_b0_Ints : Sig := ⟨100, [(.slice (.int .i64)), (.slice (.int .i64))], [.bool], fun x => b0_Ints x.1 x.2⟩
noncomputable abbrev sg_b0_Lists : Sig := ⟨45, [(.slice (.slice (.int .i64))), (.slice (.slice (.int .i64)))], [.bool], fun x => b0_Lists x.1 x.2⟩
noncomputable abbrev sg_cobbletop_traceAwake : Sig := ⟨6, [], [.bool], fun _ => cobbletop_traceAwake⟩
noncomputable abbrev sg_l9_Few : Sig := ⟨7, [Tapi_TraceCourse], [.bool], fun x => l9_Few x⟩
noncomputable abbrev sg_b0_Within : Sig := ⟨16, [(.int .i64), (.int .i64), (.int .i64)], [.bool], fun x => b0_Within x.1 x.2.1 x.2.2⟩
noncomputable abbrev sg_b0_IsName : Sig := ⟨19, [.str], [.bool], fun x => b0_IsName x⟩
noncomputable abbrev sg_b0_Size : Sig := ⟨120, [(.int .i64)], [(.int .i64)], fun x => b0_Size x⟩
noncomputable abbrev sg_b0_trimmed : Sig := ⟨156, [(.slice (.int .i64))], [(.slice (.int .i64))], fun x => b0_trimmed x⟩
noncomputable abbrev sg_b0_wideOf : Sig := ⟨132, [(.int .i64), (.slice (.int .i64))], [Tb0_Wide], fun x => b0_wideOf x.1 x.2⟩
noncomputable abbrev sg_b0_WideOf : Sig := ⟨85, [(.int .i64)], [Tb0_Wide], fun x => b0_WideOf x⟩
noncomputable abbrev sg_b0_RatioInt : Sig := ⟨35, [(.int .i64)], [Tb0_Ratio], fun x => b0_RatioInt x⟩
noncomputable abbrev sg_r9_slab : Sig := ⟨114, [Tapi_TraceCourse], [(.slice Tr9_Section)], fun x => r9_slab x⟩
noncomputable abbrev sg_b0_WideMul : Sig := ⟨95, [Tb0_Wide, Tb0_Wide], [Tb0_Wide], fun x => b0_WideMul x.1 x.2⟩
noncomputable abbrev sg_b0_digit : Sig := ⟨158, [(.slice (.int .i64)), (.int .i64)], [(.int .i64)], fun x => b0_digit x.1 x.2⟩
noncomputable abbrev sg_b0_addDigits : Sig := ⟨139, [(.slice (.int .i64)), (.slice (.int .i64))], [(.slice (.int .i64))], fun x => b0_addDigits x.1 x.2⟩
noncomputable abbrev sg_b0_cmpDigits : Sig := ⟨140, [(.slice (.int .i64)), (.slice (.int .i64))], [(.int .i64)], fun x => b0_cmpDigits x.1 x.2⟩
noncomputable abbrev sg_b0_subDigits : Sig := ⟨141, [(.slice (.int .i64)), (.slice (.int .i64))], [(.slice (.int .i64))], fun x => b0_subDigits x.1 x.2⟩
noncomputable abbrev sg_b0_WideAdd : Sig := ⟨94, [Tb0_Wide, Tb0_Wide], [Tb0_Wide], fun x => b0_WideAdd x.1 x.2⟩
noncomputable abbrev sg_b0_WideNeg : Sig := ⟨136, [Tb0_Wide], [Tb0_Wide], fun x => b0_WideNeg x⟩
noncomputable abbrev sg_b0_WideSub : Sig := ⟨143, [Tb0_Wide, Tb0_Wide], [Tb0_Wide], fun x => b0_WideSub x.1 x.2⟩
noncomputable abbrev sg_b0_WideCmp : Sig := ⟨98, [Tb0_Wide, Tb0_Wide], [(.int .i64)], fun x => b0_WideCmp x.1 x.2⟩
noncomputable abbrev sg_b0_RatioCmp : Sig := ⟨41, [Tb0_Ratio, Tb0_Ratio], [(.int .i64)], fun x => b0_RatioCmp x.1 x.2⟩
noncomputable abbrev sg_b0_WideSign : Sig := ⟨135, [Tb0_Wide], [(.int .i64)], fun x => b0_WideSign x⟩
noncomputable abbrev sg_b0_WideFloor : Sig := ⟨138, [Tb0_Wide, Tb0_Wide], [Tb0_Wide], fun x => b0_WideFloor x.1 x.2⟩
noncomputable abbrev sg_b0_wideSize : Sig := ⟨157, [Tb0_Wide], [Tb0_Wide], fun x => b0_wideSize x⟩
noncomputable abbrev sg_b0_wideGcd : Sig := ⟨137, [Tb0_Wide, Tb0_Wide], [Tb0_Wide], fun x => b0_wideGcd x.1 x.2⟩
noncomputable abbrev sg_b0_RatioMake : Sig := ⟨93, [Tb0_Wide, Tb0_Wide], [Tb0_Ratio], fun x => b0_RatioMake x.1 x.2⟩
noncomputable abbrev sg_b0_RatioAdd : Sig := ⟨39, [Tb0_Ratio, Tb0_Ratio], [Tb0_Ratio], fun x => b0_RatioAdd x.1 x.2⟩
noncomputable abbrev sg_r9_Strip_Length : Sig := ⟨61, [(.slice Tr9_Section)], [Tb0_Ratio], fun x => r9_Strip_Length x⟩
noncomputable abbrev sg_b0_RatioMul : Sig := ⟨96, [Tb0_Ratio, Tb0_Ratio], [Tb0_Ratio], fun x => b0_RatioMul x.1 x.2⟩
noncomputable abbrev sg_b0_RatioOf : Sig := ⟨99, [(.int .i64), (.int .i64)], [Tb0_Ratio], fun x => b0_RatioOf x.1 x.2⟩
noncomputable abbrev sg_r9_pass : Sig := ⟨116, [(.slice Tr9_Section), (.slice (.int .i64))], [(.slice Tr9_Section)], fun x => r9_pass x.1 x.2⟩
noncomputable abbrev sg_b0_RatioNeg : Sig := ⟨142, [Tb0_Ratio], [Tb0_Ratio], fun x => b0_RatioNeg x⟩
noncomputable abbrev sg_b0_RatioSub : Sig := ⟨97, [Tb0_Ratio, Tb0_Ratio], [Tb0_Ratio], fun x => b0_RatioSub x.1 x.2⟩
noncomputable abbrev sg_r9_cut : Sig := ⟨117, [(.slice Tr9_Section), (.int .i64), (.int .i64)], [(.slice Tr9_Section)], fun x => r9_cut x.1 x.2.1 x.2.2⟩
noncomputable abbrev sg_r9_Strip_Ends : Sig := ⟨150, [(.slice Tr9_Section)], [(.slice Tb0_Ratio)], fun x => r9_Strip_Ends x⟩
noncomputable abbrev sg_b0_IsSmall : Sig := ⟨24, [Tapi_Frac], [.bool], fun x => b0_IsSmall x⟩
noncomputable abbrev sg_b0_WideInt : Sig := ⟨169, [Tb0_Wide], [(.int .i64), .bool], fun x => b0_WideInt x⟩
noncomputable abbrev sg_b0_RatioFrac : Sig := ⟨162, [Tb0_Ratio], [Tapi_Frac, .bool], fun x => b0_RatioFrac x⟩
noncomputable abbrev sg_r9_isSmall : Sig := ⟨151, [Tb0_Ratio], [.bool], fun x => r9_isSmall x⟩
noncomputable abbrev sg_r9_stepErr : Sig := ⟨115, [(.slice Tr9_Section), Tapi_TraceStep], [(.slice Tr9_Section), (.int .i64)], fun x => r9_stepErr x.1 x.2⟩
noncomputable abbrev sg_r9_CheckCourse : Sig := ⟨59, [Tapi_TraceCourse], [(.int .i64), (.int .i64)], fun x => r9_CheckCourse x⟩
noncomputable abbrev sg_r9_CourseErr : Sig := ⟨17, [Tapi_TraceCourse], [(.int .i64)], fun x => r9_CourseErr x⟩
noncomputable abbrev sg_r9_StepsErr : Sig := ⟨18, [Tapi_TraceCourse, (.int .i64)], [(.int .i64)], fun x => r9_StepsErr x.1 x.2⟩
noncomputable abbrev sg_r9_CheckCauses : Sig := ⟨46, [Tapi_TraceCourse, (.slice Tapi_TraceCause)], [(.int .i64), (.int .i64)], fun x => r9_CheckCauses x.1 x.2⟩
noncomputable abbrev sg_r9_CausesErr : Sig := ⟨8, [Tapi_TraceCourse, (.slice Tapi_TraceCause)], [(.int .i64)], fun x => r9_CausesErr x.1 x.2⟩
noncomputable abbrev sg_r9_strips : Sig := ⟨60, [Tapi_TraceCourse, (.int .i64)], [(.slice (.slice Tr9_Section))], fun x => r9_strips x.1 x.2⟩
noncomputable abbrev sg_r9_After : Sig := ⟨20, [Tapi_TraceCourse, (.int .i64)], [(.slice Tr9_Section)], fun x => r9_After x.1 x.2⟩
noncomputable abbrev sg_r9_ReadingErr : Sig := ⟨21, [Tapi_TraceCourse, Tapi_TraceReading], [(.int .i64)], fun x => r9_ReadingErr x.1 x.2⟩
noncomputable abbrev sg_r9_ReadingsErr : Sig := ⟨9, [Tapi_TraceCourse, (.slice Tapi_TraceReading)], [(.int .i64)], fun x => r9_ReadingsErr x.1 x.2⟩
noncomputable abbrev sg_r9_CopyReadings : Sig := ⟨10, [(.slice Tapi_TraceReading)], [(.slice Tapi_TraceReading)], fun x => r9_CopyReadings x⟩
noncomputable abbrev sg_trace_Predicts_1 : Sig := ⟨50, [Tapi_TraceCause, (.ptr Ttrace_course), (.ptr Tapi_TraceReading)], [.bool], fun x => trace_Predicts_1 x.1 x.2.1 x.2.2⟩
noncomputable abbrev sg_trace_Predicts : Sig := ⟨11, [Tapi_TraceCourse, (.slice Tapi_TraceCause), Tapi_TraceReading], [.bool, (.int .i64)], fun x => trace_Predicts x.1 x.2.1 x.2.2⟩
noncomputable abbrev sg_b0_CopyInts : Sig := ⟨52, [(.slice (.int .i64))], [(.slice (.int .i64))], fun x => b0_CopyInts x⟩
noncomputable abbrev sg_r9_CopyCourse : Sig := ⟨12, [Tapi_TraceCourse], [Tapi_TraceCourse], fun x => r9_CopyCourse x⟩
noncomputable abbrev sg_r9_CopyCauses : Sig := ⟨13, [(.slice Tapi_TraceCause)], [(.slice Tapi_TraceCause)], fun x => r9_CopyCauses x⟩
noncomputable abbrev sg_trace_Contradiction : Sig := ⟨14, [Tapi_TraceCourse, (.slice Tapi_TraceCause), (.slice Tapi_TraceReading)], [(.int .i64), (.int .i64)], fun x => trace_Contradiction x.1 x.2.1 x.2.2⟩
noncomputable abbrev sg_cobbletop_TopTraceRejected : Sig := ⟨3, [Tapi_TraceCourse, (.slice Tapi_TraceCause), (.slice Tapi_TraceReading)], [.bool], fun x => cobbletop_TopTraceRejected x.1 x.2.1 x.2.2⟩
end Go.Lift
