/-
  The types, notes and signatures of these functions.
-/
import Derived.Test.YtkhkjbcnnlcamaaGreatDoorFunF
import Derived.Test.YtkhkjbcnnlcamaaGreatDoorLiftL
import Derived.Lib.ItoaNum
import Derived.KernelRfl
import Derived.Test.YtkhkjbcnnlcamaaGreatDoorProg
set_option linter.unusedSectionVars false
set_option linter.unusedVariables false
set_option linter.unusedSimpArgs false
namespace Go.Lift
open Go Go.Proofs
instance : Tab := tabsOf [(0, .u64, Lib.pow10Tab)]
def tyTab : List (Nat × Ty) := [
  (2, (.int .i64)),
  (3, (.int .i64)),
  (4, .bool),
  (5, (.int .u8)),
  (6, (.int .u8)),
  (7, Truntime_boundsError),
  (8, Truntime_boundsError),
  (9, .str),
  (10, .str),
  (11, .str),
  (12, (.int .u64)),
  (13, Truntime_errorAddressString),
  (14, Truntime_errorAddressString),
  (21, (.int .i32)),
  (22, (.slice (.int .i64))),
  (23, (.slice Tapi_TraceStep)),
  (24, Tapi_TraceCourse),
  (25, Tapi_TraceCourse),
  (26, Tapi_TraceReading),
  (27, Tapi_TraceReading),
  (28, (.arr 2 (.int .i64))),
  (30, (.fn Tapi_TraceCourse .bool)),
  (31, Tapi_Frac),
  (32, Tapi_Frac),
  (33, (.int .i64)),
  (36, (.fn Tapi_TraceCourse Tapi_TraceCourse)),
  (37, (.slice Tapi_Span)),
  (40, (.fn Tapi_TraceCourse (.int .i64))),
  (50, (.slice (.slice (.int .i64)))),
  (53, (.slice Tapi_TraceCause)),
  (55, (.slice Tapi_TraceReading)),
  (58, (.fn (.int .i64) Tapi_Frac)),
  (59, Tapi_Span),
  (60, Tapi_Span),
  (62, Tapi_TraceStep),
  (63, Tapi_TraceStep),
  (64, (.slice (.slice Ttrace_section))),
  (65, Ttrace_course),
  (66, Ttrace_course),
  (69, (.fn (.slice (.int .i64)) (.int .i64))),
  (70, (.fn Tapi_TraceReading (.int .i64))),
  (71, (.fn (.int .i64) (.int .i64))),
  (72, (.slice (.int .u32))),
  (73, (.slice (.int .u32))),
  (74, Ttrace_ratio),
  (75, Ttrace_ratio),
  (79, (.fn (.slice (.int .i64)) (.slice (.int .i64)))),
  (82, (.slice Ttrace_section)),
  (83, (.slice Ttrace_section)),
  (86, (.fn Ttrace_ratio (.int .i64))),
  (87, (.fn (.int .i64) Ttrace_ratio)),
  (88, (.fn Ttrace_ratio Ttrace_ratio)),
  (91, Tcobblebase_Wide),
  (92, Tcobblebase_Wide),
  (93, Tcobblebase_Ratio),
  (94, Tcobblebase_Ratio),
  (95, (.slice Tcobbleref09_Section)),
  (96, (.slice Tcobbleref09_Section)),
  (100, (.fn (.int .i64) Tcobblebase_Ratio)),
  (105, (.slice (.int .u64))),
  (106, (.slice .bool)),
  (107, Ttrace_evidence),
  (108, Ttrace_evidence),
  (111, (.fn (.int .u64) (.slice (.int .u64)))),
  (112, (.int .u64)),
  (113, (.int .u64)),
  (116, Tapi_TraceCause),
  (117, Tapi_TraceCause),
  (118, (.fn (.slice Tapi_TraceReading) (.int .i64))),
  (119, (.fn Tapi_Frac .str)),
  (120, (.slice .str)),
  (121, (.fn (.int .i64) .str)),
  (126, (.slice (.int .i64))),
  (127, (.fn (.int .i64) .bool)),
  (130, (.arr 2 Ttrace_ratio)),
  (131, Ttrace_section),
  (132, Ttrace_section),
  (133, (.fn (.int .u64) (.slice (.int .u32)))),
  (134, (.int .u64)),
  (135, (.fn (.int .i64) (.int .u64))),
  (136, (.int .u32)),
  (139, (.fn .str .bool)),
  (140, (.fn Tapi_TraceCourse (.slice Tcobbleref09_Section))),
  (143, (.slice (.slice Tcobbleref09_Section))),
  (146, Tcobbleref09_Section),
  (147, Tcobbleref09_Section),
  (150, (.fn (.int .i64) Tcobblebase_Wide)),
  (154, (.fn Tapi_Frac .bool)),
  (157, (.seq (.int .u64))),
  (158, (.fn (.int .i64) (.seq (.int .u64)))),
  (159, (.fn (.int .u64) (.int .i64))),
  (162, (.slice (.int .u8))),
  (167, .err),
  (173, (.fn (.slice (.int .u32)) (.int .i64))),
  (174, (.fn (.slice (.int .u32)) (.slice (.int .u32)))),
  (178, (.slice Tcobblebase_Ratio)),
  (180, (.fn Tcobblebase_Ratio .bool)),
  (183, (.fn (.int .i64) (.int .i64))),
  (184, (.fn Tcobblebase_Ratio Tcobblebase_Ratio)),
  (186, (.fn Tapi_TraceCause .bool)),
  (188, (.fn (.int .u64) .bool)),
  (190, (.fn (.int .u32) (.int .i64))),
  (191, (.fn (.int .u64) (.int .i64))),
  (195, (.fn (.slice (.int .i64)) (.slice Ttrace_section))),
  (201, (.fn Tcobblebase_Wide (.int .i64))),
  (202, (.fn Tcobblebase_Wide Tcobblebase_Wide)),
  (206, (.arr 24 (.int .u8))),
  (212, (.fn (.int .i64) (.slice (.int .u8)))),
  (215, (.fn (.int .i64) (.slice (.int .u32)))),
  (217, (.fn .bool (.int .i64))),
  (218, (.arr 20 (.int .u64))),
  (219, (.arr 65 (.int .u8))),
  (220, (.arr 32 (.int .u8))),
  (221, (.arr 64 (.int .u8))),
  (227, (.int .u8)),
  (228, (.int .u8)),
  (230, (.int .i32)),
  (231, (.int .i32))]
def nfTab : List (Nat × Nat) := [(7, 4), (8, 4), (13, 2), (14, 2), (24, 4), (25, 4), (26, 3), (27, 3), (31, 2), (32, 2), (59, 2), (60, 2), (62, 4), (63, 4), (65, 2), (66, 2), (74, 3), (75, 3), (91, 2), (92, 2), (93, 2), (94, 2), (107, 3), (108, 3), (116, 5), (117, 5), (131, 4), (132, 4), (146, 2), (147, 2)]
def eqTab : List Nat := [9, 32, 60]
theorem tys_ok : tysOk Tryz.prog tyTab = true := by kernel_rfl
theorem nfs_ok : nfsOk Tryz.prog tyTab nfTab = true := by kernel_rfl
theorem eqs_ok : eqsOk Tryz.prog tyTab eqTab = true := by kernel_rfl
theorem prog_mixed : Tryz.prog.follows .mixedOrders = true := by kernel_rfl
abbrev cx (own : List Nat) (l : List Sig) : Ctx := cxOf tyTab nfTab eqTab own l
def an_trace_first : Ann := (.seq .nil (.seq (.seq .nil (.blk (.loopBD ⟨[⟨false, 7, 0, (.int .i64), [], false⟩], []⟩ ⟨[], []⟩ 0 .nil))) .nil))
def an_trace_unless : Ann := .nil
def an_trace_within : Ann := .nil
def an_trace_course_stepsErr : Ann := .nil
def an_trace_trimmed : Ann := (.seq .nil (.seq (.blk (.loopB ⟨[⟨false, 0, 0, (.slice (.int .u32)), [], false⟩], []⟩ ⟨[⟨false, 0, 0, (.slice (.int .u32)), [], false⟩], []⟩ 0 .nil)) .nil))
def an_trace_naturalOf : Ann := .nil
def an_trace_size : Ann := .nil
def an_trace_whole : Ann := .nil
def an_trace_isName : Ann := (.seq .nil (.seq (.seq .nil (.blk (.loopBD ⟨[⟨false, 9, 0, (.int .i64), [], false⟩], []⟩ ⟨[], []⟩ 0 .nil))) .nil))
def an_trace_isArea : Ann := .nil
def an_trace_strip_length : Ann := .nil
def an_trace_natural_cmp : Ann := (.seq .nil (.seq .nil (.seq (.seq .nil (.blk (.loopBD ⟨[⟨false, 5, 0, (.int .i64), [], false⟩], []⟩ ⟨[], []⟩ 0 .nil))) .nil)))
def an_trace_natural_digit : Ann := .nil
def an_trace_natural_times : Ann := (.seq .nil (.seq .nil (.seq (.seq .nil (.blk (.loopB ⟨[⟨false, 18, 0, (.int .i64), [], false⟩, ⟨true, 15, 73, (.slice (.int .u32)), [], true⟩], []⟩ ⟨[⟨true, 15, 73, (.slice (.int .u32)), [], true⟩], []⟩ 0 (.seq .nil (.seq .nil (.seq (.blk (.seq .nil (.seq .nil (.seq .nil (.blk (.loopB ⟨[⟨false, 7, 0, (.int .u64), [], false⟩, ⟨false, 24, 0, (.int .i64), [], false⟩, ⟨true, 15, 73, (.slice (.int .u32)), [], true⟩], []⟩ ⟨[⟨true, 15, 73, (.slice (.int .u32)), [], true⟩], []⟩ 2 .nil)))))) .nil)))))) (.seq (.frz 15 .nil) .nil))))
def an_trace_natural_plus : Ann := (.seq .nil (.seq .nil (.seq .nil (.seq (.seq .nil (.blk (.loopB ⟨[⟨false, 5, 0, (.slice (.int .u32)), [([], some 101000500)], false⟩, ⟨false, 6, 0, (.int .u64), [], false⟩, ⟨false, 14, 0, (.int .i64), [], false⟩], []⟩ ⟨[⟨false, 5, 0, (.slice (.int .u32)), [([], some 201000500)], false⟩], []⟩ 0 .nil))) .nil))))
def an_trace_natural_minus : Ann := (.seq .nil (.seq .nil (.seq .nil (.seq (.seq .nil (.blk (.loopB ⟨[⟨false, 5, 0, (.slice (.int .u32)), [([], some 101000500)], false⟩, ⟨false, 6, 0, (.int .u64), [], false⟩, ⟨false, 11, 0, (.int .i64), [], false⟩], []⟩ ⟨[⟨false, 5, 0, (.slice (.int .u32)), [([], some 201000500)], false⟩], []⟩ 0 .nil))) .nil))))
def an_bits_Len32 : Ann := (.seq .nil (.seq (.seq .nil (.join ⟨[⟨false, 0, 0, (.int .u32), [], false⟩, ⟨false, 2, 0, (.int .i64), [], false⟩], []⟩ .nil .nil)) (.seq (.seq .nil (.join ⟨[⟨false, 0, 0, (.int .u32), [], false⟩, ⟨false, 2, 0, (.int .i64), [], false⟩], []⟩ .nil .nil)) .nil)))
def an_trace_natural_length : Ann := .nil
def an_trace_natural_shifted : Ann := (.seq .nil (.seq .nil (.seq .nil (.seq (.seq .nil (.blk (.loopB ⟨[⟨false, 5, 0, (.slice (.int .u32)), [([], some 101000500)], false⟩, ⟨false, 6, 0, (.int .u64), [], false⟩, ⟨false, 14, 0, (.int .i64), [], false⟩], []⟩ ⟨[⟨false, 5, 0, (.slice (.int .u32)), [([], some 201000500)], false⟩], []⟩ 0 .nil))) .nil))))
def an_trace_natural_divided : Ann := (.seq .nil (.seq .nil (.seq (.seq .nil (.blk (.loopB ⟨[⟨false, 4, 0, (.slice (.int .u32)), [], false⟩, ⟨false, 5, 0, (.slice (.int .u32)), [], false⟩, ⟨false, 6, 0, (.int .i64), [], false⟩], []⟩ ⟨[⟨false, 4, 0, (.slice (.int .u32)), [], false⟩, ⟨false, 5, 0, (.slice (.int .u32)), [], false⟩], []⟩ 0 (.seq .nil (.seq (.blk (.seq .nil (.seq .nil (.seq .nil (.join ⟨[⟨false, 4, 0, (.slice (.int .u32)), [], false⟩, ⟨false, 5, 0, (.slice (.int .u32)), [], false⟩], []⟩ .nil .nil))))) .nil))))) .nil)))
def an_trace_divisor : Ann := (.seq .nil (.seq (.blk (.loopB ⟨[⟨false, 0, 0, (.slice (.int .u32)), [], false⟩, ⟨false, 1, 0, (.slice (.int .u32)), [], false⟩], []⟩ ⟨[⟨false, 0, 0, (.slice (.int .u32)), [], false⟩], []⟩ 0 .nil)) .nil))
def an_trace_ratioOf : Ann := .nil
def an_trace_ratio_plus : Ann := .nil
def an_trace_ratio_opposite : Ann := .nil
def an_trace_ratio_minus : Ann := .nil
def an_trace_ratio_cmp : Ann := .nil
def an_trace_ratio_between : Ann := .nil
def an_trace_strip_has : Ann := .nil
def an_trace_isPosition : Ann := .nil
def an_slices_IndexFunc_int : Ann := (.seq .nil (.seq (.seq .nil (.blk (.loopBD ⟨[⟨false, 8, 0, (.int .i64), [], false⟩], []⟩ ⟨[], []⟩ 0 .nil))) .nil))
def an_slices_ContainsFunc_int : Ann := .nil
def an_trace_strip_step_1 : Ann := .nil
def an_trace_ratio_times : Ann := .nil
def an_trace_quotient : Ann := .nil
def an_trace_section_length : Ann := .nil
def an_trace_strip_rolled : Ann := (.seq .nil (.seq .nil (.seq .nil (.seq (.seq .nil (.blk (.loopB ⟨[⟨false, 5, 0, (.slice Ttrace_section), [([], some 101000500)], false⟩, ⟨false, 13, 0, (.int .i64), [], false⟩, ⟨true, 6, 75, Ttrace_ratio, [], false⟩], []⟩ ⟨[⟨false, 5, 0, (.slice Ttrace_section), [([], some 201000500)], false⟩], []⟩ 0 .nil))) .nil))))
def an_trace_strip_cut : Ann := (.seq .nil (.seq .nil (.seq .nil (.seq (.seq .nil (.blk (.loopB ⟨[⟨false, 7, 0, (.slice Ttrace_section), [([], some 601000700)], false⟩, ⟨false, 22, 0, (.int .i64), [], false⟩], [8, 9]⟩ ⟨[⟨false, 7, 0, (.slice Ttrace_section), [([], some 1201000700)], false⟩], [8, 9]⟩ 0 (.seq .nil (.seq .nil (.seq (.blk (.seq .nil (.seq .nil (.seq (.seq .nil (.join ⟨[⟨true, 12, 130, (.arr 2 Ttrace_ratio), [], false⟩], [8, 9, 11, 601000700]⟩ .nil .nil)) (.seq (.seq .nil (.join ⟨[⟨true, 12, 130, (.arr 2 Ttrace_ratio), [], false⟩], [8, 9, 11, 601000700]⟩ .nil .nil)) (.seq .nil (.seq .nil (.seq (.seq .nil (.blk (.loopB ⟨[⟨false, 54, 0, (.int .i64), [], false⟩, ⟨true, 13, 132, Ttrace_section, [], false⟩], [8, 9, 11, 12, 601000700]⟩ ⟨[⟨true, 13, 132, Ttrace_section, [], false⟩], [8, 9, 11, 12, 601000700]⟩ 2 .nil))) .nil)))))))) .nil)))))) .nil))))
def an_trace_ratio_frac : Ann := (.seq .nil (.seq .nil (.seq .nil (.seq .nil (.seq (.seq .nil (.join ⟨[⟨false, 5, 0, (.int .i64), [], false⟩], [1, 2]⟩ .nil .nil)) .nil)))))
def an_trace_strip_isSmall : Ann := (.seq .nil (.seq (.seq .nil (.blk (.loopBD ⟨[⟨false, 11, 0, (.int .i64), [], false⟩], []⟩ ⟨[], []⟩ 0 .nil))) .nil))
def an_trace_strip_step : Ann := (.seq .nil (.seq .nil (.seq (.seq .nil (.blk (.seq .nil (.joinD ⟨[⟨false, 6, 0, (.slice Ttrace_section), [], false⟩], [3]⟩ .nil .nil)))) .nil)))
def an_trace_open : Ann := (.seq .nil (.seq .nil (.seq .nil (.seq .nil (.seq .nil (.seq .nil (.seq (.seq .nil (.blk (.loopBD ⟨[⟨false, 7, 0, (.slice Ttrace_section), [([], some 101000700)], false⟩, ⟨false, 8, 0, (.int .i64), [], false⟩, ⟨false, 50, 0, (.int .i64), [], false⟩], [1, 2, 5, 41]⟩ ⟨[⟨false, 7, 0, (.slice Ttrace_section), [([], some 201000700)], false⟩], [1, 2, 5, 41]⟩ 0 .nil))) (.seq .nil (.seq .nil (.seq (.seq .nil (.blk (.loopBD ⟨[⟨false, 106, 0, (.int .i64), [], false⟩, ⟨true, 5, 66, Ttrace_course, [([.snd], some 450000500)], false⟩], [1, 2, 41, 201000700]⟩ ⟨[⟨true, 5, 66, Ttrace_course, [([.snd], some 550000500)], false⟩], [1, 2, 41, 201000700]⟩ 2 .nil))) .nil))))))))))
def an_trace_opened : Ann := (.seq .nil (.seq .nil (.seq (.seq .nil (.blk (.loopB ⟨[⟨false, 8, 0, (.int .i64), [], false⟩, ⟨false, 19, 0, (.int .i64), [], false⟩], [2, 4, 6]⟩ ⟨[⟨false, 8, 0, (.int .i64), [], false⟩], [2, 4, 6]⟩ 0 .nil))) .nil)))
def an_trace_course_readingErr : Ann := .nil
def an_trace_strip_slabAt : Ann := (.seq .nil (.seq (.seq .nil (.blk (.loopBD ⟨[⟨false, 9, 0, (.int .i64), [], false⟩], [3, 4]⟩ ⟨[], [3, 4]⟩ 0 .nil))) .nil))
def an_trace_strip_at : Ann := (.seq .nil (.seq (.seq .nil (.blk (.loopBD ⟨[⟨false, 10, 0, (.int .i64), [], false⟩], [3, 4]⟩ ⟨[], [3, 4]⟩ 0 .nil))) .nil))
def an_trace_course_place : Ann := .nil
def an_trace_small : Ann := .nil
def an_trace_PlaceOf : Ann := (.seq .nil (.seq .nil (.seq (.seq .nil (.join ⟨[⟨false, 9, 0, (.int .i64), [], false⟩], [3, 4, 6, 8]⟩ .nil .nil)) .nil)))
def an_trace_course_last : Ann := .nil
def an_trace_PiecesOf : Ann := (.seq .nil (.seq .nil (.seq .nil (.seq .nil (.seq .nil (.seq .nil (.seq (.seq .nil (.blk (.loopBD ⟨[⟨false, 9, 0, (.slice Tapi_Span), [([], some 201000900)], false⟩, ⟨false, 10, 0, (.int .i64), [], false⟩], [2, 6, 25]⟩ ⟨[⟨false, 9, 0, (.slice Tapi_Span), [([], some 401000900)], false⟩], [2, 6, 25]⟩ 0 (.seq .nil (.seq (.blk (.seq .nil (.seq (.seq .nil (.join ⟨[⟨true, 11, 75, Ttrace_ratio, [], false⟩], [2, 6, 25, 201000900]⟩ .nil .nil)) .nil))) .nil))))) .nil)))))))
def an_cobblelaw09_Course : Ann := .nil
def an_trace_course_openReadings : Ann := (.seq .nil (.seq .nil (.seq (.seq .nil (.blk (.loopBD ⟨[⟨false, 13, 0, (.int .i64), [], false⟩], [2]⟩ ⟨[], [2]⟩ 0 .nil))) .nil)))
def an_slices_IndexFunc_apiTraceCause : Ann := (.seq .nil (.seq (.seq .nil (.blk (.loopBD ⟨[⟨false, 8, 0, (.int .i64), [], false⟩], []⟩ ⟨[], []⟩ 0 .nil))) .nil))
def an_slices_ContainsFunc_apiTraceCause : Ann := .nil
def an_trace_openCauses_1 : Ann := .nil
def an_trace_openCauses : Ann := (.seq .nil (.seq .nil (.seq .nil (.seq (.seq .nil (.blk (.loopBD ⟨[⟨false, 31, 0, (.int .i64), [], false⟩], [2, 4, 7, 23]⟩ ⟨[], [2, 4, 7, 23]⟩ 0 (.seq .nil (.seq .nil (.seq (.blk (.seq .nil (.seq (.frz 10 .nil) .nil))) .nil)))))) .nil))))
def an_trace_ratio_over : Ann := .nil
def an_trace_ratio_floor : Ann := .nil
def an_trace_course_predicts : Ann := (.seq .nil (.seq .nil (.seq .nil (.seq .nil (.seq .nil (.seq (.seq .nil (.join ⟨[⟨true, 9, 75, Ttrace_ratio, [], false⟩], [3, 4, 5, 7]⟩ .nil .nil)) .nil))))))
def an_trace_course_evidenceOf : Ann := (.seq .nil (.seq .nil (.seq (.seq .nil (.blk (.loopB ⟨[⟨false, 18, 0, (.int .i64), [], false⟩, ⟨true, 7, 108, Ttrace_evidence, [([.snd, .fst], some 750000700), ([.snd, .snd], some 750000701)], false⟩], [3, 6]⟩ ⟨[⟨true, 7, 108, Ttrace_evidence, [([.snd, .fst], some 1450000700), ([.snd, .snd], some 1450000701)], false⟩], [3, 6]⟩ 0 (.seq .nil (.seq .nil (.seq (.blk (.seq .nil (.seq .nil (.seq (.seq .nil (.blk (.loopB ⟨[⟨false, 10, 0, (.int .u64), [], false⟩, ⟨false, 24, 0, (.int .i64), [], false⟩], [3, 6, 7, 9, 750000700, 750000701]⟩ ⟨[⟨false, 10, 0, (.int .u64), [], false⟩], [3, 6, 7, 9, 750000700, 750000701]⟩ 2 (.seq .nil (.seq .nil (.seq (.blk (.seq .nil (.seq .nil (.join ⟨[⟨false, 10, 0, (.int .u64), [], false⟩], [3, 6, 7, 9, 12, 750000700, 750000701]⟩ .nil .nil)))) .nil)))))) .nil)))) .nil)))))) .nil)))
def an_trace_openEvidence : Ann := (.seq .nil (.seq .nil (.seq (.seq .nil (.join ⟨[⟨false, 11, 0, (.int .i64), [], false⟩], [3, 6, 7, 9]⟩ .nil .nil)) .nil)))
def an_bits_OnesCount32 : Ann := .nil
def an_bits_OnesCount64 : Ann := .nil
def an_bits_OnesCount : Ann := .nil
def an_trace_set_has : Ann := .nil
def an_trace_evidence_firstWrong : Ann := (.seq .nil (.seq (.seq .nil (.blk (.loopBD ⟨[⟨false, 12, 0, (.int .i64), [], false⟩], [3]⟩ ⟨[], [3]⟩ 0 .nil))) .nil))
def an_trace_evidence_every : Ann := .nil
def an_trace_set_list : Ann := (.seq .nil (.seq .nil (.seq (.seq .nil (.blk (.loopB ⟨[⟨false, 3, 0, (.slice (.int .i64)), [([], some 201000300)], false⟩, ⟨false, 5, 0, (.int .i64), [], false⟩], []⟩ ⟨[⟨false, 3, 0, (.slice (.int .i64)), [([], some 401000300)], false⟩], []⟩ 0 (.seq .nil (.seq .nil (.seq (.blk (.seq .nil (.seq .nil (.join ⟨[⟨false, 3, 0, (.slice (.int .i64)), [([], some 501000300)], false⟩], []⟩ .nil .nil)))) .nil)))))) .nil)))
def an_trace_Explanations : Ann := (.seq .nil (.seq .nil (.seq .nil (.seq .nil (.seq (.seq .nil (.blk (.loopB ⟨[⟨false, 11, 0, (.slice (.slice (.int .i64))), [([], some 101001100)], false⟩, ⟨false, 30, 0, (.int .i64), [], false⟩], [3, 8, 9]⟩ ⟨[⟨false, 11, 0, (.slice (.slice (.int .i64))), [([], some 201001100)], false⟩], [3, 8, 9]⟩ 0 .nil))) .nil)))))
def an_cobblelaw09_Causes : Ann := .nil
def an_trace_written : Ann := .nil
def an_trace_ReportOf : Ann := (.seq .nil (.seq .nil (.seq (.seq .nil (.join ⟨[⟨false, 7, 0, (.int .i64), [], false⟩], [2, 6]⟩ .nil .nil)) (.seq .nil (.seq .nil (.seq .nil (.seq .nil (.seq (.seq .nil (.blk (.loopBD ⟨[⟨false, 9, 0, (.slice .str), [([], some 601000900)], false⟩, ⟨false, 52, 0, (.int .i64), [], false⟩], [2, 6, 8]⟩ ⟨[⟨false, 9, 0, (.slice .str), [([], some 1501000900)], false⟩], [2, 6, 8]⟩ 0 (.seq .nil (.seq .nil (.seq (.blk (.seq .nil (.seq .nil (.seq (.seq .nil (.blk (.loopBD ⟨[⟨false, 12, 0, (.slice .str), [([], some 1701001200)], false⟩, ⟨false, 67, 0, (.int .i64), [], false⟩], [2, 6, 8, 11, 601000900]⟩ ⟨[⟨false, 12, 0, (.slice .str), [([], some 1801001200)], false⟩], [2, 6, 8, 11, 601000900]⟩ 2 .nil))) (.seq .nil (.seq (.seq .nil (.join ⟨[⟨false, 19, 0, .str, [], false⟩], [2, 6, 8, 11, 601000900, 1801001200]⟩ .nil .nil)) .nil)))))) .nil)))))) .nil))))))))
def an_cobblebase_Whole : Ann := .nil
def an_cobblebase_Ints : Ann := (.seq .nil (.seq .nil (.seq (.seq .nil (.blk (.loopBD ⟨[⟨false, 5, 0, (.int .i64), [], false⟩], []⟩ ⟨[], []⟩ 0 .nil))) .nil)))
def an_cobblebase_Lists : Ann := (.seq .nil (.seq .nil (.seq (.seq .nil (.blk (.loopBD ⟨[⟨false, 5, 0, (.int .i64), [], false⟩], []⟩ ⟨[], []⟩ 0 .nil))) .nil)))
def an_cobblelaw09_awake : Ann := .nil
def an_cobblelaw09_Few : Ann := (.seq .nil (.seq .nil (.seq (.seq .nil (.blk (.loopBD ⟨[⟨false, 3, 0, (.int .i64), [], false⟩], [1]⟩ ⟨[], [1]⟩ 0 .nil))) .nil)))
def an_cobblebase_CopyInts : Ann := .nil
def an_cobbleref09_CopyCourse : Ann := (.seq .nil (.seq .nil (.seq (.seq .nil (.blk (.loopB ⟨[⟨false, 4, 0, (.int .i64), [], false⟩, ⟨true, 3, 25, Tapi_TraceCourse, [([.snd, .snd, .snd], some 150000300)], false⟩], [1, 2]⟩ ⟨[⟨true, 3, 25, Tapi_TraceCourse, [([.snd, .snd, .snd], some 250000300)], false⟩], [1, 2]⟩ 0 .nil))) .nil)))
def an_cobblebase_Within : Ann := .nil
def an_cobblebase_IsName : Ann := (.seq .nil (.seq .nil (.seq (.seq .nil (.blk (.loopBD ⟨[⟨false, 3, 0, (.int .i64), [], false⟩], []⟩ ⟨[], []⟩ 0 .nil))) .nil)))
def an_cobblebase_trimmed : Ann := (.seq .nil (.seq .nil (.seq (.blk (.loopB ⟨[⟨false, 3, 0, (.int .i64), [], false⟩], []⟩ ⟨[⟨false, 3, 0, (.int .i64), [], false⟩], []⟩ 0 .nil)) .nil)))
def an_cobblebase_wideOf : Ann := (.seq .nil (.seq .nil (.seq (.seq .nil (.join ⟨[⟨false, 0, 0, (.int .i64), [], false⟩], [4]⟩ .nil .nil)) .nil)))
def an_cobblebase_Size : Ann := .nil
def an_cobblebase_WideOf : Ann := (.seq .nil (.seq .nil (.seq (.seq .nil (.join ⟨[⟨false, 3, 0, (.int .i64), [], false⟩], [2]⟩ .nil .nil)) (.seq .nil (.seq (.blk (.loopB ⟨[⟨false, 0, 0, (.int .i64), [], false⟩, ⟨false, 4, 0, (.slice (.int .i64)), [([], some 201000400)], false⟩], [2]⟩ ⟨[⟨false, 4, 0, (.slice (.int .i64)), [([], some 301000400)], false⟩], [2]⟩ 0 .nil)) .nil)))))
def an_cobblebase_RatioInt : Ann := .nil
def an_cobbleref09_slab : Ann := (.seq .nil (.seq .nil (.seq (.seq .nil (.blk (.loopB ⟨[⟨false, 3, 0, (.slice Tcobbleref09_Section), [([], some 101000300)], false⟩, ⟨false, 4, 0, (.int .i64), [], false⟩], [1]⟩ ⟨[⟨false, 3, 0, (.slice Tcobbleref09_Section), [([], some 201000300)], false⟩], [1]⟩ 0 .nil))) .nil)))
def an_cobblebase_WideMul : Ann := (.seq .nil (.seq .nil (.seq (.seq .nil (.blk (.loopB ⟨[⟨false, 6, 0, (.int .i64), [], false⟩, ⟨true, 18, 22, (.slice (.int .i64)), [], true⟩], [2, 3, 4]⟩ ⟨[⟨true, 18, 22, (.slice (.int .i64)), [], true⟩], [2, 3, 4]⟩ 0 (.seq .nil (.seq (.blk (.seq .nil (.seq (.seq .nil (.blk (.loopB ⟨[⟨false, 7, 0, (.int .i64), [], false⟩, ⟨false, 8, 0, (.int .i64), [], false⟩, ⟨true, 18, 22, (.slice (.int .i64)), [], true⟩], [2, 3, 4]⟩ ⟨[⟨false, 7, 0, (.int .i64), [], false⟩, ⟨true, 18, 22, (.slice (.int .i64)), [], true⟩], [2, 3, 4]⟩ 2 .nil))) .nil))) .nil))))) (.seq (.frz 18 .nil) .nil))))
def an_cobblebase_digit : Ann := .nil
def an_cobblebase_addDigits : Ann := (.seq .nil (.seq .nil (.seq .nil (.seq (.seq .nil (.blk (.loopB ⟨[⟨false, 5, 0, (.slice (.int .i64)), [([], some 101000500)], false⟩, ⟨false, 6, 0, (.int .i64), [], false⟩, ⟨false, 7, 0, (.int .i64), [], false⟩], []⟩ ⟨[⟨false, 5, 0, (.slice (.int .i64)), [([], some 201000500)], false⟩], []⟩ 0 .nil))) .nil))))
def an_cobblebase_cmpDigits : Ann := (.seq .nil (.seq .nil (.seq (.seq .nil (.blk (.loopBD ⟨[⟨false, 5, 0, (.int .i64), [], false⟩], []⟩ ⟨[], []⟩ 0 .nil))) .nil)))
def an_cobblebase_subDigits : Ann := (.seq .nil (.seq .nil (.seq .nil (.seq (.seq .nil (.blk (.loopB ⟨[⟨false, 5, 0, (.slice (.int .i64)), [([], some 201000500)], false⟩, ⟨false, 6, 0, (.int .i64), [], false⟩, ⟨false, 7, 0, (.int .i64), [], false⟩], []⟩ ⟨[⟨false, 5, 0, (.slice (.int .i64)), [([], some 401000500)], false⟩], []⟩ 0 (.seq .nil (.seq (.blk (.seq .nil (.seq .nil (.seq (.seq .nil (.join ⟨[⟨false, 6, 0, (.int .i64), [], false⟩, ⟨false, 8, 0, (.int .i64), [], false⟩], [201000500]⟩ .nil .nil)) .nil)))) .nil))))) .nil))))
def an_cobblebase_WideAdd : Ann := .nil
def an_cobblebase_WideNeg : Ann := .nil
def an_cobblebase_WideSub : Ann := .nil
def an_cobblebase_WideCmp : Ann := .nil
def an_cobblebase_WideSign : Ann := .nil
def an_cobblebase_WideFloor : Ann := (.seq .nil (.seq .nil (.seq .nil (.seq (.seq .nil (.blk (.loopB ⟨[⟨false, 6, 0, (.slice (.int .i64)), [], false⟩, ⟨false, 7, 0, (.int .i64), [], false⟩, ⟨true, 19, 22, (.slice (.int .i64)), [], true⟩], [2, 3, 4, 20]⟩ ⟨[⟨false, 6, 0, (.slice (.int .i64)), [], false⟩, ⟨true, 19, 22, (.slice (.int .i64)), [], true⟩], [2, 3, 4, 20]⟩ 0 (.seq .nil (.seq (.blk (.seq .nil (.seq .nil (.seq (.blk (.loopB ⟨[⟨false, 8, 0, (.int .i64), [], false⟩, ⟨false, 9, 0, (.int .i64), [], false⟩], [2, 3, 4, 19, 20, 36]⟩ ⟨[⟨false, 8, 0, (.int .i64), [], false⟩], [2, 3, 4, 19, 20, 36]⟩ 2 (.seq .nil (.blk (.seq .nil (.seq .nil (.join ⟨[⟨false, 8, 0, (.int .i64), [], false⟩, ⟨false, 9, 0, (.int .i64), [], false⟩], [2, 3, 4, 19, 20, 36]⟩ .nil .nil))))))) .nil)))) .nil))))) (.seq (.frz 19 .nil) (.seq (.seq .nil (.join ⟨[⟨true, 11, 92, Tcobblebase_Wide, [], false⟩], [2, 3, 4, 20]⟩ .nil .nil)) .nil))))))
def an_cobblebase_wideSize : Ann := .nil
def an_cobblebase_wideGcd : Ann := (.seq .nil (.seq .nil (.seq (.blk (.loopB ⟨[⟨true, 2, 92, Tcobblebase_Wide, [], false⟩, ⟨true, 3, 92, Tcobblebase_Wide, [], false⟩], [4]⟩ ⟨[⟨true, 2, 92, Tcobblebase_Wide, [], false⟩], [4]⟩ 0 .nil)) .nil)))
def an_cobblebase_RatioMake : Ann := (.seq .nil (.seq (.seq .nil (.join ⟨[⟨true, 2, 92, Tcobblebase_Wide, [], false⟩, ⟨true, 3, 92, Tcobblebase_Wide, [], false⟩], [4]⟩ .nil .nil)) .nil))
def an_cobblebase_RatioAdd : Ann := .nil
def an_cobbleref09_Strip_Length : Ann := (.seq .nil (.seq .nil (.seq (.seq .nil (.blk (.loopB ⟨[⟨false, 4, 0, (.int .i64), [], false⟩, ⟨true, 3, 94, Tcobblebase_Ratio, [], false⟩], [2]⟩ ⟨[⟨true, 3, 94, Tcobblebase_Ratio, [], false⟩], [2]⟩ 0 .nil))) .nil)))
def an_cobblebase_RatioCmp : Ann := .nil
def an_cobblebase_RatioMul : Ann := .nil
def an_cobblebase_RatioOf : Ann := .nil
def an_cobbleref09_pass : Ann := (.seq .nil (.seq .nil (.seq (.seq .nil (.blk (.loopB ⟨[⟨false, 5, 0, (.slice Tcobbleref09_Section), [([], some 101000500)], false⟩, ⟨false, 6, 0, (.int .i64), [], false⟩], []⟩ ⟨[⟨false, 5, 0, (.slice Tcobbleref09_Section), [([], some 201000500)], false⟩], []⟩ 0 .nil))) .nil)))
def an_cobblebase_RatioNeg : Ann := .nil
def an_cobblebase_RatioSub : Ann := .nil
def an_cobbleref09_cut : Ann := (.seq .nil (.seq .nil (.seq .nil (.seq .nil (.seq (.seq .nil (.blk (.loopB ⟨[⟨false, 10, 0, (.slice Tcobbleref09_Section), [([], some 401001000)], false⟩, ⟨false, 11, 0, (.int .i64), [], false⟩, ⟨true, 9, 94, Tcobblebase_Ratio, [], false⟩], [7, 8]⟩ ⟨[⟨false, 10, 0, (.slice Tcobbleref09_Section), [([], some 801001000)], false⟩], [7, 8]⟩ 0 (.seq .nil (.seq (.blk (.seq .nil (.seq .nil (.seq (.seq .nil (.join ⟨[⟨true, 13, 94, Tcobblebase_Ratio, [], false⟩], [7, 8, 9, 12, 14, 401001000]⟩ .nil .nil)) (.seq (.seq .nil (.join ⟨[⟨true, 14, 94, Tcobblebase_Ratio, [], false⟩], [7, 8, 9, 12, 13, 401001000]⟩ .nil .nil)) (.seq (.seq .nil (.join ⟨[⟨false, 10, 0, (.slice Tcobbleref09_Section), [([], some 1101001000)], false⟩], [7, 8, 9, 12, 13, 14]⟩ .nil .nil)) .nil)))))) .nil))))) .nil)))))
def an_cobbleref09_Strip_Ends : Ann := (.seq .nil (.seq .nil (.seq .nil (.seq (.seq .nil (.blk (.loopB ⟨[⟨false, 4, 0, (.slice Tcobblebase_Ratio), [([], some 101000400)], false⟩, ⟨false, 5, 0, (.int .i64), [], false⟩, ⟨true, 3, 94, Tcobblebase_Ratio, [], false⟩], []⟩ ⟨[⟨false, 4, 0, (.slice Tcobblebase_Ratio), [([], some 201000400)], false⟩], []⟩ 0 .nil))) .nil))))
def an_cobblebase_WideInt : Ann := (.seq .nil (.seq .nil (.seq .nil (.seq (.seq .nil (.blk (.loopB ⟨[⟨false, 4, 0, (.int .i64), [], false⟩, ⟨false, 5, 0, (.int .i64), [], false⟩], [1]⟩ ⟨[⟨false, 4, 0, (.int .i64), [], false⟩], [1]⟩ 0 .nil))) .nil))))
def an_cobblebase_IsSmall : Ann := .nil
def an_cobblebase_RatioFrac : Ann := .nil
def an_cobbleref09_isSmall : Ann := .nil
def an_cobbleref09_stepErr : Ann := (.seq .nil (.seq .nil (.seq (.seq .nil (.blk (.seq .nil (.joinD ⟨[⟨false, 6, 0, (.slice Tcobbleref09_Section), [], false⟩], [3]⟩ (.seq .nil (.seq .nil (.seq (.seq .nil (.blk (.loopBD ⟨[⟨false, 7, 0, (.int .i64), [], false⟩], [3]⟩ ⟨[], [3]⟩ 1 .nil))) .nil))) .nil)))) (.seq .nil (.seq (.seq .nil (.blk (.loopBD ⟨[⟨false, 9, 0, (.int .i64), [], false⟩], [3]⟩ ⟨[], [3]⟩ 3 .nil))) .nil)))))
def an_cobbleref09_CheckCourse : Ann := (.seq .nil (.seq .nil (.seq .nil (.seq .nil (.seq (.seq .nil (.blk (.loopBD ⟨[⟨false, 4, 0, (.int .i64), [], false⟩], [1]⟩ ⟨[], [1]⟩ 0 .nil))) (.seq .nil (.seq .nil (.seq (.seq .nil (.blk (.loopBD ⟨[⟨false, 5, 0, (.slice Tcobbleref09_Section), [], false⟩, ⟨false, 6, 0, (.int .i64), [], false⟩], [1]⟩ ⟨[], [1]⟩ 2 .nil))) .nil))))))))
def an_cobbleref09_CourseErr : Ann := .nil
def an_cobbleref09_strips : Ann := (.seq .nil (.seq .nil (.seq (.seq .nil (.blk (.loopB ⟨[⟨false, 5, 0, (.slice (.slice Tcobbleref09_Section)), [([], some 201000500)], false⟩, ⟨false, 6, 0, (.int .i64), [], false⟩], [2]⟩ ⟨[⟨false, 5, 0, (.slice (.slice Tcobbleref09_Section)), [([], some 501000500)], false⟩], [2]⟩ 0 (.seq .nil (.seq (.blk (.seq .nil (.seq .nil (.join ⟨[⟨false, 5, 0, (.slice (.slice Tcobbleref09_Section)), [([], some 601000500)], false⟩], [2, 7]⟩ .nil .nil)))) .nil))))) .nil)))
def an_cobbleref09_After : Ann := .nil
def an_cobblebase_RatioDiv : Ann := .nil
def an_cobbleref09_through : Ann := (.seq .nil (.seq .nil (.seq (.seq .nil (.blk (.loopBD ⟨[⟨false, 9, 0, (.int .i64), [], false⟩, ⟨true, 7, 94, Tcobblebase_Ratio, [], false⟩, ⟨true, 8, 94, Tcobblebase_Ratio, [], false⟩], [5, 6]⟩ ⟨[⟨true, 8, 94, Tcobblebase_Ratio, [], false⟩], [5, 6]⟩ 0 .nil))) .nil)))
def an_cobbleref09_Move : Ann := (.seq .nil (.seq .nil (.seq (.seq .nil (.blk (.loopB ⟨[⟨false, 11, 0, (.int .i64), [], false⟩, ⟨true, 5, 94, Tcobblebase_Ratio, [], false⟩], [4, 8]⟩ ⟨[⟨true, 5, 94, Tcobblebase_Ratio, [], false⟩], [4, 8]⟩ 0 (.seq .nil (.seq (.blk (.seq .nil (.seq .nil (.join ⟨[⟨true, 5, 94, Tcobblebase_Ratio, [], false⟩], [4, 8, 12]⟩ .nil .nil)))) .nil))))) (.seq (.seq .nil (.blk (.loopBD ⟨[⟨false, 13, 0, (.int .i64), [], false⟩, ⟨true, 5, 94, Tcobblebase_Ratio, [], false⟩], [4, 8]⟩ ⟨[⟨true, 5, 94, Tcobblebase_Ratio, [], false⟩], [4, 8]⟩ 2 (.seq .nil (.seq (.blk (.seq .nil (.seq .nil (.joinD ⟨[⟨true, 5, 94, Tcobblebase_Ratio, [], false⟩], [4, 8, 14]⟩ .nil .nil)))) .nil))))) .nil))))
def an_cobbleref09_PiecesOf : Ann := (.seq .nil (.seq .nil (.seq .nil (.seq .nil (.seq .nil (.seq .nil (.seq (.seq .nil (.blk (.loopBD ⟨[⟨false, 8, 0, (.slice Tapi_Span), [([], some 201000800)], false⟩, ⟨false, 9, 0, (.int .i64), [], false⟩], [2, 7]⟩ ⟨[⟨false, 8, 0, (.slice Tapi_Span), [([], some 401000800)], false⟩], [2, 7]⟩ 0 (.seq .nil (.seq (.blk (.seq .nil (.seq (.seq .nil (.join ⟨[⟨true, 10, 94, Tcobblebase_Ratio, [], false⟩], [2, 7, 201000800]⟩ .nil .nil)) .nil))) .nil))))) .nil)))))))
def an_cobblelaw09_spans : Ann := (.seq .nil (.seq .nil (.seq (.seq .nil (.blk (.loopBD ⟨[⟨false, 5, 0, (.int .i64), [], false⟩], []⟩ ⟨[], []⟩ 0 .nil))) .nil)))
def an_cobbleref09_StepsErr : Ann := .nil
def an_cobbleref09_ReadingErr : Ann := .nil
def an_cobbleref09_PlaceOf : Ann := .nil
def an_cobblelaw09_TracePlaces : Ann := (.seq .nil (.seq .nil (.seq .nil (.seq .nil (.seq .nil (.seq .nil (.seq .nil (.seq .nil (.seq .nil (.seq (.seq .nil (.seq .nil (.join ⟨[⟨false, 11, 0, (.int .i64), [], false⟩], [3, 4, 5, 7]⟩ .nil .nil))) .nil))))))))))
noncomputable abbrev sg_slices_Clone_uint32 : Sig := ⟨146, [(.slice (.int .u32))], [(.slice (.int .u32))], fun x => slices_Clone_uint32 x⟩
noncomputable abbrev sg_trace_evidence_explanations : Sig := ⟨44, [Ttrace_evidence, (.int .u64)], [(.slice (.int .u64))], fun x => trace_evidence_explanations x.1 x.2⟩
noncomputable abbrev sg_strings_Join : Sig := ⟨50, [(.slice .str), .str], [.str], fun x => strings_Join x.1 x.2⟩
noncomputable abbrev sg_strconv_Itoa : Sig := ⟨49, [(.int .i64)], [.str], fun x => strconv_Itoa x⟩
noncomputable abbrev sg_trace_first : Sig := ⟨22, [(.slice (.int .i64))], [(.int .i64)], fun x => trace_first x⟩
noncomputable abbrev sg_trace_unless : Sig := ⟨28, [.bool, (.int .i64)], [(.int .i64)], fun x => trace_unless x.1 x.2⟩
noncomputable abbrev sg_trace_within : Sig := ⟨29, [(.int .i64), (.int .i64), (.int .i64)], [.bool], fun x => trace_within x.1 x.2.1 x.2.2⟩
noncomputable abbrev sg_trace_course_stepsErr : Sig := ⟨24, [Ttrace_course, (.int .i64)], [(.int .i64)], fun x => trace_course_stepsErr x.1 x.2⟩
noncomputable abbrev sg_trace_trimmed : Sig := ⟨91, [(.slice (.int .u32))], [(.slice (.int .u32))], fun x => trace_trimmed x⟩
noncomputable abbrev sg_trace_naturalOf : Sig := ⟨57, [(.int .u64)], [(.slice (.int .u32))], fun x => trace_naturalOf x⟩
noncomputable abbrev sg_trace_size : Sig := ⟨58, [(.int .i64)], [(.int .u64)], fun x => trace_size x⟩
noncomputable abbrev sg_trace_whole : Sig := ⟨33, [(.int .i64)], [Ttrace_ratio], fun x => trace_whole x⟩
noncomputable abbrev sg_trace_isName : Sig := ⟨85, [.str], [.bool], fun x => trace_isName x⟩
noncomputable abbrev sg_trace_isArea : Sig := ⟨86, [(.int .i64)], [.bool], fun x => trace_isArea x⟩
noncomputable abbrev sg_trace_strip_length : Sig := ⟨31, [(.slice Ttrace_section)], [Ttrace_ratio], fun x => trace_strip_length x⟩
noncomputable abbrev sg_trace_natural_cmp : Sig := ⟨88, [(.slice (.int .u32)), (.slice (.int .u32))], [(.int .i64)], fun x => trace_natural_cmp x.1 x.2⟩
noncomputable abbrev sg_trace_natural_digit : Sig := ⟨89, [(.slice (.int .u32)), (.int .i64)], [(.int .u64)], fun x => trace_natural_digit x.1 x.2⟩
noncomputable abbrev sg_trace_natural_times : Sig := ⟨92, [(.slice (.int .u32)), (.slice (.int .u32))], [(.slice (.int .u32))], fun x => trace_natural_times x.1 x.2⟩
noncomputable abbrev sg_trace_natural_plus : Sig := ⟨94, [(.slice (.int .u32)), (.slice (.int .u32))], [(.slice (.int .u32))], fun x => trace_natural_plus x.1 x.2⟩
noncomputable abbrev sg_trace_natural_minus : Sig := ⟨95, [(.slice (.int .u32)), (.slice (.int .u32))], [(.slice (.int .u32))], fun x => trace_natural_minus x.1 x.2⟩
noncomputable abbrev sg_bits_Len32 : Sig := ⟨156, [(.int .u32)], [(.int .i64)], fun x => bits_Len32 x⟩
noncomputable abbrev sg_trace_natural_length : Sig := ⟨147, [(.slice (.int .u32))], [(.int .i64)], fun x => trace_natural_length x⟩
noncomputable abbrev sg_trace_natural_shifted : Sig := ⟨148, [(.slice (.int .u32)), (.int .i64)], [(.slice (.int .u32))], fun x => trace_natural_shifted x.1 x.2⟩
noncomputable abbrev sg_trace_natural_divided : Sig := ⟨125, [(.slice (.int .u32)), (.slice (.int .u32))], [(.slice (.int .u32)), (.slice (.int .u32))], fun x => trace_natural_divided x.1 x.2⟩
noncomputable abbrev sg_trace_divisor : Sig := ⟨124, [(.slice (.int .u32)), (.slice (.int .u32))], [(.slice (.int .u32))], fun x => trace_divisor x.1 x.2⟩
noncomputable abbrev sg_trace_ratioOf : Sig := ⟨93, [.bool, (.slice (.int .u32)), (.slice (.int .u32))], [Ttrace_ratio], fun x => trace_ratioOf x.1 x.2.1 x.2.2⟩
noncomputable abbrev sg_trace_ratio_plus : Sig := ⟨60, [Ttrace_ratio, Ttrace_ratio], [Ttrace_ratio], fun x => trace_ratio_plus x.1 x.2⟩
noncomputable abbrev sg_trace_ratio_opposite : Sig := ⟨90, [Ttrace_ratio], [Ttrace_ratio], fun x => trace_ratio_opposite x⟩
noncomputable abbrev sg_trace_ratio_minus : Sig := ⟨56, [Ttrace_ratio, Ttrace_ratio], [Ttrace_ratio], fun x => trace_ratio_minus x.1 x.2⟩
noncomputable abbrev sg_trace_ratio_cmp : Sig := ⟨32, [Ttrace_ratio, Ttrace_ratio], [(.int .i64)], fun x => trace_ratio_cmp x.1 x.2⟩
noncomputable abbrev sg_trace_ratio_between : Sig := ⟨59, [Ttrace_ratio, Ttrace_ratio, Ttrace_ratio], [.bool], fun x => trace_ratio_between x.1 x.2.1 x.2.2⟩
noncomputable abbrev sg_trace_strip_has : Sig := ⟨53, [(.slice Ttrace_section), (.int .i64)], [.bool], fun x => trace_strip_has x.1 x.2⟩
noncomputable abbrev sg_trace_isPosition : Sig := ⟨110, [(.int .i64)], [.bool], fun x => trace_isPosition x⟩
noncomputable abbrev sg_slices_IndexFunc_int : Sig := ⟨144, [(.slice (.int .i64)), (.fn (.int .i64) .bool)], [(.int .i64)], fun x => slices_IndexFunc_int x.1 x.2⟩
noncomputable abbrev sg_slices_ContainsFunc_int : Sig := ⟨119, [(.slice (.int .i64)), (.fn (.int .i64) .bool)], [.bool], fun x => slices_ContainsFunc_int x.1 x.2⟩
noncomputable abbrev sg_trace_strip_step_1 : Sig := ⟨120, [(.int .i64)], [.bool], fun x => trace_strip_step_1 x⟩
noncomputable abbrev sg_trace_ratio_times : Sig := ⟨61, [Ttrace_ratio, Ttrace_ratio], [Ttrace_ratio], fun x => trace_ratio_times x.1 x.2⟩
noncomputable abbrev sg_trace_quotient : Sig := ⟨62, [(.int .i64), (.int .i64)], [Ttrace_ratio], fun x => trace_quotient x.1 x.2⟩
noncomputable abbrev sg_trace_section_length : Sig := ⟨145, [Ttrace_section], [Ttrace_ratio], fun x => trace_section_length x⟩
noncomputable abbrev sg_trace_strip_rolled : Sig := ⟨121, [(.slice Ttrace_section), (.slice (.int .i64))], [(.slice Ttrace_section)], fun x => trace_strip_rolled x.1 x.2⟩
noncomputable abbrev sg_trace_strip_cut : Sig := ⟨122, [(.slice Ttrace_section), (.int .i64), (.int .i64)], [(.slice Ttrace_section)], fun x => trace_strip_cut x.1 x.2.1 x.2.2⟩
noncomputable abbrev sg_trace_ratio_frac : Sig := ⟨55, [Ttrace_ratio], [Tapi_Frac, .bool], fun x => trace_ratio_frac x⟩
noncomputable abbrev sg_trace_strip_isSmall : Sig := ⟨123, [(.slice Ttrace_section)], [.bool], fun x => trace_strip_isSmall x⟩
noncomputable abbrev sg_trace_strip_step : Sig := ⟨87, [(.slice Ttrace_section), Tapi_TraceStep], [(.slice Ttrace_section), (.int .i64)], fun x => trace_strip_step x.1 x.2⟩
noncomputable abbrev sg_trace_open : Sig := ⟨52, [Tapi_TraceCourse], [Ttrace_course, (.int .i64), (.int .i64)], fun x => trace_open x⟩
noncomputable abbrev sg_trace_opened : Sig := ⟨21, [Tapi_TraceCourse, (.slice (.int .i64))], [Ttrace_course, (.int .i64)], fun x => trace_opened x.1 x.2⟩
noncomputable abbrev sg_trace_course_readingErr : Sig := ⟨23, [Ttrace_course, Tapi_TraceReading], [(.int .i64)], fun x => trace_course_readingErr x.1 x.2⟩
noncomputable abbrev sg_trace_strip_slabAt : Sig := ⟨34, [(.slice Ttrace_section), Ttrace_ratio], [Ttrace_ratio], fun x => trace_strip_slabAt x.1 x.2⟩
noncomputable abbrev sg_trace_strip_at : Sig := ⟨54, [(.slice Ttrace_section), Ttrace_ratio], [Ttrace_ratio, .bool], fun x => trace_strip_at x.1 x.2⟩
noncomputable abbrev sg_trace_course_place : Sig := ⟨25, [Ttrace_course, Tapi_TraceReading, (.int .i64)], [Ttrace_ratio, .bool], fun x => trace_course_place x.1 x.2.1 x.2.2⟩
noncomputable abbrev sg_trace_small : Sig := ⟨26, [Ttrace_ratio], [Tapi_Frac, (.int .i64)], fun x => trace_small x⟩
noncomputable abbrev sg_trace_PlaceOf : Sig := ⟨6, [Tapi_TraceCourse, Tapi_TraceReading, (.int .i64)], [Tapi_Frac, (.int .i64)], fun x => trace_PlaceOf x.1 x.2.1 x.2.2⟩
noncomputable abbrev sg_trace_course_last : Sig := ⟨30, [Ttrace_course], [(.slice Ttrace_section)], fun x => trace_course_last x⟩
noncomputable abbrev sg_trace_PiecesOf : Sig := ⟨8, [Tapi_TraceCourse, (.int .i64)], [(.slice Tapi_Span), (.int .i64)], fun x => trace_PiecesOf x.1 x.2⟩
noncomputable abbrev sg_cobblelaw09_Course : Sig := ⟨15, [], [Tapi_TraceCourse], fun _ => cobblelaw09_Course⟩
noncomputable abbrev sg_trace_course_openReadings : Sig := ⟨47, [Ttrace_course, (.slice Tapi_TraceReading)], [(.int .i64)], fun x => trace_course_openReadings x.1 x.2⟩
noncomputable abbrev sg_slices_IndexFunc_apiTraceCause : Sig := ⟨135, [(.slice Tapi_TraceCause), (.fn Tapi_TraceCause .bool)], [(.int .i64)], fun x => slices_IndexFunc_apiTraceCause x.1 x.2⟩
noncomputable abbrev sg_slices_ContainsFunc_apiTraceCause : Sig := ⟨108, [(.slice Tapi_TraceCause), (.fn Tapi_TraceCause .bool)], [.bool], fun x => slices_ContainsFunc_apiTraceCause x.1 x.2⟩
noncomputable abbrev sg_trace_openCauses_1 : Sig := ⟨109, [Tapi_TraceCause, (.ptr Tapi_TraceCause)], [.bool], fun x => trace_openCauses_1 x.1 x.2⟩
noncomputable abbrev sg_trace_openCauses : Sig := ⟨75, [Tapi_TraceCourse, (.slice Tapi_TraceCause)], [Ttrace_course, (.int .i64), (.int .i64)], fun x => trace_openCauses x.1 x.2⟩
noncomputable abbrev sg_trace_ratio_over : Sig := ⟨136, [Ttrace_ratio, Ttrace_ratio], [Ttrace_ratio], fun x => trace_ratio_over x.1 x.2⟩
noncomputable abbrev sg_trace_ratio_floor : Sig := ⟨137, [Ttrace_ratio], [Ttrace_ratio], fun x => trace_ratio_floor x⟩
noncomputable abbrev sg_trace_course_predicts : Sig := ⟨111, [Ttrace_course, Tapi_TraceCause, Tapi_TraceReading], [.bool], fun x => trace_course_predicts x.1 x.2.1 x.2.2⟩
noncomputable abbrev sg_trace_course_evidenceOf : Sig := ⟨76, [Ttrace_course, (.slice Tapi_TraceCause), (.slice Tapi_TraceReading)], [Ttrace_evidence], fun x => trace_course_evidenceOf x.1 x.2.1 x.2.2⟩
noncomputable abbrev sg_trace_openEvidence : Sig := ⟨43, [Tapi_TraceCourse, (.slice Tapi_TraceCause), (.slice Tapi_TraceReading)], [Ttrace_course, Ttrace_evidence, (.int .i64)], fun x => trace_openEvidence x.1 x.2.1 x.2.2⟩
noncomputable abbrev sg_bits_OnesCount32 : Sig := ⟨114, [(.int .u32)], [(.int .i64)], fun x => bits_OnesCount32 x⟩
noncomputable abbrev sg_bits_OnesCount64 : Sig := ⟨115, [(.int .u64)], [(.int .i64)], fun x => bits_OnesCount64 x⟩
noncomputable abbrev sg_bits_OnesCount : Sig := ⟨78, [(.int .u64)], [(.int .i64)], fun x => bits_OnesCount x⟩
noncomputable abbrev sg_trace_set_has : Sig := ⟨80, [(.int .u64), (.int .i64)], [.bool], fun x => trace_set_has x.1 x.2⟩
noncomputable abbrev sg_trace_evidence_firstWrong : Sig := ⟨79, [Ttrace_evidence, (.int .u64), (.int .u64)], [(.int .i64)], fun x => trace_evidence_firstWrong x.1 x.2.1 x.2.2⟩
noncomputable abbrev sg_trace_evidence_every : Sig := ⟨45, [Ttrace_evidence], [(.int .u64)], fun x => trace_evidence_every x⟩
noncomputable abbrev sg_trace_set_list : Sig := ⟨46, [(.int .u64)], [(.slice (.int .i64))], fun x => trace_set_list x⟩
noncomputable abbrev sg_trace_Explanations : Sig := ⟨16, [Tapi_TraceCourse, (.slice Tapi_TraceCause), (.slice Tapi_TraceReading)], [(.slice (.slice (.int .i64))), (.int .i64)], fun x => trace_Explanations x.1 x.2.1 x.2.2⟩
noncomputable abbrev sg_cobblelaw09_Causes : Sig := ⟨17, [], [(.slice Tapi_TraceCause)], fun _ => cobblelaw09_Causes⟩
noncomputable abbrev sg_trace_written : Sig := ⟨48, [Tapi_Frac], [.str], fun x => trace_written x⟩
noncomputable abbrev sg_trace_ReportOf : Sig := ⟨18, [Tapi_TraceCourse, (.slice Tapi_TraceReading)], [.str, (.int .i64)], fun x => trace_ReportOf x.1 x.2⟩
noncomputable abbrev sg_cobblebase_Whole : Sig := ⟨19, [(.int .i64)], [Tapi_Frac], fun x => cobblebase_Whole x⟩
noncomputable abbrev sg_cobblebase_Ints : Sig := ⟨51, [(.slice (.int .i64)), (.slice (.int .i64))], [.bool], fun x => cobblebase_Ints x.1 x.2⟩
noncomputable abbrev sg_cobblebase_Lists : Sig := ⟨20, [(.slice (.slice (.int .i64))), (.slice (.slice (.int .i64)))], [.bool], fun x => cobblebase_Lists x.1 x.2⟩
noncomputable abbrev sg_cobblelaw09_awake : Sig := ⟨4, [], [.bool], fun _ => cobblelaw09_awake⟩
noncomputable abbrev sg_cobblelaw09_Few : Sig := ⟨5, [Tapi_TraceCourse], [.bool], fun x => cobblelaw09_Few x⟩
noncomputable abbrev sg_cobblebase_CopyInts : Sig := ⟨27, [(.slice (.int .i64))], [(.slice (.int .i64))], fun x => cobblebase_CopyInts x⟩
noncomputable abbrev sg_cobbleref09_CopyCourse : Sig := ⟨7, [Tapi_TraceCourse], [Tapi_TraceCourse], fun x => cobbleref09_CopyCourse x⟩
noncomputable abbrev sg_cobblebase_Within : Sig := ⟨36, [(.int .i64), (.int .i64), (.int .i64)], [.bool], fun x => cobblebase_Within x.1 x.2.1 x.2.2⟩
noncomputable abbrev sg_cobblebase_IsName : Sig := ⟨63, [.str], [.bool], fun x => cobblebase_IsName x⟩
noncomputable abbrev sg_cobblebase_trimmed : Sig := ⟨134, [(.slice (.int .i64))], [(.slice (.int .i64))], fun x => cobblebase_trimmed x⟩
noncomputable abbrev sg_cobblebase_wideOf : Sig := ⟨103, [(.int .i64), (.slice (.int .i64))], [Tcobblebase_Wide], fun x => cobblebase_wideOf x.1 x.2⟩
noncomputable abbrev sg_cobblebase_Size : Sig := ⟨104, [(.int .i64)], [(.int .i64)], fun x => cobblebase_Size x⟩
noncomputable abbrev sg_cobblebase_WideOf : Sig := ⟨70, [(.int .i64)], [Tcobblebase_Wide], fun x => cobblebase_WideOf x⟩
noncomputable abbrev sg_cobblebase_RatioInt : Sig := ⟨40, [(.int .i64)], [Tcobblebase_Ratio], fun x => cobblebase_RatioInt x⟩
noncomputable abbrev sg_cobbleref09_slab : Sig := ⟨64, [Tapi_TraceCourse], [(.slice Tcobbleref09_Section)], fun x => cobbleref09_slab x⟩
noncomputable abbrev sg_cobblebase_WideMul : Sig := ⟨69, [Tcobblebase_Wide, Tcobblebase_Wide], [Tcobblebase_Wide], fun x => cobblebase_WideMul x.1 x.2⟩
noncomputable abbrev sg_cobblebase_digit : Sig := ⟨150, [(.slice (.int .i64)), (.int .i64)], [(.int .i64)], fun x => cobblebase_digit x.1 x.2⟩
noncomputable abbrev sg_cobblebase_addDigits : Sig := ⟨131, [(.slice (.int .i64)), (.slice (.int .i64))], [(.slice (.int .i64))], fun x => cobblebase_addDigits x.1 x.2⟩
noncomputable abbrev sg_cobblebase_cmpDigits : Sig := ⟨132, [(.slice (.int .i64)), (.slice (.int .i64))], [(.int .i64)], fun x => cobblebase_cmpDigits x.1 x.2⟩
noncomputable abbrev sg_cobblebase_subDigits : Sig := ⟨133, [(.slice (.int .i64)), (.slice (.int .i64))], [(.slice (.int .i64))], fun x => cobblebase_subDigits x.1 x.2⟩
noncomputable abbrev sg_cobblebase_WideAdd : Sig := ⟨101, [Tcobblebase_Wide, Tcobblebase_Wide], [Tcobblebase_Wide], fun x => cobblebase_WideAdd x.1 x.2⟩
noncomputable abbrev sg_cobblebase_WideNeg : Sig := ⟨128, [Tcobblebase_Wide], [Tcobblebase_Wide], fun x => cobblebase_WideNeg x⟩
noncomputable abbrev sg_cobblebase_WideSub : Sig := ⟨102, [Tcobblebase_Wide, Tcobblebase_Wide], [Tcobblebase_Wide], fun x => cobblebase_WideSub x.1 x.2⟩
noncomputable abbrev sg_cobblebase_WideCmp : Sig := ⟨68, [Tcobblebase_Wide, Tcobblebase_Wide], [(.int .i64)], fun x => cobblebase_WideCmp x.1 x.2⟩
noncomputable abbrev sg_cobblebase_WideSign : Sig := ⟨127, [Tcobblebase_Wide], [(.int .i64)], fun x => cobblebase_WideSign x⟩
noncomputable abbrev sg_cobblebase_WideFloor : Sig := ⟨130, [Tcobblebase_Wide, Tcobblebase_Wide], [Tcobblebase_Wide], fun x => cobblebase_WideFloor x.1 x.2⟩
noncomputable abbrev sg_cobblebase_wideSize : Sig := ⟨149, [Tcobblebase_Wide], [Tcobblebase_Wide], fun x => cobblebase_wideSize x⟩
noncomputable abbrev sg_cobblebase_wideGcd : Sig := ⟨129, [Tcobblebase_Wide, Tcobblebase_Wide], [Tcobblebase_Wide], fun x => cobblebase_wideGcd x.1 x.2⟩
noncomputable abbrev sg_cobblebase_RatioMake : Sig := ⟨100, [Tcobblebase_Wide, Tcobblebase_Wide], [Tcobblebase_Ratio], fun x => cobblebase_RatioMake x.1 x.2⟩
noncomputable abbrev sg_cobblebase_RatioAdd : Sig := ⟨67, [Tcobblebase_Ratio, Tcobblebase_Ratio], [Tcobblebase_Ratio], fun x => cobblebase_RatioAdd x.1 x.2⟩
noncomputable abbrev sg_cobbleref09_Strip_Length : Sig := ⟨38, [(.slice Tcobbleref09_Section)], [Tcobblebase_Ratio], fun x => cobbleref09_Strip_Length x⟩
noncomputable abbrev sg_cobblebase_RatioCmp : Sig := ⟨39, [Tcobblebase_Ratio, Tcobblebase_Ratio], [(.int .i64)], fun x => cobblebase_RatioCmp x.1 x.2⟩
noncomputable abbrev sg_cobblebase_RatioMul : Sig := ⟨106, [Tcobblebase_Ratio, Tcobblebase_Ratio], [Tcobblebase_Ratio], fun x => cobblebase_RatioMul x.1 x.2⟩
noncomputable abbrev sg_cobblebase_RatioOf : Sig := ⟨126, [(.int .i64), (.int .i64)], [Tcobblebase_Ratio], fun x => cobblebase_RatioOf x.1 x.2⟩
noncomputable abbrev sg_cobbleref09_pass : Sig := ⟨96, [(.slice Tcobbleref09_Section), (.slice (.int .i64))], [(.slice Tcobbleref09_Section)], fun x => cobbleref09_pass x.1 x.2⟩
noncomputable abbrev sg_cobblebase_RatioNeg : Sig := ⟨107, [Tcobblebase_Ratio], [Tcobblebase_Ratio], fun x => cobblebase_RatioNeg x⟩
noncomputable abbrev sg_cobblebase_RatioSub : Sig := ⟨72, [Tcobblebase_Ratio, Tcobblebase_Ratio], [Tcobblebase_Ratio], fun x => cobblebase_RatioSub x.1 x.2⟩
noncomputable abbrev sg_cobbleref09_cut : Sig := ⟨97, [(.slice Tcobbleref09_Section), (.int .i64), (.int .i64)], [(.slice Tcobbleref09_Section)], fun x => cobbleref09_cut x.1 x.2.1 x.2.2⟩
noncomputable abbrev sg_cobbleref09_Strip_Ends : Sig := ⟨98, [(.slice Tcobbleref09_Section)], [(.slice Tcobblebase_Ratio)], fun x => cobbleref09_Strip_Ends x⟩
noncomputable abbrev sg_cobblebase_WideInt : Sig := ⟨73, [Tcobblebase_Wide], [(.int .i64), .bool], fun x => cobblebase_WideInt x⟩
noncomputable abbrev sg_cobblebase_IsSmall : Sig := ⟨74, [Tapi_Frac], [.bool], fun x => cobblebase_IsSmall x⟩
noncomputable abbrev sg_cobblebase_RatioFrac : Sig := ⟨42, [Tcobblebase_Ratio], [Tapi_Frac, .bool], fun x => cobblebase_RatioFrac x⟩
noncomputable abbrev sg_cobbleref09_isSmall : Sig := ⟨99, [Tcobblebase_Ratio], [.bool], fun x => cobbleref09_isSmall x⟩
noncomputable abbrev sg_cobbleref09_stepErr : Sig := ⟨65, [(.slice Tcobbleref09_Section), Tapi_TraceStep], [(.slice Tcobbleref09_Section), (.int .i64)], fun x => cobbleref09_stepErr x.1 x.2⟩
noncomputable abbrev sg_cobbleref09_CheckCourse : Sig := ⟨35, [Tapi_TraceCourse], [(.int .i64), (.int .i64)], fun x => cobbleref09_CheckCourse x⟩
noncomputable abbrev sg_cobbleref09_CourseErr : Sig := ⟨9, [Tapi_TraceCourse], [(.int .i64)], fun x => cobbleref09_CourseErr x⟩
noncomputable abbrev sg_cobbleref09_strips : Sig := ⟨66, [Tapi_TraceCourse, (.int .i64)], [(.slice (.slice Tcobbleref09_Section))], fun x => cobbleref09_strips x.1 x.2⟩
noncomputable abbrev sg_cobbleref09_After : Sig := ⟨37, [Tapi_TraceCourse, (.int .i64)], [(.slice Tcobbleref09_Section)], fun x => cobbleref09_After x.1 x.2⟩
noncomputable abbrev sg_cobblebase_RatioDiv : Sig := ⟨105, [Tcobblebase_Ratio, Tcobblebase_Ratio], [Tcobblebase_Ratio], fun x => cobblebase_RatioDiv x.1 x.2⟩
noncomputable abbrev sg_cobbleref09_through : Sig := ⟨71, [(.slice Tcobbleref09_Section), (.slice Tcobbleref09_Section), Tcobblebase_Ratio], [Tcobblebase_Ratio], fun x => cobbleref09_through x.1 x.2.1 x.2.2⟩
noncomputable abbrev sg_cobbleref09_Move : Sig := ⟨41, [Tapi_TraceCourse, Tcobblebase_Ratio, (.int .i64), (.int .i64)], [Tcobblebase_Ratio, .bool], fun x => cobbleref09_Move x.1 x.2.1 x.2.2.1 x.2.2.2⟩
noncomputable abbrev sg_cobbleref09_PiecesOf : Sig := ⟨10, [Tapi_TraceCourse, (.int .i64)], [(.slice Tapi_Span), (.int .i64)], fun x => cobbleref09_PiecesOf x.1 x.2⟩
noncomputable abbrev sg_cobblelaw09_spans : Sig := ⟨11, [(.slice Tapi_Span), (.slice Tapi_Span)], [.bool], fun x => cobblelaw09_spans x.1 x.2⟩
noncomputable abbrev sg_cobbleref09_StepsErr : Sig := ⟨13, [Tapi_TraceCourse, (.int .i64)], [(.int .i64)], fun x => cobbleref09_StepsErr x.1 x.2⟩
noncomputable abbrev sg_cobbleref09_ReadingErr : Sig := ⟨12, [Tapi_TraceCourse, Tapi_TraceReading], [(.int .i64)], fun x => cobbleref09_ReadingErr x.1 x.2⟩
noncomputable abbrev sg_cobbleref09_PlaceOf : Sig := ⟨14, [Tapi_TraceCourse, Tapi_TraceReading, (.int .i64)], [Tapi_Frac, (.int .i64)], fun x => cobbleref09_PlaceOf x.1 x.2.1 x.2.2⟩
noncomputable abbrev sg_cobblelaw09_TracePlaces : Sig := ⟨3, [Tapi_TraceCourse, Tapi_TraceReading, (.arr 2 (.int .i64))], [.bool], fun x => cobblelaw09_TracePlaces x.1 x.2.1 x.2.2⟩
end Go.Lift
