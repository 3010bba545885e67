/-
  Each function's code computes the plain function, by the kernel.
-/
import Derived.Test.YtfihcmhknhbndaaGreatDoorFunT
set_option linter.unusedSectionVars false
set_option linter.unusedVariables false
set_option linter.unusedSimpArgs false
namespace Go.Lift
open Go Go.Proofs
theorem ck_trace_first (l : (List Int)) : funK (cx [] []) Tryz.f94 an_trace_first [(.slice (.int .i64))] [(.int .i64)] l = trace_first l := by kernel_rfl

theorem ck_trace_trimmed (l : (List Int)) : funK (cx [] []) Tryz.f220 an_trace_trimmed [(.slice (.int .u32))] [(.slice (.int .u32))] l = trace_trimmed l := by kernel_rfl

theorem ck_trace_isName (s : ByteArray) : funK (cx [] [sg_trace_within]) Tryz.f193 an_trace_isName [.str] [.bool] s = trace_isName s := by kernel_rfl

theorem ck_trace_natural_digit (a : (List Int)) (i : Int) : funK (cx [] []) Tryz.f182 an_trace_natural_digit [(.slice (.int .u32)), (.int .i64)] [(.int .u64)] (a, i) = trace_natural_digit a i := by kernel_rfl

theorem ck_bits_Len32 (x : Int) : funK (cx [] []) Tryz.f245 an_bits_Len32 [(.int .u32)] [(.int .i64)] x = bits_Len32 x := by kernel_rfl

theorem ck_trace_divisor (a : (List Int)) (b : (List Int)) : funK (cx [] [sg_trace_natural_divided]) Tryz.f214 an_trace_divisor [(.slice (.int .u32)), (.slice (.int .u32))] [(.slice (.int .u32))] (a, b) = trace_divisor a b := by kernel_rfl

theorem ck_trace_ratio_minus (a : Dtrace_ratio) (b : Dtrace_ratio) : funK (cx [] [sg_trace_ratio_plus, sg_trace_ratio_opposite]) Tryz.f171 an_trace_ratio_minus [Ttrace_ratio, Ttrace_ratio] [Ttrace_ratio] (a, b) = trace_ratio_minus a b := by kernel_rfl

theorem ck_trace_isPosition (n : Int) : funK (cx [] [sg_trace_within]) Tryz.f194 an_trace_isPosition [(.int .i64)] [.bool] n = trace_isPosition n := by kernel_rfl

theorem ck_trace_section_length (s : Dtrace_section) : funK (cx [] [sg_trace_ratio_minus]) Tryz.f116 an_trace_section_length [Ttrace_section] [Ttrace_ratio] s = trace_section_length s := by kernel_rfl

theorem ck_trace_strip_cut (s : (List Dtrace_section)) (lo : Int) (hi : Int) : funK (cx [] [sg_trace_ratio_cmp, sg_trace_whole, sg_trace_ratio_plus, sg_trace_ratio_times, sg_trace_ratio_minus, sg_trace_quotient]) Tryz.f230 an_trace_strip_cut [(.slice Ttrace_section), (.int .i64), (.int .i64)] [(.slice Ttrace_section)] (s, lo, hi) = trace_strip_cut s lo hi := by kernel_rfl

theorem ck_trace_open (c : Dapi_TraceCourse) : funK (cx [] [sg_trace_first, sg_trace_unless, sg_trace_within, sg_trace_whole, sg_trace_isName, sg_trace_isArea, sg_trace_strip_step]) Tryz.f135 an_trace_open [Tapi_TraceCourse] [Ttrace_course, (.int .i64), (.int .i64)] c = trace_open c := by kernel_rfl

theorem ck_trace_strip_slabAt (s : (List Dtrace_section)) (position : Dtrace_ratio) : funK (cx [] [sg_trace_ratio_plus, sg_trace_ratio_times, sg_trace_ratio_between, sg_trace_ratio_minus, sg_trace_quotient]) Tryz.f102 an_trace_strip_slabAt [(.slice Ttrace_section), Ttrace_ratio] [Ttrace_ratio] (s, position) = trace_strip_slabAt s position := by kernel_rfl

theorem ck_trace_course_place (c : Dtrace_course) (r : Dapi_TraceReading) (steps : Int) : funK (cx [] [sg_trace_whole, sg_trace_strip_slabAt, sg_trace_strip_at]) Tryz.f107 an_trace_course_place [Ttrace_course, Tapi_TraceReading, (.int .i64)] [Ttrace_ratio, .bool] (c, r, steps) = trace_course_place c r steps := by kernel_rfl

theorem ck_trace_openCauses_1 (o : Dapi_TraceCause) (x : Dapi_TraceCause) : funK (cx [] []) Tryz.f192 an_trace_openCauses_1 [Tapi_TraceCause, (.ptr Tapi_TraceCause)] [.bool] (o, x) = trace_openCauses_1 o x := by kernel_rfl

theorem ck_trace_ratio_floor (a : Dtrace_ratio) : funK (cx [] [sg_trace_natural_divided]) Tryz.f197 an_trace_ratio_floor [Ttrace_ratio] [Ttrace_ratio] a = trace_ratio_floor a := by kernel_rfl

theorem ck_bits_OnesCount32 (x : Int) : funK (cx [] []) Tryz.f221 an_bits_OnesCount32 [(.int .u32)] [(.int .i64)] x = bits_OnesCount32 x := by kernel_rfl

theorem ck_trace_evidence_firstWrong (v : Dtrace_evidence) (s : Int) (readings : Int) : funK (cx [] [sg_trace_set_has]) Tryz.f126 an_trace_evidence_firstWrong [Ttrace_evidence, (.int .u64), (.int .u64)] [(.int .i64)] (v, s, readings) = trace_evidence_firstWrong v s readings := by kernel_rfl

theorem ck_b0_Ints (a : (List Int)) (b : (List Int)) : funK (cx [] []) Tryz.f37 an_b0_Ints [(.slice (.int .i64)), (.slice (.int .i64))] [.bool] (a, b) = b0_Ints a b := by kernel_rfl

theorem ck_trace_written (f : Dapi_Frac) : funK (cx [] [sg_strconv_Itoa]) Tryz.f168 an_trace_written [Tapi_Frac] [.str] f = trace_written f := by kernel_rfl

theorem ck_l9_Few (c : Dapi_TraceCourse) : funK (cx [] []) Tryz.f15 an_l9_Few [Tapi_TraceCourse] [.bool] c = l9_Few c := by kernel_rfl

theorem ck_b0_IsName (s : ByteArray) : funK (cx [] []) Tryz.f130 an_b0_IsName [.str] [.bool] s = b0_IsName s := by kernel_rfl

theorem ck_b0_WideOf (n : Int) : funK (cx [] [sg_b0_Size, sg_b0_wideOf]) Tryz.f118 an_b0_WideOf [(.int .i64)] [Tb0_Wide] n = b0_WideOf n := by kernel_rfl

theorem ck_b0_digit (l : (List Int)) (i : Int) : funK (cx [] []) Tryz.f225 an_b0_digit [(.slice (.int .i64)), (.int .i64)] [(.int .i64)] (l, i) = b0_digit l i := by kernel_rfl

theorem ck_b0_WideAdd (a : Db0_Wide) (b : Db0_Wide) : funK (cx [] [sg_b0_wideOf, sg_b0_addDigits, sg_b0_cmpDigits, sg_b0_subDigits]) Tryz.f120 an_b0_WideAdd [Tb0_Wide, Tb0_Wide] [Tb0_Wide] (a, b) = b0_WideAdd a b := by kernel_rfl

theorem ck_b0_RatioCmp (a : Db0_Ratio) (b : Db0_Ratio) : funK (cx [] [sg_b0_WideMul, sg_b0_WideCmp]) Tryz.f43 an_b0_RatioCmp [Tb0_Ratio, Tb0_Ratio] [(.int .i64)] (a, b) = b0_RatioCmp a b := by kernel_rfl

theorem ck_b0_wideGcd (a : Db0_Wide) (b : Db0_Wide) : funK (cx [] [sg_b0_WideMul, sg_b0_WideSign, sg_b0_WideFloor, sg_b0_WideSub, sg_b0_wideSize]) Tryz.f186 an_b0_wideGcd [Tb0_Wide, Tb0_Wide] [Tb0_Wide] (a, b) = b0_wideGcd a b := by kernel_rfl

theorem ck_r9_Strip_Ends (s : (List Dr9_Section)) : funK (cx [] [sg_b0_RatioInt, sg_b0_RatioAdd]) Tryz.f147 an_r9_Strip_Ends [(.slice Tr9_Section)] [(.slice Tb0_Ratio)] s = r9_Strip_Ends s := by kernel_rfl

theorem ck_b0_RatioNeg (a : Db0_Ratio) : funK (cx [] [sg_b0_WideNeg]) Tryz.f212 an_b0_RatioNeg [Tb0_Ratio] [Tb0_Ratio] a = b0_RatioNeg a := by kernel_rfl

theorem ck_b0_WideInt (a : Db0_Wide) : funK (cx [] []) Tryz.f208 an_b0_WideInt [Tb0_Wide] [(.int .i64), .bool] a = b0_WideInt a := by kernel_rfl

theorem ck_r9_CheckCourse (c : Dapi_TraceCourse) : funK (cx [] [sg_b0_Within, sg_b0_IsName, sg_r9_slab, sg_r9_stepErr]) Tryz.f58 an_r9_CheckCourse [Tapi_TraceCourse] [(.int .i64), (.int .i64)] c = r9_CheckCourse c := by kernel_rfl

theorem ck_r9_After (c : Dapi_TraceCourse) (steps : Int) : funK (cx [] [sg_r9_strips]) Tryz.f60 an_r9_After [Tapi_TraceCourse, (.int .i64)] [(.slice Tr9_Section)] (c, steps) = r9_After c steps := by kernel_rfl

end Go.Lift

namespace Go.Lift
open Go Go.Proofs
theorem ck_trace_unless (is : Bool) (e : Int) : funK (cx [] []) Tryz.f95 an_trace_unless [.bool, (.int .i64)] [(.int .i64)] (is, e) = trace_unless is e := by kernel_rfl

theorem ck_trace_naturalOf (n : Int) : funK (cx [] [sg_trace_trimmed]) Tryz.f172 an_trace_naturalOf [(.int .u64)] [(.slice (.int .u32))] n = trace_naturalOf n := by kernel_rfl

theorem ck_trace_isArea (n : Int) : funK (cx [] [sg_trace_within]) Tryz.f199 an_trace_isArea [(.int .i64)] [.bool] n = trace_isArea n := by kernel_rfl

theorem ck_trace_natural_times (a : (List Int)) (b : (List Int)) : funK (cx [] [sg_trace_natural_digit, sg_trace_trimmed]) Tryz.f201 an_trace_natural_times [(.slice (.int .u32)), (.slice (.int .u32))] [(.slice (.int .u32))] (a, b) = trace_natural_times a b := by kernel_rfl

theorem ck_trace_natural_length (a : (List Int)) : funK (cx [] [sg_bits_Len32]) Tryz.f236 an_trace_natural_length [(.slice (.int .u32))] [(.int .i64)] a = trace_natural_length a := by kernel_rfl

theorem ck_trace_ratioOf (negative : Bool) (num : (List Int)) (den : (List Int)) : funK (cx [] [sg_trace_divisor, sg_trace_natural_divided]) Tryz.f202 an_trace_ratioOf [.bool, (.slice (.int .u32)), (.slice (.int .u32))] [Ttrace_ratio] (negative, num, den) = trace_ratioOf negative num den := by kernel_rfl

theorem ck_trace_ratio_cmp (a : Dtrace_ratio) (b : Dtrace_ratio) : funK (cx [] [sg_trace_ratio_minus]) Tryz.f99 an_trace_ratio_cmp [Ttrace_ratio, Ttrace_ratio] [(.int .i64)] (a, b) = trace_ratio_cmp a b := by kernel_rfl

theorem ck_slices_IndexFunc_int (s : (List Int)) (f : (Int → Option Bool)) : funK (cx [] []) Tryz.f238 an_slices_IndexFunc_int [(.slice (.int .i64)), (.fn (.int .i64) .bool)] [(.int .i64)] (s, f) = slices_IndexFunc_int s f := by kernel_rfl

theorem ck_trace_ratio_times (a : Dtrace_ratio) (b : Dtrace_ratio) : funK (cx [] [sg_trace_natural_times, sg_trace_ratioOf]) Tryz.f137 an_trace_ratio_times [Ttrace_ratio, Ttrace_ratio] [Ttrace_ratio] (a, b) = trace_ratio_times a b := by kernel_rfl

theorem ck_trace_ratio_frac (a : Dtrace_ratio) : funK (cx [] [sg_trace_naturalOf, sg_trace_natural_cmp, sg_trace_natural_digit]) Tryz.f117 an_trace_ratio_frac [Ttrace_ratio] [Tapi_Frac, .bool] a = trace_ratio_frac a := by kernel_rfl

theorem ck_trace_opened (c : Dapi_TraceCourse) (steps : (List Int)) : funK (cx [] [sg_trace_first, sg_trace_course_stepsErr, sg_trace_open]) Tryz.f93 an_trace_opened [Tapi_TraceCourse, (.slice (.int .i64))] [Ttrace_course, (.int .i64)] (c, steps) = trace_opened c steps := by kernel_rfl

theorem ck_trace_PiecesOf (c : Dapi_TraceCourse) (length : Int) : funK (cx [] [sg_trace_opened, sg_trace_first, sg_trace_unless, sg_trace_within, sg_trace_course_last, sg_trace_strip_length, sg_trace_ratio_cmp, sg_trace_whole, sg_trace_small, sg_trace_strip_slabAt]) Tryz.f18 an_trace_PiecesOf [Tapi_TraceCourse, (.int .i64)] [(.slice Tapi_Span), (.int .i64)] (c, length) = trace_PiecesOf c length := by kernel_rfl

theorem ck_trace_PlaceOf (c : Dapi_TraceCourse) (r : Dapi_TraceReading) (steps : Int) : funK (cx [] [sg_trace_opened, sg_trace_first, sg_trace_small, sg_trace_course_readingErr, sg_trace_course_stepsErr, sg_trace_course_place]) Tryz.f23 an_trace_PlaceOf [Tapi_TraceCourse, Tapi_TraceReading, (.int .i64)] [Tapi_Frac, (.int .i64)] (c, r, steps) = trace_PlaceOf c r steps := by kernel_rfl

theorem ck_trace_openCauses (c : Dapi_TraceCourse) (l : (List Dapi_TraceCause)) : funK (cx [] [sg_trace_opened, sg_trace_first, sg_trace_unless, sg_trace_course_stepsErr, sg_slices_ContainsFunc_apiTraceCause, sg_trace_openCauses_1, sg_trace_isName, sg_trace_isPosition]) Tryz.f125 an_trace_openCauses [Tapi_TraceCourse, (.slice Tapi_TraceCause)] [Ttrace_course, (.int .i64), (.int .i64)] (c, l) = trace_openCauses c l := by kernel_rfl

theorem ck_trace_course_predicts (c : Dtrace_course) (x : Dapi_TraceCause) (r : Dapi_TraceReading) : funK (cx [] [sg_trace_ratio_cmp, sg_trace_whole, sg_trace_course_place, sg_trace_ratio_times, sg_trace_ratio_minus, sg_trace_ratio_over, sg_trace_ratio_floor]) Tryz.f129 an_trace_course_predicts [Ttrace_course, Tapi_TraceCause, Tapi_TraceReading] [.bool] (c, x, r) = trace_course_predicts c x r := by kernel_rfl

theorem ck_bits_OnesCount64 (x : Int) : funK (cx [] []) Tryz.f222 an_bits_OnesCount64 [(.int .u64)] [(.int .i64)] x = bits_OnesCount64 x := by kernel_rfl

theorem ck_trace_evidence_every (v : Dtrace_evidence) : funK (cx [] []) Tryz.f110 an_trace_evidence_every [Ttrace_evidence] [(.int .u64)] v = trace_evidence_every v := by kernel_rfl

theorem ck_b0_Lists (a : (List (List Int))) (b : (List (List Int))) : funK (cx [] [sg_b0_Ints]) Tryz.f35 an_b0_Lists [(.slice (.slice (.int .i64))), (.slice (.slice (.int .i64)))] [.bool] (a, b) = b0_Lists a b := by kernel_rfl

theorem ck_trace_ReportOf (c : Dapi_TraceCourse) (r : (List Dapi_TraceReading)) : funK (cx [] [sg_trace_opened, sg_trace_course_last, sg_trace_strip_length, sg_trace_small, sg_trace_course_place, sg_trace_course_openReadings, sg_trace_written, sg_strconv_Itoa, sg_strings_Join]) Tryz.f91 an_trace_ReportOf [Tapi_TraceCourse, (.slice Tapi_TraceReading)] [.str, (.int .i64)] (c, r) = trace_ReportOf c r := by kernel_rfl

theorem ck_b0_CopyInts (l : (List Int)) : funK (cx [] []) Tryz.f103 an_b0_CopyInts [(.slice (.int .i64))] [(.slice (.int .i64))] l = b0_CopyInts l := by kernel_rfl

theorem ck_b0_Size (n : Int) : funK (cx [] []) Tryz.f175 an_b0_Size [(.int .i64)] [(.int .i64)] n = b0_Size n := by kernel_rfl

theorem ck_b0_RatioInt (n : Int) : funK (cx [] [sg_b0_WideOf]) Tryz.f39 an_b0_RatioInt [(.int .i64)] [Tb0_Ratio] n = b0_RatioInt n := by kernel_rfl

theorem ck_b0_addDigits (a : (List Int)) (b : (List Int)) : funK (cx [] [sg_b0_digit]) Tryz.f188 an_b0_addDigits [(.slice (.int .i64)), (.slice (.int .i64))] [(.slice (.int .i64))] (a, b) = b0_addDigits a b := by kernel_rfl

theorem ck_b0_WideNeg (a : Db0_Wide) : funK (cx [] []) Tryz.f185 an_b0_WideNeg [Tb0_Wide] [Tb0_Wide] a = b0_WideNeg a := by kernel_rfl

theorem ck_b0_WideSign (a : Db0_Wide) : funK (cx [] []) Tryz.f184 an_b0_WideSign [Tb0_Wide] [(.int .i64)] a = b0_WideSign a := by kernel_rfl

theorem ck_b0_RatioMake (num : Db0_Wide) (den : Db0_Wide) : funK (cx [] [sg_b0_WideOf, sg_b0_WideCmp, sg_b0_WideSign, sg_b0_WideNeg, sg_b0_wideGcd, sg_b0_WideFloor]) Tryz.f119 an_b0_RatioMake [Tb0_Wide, Tb0_Wide] [Tb0_Ratio] (num, den) = b0_RatioMake num den := by kernel_rfl

theorem ck_b0_RatioOf (num : Int) (den : Int) : funK (cx [] [sg_b0_WideOf, sg_b0_RatioMake]) Tryz.f122 an_b0_RatioOf [(.int .i64), (.int .i64)] [Tb0_Ratio] (num, den) = b0_RatioOf num den := by kernel_rfl

theorem ck_b0_RatioSub (a : Db0_Ratio) (b : Db0_Ratio) : funK (cx [] [sg_b0_RatioAdd, sg_b0_RatioNeg]) Tryz.f153 an_b0_RatioSub [Tb0_Ratio, Tb0_Ratio] [Tb0_Ratio] (a, b) = b0_RatioSub a b := by kernel_rfl

theorem ck_b0_RatioFrac (a : Db0_Ratio) : funK (cx [] [sg_b0_IsSmall, sg_b0_WideInt]) Tryz.f141 an_b0_RatioFrac [Tb0_Ratio] [Tapi_Frac, .bool] a = b0_RatioFrac a := by kernel_rfl

theorem ck_r9_CourseErr (c : Dapi_TraceCourse) : funK (cx [] [sg_r9_CheckCourse]) Tryz.f16 an_r9_CourseErr [Tapi_TraceCourse] [(.int .i64)] c = r9_CourseErr c := by kernel_rfl

end Go.Lift

namespace Go.Lift
open Go Go.Proofs
theorem ck_trace_within (n : Int) (lo : Int) (hi : Int) : funK (cx [] []) Tryz.f96 an_trace_within [(.int .i64), (.int .i64), (.int .i64)] [.bool] (n, lo, hi) = trace_within n lo hi := by kernel_rfl

theorem ck_trace_size (n : Int) : funK (cx [] []) Tryz.f173 an_trace_size [(.int .i64)] [(.int .u64)] n = trace_size n := by kernel_rfl

theorem ck_trace_strip_length (s : (List Dtrace_section)) : funK (cx [] []) Tryz.f98 an_trace_strip_length [(.slice Ttrace_section)] [Ttrace_ratio] s = trace_strip_length s := by kernel_rfl

theorem ck_trace_natural_plus (a : (List Int)) (b : (List Int)) : funK (cx [] [sg_trace_natural_digit, sg_trace_trimmed]) Tryz.f203 an_trace_natural_plus [(.slice (.int .u32)), (.slice (.int .u32))] [(.slice (.int .u32))] (a, b) = trace_natural_plus a b := by kernel_rfl

theorem ck_trace_natural_shifted (a : (List Int)) (by_ : Int) : funK (cx [10] [sg_trace_natural_digit, sg_trace_trimmed]) Tryz.f237 an_trace_natural_shifted [(.slice (.int .u32)), (.int .i64)] [(.slice (.int .u32))] (a, by_) = trace_natural_shifted a by_ := by kernel_rfl

theorem ck_trace_ratio_plus (a : Dtrace_ratio) (b : Dtrace_ratio) : funK (cx [] [sg_trace_natural_cmp, sg_trace_natural_times, sg_trace_ratioOf, sg_trace_natural_plus, sg_trace_natural_minus]) Tryz.f136 an_trace_ratio_plus [Ttrace_ratio, Ttrace_ratio] [Ttrace_ratio] (a, b) = trace_ratio_plus a b := by kernel_rfl

theorem ck_trace_ratio_between (a : Dtrace_ratio) (lo : Dtrace_ratio) (hi : Dtrace_ratio) : funK (cx [] [sg_trace_ratio_cmp]) Tryz.f159 an_trace_ratio_between [Ttrace_ratio, Ttrace_ratio, Ttrace_ratio] [.bool] (a, lo, hi) = trace_ratio_between a lo hi := by kernel_rfl

theorem ck_slices_ContainsFunc_int (s : (List Int)) (f : (Int → Option Bool)) : funK (cx [] [sg_slices_IndexFunc_int]) Tryz.f227 an_slices_ContainsFunc_int [(.slice (.int .i64)), (.fn (.int .i64) .bool)] [.bool] (s, f) = slices_ContainsFunc_int s f := by kernel_rfl

theorem ck_trace_quotient (n : Int) (by_ : Int) : funK (cx [] [sg_trace_naturalOf, sg_trace_size, sg_trace_ratioOf]) Tryz.f174 an_trace_quotient [(.int .i64), (.int .i64)] [Ttrace_ratio] (n, by_) = trace_quotient n by_ := by kernel_rfl

theorem ck_trace_strip_isSmall (s : (List Dtrace_section)) : funK (cx [] [sg_trace_section_length, sg_trace_ratio_frac]) Tryz.f231 an_trace_strip_isSmall [(.slice Ttrace_section)] [.bool] s = trace_strip_isSmall s := by kernel_rfl

theorem ck_trace_course_last (c : Dtrace_course) : funK (cx [] []) Tryz.f97 an_trace_course_last [Ttrace_course] [(.slice Ttrace_section)] c = trace_course_last c := by kernel_rfl

theorem ck_trace_course_readingErr (c : Dtrace_course) (r : Dapi_TraceReading) : funK (cx [] [sg_trace_unless, sg_trace_course_stepsErr, sg_trace_strip_has]) Tryz.f105 an_trace_course_readingErr [Ttrace_course, Tapi_TraceReading] [(.int .i64)] (c, r) = trace_course_readingErr c r := by kernel_rfl

theorem ck_slices_IndexFunc_apiTraceCause (s : (List Dapi_TraceCause)) (f : (Dapi_TraceCause → Option Bool)) : funK (cx [] []) Tryz.f195 an_slices_IndexFunc_apiTraceCause [(.slice Tapi_TraceCause), (.fn Tapi_TraceCause .bool)] [(.int .i64)] (s, f) = slices_IndexFunc_apiTraceCause s f := by kernel_rfl

theorem ck_trace_course_openReadings (c : Dtrace_course) (l : (List Dapi_TraceReading)) : funK (cx [] [sg_trace_course_readingErr]) Tryz.f133 an_trace_course_openReadings [Ttrace_course, (.slice Tapi_TraceReading)] [(.int .i64)] (c, l) = trace_course_openReadings c l := by kernel_rfl

theorem ck_trace_course_evidenceOf (c : Dtrace_course) (l : (List Dapi_TraceCause)) (readings : (List Dapi_TraceReading)) : funK (cx [] [sg_trace_course_predicts]) Tryz.f134 an_trace_course_evidenceOf [Ttrace_course, (.slice Tapi_TraceCause), (.slice Tapi_TraceReading)] [Ttrace_evidence] (c, l, readings) = trace_course_evidenceOf c l readings := by kernel_rfl

theorem ck_bits_OnesCount (x : Int) : funK (cx [] [sg_bits_OnesCount32, sg_bits_OnesCount64]) Tryz.f177 an_bits_OnesCount [(.int .u64)] [(.int .i64)] x = bits_OnesCount x := by kernel_rfl

theorem ck_trace_set_list (s : Int) : funK (cx [] [sg_trace_set_has]) Tryz.f111 an_trace_set_list [(.int .u64)] [(.slice (.int .i64))] s = trace_set_list s := by kernel_rfl

theorem ck_l9_Course  : funK (cx [] []) Tryz.f89 an_l9_Course [] [Tapi_TraceCourse] () = l9_Course := by kernel_rfl

theorem ck_b0_Whole (n : Int) : funK (cx [] []) Tryz.f92 an_b0_Whole [(.int .i64)] [Tapi_Frac] n = b0_Whole n := by kernel_rfl

theorem ck_r9_CopyCourse (c : Dapi_TraceCourse) : funK (cx [] [sg_b0_CopyInts]) Tryz.f19 an_r9_CopyCourse [Tapi_TraceCourse] [Tapi_TraceCourse] c = r9_CopyCourse c := by kernel_rfl

theorem ck_b0_trimmed (l : (List Int)) : funK (cx [] []) Tryz.f223 an_b0_trimmed [(.slice (.int .i64))] [(.slice (.int .i64))] l = b0_trimmed l := by kernel_rfl

theorem ck_r9_slab (c : Dapi_TraceCourse) : funK (cx [] [sg_b0_RatioInt]) Tryz.f138 an_r9_slab [Tapi_TraceCourse] [(.slice Tr9_Section)] c = r9_slab c := by kernel_rfl

theorem ck_b0_cmpDigits (a : (List Int)) (b : (List Int)) : funK (cx [] []) Tryz.f189 an_b0_cmpDigits [(.slice (.int .i64)), (.slice (.int .i64))] [(.int .i64)] (a, b) = b0_cmpDigits a b := by kernel_rfl

theorem ck_b0_WideSub (a : Db0_Wide) (b : Db0_Wide) : funK (cx [] [sg_b0_WideAdd, sg_b0_WideNeg]) Tryz.f191 an_b0_WideSub [Tb0_Wide, Tb0_Wide] [Tb0_Wide] (a, b) = b0_WideSub a b := by kernel_rfl

theorem ck_b0_WideFloor (a : Db0_Wide) (b : Db0_Wide) : funK (cx [] [sg_b0_WideOf, sg_b0_WideMul, sg_b0_wideOf, sg_b0_cmpDigits, sg_b0_subDigits, sg_b0_WideSub, sg_b0_trimmed]) Tryz.f187 an_b0_WideFloor [Tb0_Wide, Tb0_Wide] [Tb0_Wide] (a, b) = b0_WideFloor a b := by kernel_rfl

theorem ck_b0_RatioAdd (a : Db0_Ratio) (b : Db0_Ratio) : funK (cx [] [sg_b0_RatioMake, sg_b0_WideAdd, sg_b0_WideMul]) Tryz.f40 an_b0_RatioAdd [Tb0_Ratio, Tb0_Ratio] [Tb0_Ratio] (a, b) = b0_RatioAdd a b := by kernel_rfl

theorem ck_b0_RatioMul (a : Db0_Ratio) (b : Db0_Ratio) : funK (cx [] [sg_b0_RatioMake, sg_b0_WideMul]) Tryz.f123 an_b0_RatioMul [Tb0_Ratio, Tb0_Ratio] [Tb0_Ratio] (a, b) = b0_RatioMul a b := by kernel_rfl

theorem ck_r9_cut (s : (List Dr9_Section)) (from_ : Int) (to : Int) : funK (cx [] [sg_b0_RatioInt, sg_b0_RatioAdd, sg_b0_RatioCmp, sg_b0_RatioSub]) Tryz.f206 an_r9_cut [(.slice Tr9_Section), (.int .i64), (.int .i64)] [(.slice Tr9_Section)] (s, from_, to) = r9_cut s from_ to := by kernel_rfl

theorem ck_r9_isSmall (x : Db0_Ratio) : funK (cx [] [sg_b0_RatioFrac]) Tryz.f207 an_r9_isSmall [Tb0_Ratio] [.bool] x = r9_isSmall x := by kernel_rfl

theorem ck_r9_StepsErr (c : Dapi_TraceCourse) (steps : Int) : funK (cx [] [sg_b0_Within]) Tryz.f59 an_r9_StepsErr [Tapi_TraceCourse, (.int .i64)] [(.int .i64)] (c, steps) = r9_StepsErr c steps := by kernel_rfl

end Go.Lift

namespace Go.Lift
open Go Go.Proofs
theorem ck_trace_course_stepsErr (c : Dtrace_course) (steps : Int) : funK (cx [] [sg_trace_unless, sg_trace_within]) Tryz.f106 an_trace_course_stepsErr [Ttrace_course, (.int .i64)] [(.int .i64)] (c, steps) = trace_course_stepsErr c steps := by kernel_rfl

theorem ck_trace_whole (n : Int) : funK (cx [] [sg_trace_naturalOf, sg_trace_size]) Tryz.f100 an_trace_whole [(.int .i64)] [Ttrace_ratio] n = trace_whole n := by kernel_rfl

theorem ck_trace_natural_cmp (a : (List Int)) (b : (List Int)) : funK (cx [] []) Tryz.f181 an_trace_natural_cmp [(.slice (.int .u32)), (.slice (.int .u32))] [(.int .i64)] (a, b) = trace_natural_cmp a b := by kernel_rfl

theorem ck_trace_natural_minus (a : (List Int)) (b : (List Int)) : funK (cx [] [sg_trace_natural_digit, sg_trace_trimmed]) Tryz.f204 an_trace_natural_minus [(.slice (.int .u32)), (.slice (.int .u32))] [(.slice (.int .u32))] (a, b) = trace_natural_minus a b := by kernel_rfl

theorem ck_trace_natural_divided (a : (List Int)) (b : (List Int)) : funK (cx [] [sg_trace_natural_cmp, sg_trace_natural_plus, sg_trace_natural_minus, sg_slices_Clone_uint32, sg_trace_natural_length, sg_trace_natural_shifted]) Tryz.f226 an_trace_natural_divided [(.slice (.int .u32)), (.slice (.int .u32))] [(.slice (.int .u32)), (.slice (.int .u32))] (a, b) = trace_natural_divided a b := by kernel_rfl

theorem ck_trace_ratio_opposite (a : Dtrace_ratio) : funK (cx [] []) Tryz.f219 an_trace_ratio_opposite [Ttrace_ratio] [Ttrace_ratio] a = trace_ratio_opposite a := by kernel_rfl

theorem ck_trace_strip_has (s : (List Dtrace_section)) (position : Int) : funK (cx [] [sg_trace_strip_length, sg_trace_whole, sg_trace_ratio_between]) Tryz.f176 an_trace_strip_has [(.slice Ttrace_section), (.int .i64)] [.bool] (s, position) = trace_strip_has s position := by kernel_rfl

theorem ck_trace_strip_step_1 (n : Int) : funK (cx [] [sg_trace_isArea]) Tryz.f228 an_trace_strip_step_1 [(.int .i64)] [.bool] n = trace_strip_step_1 n := by kernel_rfl

theorem ck_trace_strip_rolled (s : (List Dtrace_section)) (areas : (List Int)) : funK (cx [] [sg_trace_whole, sg_trace_section_length, sg_trace_ratio_plus, sg_trace_ratio_times, sg_trace_quotient]) Tryz.f229 an_trace_strip_rolled [(.slice Ttrace_section), (.slice (.int .i64))] [(.slice Ttrace_section)] (s, areas) = trace_strip_rolled s areas := by kernel_rfl

theorem ck_trace_strip_step (s : (List Dtrace_section)) (x : Dapi_TraceStep) : funK (cx [] [sg_trace_first, sg_trace_unless, sg_trace_strip_has, sg_trace_isPosition, sg_slices_ContainsFunc_int, sg_trace_strip_step_1, sg_trace_strip_rolled, sg_trace_strip_cut, sg_trace_strip_isSmall]) Tryz.f200 an_trace_strip_step [(.slice Ttrace_section), Tapi_TraceStep] [(.slice Ttrace_section), (.int .i64)] (s, x) = trace_strip_step s x := by kernel_rfl

theorem ck_trace_small (r : Dtrace_ratio) : funK (cx [] [sg_trace_unless, sg_trace_ratio_frac]) Tryz.f101 an_trace_small [Ttrace_ratio] [Tapi_Frac, (.int .i64)] r = trace_small r := by kernel_rfl

theorem ck_trace_strip_at (s : (List Dtrace_section)) (slab : Dtrace_ratio) : funK (cx [] [sg_trace_ratio_plus, sg_trace_ratio_times, sg_trace_ratio_between, sg_trace_ratio_minus, sg_trace_quotient]) Tryz.f143 an_trace_strip_at [(.slice Ttrace_section), Ttrace_ratio] [Ttrace_ratio, .bool] (s, slab) = trace_strip_at s slab := by kernel_rfl

theorem ck_slices_ContainsFunc_apiTraceCause (s : (List Dapi_TraceCause)) (f : (Dapi_TraceCause → Option Bool)) : funK (cx [] [sg_slices_IndexFunc_apiTraceCause]) Tryz.f127 an_slices_ContainsFunc_apiTraceCause [(.slice Tapi_TraceCause), (.fn Tapi_TraceCause .bool)] [.bool] (s, f) = slices_ContainsFunc_apiTraceCause s f := by kernel_rfl

theorem ck_trace_ratio_over (a : Dtrace_ratio) (b : Dtrace_ratio) : funK (cx [] [sg_trace_ratio_times]) Tryz.f196 an_trace_ratio_over [Ttrace_ratio, Ttrace_ratio] [Ttrace_ratio] (a, b) = trace_ratio_over a b := by kernel_rfl

theorem ck_trace_openEvidence (c : Dapi_TraceCourse) (l : (List Dapi_TraceCause)) (r : (List Dapi_TraceReading)) : funK (cx [] [sg_trace_openCauses, sg_trace_course_openReadings, sg_trace_course_evidenceOf]) Tryz.f108 an_trace_openEvidence [Tapi_TraceCourse, (.slice Tapi_TraceCause), (.slice Tapi_TraceReading)] [Ttrace_course, Ttrace_evidence, (.int .i64)] (c, l, r) = trace_openEvidence c l r := by kernel_rfl

theorem ck_trace_set_has (s : Int) (i : Int) : funK (cx [] []) Tryz.f178 an_trace_set_has [(.int .u64), (.int .i64)] [.bool] (s, i) = trace_set_has s i := by kernel_rfl

theorem ck_trace_Explanations (c : Dapi_TraceCourse) (l : (List Dapi_TraceCause)) (r : (List Dapi_TraceReading)) : funK (cx [] [sg_trace_unless, sg_trace_openEvidence, sg_trace_evidence_explanations, sg_trace_evidence_every, sg_trace_set_list]) Tryz.f28 an_trace_Explanations [Tapi_TraceCourse, (.slice Tapi_TraceCause), (.slice Tapi_TraceReading)] [(.slice (.slice (.int .i64))), (.int .i64)] (c, l, r) = trace_Explanations c l r := by kernel_rfl

theorem ck_l9_Causes  : funK (cx [] []) Tryz.f90 an_l9_Causes [] [(.slice Tapi_TraceCause)] () = l9_Causes := by kernel_rfl

theorem ck_l9_awake  : funK (cx [] [sg_trace_PiecesOf, sg_trace_PlaceOf, sg_trace_Explanations, sg_b0_Lists, sg_l9_Course, sg_l9_Causes, sg_trace_ReportOf, sg_b0_Whole]) Tryz.f14 an_l9_awake [] [.bool] () = l9_awake := by kernel_rfl

theorem ck_b0_Within (n : Int) (lo : Int) (hi : Int) : funK (cx [] []) Tryz.f17 an_b0_Within [(.int .i64), (.int .i64), (.int .i64)] [.bool] (n, lo, hi) = b0_Within n lo hi := by kernel_rfl

theorem ck_b0_wideOf (sign : Int) (l : (List Int)) : funK (cx [] [sg_b0_trimmed]) Tryz.f183 an_b0_wideOf [(.int .i64), (.slice (.int .i64))] [Tb0_Wide] (sign, l) = b0_wideOf sign l := by kernel_rfl

theorem ck_b0_WideMul (a : Db0_Wide) (b : Db0_Wide) : funK (cx [] [sg_b0_wideOf]) Tryz.f121 an_b0_WideMul [Tb0_Wide, Tb0_Wide] [Tb0_Wide] (a, b) = b0_WideMul a b := by kernel_rfl

theorem ck_b0_subDigits (a : (List Int)) (b : (List Int)) : funK (cx [] [sg_b0_trimmed, sg_b0_digit]) Tryz.f190 an_b0_subDigits [(.slice (.int .i64)), (.slice (.int .i64))] [(.slice (.int .i64))] (a, b) = b0_subDigits a b := by kernel_rfl

theorem ck_b0_WideCmp (a : Db0_Wide) (b : Db0_Wide) : funK (cx [] [sg_b0_WideSub]) Tryz.f124 an_b0_WideCmp [Tb0_Wide, Tb0_Wide] [(.int .i64)] (a, b) = b0_WideCmp a b := by kernel_rfl

theorem ck_b0_wideSize (a : Db0_Wide) : funK (cx [] [sg_b0_WideNeg]) Tryz.f224 an_b0_wideSize [Tb0_Wide] [Tb0_Wide] a = b0_wideSize a := by kernel_rfl

theorem ck_r9_Strip_Length (s : (List Dr9_Section)) : funK (cx [] [sg_b0_RatioInt, sg_b0_RatioAdd]) Tryz.f64 an_r9_Strip_Length [(.slice Tr9_Section)] [Tb0_Ratio] s = r9_Strip_Length s := by kernel_rfl

theorem ck_r9_pass (s : (List Dr9_Section)) (areas : (List Int)) : funK (cx [] [sg_b0_RatioOf, sg_b0_RatioMul]) Tryz.f205 an_r9_pass [(.slice Tr9_Section), (.slice (.int .i64))] [(.slice Tr9_Section)] (s, areas) = r9_pass s areas := by kernel_rfl

theorem ck_b0_IsSmall (f : Dapi_Frac) : funK (cx [] [sg_b0_Within]) Tryz.f21 an_b0_IsSmall [Tapi_Frac] [.bool] f = b0_IsSmall f := by kernel_rfl

theorem ck_r9_stepErr (s : (List Dr9_Section)) (x : Dapi_TraceStep) : funK (cx [] [sg_b0_Within, sg_b0_RatioInt, sg_b0_RatioCmp, sg_r9_Strip_Length, sg_r9_Strip_Ends, sg_r9_pass, sg_r9_cut, sg_r9_isSmall]) Tryz.f139 an_r9_stepErr [(.slice Tr9_Section), Tapi_TraceStep] [(.slice Tr9_Section), (.int .i64)] (s, x) = r9_stepErr s x := by kernel_rfl

theorem ck_r9_strips (c : Dapi_TraceCourse) (steps : Int) : funK (cx [] [sg_r9_slab, sg_r9_pass, sg_r9_cut]) Tryz.f140 an_r9_strips [Tapi_TraceCourse, (.int .i64)] [(.slice (.slice Tr9_Section))] (c, steps) = r9_strips c steps := by kernel_rfl

end Go.Lift
