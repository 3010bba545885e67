/-
  Each function's code computes the plain function, by the kernel.
-/
import Derived.Test.YtfihcmhknhbndaaGreatDoorFunT
set_option linter.unusedSectionVars false
set_option linter.unusedVariables false
set_option linter.unusedSimpArgs false
namespace Go.Lift
open Go Go.Proofs
theorem ck_trace_first (l : (List Int)) : funK (cx [] []) Tryz.f94 an_trace_first [(.slice (.int .i64))] [(.int .i64)] l = trace_first l := by kernel_rfl

theorem ck_trace_trimmed (l : (List Int)) : funK (cx [] []) Tryz.f220 an_trace_trimmed [(.slice (.int .u32))] [(.slice (.int .u32))] l = trace_trimmed l := by kernel_rfl

theorem ck_trace_isName (s : ByteArray) : funK (cx [] [sg_trace_within]) Tryz.f193 an_trace_isName [.str] [.bool] s = trace_isName s := by kernel_rfl

theorem ck_trace_natural_digit (a : (List Int)) (i : Int) : funK (cx [] []) Tryz.f182 an_trace_natural_digit [(.slice (.int .u32)), (.int .i64)] [(.int .u64)] (a, i) = trace_natural_digit a i := by kernel_rfl

theorem ck_bits_Len32 (x : Int) : funK (cx [] []) Tryz.f245 an_bits_Len32 [(.int .u32)] [(.int .i64)] x = bits_Len32 x := by kernel_rfl

theorem ck_trace_divisor (a : (List Int)) (b : (List Int)) : funK (cx [] [sg_trace_natural_divided]) Tryz.f214 an_trace_divisor [(.slice (.int .u32)), (.slice (.int .u32))] [(.slice (.int .u32))] (a, b) = trace_divisor a b := by kernel_rfl

theorem ck_trace_ratio_minus (a : Dtrace_ratio) (b : Dtrace_ratio) : funK (cx [] [sg_trace_ratio_plus, sg_trace_ratio_opposite]) Tryz.f171 an_trace_ratio_minus [Ttrace_ratio, Ttrace_ratio] [Ttrace_ratio] (a, b) = trace_ratio_minus a b := by kernel_rfl

theorem ck_trace_isPosition (n : Int) : funK (cx [] [sg_trace_within]) Tryz.f194 an_trace_isPosition [(.int .i64)] [.bool] n = trace_isPosition n := by kernel_rfl

theorem ck_trace_section_length (s : Dtrace_section) : funK (cx [] [sg_trace_ratio_minus]) Tryz.f116 an_trace_section_length [Ttrace_section] [Ttrace_ratio] s = trace_section_length s := by kernel_rfl

theorem ck_trace_strip_cut (s : (List Dtrace_section)) (lo : Int) (hi : Int) : funK (cx [] [sg_trace_ratio_cmp, sg_trace_whole, sg_trace_ratio_plus, sg_trace_ratio_times, sg_trace_ratio_minus, sg_trace_quotient]) Tryz.f230 an_trace_strip_cut [(.slice Ttrace_section), (.int .i64), (.int .i64)] [(.slice Ttrace_section)] (s, lo, hi) = trace_strip_cut s lo hi := by kernel_rfl

theorem ck_trace_open (c : Dapi_TraceCourse) : funK (cx [] [sg_trace_first, sg_trace_unless, sg_trace_within, sg_trace_whole, sg_trace_isName, sg_trace_isArea, sg_trace_strip_step]) Tryz.f135 an_trace_open [Tapi_TraceCourse] [Ttrace_course, (.int .i64), (.int .i64)] c = trace_open c := by kernel_rfl

theorem ck_trace_strip_slabAt (s : (List Dtrace_section)) (position : Dtrace_ratio) : funK (cx [] [sg_trace_ratio_plus, sg_trace_ratio_times, sg_trace_ratio_between, sg_trace_ratio_minus, sg_trace_quotient]) Tryz.f102 an_trace_strip_slabAt [(.slice Ttrace_section), Ttrace_ratio] [Ttrace_ratio] (s, position) = trace_strip_slabAt s position := by kernel_rfl

theorem ck_trace_course_place (c : Dtrace_course) (r : Dapi_TraceReading) (steps : Int) : funK (cx [] [sg_trace_whole, sg_trace_strip_slabAt, sg_trace_strip_at]) Tryz.f107 an_trace_course_place [Ttrace_course, Tapi_TraceReading, (.int .i64)] [Ttrace_ratio, .bool] (c, r, steps) = trace_course_place c r steps := by kernel_rfl

theorem ck_trace_openCauses_1 (o : Dapi_TraceCause) (x : Dapi_TraceCause) : funK (cx [] []) Tryz.f192 an_trace_openCauses_1 [Tapi_TraceCause, (.ptr Tapi_TraceCause)] [.bool] (o, x) = trace_openCauses_1 o x := by kernel_rfl

theorem ck_trace_ratio_floor (a : Dtrace_ratio) : funK (cx [] [sg_trace_natural_divided]) Tryz.f197 an_trace_ratio_floor [Ttrace_ratio] [Ttrace_ratio] a = trace_ratio_floor a := by kernel_rfl

theorem ck_bits_OnesCount32 (x : Int) : funK (cx [] []) Tryz.f221 an_bits_OnesCount32 [(.int .u32)] [(.int .i64)] x = bits_OnesCount32 x := by kernel_rfl

theorem ck_trace_evidence_firstWrong (v : Dtrace_evidence) (s : Int) (readings : Int) : funK (cx [] [sg_trace_set_has]) Tryz.f126 an_trace_evidence_firstWrong [Ttrace_evidence, (.int .u64), (.int .u64)] [(.int .i64)] (v, s, readings) = trace_evidence_firstWrong v s readings := by kernel_rfl

theorem ck_cobblebase_Ints (a : (List Int)) (b : (List Int)) : funK (cx [] []) Tryz.f37 an_cobblebase_Ints [(.slice (.int .i64)), (.slice (.int .i64))] [.bool] (a, b) = cobblebase_Ints a b := by kernel_rfl

theorem ck_trace_written (f : Dapi_Frac) : funK (cx [] [sg_strconv_Itoa]) Tryz.f168 an_trace_written [Tapi_Frac] [.str] f = trace_written f := by kernel_rfl

theorem ck_cobblelaw09_Few (c : Dapi_TraceCourse) : funK (cx [] []) Tryz.f15 an_cobblelaw09_Few [Tapi_TraceCourse] [.bool] c = cobblelaw09_Few c := by kernel_rfl

theorem ck_cobblebase_IsName (s : ByteArray) : funK (cx [] []) Tryz.f130 an_cobblebase_IsName [.str] [.bool] s = cobblebase_IsName s := by kernel_rfl

theorem ck_cobblebase_WideOf (n : Int) : funK (cx [] [sg_cobblebase_Size, sg_cobblebase_wideOf]) Tryz.f118 an_cobblebase_WideOf [(.int .i64)] [Tcobblebase_Wide] n = cobblebase_WideOf n := by kernel_rfl

theorem ck_cobblebase_digit (l : (List Int)) (i : Int) : funK (cx [] []) Tryz.f225 an_cobblebase_digit [(.slice (.int .i64)), (.int .i64)] [(.int .i64)] (l, i) = cobblebase_digit l i := by kernel_rfl

theorem ck_cobblebase_WideAdd (a : Dcobblebase_Wide) (b : Dcobblebase_Wide) : funK (cx [] [sg_cobblebase_wideOf, sg_cobblebase_addDigits, sg_cobblebase_cmpDigits, sg_cobblebase_subDigits]) Tryz.f120 an_cobblebase_WideAdd [Tcobblebase_Wide, Tcobblebase_Wide] [Tcobblebase_Wide] (a, b) = cobblebase_WideAdd a b := by kernel_rfl

theorem ck_cobblebase_RatioCmp (a : Dcobblebase_Ratio) (b : Dcobblebase_Ratio) : funK (cx [] [sg_cobblebase_WideMul, sg_cobblebase_WideCmp]) Tryz.f43 an_cobblebase_RatioCmp [Tcobblebase_Ratio, Tcobblebase_Ratio] [(.int .i64)] (a, b) = cobblebase_RatioCmp a b := by kernel_rfl

theorem ck_cobblebase_wideGcd (a : Dcobblebase_Wide) (b : Dcobblebase_Wide) : funK (cx [] [sg_cobblebase_WideMul, sg_cobblebase_WideSign, sg_cobblebase_WideFloor, sg_cobblebase_WideSub, sg_cobblebase_wideSize]) Tryz.f186 an_cobblebase_wideGcd [Tcobblebase_Wide, Tcobblebase_Wide] [Tcobblebase_Wide] (a, b) = cobblebase_wideGcd a b := by kernel_rfl

theorem ck_cobbleref09_Strip_Ends (s : (List Dcobbleref09_Section)) : funK (cx [] [sg_cobblebase_RatioInt, sg_cobblebase_RatioAdd]) Tryz.f147 an_cobbleref09_Strip_Ends [(.slice Tcobbleref09_Section)] [(.slice Tcobblebase_Ratio)] s = cobbleref09_Strip_Ends s := by kernel_rfl

theorem ck_cobblebase_RatioNeg (a : Dcobblebase_Ratio) : funK (cx [] [sg_cobblebase_WideNeg]) Tryz.f212 an_cobblebase_RatioNeg [Tcobblebase_Ratio] [Tcobblebase_Ratio] a = cobblebase_RatioNeg a := by kernel_rfl

theorem ck_cobblebase_WideInt (a : Dcobblebase_Wide) : funK (cx [] []) Tryz.f208 an_cobblebase_WideInt [Tcobblebase_Wide] [(.int .i64), .bool] a = cobblebase_WideInt a := by kernel_rfl

theorem ck_cobbleref09_CheckCourse (c : Dapi_TraceCourse) : funK (cx [] [sg_cobblebase_Within, sg_cobblebase_IsName, sg_cobbleref09_slab, sg_cobbleref09_stepErr]) Tryz.f58 an_cobbleref09_CheckCourse [Tapi_TraceCourse] [(.int .i64), (.int .i64)] c = cobbleref09_CheckCourse c := by kernel_rfl

theorem ck_cobbleref09_After (c : Dapi_TraceCourse) (steps : Int) : funK (cx [] [sg_cobbleref09_strips]) Tryz.f60 an_cobbleref09_After [Tapi_TraceCourse, (.int .i64)] [(.slice Tcobbleref09_Section)] (c, steps) = cobbleref09_After c steps := by kernel_rfl

end Go.Lift

namespace Go.Lift
open Go Go.Proofs
theorem ck_trace_unless (is : Bool) (e : Int) : funK (cx [] []) Tryz.f95 an_trace_unless [.bool, (.int .i64)] [(.int .i64)] (is, e) = trace_unless is e := by kernel_rfl

theorem ck_trace_naturalOf (n : Int) : funK (cx [] [sg_trace_trimmed]) Tryz.f172 an_trace_naturalOf [(.int .u64)] [(.slice (.int .u32))] n = trace_naturalOf n := by kernel_rfl

theorem ck_trace_isArea (n : Int) : funK (cx [] [sg_trace_within]) Tryz.f199 an_trace_isArea [(.int .i64)] [.bool] n = trace_isArea n := by kernel_rfl

theorem ck_trace_natural_times (a : (List Int)) (b : (List Int)) : funK (cx [] [sg_trace_natural_digit, sg_trace_trimmed]) Tryz.f201 an_trace_natural_times [(.slice (.int .u32)), (.slice (.int .u32))] [(.slice (.int .u32))] (a, b) = trace_natural_times a b := by kernel_rfl

theorem ck_trace_natural_length (a : (List Int)) : funK (cx [] [sg_bits_Len32]) Tryz.f236 an_trace_natural_length [(.slice (.int .u32))] [(.int .i64)] a = trace_natural_length a := by kernel_rfl

theorem ck_trace_ratioOf (negative : Bool) (num : (List Int)) (den : (List Int)) : funK (cx [] [sg_trace_divisor, sg_trace_natural_divided]) Tryz.f202 an_trace_ratioOf [.bool, (.slice (.int .u32)), (.slice (.int .u32))] [Ttrace_ratio] (negative, num, den) = trace_ratioOf negative num den := by kernel_rfl

theorem ck_trace_ratio_cmp (a : Dtrace_ratio) (b : Dtrace_ratio) : funK (cx [] [sg_trace_ratio_minus]) Tryz.f99 an_trace_ratio_cmp [Ttrace_ratio, Ttrace_ratio] [(.int .i64)] (a, b) = trace_ratio_cmp a b := by kernel_rfl

theorem ck_slices_IndexFunc_int (s : (List Int)) (f : (Int → Option Bool)) : funK (cx [] []) Tryz.f238 an_slices_IndexFunc_int [(.slice (.int .i64)), (.fn (.int .i64) .bool)] [(.int .i64)] (s, f) = slices_IndexFunc_int s f := by kernel_rfl

theorem ck_trace_ratio_times (a : Dtrace_ratio) (b : Dtrace_ratio) : funK (cx [] [sg_trace_natural_times, sg_trace_ratioOf]) Tryz.f137 an_trace_ratio_times [Ttrace_ratio, Ttrace_ratio] [Ttrace_ratio] (a, b) = trace_ratio_times a b := by kernel_rfl

theorem ck_trace_ratio_frac (a : Dtrace_ratio) : funK (cx [] [sg_trace_naturalOf, sg_trace_natural_cmp, sg_trace_natural_digit]) Tryz.f117 an_trace_ratio_frac [Ttrace_ratio] [Tapi_Frac, .bool] a = trace_ratio_frac a := by kernel_rfl

theorem ck_trace_opened (c : Dapi_TraceCourse) (steps : (List Int)) : funK (cx [] [sg_trace_first, sg_trace_course_stepsErr, sg_trace_open]) Tryz.f93 an_trace_opened [Tapi_TraceCourse, (.slice (.int .i64))] [Ttrace_course, (.int .i64)] (c, steps) = trace_opened c steps := by kernel_rfl

theorem ck_trace_PiecesOf (c : Dapi_TraceCourse) (length : Int) : funK (cx [] [sg_trace_opened, sg_trace_first, sg_trace_unless, sg_trace_within, sg_trace_course_last, sg_trace_strip_length, sg_trace_ratio_cmp, sg_trace_whole, sg_trace_small, sg_trace_strip_slabAt]) Tryz.f18 an_trace_PiecesOf [Tapi_TraceCourse, (.int .i64)] [(.slice Tapi_Span), (.int .i64)] (c, length) = trace_PiecesOf c length := by kernel_rfl

theorem ck_trace_PlaceOf (c : Dapi_TraceCourse) (r : Dapi_TraceReading) (steps : Int) : funK (cx [] [sg_trace_opened, sg_trace_first, sg_trace_small, sg_trace_course_readingErr, sg_trace_course_stepsErr, sg_trace_course_place]) Tryz.f23 an_trace_PlaceOf [Tapi_TraceCourse, Tapi_TraceReading, (.int .i64)] [Tapi_Frac, (.int .i64)] (c, r, steps) = trace_PlaceOf c r steps := by kernel_rfl

theorem ck_trace_openCauses (c : Dapi_TraceCourse) (l : (List Dapi_TraceCause)) : funK (cx [] [sg_trace_opened, sg_trace_first, sg_trace_unless, sg_trace_course_stepsErr, sg_slices_ContainsFunc_apiTraceCause, sg_trace_openCauses_1, sg_trace_isName, sg_trace_isPosition]) Tryz.f125 an_trace_openCauses [Tapi_TraceCourse, (.slice Tapi_TraceCause)] [Ttrace_course, (.int .i64), (.int .i64)] (c, l) = trace_openCauses c l := by kernel_rfl

theorem ck_trace_course_predicts (c : Dtrace_course) (x : Dapi_TraceCause) (r : Dapi_TraceReading) : funK (cx [] [sg_trace_ratio_cmp, sg_trace_whole, sg_trace_course_place, sg_trace_ratio_times, sg_trace_ratio_minus, sg_trace_ratio_over, sg_trace_ratio_floor]) Tryz.f129 an_trace_course_predicts [Ttrace_course, Tapi_TraceCause, Tapi_TraceReading] [.bool] (c, x, r) = trace_course_predicts c x r := by kernel_rfl

theorem ck_bits_OnesCount64 (x : Int) : funK (cx [] []) Tryz.f222 an_bits_OnesCount64 [(.int .u64)] [(.int .i64)] x = bits_OnesCount64 x := by kernel_rfl

theorem ck_trace_evidence_every (v : Dtrace_evidence) : funK (cx [] []) Tryz.f110 an_trace_evidence_every [Ttrace_evidence] [(.int .u64)] v = trace_evidence_every v := by kernel_rfl

theorem ck_cobblebase_Lists (a : (List (List Int))) (b : (List (List Int))) : funK (cx [] [sg_cobblebase_Ints]) Tryz.f35 an_cobblebase_Lists [(.slice (.slice (.int .i64))), (.slice (.slice (.int .i64)))] [.bool] (a, b) = cobblebase_Lists a b := by kernel_rfl

theorem ck_trace_ReportOf (c : Dapi_TraceCourse) (r : (List Dapi_TraceReading)) : funK (cx [] [sg_trace_opened, sg_trace_course_last, sg_trace_strip_length, sg_trace_small, sg_trace_course_place, sg_trace_course_openReadings, sg_trace_written, sg_strconv_Itoa, sg_strings_Join]) Tryz.f91 an_trace_ReportOf [Tapi_TraceCourse, (.slice Tapi_TraceReading)] [.str, (.int .i64)] (c, r) = trace_ReportOf c r := by kernel_rfl

theorem ck_cobblebase_CopyInts (l : (List Int)) : funK (cx [] []) Tryz.f103 an_cobblebase_CopyInts [(.slice (.int .i64))] [(.slice (.int .i64))] l = cobblebase_CopyInts l := by kernel_rfl

theorem ck_cobblebase_Size (n : Int) : funK (cx [] []) Tryz.f175 an_cobblebase_Size [(.int .i64)] [(.int .i64)] n = cobblebase_Size n := by kernel_rfl

theorem ck_cobblebase_RatioInt (n : Int) : funK (cx [] [sg_cobblebase_WideOf]) Tryz.f39 an_cobblebase_RatioInt [(.int .i64)] [Tcobblebase_Ratio] n = cobblebase_RatioInt n := by kernel_rfl

theorem ck_cobblebase_addDigits (a : (List Int)) (b : (List Int)) : funK (cx [] [sg_cobblebase_digit]) Tryz.f188 an_cobblebase_addDigits [(.slice (.int .i64)), (.slice (.int .i64))] [(.slice (.int .i64))] (a, b) = cobblebase_addDigits a b := by kernel_rfl

theorem ck_cobblebase_WideNeg (a : Dcobblebase_Wide) : funK (cx [] []) Tryz.f185 an_cobblebase_WideNeg [Tcobblebase_Wide] [Tcobblebase_Wide] a = cobblebase_WideNeg a := by kernel_rfl

theorem ck_cobblebase_WideSign (a : Dcobblebase_Wide) : funK (cx [] []) Tryz.f184 an_cobblebase_WideSign [Tcobblebase_Wide] [(.int .i64)] a = cobblebase_WideSign a := by kernel_rfl

theorem ck_cobblebase_RatioMake (num : Dcobblebase_Wide) (den : Dcobblebase_Wide) : funK (cx [] [sg_cobblebase_WideOf, sg_cobblebase_WideCmp, sg_cobblebase_WideSign, sg_cobblebase_WideNeg, sg_cobblebase_wideGcd, sg_cobblebase_WideFloor]) Tryz.f119 an_cobblebase_RatioMake [Tcobblebase_Wide, Tcobblebase_Wide] [Tcobblebase_Ratio] (num, den) = cobblebase_RatioMake num den := by kernel_rfl

theorem ck_cobblebase_RatioOf (num : Int) (den : Int) : funK (cx [] [sg_cobblebase_WideOf, sg_cobblebase_RatioMake]) Tryz.f122 an_cobblebase_RatioOf [(.int .i64), (.int .i64)] [Tcobblebase_Ratio] (num, den) = cobblebase_RatioOf num den := by kernel_rfl

theorem ck_cobblebase_RatioSub (a : Dcobblebase_Ratio) (b : Dcobblebase_Ratio) : funK (cx [] [sg_cobblebase_RatioAdd, sg_cobblebase_RatioNeg]) Tryz.f153 an_cobblebase_RatioSub [Tcobblebase_Ratio, Tcobblebase_Ratio] [Tcobblebase_Ratio] (a, b) = cobblebase_RatioSub a b := by kernel_rfl

theorem ck_cobblebase_RatioFrac (a : Dcobblebase_Ratio) : funK (cx [] [sg_cobblebase_IsSmall, sg_cobblebase_WideInt]) Tryz.f141 an_cobblebase_RatioFrac [Tcobblebase_Ratio] [Tapi_Frac, .bool] a = cobblebase_RatioFrac a := by kernel_rfl

theorem ck_cobbleref09_CourseErr (c : Dapi_TraceCourse) : funK (cx [] [sg_cobbleref09_CheckCourse]) Tryz.f16 an_cobbleref09_CourseErr [Tapi_TraceCourse] [(.int .i64)] c = cobbleref09_CourseErr c := by kernel_rfl

end Go.Lift

namespace Go.Lift
open Go Go.Proofs
theorem ck_trace_within (n : Int) (lo : Int) (hi : Int) : funK (cx [] []) Tryz.f96 an_trace_within [(.int .i64), (.int .i64), (.int .i64)] [.bool] (n, lo, hi) = trace_within n lo hi := by kernel_rfl

theorem ck_trace_size (n : Int) : funK (cx [] []) Tryz.f173 an_trace_size [(.int .i64)] [(.int .u64)] n = trace_size n := by kernel_rfl

theorem ck_trace_strip_length (s : (List Dtrace_section)) : funK (cx [] []) Tryz.f98 an_trace_strip_length [(.slice Ttrace_section)] [Ttrace_ratio] s = trace_strip_length s := by kernel_rfl

theorem ck_trace_natural_plus (a : (List Int)) (b : (List Int)) : funK (cx [] [sg_trace_natural_digit, sg_trace_trimmed]) Tryz.f203 an_trace_natural_plus [(.slice (.int .u32)), (.slice (.int .u32))] [(.slice (.int .u32))] (a, b) = trace_natural_plus a b := by kernel_rfl

theorem ck_trace_natural_shifted (a : (List Int)) (by_ : Int) : funK (cx [10] [sg_trace_natural_digit, sg_trace_trimmed]) Tryz.f237 an_trace_natural_shifted [(.slice (.int .u32)), (.int .i64)] [(.slice (.int .u32))] (a, by_) = trace_natural_shifted a by_ := by kernel_rfl

theorem ck_trace_ratio_plus (a : Dtrace_ratio) (b : Dtrace_ratio) : funK (cx [] [sg_trace_natural_cmp, sg_trace_natural_times, sg_trace_ratioOf, sg_trace_natural_plus, sg_trace_natural_minus]) Tryz.f136 an_trace_ratio_plus [Ttrace_ratio, Ttrace_ratio] [Ttrace_ratio] (a, b) = trace_ratio_plus a b := by kernel_rfl

theorem ck_trace_ratio_between (a : Dtrace_ratio) (lo : Dtrace_ratio) (hi : Dtrace_ratio) : funK (cx [] [sg_trace_ratio_cmp]) Tryz.f159 an_trace_ratio_between [Ttrace_ratio, Ttrace_ratio, Ttrace_ratio] [.bool] (a, lo, hi) = trace_ratio_between a lo hi := by kernel_rfl

theorem ck_slices_ContainsFunc_int (s : (List Int)) (f : (Int → Option Bool)) : funK (cx [] [sg_slices_IndexFunc_int]) Tryz.f227 an_slices_ContainsFunc_int [(.slice (.int .i64)), (.fn (.int .i64) .bool)] [.bool] (s, f) = slices_ContainsFunc_int s f := by kernel_rfl

theorem ck_trace_quotient (n : Int) (by_ : Int) : funK (cx [] [sg_trace_naturalOf, sg_trace_size, sg_trace_ratioOf]) Tryz.f174 an_trace_quotient [(.int .i64), (.int .i64)] [Ttrace_ratio] (n, by_) = trace_quotient n by_ := by kernel_rfl

theorem ck_trace_strip_isSmall (s : (List Dtrace_section)) : funK (cx [] [sg_trace_section_length, sg_trace_ratio_frac]) Tryz.f231 an_trace_strip_isSmall [(.slice Ttrace_section)] [.bool] s = trace_strip_isSmall s := by kernel_rfl

theorem ck_trace_course_last (c : Dtrace_course) : funK (cx [] []) Tryz.f97 an_trace_course_last [Ttrace_course] [(.slice Ttrace_section)] c = trace_course_last c := by kernel_rfl

theorem ck_trace_course_readingErr (c : Dtrace_course) (r : Dapi_TraceReading) : funK (cx [] [sg_trace_unless, sg_trace_course_stepsErr, sg_trace_strip_has]) Tryz.f105 an_trace_course_readingErr [Ttrace_course, Tapi_TraceReading] [(.int .i64)] (c, r) = trace_course_readingErr c r := by kernel_rfl

theorem ck_slices_IndexFunc_apiTraceCause (s : (List Dapi_TraceCause)) (f : (Dapi_TraceCause → Option Bool)) : funK (cx [] []) Tryz.f195 an_slices_IndexFunc_apiTraceCause [(.slice Tapi_TraceCause), (.fn Tapi_TraceCause .bool)] [(.int .i64)] (s, f) = slices_IndexFunc_apiTraceCause s f := by kernel_rfl

theorem ck_trace_course_openReadings (c : Dtrace_course) (l : (List Dapi_TraceReading)) : funK (cx [] [sg_trace_course_readingErr]) Tryz.f133 an_trace_course_openReadings [Ttrace_course, (.slice Tapi_TraceReading)] [(.int .i64)] (c, l) = trace_course_openReadings c l := by kernel_rfl

theorem ck_trace_course_evidenceOf (c : Dtrace_course) (l : (List Dapi_TraceCause)) (readings : (List Dapi_TraceReading)) : funK (cx [] [sg_trace_course_predicts]) Tryz.f134 an_trace_course_evidenceOf [Ttrace_course, (.slice Tapi_TraceCause), (.slice Tapi_TraceReading)] [Ttrace_evidence] (c, l, readings) = trace_course_evidenceOf c l readings := by kernel_rfl

theorem ck_bits_OnesCount (x : Int) : funK (cx [] [sg_bits_OnesCount32, sg_bits_OnesCount64]) Tryz.f177 an_bits_OnesCount [(.int .u64)] [(.int .i64)] x = bits_OnesCount x := by kernel_rfl

theorem ck_trace_set_list (s : Int) : funK (cx [] [sg_trace_set_has]) Tryz.f111 an_trace_set_list [(.int .u64)] [(.slice (.int .i64))] s = trace_set_list s := by kernel_rfl

theorem ck_cobblelaw09_Course  : funK (cx [] []) Tryz.f89 an_cobblelaw09_Course [] [Tapi_TraceCourse] () = cobblelaw09_Course := by kernel_rfl

theorem ck_cobblebase_Whole (n : Int) : funK (cx [] []) Tryz.f92 an_cobblebase_Whole [(.int .i64)] [Tapi_Frac] n = cobblebase_Whole n := by kernel_rfl

theorem ck_cobbleref09_CopyCourse (c : Dapi_TraceCourse) : funK (cx [] [sg_cobblebase_CopyInts]) Tryz.f19 an_cobbleref09_CopyCourse [Tapi_TraceCourse] [Tapi_TraceCourse] c = cobbleref09_CopyCourse c := by kernel_rfl

theorem ck_cobblebase_trimmed (l : (List Int)) : funK (cx [] []) Tryz.f223 an_cobblebase_trimmed [(.slice (.int .i64))] [(.slice (.int .i64))] l = cobblebase_trimmed l := by kernel_rfl

theorem ck_cobbleref09_slab (c : Dapi_TraceCourse) : funK (cx [] [sg_cobblebase_RatioInt]) Tryz.f138 an_cobbleref09_slab [Tapi_TraceCourse] [(.slice Tcobbleref09_Section)] c = cobbleref09_slab c := by kernel_rfl

theorem ck_cobblebase_cmpDigits (a : (List Int)) (b : (List Int)) : funK (cx [] []) Tryz.f189 an_cobblebase_cmpDigits [(.slice (.int .i64)), (.slice (.int .i64))] [(.int .i64)] (a, b) = cobblebase_cmpDigits a b := by kernel_rfl

theorem ck_cobblebase_WideSub (a : Dcobblebase_Wide) (b : Dcobblebase_Wide) : funK (cx [] [sg_cobblebase_WideAdd, sg_cobblebase_WideNeg]) Tryz.f191 an_cobblebase_WideSub [Tcobblebase_Wide, Tcobblebase_Wide] [Tcobblebase_Wide] (a, b) = cobblebase_WideSub a b := by kernel_rfl

theorem ck_cobblebase_WideFloor (a : Dcobblebase_Wide) (b : Dcobblebase_Wide) : funK (cx [] [sg_cobblebase_WideOf, sg_cobblebase_WideMul, sg_cobblebase_wideOf, sg_cobblebase_cmpDigits, sg_cobblebase_subDigits, sg_cobblebase_WideSub, sg_cobblebase_trimmed]) Tryz.f187 an_cobblebase_WideFloor [Tcobblebase_Wide, Tcobblebase_Wide] [Tcobblebase_Wide] (a, b) = cobblebase_WideFloor a b := by kernel_rfl

theorem ck_cobblebase_RatioAdd (a : Dcobblebase_Ratio) (b : Dcobblebase_Ratio) : funK (cx [] [sg_cobblebase_RatioMake, sg_cobblebase_WideAdd, sg_cobblebase_WideMul]) Tryz.f40 an_cobblebase_RatioAdd [Tcobblebase_Ratio, Tcobblebase_Ratio] [Tcobblebase_Ratio] (a, b) = cobblebase_RatioAdd a b := by kernel_rfl

theorem ck_cobblebase_RatioMul (a : Dcobblebase_Ratio) (b : Dcobblebase_Ratio) : funK (cx [] [sg_cobblebase_RatioMake, sg_cobblebase_WideMul]) Tryz.f123 an_cobblebase_RatioMul [Tcobblebase_Ratio, Tcobblebase_Ratio] [Tcobblebase_Ratio] (a, b) = cobblebase_RatioMul a b := by kernel_rfl

theorem ck_cobbleref09_cut (s : (List Dcobbleref09_Section)) (from_ : Int) (to : Int) : funK (cx [] [sg_cobblebase_RatioInt, sg_cobblebase_RatioAdd, sg_cobblebase_RatioCmp, sg_cobblebase_RatioSub]) Tryz.f206 an_cobbleref09_cut [(.slice Tcobbleref09_Section), (.int .i64), (.int .i64)] [(.slice Tcobbleref09_Section)] (s, from_, to) = cobbleref09_cut s from_ to := by kernel_rfl

theorem ck_cobbleref09_isSmall (x : Dcobblebase_Ratio) : funK (cx [] [sg_cobblebase_RatioFrac]) Tryz.f207 an_cobbleref09_isSmall [Tcobblebase_Ratio] [.bool] x = cobbleref09_isSmall x := by kernel_rfl

theorem ck_cobbleref09_StepsErr (c : Dapi_TraceCourse) (steps : Int) : funK (cx [] [sg_cobblebase_Within]) Tryz.f59 an_cobbleref09_StepsErr [Tapi_TraceCourse, (.int .i64)] [(.int .i64)] (c, steps) = cobbleref09_StepsErr c steps := by kernel_rfl

end Go.Lift

namespace Go.Lift
open Go Go.Proofs
theorem ck_trace_course_stepsErr (c : Dtrace_course) (steps : Int) : funK (cx [] [sg_trace_unless, sg_trace_within]) Tryz.f106 an_trace_course_stepsErr [Ttrace_course, (.int .i64)] [(.int .i64)] (c, steps) = trace_course_stepsErr c steps := by kernel_rfl

theorem ck_trace_whole (n : Int) : funK (cx [] [sg_trace_naturalOf, sg_trace_size]) Tryz.f100 an_trace_whole [(.int .i64)] [Ttrace_ratio] n = trace_whole n := by kernel_rfl

theorem ck_trace_natural_cmp (a : (List Int)) (b : (List Int)) : funK (cx [] []) Tryz.f181 an_trace_natural_cmp [(.slice (.int .u32)), (.slice (.int .u32))] [(.int .i64)] (a, b) = trace_natural_cmp a b := by kernel_rfl

theorem ck_trace_natural_minus (a : (List Int)) (b : (List Int)) : funK (cx [] [sg_trace_natural_digit, sg_trace_trimmed]) Tryz.f204 an_trace_natural_minus [(.slice (.int .u32)), (.slice (.int .u32))] [(.slice (.int .u32))] (a, b) = trace_natural_minus a b := by kernel_rfl

theorem ck_trace_natural_divided (a : (List Int)) (b : (List Int)) : funK (cx [] [sg_trace_natural_cmp, sg_trace_natural_plus, sg_trace_natural_minus, sg_slices_Clone_uint32, sg_trace_natural_length, sg_trace_natural_shifted]) Tryz.f226 an_trace_natural_divided [(.slice (.int .u32)), (.slice (.int .u32))] [(.slice (.int .u32)), (.slice (.int .u32))] (a, b) = trace_natural_divided a b := by kernel_rfl

theorem ck_trace_ratio_opposite (a : Dtrace_ratio) : funK (cx [] []) Tryz.f219 an_trace_ratio_opposite [Ttrace_ratio] [Ttrace_ratio] a = trace_ratio_opposite a := by kernel_rfl

theorem ck_trace_strip_has (s : (List Dtrace_section)) (position : Int) : funK (cx [] [sg_trace_strip_length, sg_trace_whole, sg_trace_ratio_between]) Tryz.f176 an_trace_strip_has [(.slice Ttrace_section), (.int .i64)] [.bool] (s, position) = trace_strip_has s position := by kernel_rfl

theorem ck_trace_strip_step_1 (n : Int) : funK (cx [] [sg_trace_isArea]) Tryz.f228 an_trace_strip_step_1 [(.int .i64)] [.bool] n = trace_strip_step_1 n := by kernel_rfl

theorem ck_trace_strip_rolled (s : (List Dtrace_section)) (areas : (List Int)) : funK (cx [] [sg_trace_whole, sg_trace_section_length, sg_trace_ratio_plus, sg_trace_ratio_times, sg_trace_quotient]) Tryz.f229 an_trace_strip_rolled [(.slice Ttrace_section), (.slice (.int .i64))] [(.slice Ttrace_section)] (s, areas) = trace_strip_rolled s areas := by kernel_rfl

theorem ck_trace_strip_step (s : (List Dtrace_section)) (x : Dapi_TraceStep) : funK (cx [] [sg_trace_first, sg_trace_unless, sg_trace_strip_has, sg_trace_isPosition, sg_slices_ContainsFunc_int, sg_trace_strip_step_1, sg_trace_strip_rolled, sg_trace_strip_cut, sg_trace_strip_isSmall]) Tryz.f200 an_trace_strip_step [(.slice Ttrace_section), Tapi_TraceStep] [(.slice Ttrace_section), (.int .i64)] (s, x) = trace_strip_step s x := by kernel_rfl

theorem ck_trace_small (r : Dtrace_ratio) : funK (cx [] [sg_trace_unless, sg_trace_ratio_frac]) Tryz.f101 an_trace_small [Ttrace_ratio] [Tapi_Frac, (.int .i64)] r = trace_small r := by kernel_rfl

theorem ck_trace_strip_at (s : (List Dtrace_section)) (slab : Dtrace_ratio) : funK (cx [] [sg_trace_ratio_plus, sg_trace_ratio_times, sg_trace_ratio_between, sg_trace_ratio_minus, sg_trace_quotient]) Tryz.f143 an_trace_strip_at [(.slice Ttrace_section), Ttrace_ratio] [Ttrace_ratio, .bool] (s, slab) = trace_strip_at s slab := by kernel_rfl

theorem ck_slices_ContainsFunc_apiTraceCause (s : (List Dapi_TraceCause)) (f : (Dapi_TraceCause → Option Bool)) : funK (cx [] [sg_slices_IndexFunc_apiTraceCause]) Tryz.f127 an_slices_ContainsFunc_apiTraceCause [(.slice Tapi_TraceCause), (.fn Tapi_TraceCause .bool)] [.bool] (s, f) = slices_ContainsFunc_apiTraceCause s f := by kernel_rfl

theorem ck_trace_ratio_over (a : Dtrace_ratio) (b : Dtrace_ratio) : funK (cx [] [sg_trace_ratio_times]) Tryz.f196 an_trace_ratio_over [Ttrace_ratio, Ttrace_ratio] [Ttrace_ratio] (a, b) = trace_ratio_over a b := by kernel_rfl

theorem ck_trace_openEvidence (c : Dapi_TraceCourse) (l : (List Dapi_TraceCause)) (r : (List Dapi_TraceReading)) : funK (cx [] [sg_trace_openCauses, sg_trace_course_openReadings, sg_trace_course_evidenceOf]) Tryz.f108 an_trace_openEvidence [Tapi_TraceCourse, (.slice Tapi_TraceCause), (.slice Tapi_TraceReading)] [Ttrace_course, Ttrace_evidence, (.int .i64)] (c, l, r) = trace_openEvidence c l r := by kernel_rfl

theorem ck_trace_set_has (s : Int) (i : Int) : funK (cx [] []) Tryz.f178 an_trace_set_has [(.int .u64), (.int .i64)] [.bool] (s, i) = trace_set_has s i := by kernel_rfl

theorem ck_trace_Explanations (c : Dapi_TraceCourse) (l : (List Dapi_TraceCause)) (r : (List Dapi_TraceReading)) : funK (cx [] [sg_trace_unless, sg_trace_openEvidence, sg_trace_evidence_explanations, sg_trace_evidence_every, sg_trace_set_list]) Tryz.f28 an_trace_Explanations [Tapi_TraceCourse, (.slice Tapi_TraceCause), (.slice Tapi_TraceReading)] [(.slice (.slice (.int .i64))), (.int .i64)] (c, l, r) = trace_Explanations c l r := by kernel_rfl

theorem ck_cobblelaw09_Causes  : funK (cx [] []) Tryz.f90 an_cobblelaw09_Causes [] [(.slice Tapi_TraceCause)] () = cobblelaw09_Causes := by kernel_rfl

theorem ck_cobblelaw09_awake  : funK (cx [] [sg_trace_PiecesOf, sg_trace_PlaceOf, sg_trace_Explanations, sg_cobblebase_Lists, sg_cobblelaw09_Course, sg_cobblelaw09_Causes, sg_trace_ReportOf, sg_cobblebase_Whole]) Tryz.f14 an_cobblelaw09_awake [] [.bool] () = cobblelaw09_awake := by kernel_rfl

theorem ck_cobblebase_Within (n : Int) (lo : Int) (hi : Int) : funK (cx [] []) Tryz.f17 an_cobblebase_Within [(.int .i64), (.int .i64), (.int .i64)] [.bool] (n, lo, hi) = cobblebase_Within n lo hi := by kernel_rfl

theorem ck_cobblebase_wideOf (sign : Int) (l : (List Int)) : funK (cx [] [sg_cobblebase_trimmed]) Tryz.f183 an_cobblebase_wideOf [(.int .i64), (.slice (.int .i64))] [Tcobblebase_Wide] (sign, l) = cobblebase_wideOf sign l := by kernel_rfl

theorem ck_cobblebase_WideMul (a : Dcobblebase_Wide) (b : Dcobblebase_Wide) : funK (cx [] [sg_cobblebase_wideOf]) Tryz.f121 an_cobblebase_WideMul [Tcobblebase_Wide, Tcobblebase_Wide] [Tcobblebase_Wide] (a, b) = cobblebase_WideMul a b := by kernel_rfl

theorem ck_cobblebase_subDigits (a : (List Int)) (b : (List Int)) : funK (cx [] [sg_cobblebase_trimmed, sg_cobblebase_digit]) Tryz.f190 an_cobblebase_subDigits [(.slice (.int .i64)), (.slice (.int .i64))] [(.slice (.int .i64))] (a, b) = cobblebase_subDigits a b := by kernel_rfl

theorem ck_cobblebase_WideCmp (a : Dcobblebase_Wide) (b : Dcobblebase_Wide) : funK (cx [] [sg_cobblebase_WideSub]) Tryz.f124 an_cobblebase_WideCmp [Tcobblebase_Wide, Tcobblebase_Wide] [(.int .i64)] (a, b) = cobblebase_WideCmp a b := by kernel_rfl

theorem ck_cobblebase_wideSize (a : Dcobblebase_Wide) : funK (cx [] [sg_cobblebase_WideNeg]) Tryz.f224 an_cobblebase_wideSize [Tcobblebase_Wide] [Tcobblebase_Wide] a = cobblebase_wideSize a := by kernel_rfl

theorem ck_cobbleref09_Strip_Length (s : (List Dcobbleref09_Section)) : funK (cx [] [sg_cobblebase_RatioInt, sg_cobblebase_RatioAdd]) Tryz.f64 an_cobbleref09_Strip_Length [(.slice Tcobbleref09_Section)] [Tcobblebase_Ratio] s = cobbleref09_Strip_Length s := by kernel_rfl

theorem ck_cobbleref09_pass (s : (List Dcobbleref09_Section)) (areas : (List Int)) : funK (cx [] [sg_cobblebase_RatioOf, sg_cobblebase_RatioMul]) Tryz.f205 an_cobbleref09_pass [(.slice Tcobbleref09_Section), (.slice (.int .i64))] [(.slice Tcobbleref09_Section)] (s, areas) = cobbleref09_pass s areas := by kernel_rfl

theorem ck_cobblebase_IsSmall (f : Dapi_Frac) : funK (cx [] [sg_cobblebase_Within]) Tryz.f21 an_cobblebase_IsSmall [Tapi_Frac] [.bool] f = cobblebase_IsSmall f := by kernel_rfl

theorem ck_cobbleref09_stepErr (s : (List Dcobbleref09_Section)) (x : Dapi_TraceStep) : funK (cx [] [sg_cobblebase_Within, sg_cobblebase_RatioInt, sg_cobblebase_RatioCmp, sg_cobbleref09_Strip_Length, sg_cobbleref09_Strip_Ends, sg_cobbleref09_pass, sg_cobbleref09_cut, sg_cobbleref09_isSmall]) Tryz.f139 an_cobbleref09_stepErr [(.slice Tcobbleref09_Section), Tapi_TraceStep] [(.slice Tcobbleref09_Section), (.int .i64)] (s, x) = cobbleref09_stepErr s x := by kernel_rfl

theorem ck_cobbleref09_strips (c : Dapi_TraceCourse) (steps : Int) : funK (cx [] [sg_cobbleref09_slab, sg_cobbleref09_pass, sg_cobbleref09_cut]) Tryz.f140 an_cobbleref09_strips [Tapi_TraceCourse, (.int .i64)] [(.slice (.slice Tcobbleref09_Section))] (c, steps) = cobbleref09_strips c steps := by kernel_rfl

end Go.Lift
