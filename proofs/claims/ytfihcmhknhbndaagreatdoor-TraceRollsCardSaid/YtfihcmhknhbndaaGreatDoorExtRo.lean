/-
  The contracts of the functions of rolls.
-/
import Derived.Test.YtfihcmhknhbndaaGreatDoorFunRo
import Derived.Test.YtfihcmhknhbndaaGreatDoorFunT
import Derived.Test.YtfihcmhknhbndaaGreatDoorExtCb
import Derived.Test.YtfihcmhknhbndaaGreatDoorExtRe
import Derived.Test.YtfihcmhknhbndaaGreatDoorFunH
set_option linter.unusedSectionVars false
set_option linter.unusedVariables false
set_option linter.unusedSimpArgs false
namespace Go.Lift
open Go Go.Proofs
def an_trace_openMarks : Ann := (.seq .nil (.seq .nil (.seq .nil (.seq .nil (.seq (.seq .nil (.blk (.loopBD ⟨[⟨false, 9, 0, (.slice Ttrace_ratio), [([], some 101000900)], false⟩, ⟨false, 33, 0, (.int .i64), [], false⟩], [2, 3, 4, 7, 24]⟩ ⟨[⟨false, 9, 0, (.slice Ttrace_ratio), [([], some 201000900)], false⟩], [2, 3, 4, 7, 24]⟩ 0 .nil))) .nil)))))
def an_trace_course_rollErr : Ann := .nil
def an_trace_course_contradicts : Ann := .nil
def an_trace_course_pair : Ann := (.seq .nil (.seq (.seq .nil (.blk (.loopBD ⟨[⟨false, 14, 0, (.int .i64), [], false⟩], [4, 6, 8]⟩ ⟨[], [4, 6, 8]⟩ 0 (.seq .nil (.seq .nil (.seq (.blk (.seq .nil (.seq .nil (.blk (.loopBD ⟨[⟨false, 11, 0, (.int .i64), [], false⟩], [4, 6, 8]⟩ ⟨[], [4, 6, 8]⟩ 2 .nil))))) .nil)))))) .nil))
def an_trace_RollsOf : Ann := (.seq .nil (.seq .nil (.seq .nil (.seq .nil (.seq .nil (.seq (.seq .nil (.blk (.loopBD ⟨[⟨false, 12, 0, (.slice .str), [([], some 201001200)], false⟩, ⟨false, 38, 0, (.int .i64), [], false⟩, ⟨true, 35, 259, (.mapT .str .bool), [], true⟩], [3, 4, 8, 30]⟩ ⟨[⟨false, 12, 0, (.slice .str), [([], some 401001200)], false⟩], [3, 4, 8, 30]⟩ 0 (.seq .nil (.seq .nil (.seq (.blk (.seq .nil (.seq .nil (.seq .nil (.seq .nil (.seq .nil (.join ⟨[⟨false, 12, 0, (.slice .str), [([], some 501001200)], false⟩], [3, 4, 8, 14, 16, 30, 35, 53]⟩ .nil .nil))))))) .nil)))))) .nil))))))
def an_r9_CopyMarks : Ann := .nil
def an_r9_CopyRolls : Ann := .nil
def an_r9_MarksErr : Ann := (.seq .nil (.seq .nil (.seq (.seq .nil (.blk (.loopBD ⟨[⟨false, 5, 0, (.int .i64), [], false⟩], [2, 3]⟩ ⟨[], [2, 3]⟩ 0 .nil))) .nil)))
def an_trace_RollPair : Ann := (.seq .nil (.seq .nil (.seq (.seq .nil (.join ⟨[⟨false, 10, 0, (.int .i64), [], false⟩], [3, 4, 5, 6, 8]⟩ .nil .nil)) .nil)))
def an_r9_RollErr : Ann := .nil
def an_r9_Pair : Ann := (.seq .nil (.seq .nil (.seq (.seq .nil (.blk (.loopB ⟨[⟨false, 8, 0, (.slice Tb0_Ratio), [([], some 101000800)], false⟩, ⟨false, 9, 0, (.int .i64), [], false⟩], [3, 4, 5, 6]⟩ ⟨[⟨false, 8, 0, (.slice Tb0_Ratio), [([], some 201000800)], false⟩], [3, 4, 5, 6]⟩ 0 .nil))) (.seq (.seq .nil (.blk (.loopBD ⟨[⟨false, 12, 0, (.int .i64), [], false⟩], [3, 4, 5, 6, 201000800]⟩ ⟨[], [3, 4, 5, 6, 201000800]⟩ 2 (.seq .nil (.seq (.blk (.seq .nil (.blk (.loopBD ⟨[⟨false, 13, 0, (.int .i64), [], false⟩], [3, 4, 5, 6, 201000800]⟩ ⟨[], [3, 4, 5, 6, 201000800]⟩ 4 .nil)))) .nil))))) .nil))))
def an_r9_RollsOf : Ann := (.seq .nil (.seq .nil (.seq (.seq .nil (.blk (.loopBD ⟨[⟨false, 8, 0, (.int .i64), [], false⟩], [3, 4]⟩ ⟨[], [3, 4]⟩ 0 (.seq .nil (.seq (.blk (.seq .nil (.seq .nil (.blk (.loopBD ⟨[⟨false, 10, 0, (.int .i64), [], false⟩], [3, 4]⟩ ⟨[], [3, 4]⟩ 2 .nil))))) .nil))))) (.seq .nil (.seq (.seq .nil (.blk (.loopB ⟨[⟨false, 11, 0, (.slice .str), [([], some 1401001100)], false⟩, ⟨false, 12, 0, (.int .i64), [], false⟩], [3, 4]⟩ ⟨[⟨false, 11, 0, (.slice .str), [([], some 1601001100)], false⟩], [3, 4]⟩ 4 (.seq .nil (.seq (.blk (.seq .nil (.seq .nil (.join ⟨[⟨false, 11, 0, (.slice .str), [([], some 1701001100)], false⟩], [3, 4, 13]⟩ .nil .nil)))) .nil))))) .nil)))))
def an_b0_Texts : Ann := (.seq .nil (.seq .nil (.seq (.seq .nil (.blk (.loopBD ⟨[⟨false, 5, 0, (.int .i64), [], false⟩], []⟩ ⟨[], []⟩ 0 .nil))) .nil)))
def an_l9_TraceRolls : Ann := (.seq .nil (.seq .nil (.seq .nil (.seq .nil (.seq .nil (.seq (.seq .nil (.join ⟨[⟨false, 9, 0, (.int .i64), [], false⟩], [3, 4]⟩ .nil .nil)) (.seq .nil (.seq (.seq .nil (.join ⟨[⟨true, 10, 138, Tapi_TraceRoll, [], false⟩], [3, 4]⟩ .nil .nil)) .nil))))))))
noncomputable abbrev sg_trace_openMarks : Sig := ⟨150, [Tapi_TraceCourse, Tapi_TraceMarks], [Ttrace_course, (.slice Ttrace_ratio), (.int .i64)], fun x => trace_openMarks x.1 x.2⟩
noncomputable abbrev sg_trace_course_rollErr : Sig := ⟨151, [Ttrace_course, Tapi_TraceRoll, (.int .i64)], [(.int .i64)], fun x => trace_course_rollErr x.1 x.2.1 x.2.2⟩
noncomputable abbrev sg_trace_course_contradicts : Sig := ⟨211, [Ttrace_course, Ttrace_ratio, Ttrace_ratio, Tapi_TraceRoll, (.int .i64)], [.bool], fun x => trace_course_contradicts x.1 x.2.1 x.2.2.1 x.2.2.2.1 x.2.2.2.2⟩
noncomputable abbrev sg_trace_course_pair : Sig := ⟨152, [Ttrace_course, (.slice Ttrace_ratio), Tapi_TraceRoll, (.int .i64)], [(.arr 2 (.int .i64)), .bool], fun x => trace_course_pair x.1 x.2.1 x.2.2.1 x.2.2.2⟩
noncomputable abbrev sg_trace_RollsOf : Sig := ⟨69, [Tapi_TraceCourse, Tapi_TraceMarks, (.slice Tapi_TraceRoll)], [(.slice .str), (.int .i64)], fun x => trace_RollsOf x.1 x.2.1 x.2.2⟩
noncomputable abbrev sg_r9_CopyMarks : Sig := ⟨70, [Tapi_TraceMarks], [Tapi_TraceMarks], fun x => r9_CopyMarks x⟩
noncomputable abbrev sg_r9_CopyRolls : Sig := ⟨71, [(.slice Tapi_TraceRoll)], [(.slice Tapi_TraceRoll)], fun x => r9_CopyRolls x⟩
noncomputable abbrev sg_r9_MarksErr : Sig := ⟨72, [Tapi_TraceCourse, Tapi_TraceMarks], [(.int .i64)], fun x => r9_MarksErr x.1 x.2⟩
noncomputable abbrev sg_trace_RollPair : Sig := ⟨73, [Tapi_TraceCourse, Tapi_TraceMarks, Tapi_TraceRoll], [(.arr 2 (.int .i64)), (.int .i64)], fun x => trace_RollPair x.1 x.2.1 x.2.2⟩
noncomputable abbrev sg_r9_RollErr : Sig := ⟨76, [Tapi_TraceCourse, Tapi_TraceMarks, Tapi_TraceRoll], [(.int .i64)], fun x => r9_RollErr x.1 x.2.1 x.2.2⟩
noncomputable abbrev sg_r9_Pair : Sig := ⟨77, [Tapi_TraceCourse, Tapi_TraceMarks, Tapi_TraceRoll], [(.arr 2 (.int .i64)), .bool], fun x => r9_Pair x.1 x.2.1 x.2.2⟩
noncomputable abbrev sg_r9_RollsOf : Sig := ⟨74, [Tapi_TraceCourse, Tapi_TraceMarks, (.slice Tapi_TraceRoll)], [(.slice .str), (.int .i64)], fun x => r9_RollsOf x.1 x.2.1 x.2.2⟩
noncomputable abbrev sg_b0_Texts : Sig := ⟨75, [(.slice .str), (.slice .str)], [.bool], fun x => b0_Texts x.1 x.2⟩
noncomputable abbrev sg_l9_TraceRolls : Sig := ⟨11, [Tapi_TraceCourse, Tapi_TraceMarks, (.slice Tapi_TraceRoll)], [.bool], fun x => l9_TraceRolls x.1 x.2.1 x.2.2⟩
end Go.Lift
namespace Go.Lift
open Go Go.Proofs
theorem ck_trace_openMarks (c : Dapi_TraceCourse) (x : Dapi_TraceMarks) : funK (cx [] [sg_trace_opened, sg_trace_first, sg_trace_unless, sg_trace_within, sg_trace_course_last, sg_trace_whole, sg_trace_strip_slabAt, sg_trace_strip_has]) Tryz.f150 an_trace_openMarks [Tapi_TraceCourse, Tapi_TraceMarks] [Ttrace_course, (.slice Ttrace_ratio), (.int .i64)] (c, x) = trace_openMarks c x := by kernel_rfl
theorem ck_trace_RollsOf (c : Dapi_TraceCourse) (x : Dapi_TraceMarks) (rolls : (List Dapi_TraceRoll)) : funK (cxM [] [sg_trace_first, sg_trace_unless, sg_trace_openMarks, sg_trace_course_rollErr, sg_trace_course_pair]) Tryz.f69 an_trace_RollsOf [Tapi_TraceCourse, Tapi_TraceMarks, (.slice Tapi_TraceRoll)] [(.slice .str), (.int .i64)] (c, x, rolls) = trace_RollsOf c x rolls := by kernel_rfl
theorem ck_trace_RollPair (c : Dapi_TraceCourse) (x : Dapi_TraceMarks) (roll : Dapi_TraceRoll) : funK (cx [] [sg_trace_unless, sg_trace_openMarks, sg_trace_course_rollErr, sg_trace_course_pair]) Tryz.f73 an_trace_RollPair [Tapi_TraceCourse, Tapi_TraceMarks, Tapi_TraceRoll] [(.arr 2 (.int .i64)), (.int .i64)] (c, x, roll) = trace_RollPair c x roll := by kernel_rfl
theorem ck_b0_Texts (a : (List ByteArray)) (b : (List ByteArray)) : funK (cx [] []) Tryz.f75 an_b0_Texts [(.slice .str), (.slice .str)] [.bool] (a, b) = b0_Texts a b := by kernel_rfl
end Go.Lift
namespace Go.Lift
open Go Go.Proofs
theorem ck_trace_course_rollErr (c : Dtrace_course) (r : Dapi_TraceRoll) (tolerance : Int) : funK (cx [] [sg_trace_first, sg_trace_unless, sg_trace_within, sg_trace_course_stepsErr, sg_trace_isName]) Tryz.f151 an_trace_course_rollErr [Ttrace_course, Tapi_TraceRoll, (.int .i64)] [(.int .i64)] (c, r, tolerance) = trace_course_rollErr c r tolerance := by kernel_rfl
theorem ck_r9_CopyMarks (x : Dapi_TraceMarks) : funK (cx [] [sg_b0_CopyInts]) Tryz.f70 an_r9_CopyMarks [Tapi_TraceMarks] [Tapi_TraceMarks] x = r9_CopyMarks x := by kernel_rfl
theorem ck_r9_RollErr (c : Dapi_TraceCourse) (x : Dapi_TraceMarks) (r : Dapi_TraceRoll) : funK (cx [] [sg_b0_Within, sg_r9_StepsErr, sg_b0_IsName]) Tryz.f76 an_r9_RollErr [Tapi_TraceCourse, Tapi_TraceMarks, Tapi_TraceRoll] [(.int .i64)] (c, x, r) = r9_RollErr c x r := by kernel_rfl
theorem ck_l9_TraceRolls (c : Dapi_TraceCourse) (x : Dapi_TraceMarks) (rolls : (List Dapi_TraceRoll)) : funK (cx [] [sg_l9_awake, sg_l9_Few, sg_r9_CourseErr, sg_r9_CopyCourse, sg_trace_RollsOf, sg_r9_CopyMarks, sg_r9_CopyRolls, sg_r9_MarksErr, sg_trace_RollPair, sg_r9_RollsOf, sg_b0_Texts, sg_r9_RollErr, sg_r9_Pair]) Tryz.f11 an_l9_TraceRolls [Tapi_TraceCourse, Tapi_TraceMarks, (.slice Tapi_TraceRoll)] [.bool] (c, x, rolls) = l9_TraceRolls c x rolls := by kernel_rfl
end Go.Lift
namespace Go.Lift
open Go Go.Proofs
theorem ck_trace_course_contradicts (c : Dtrace_course) (a : Dtrace_ratio) (b : Dtrace_ratio) (r : Dapi_TraceRoll) (tolerance : Int) : funK (cx [] [sg_trace_ratio_cmp, sg_trace_whole, sg_trace_ratio_times, sg_trace_strip_at, sg_trace_ratio_minus, sg_trace_ratio_over, sg_trace_ratio_floor]) Tryz.f211 an_trace_course_contradicts [Ttrace_course, Ttrace_ratio, Ttrace_ratio, Tapi_TraceRoll, (.int .i64)] [.bool] (c, a, b, r, tolerance) = trace_course_contradicts c a b r tolerance := by kernel_rfl
theorem ck_r9_CopyRolls (l : (List Dapi_TraceRoll)) : funK (cx [] []) Tryz.f71 an_r9_CopyRolls [(.slice Tapi_TraceRoll)] [(.slice Tapi_TraceRoll)] l = r9_CopyRolls l := by kernel_rfl
theorem ck_r9_Pair (c : Dapi_TraceCourse) (x : Dapi_TraceMarks) (r : Dapi_TraceRoll) : funK (cx [] [sg_b0_RatioInt, sg_b0_RatioCmp, sg_b0_WideOf, sg_b0_RatioMul, sg_r9_Move, sg_b0_RatioSub, sg_b0_RatioFloor, sg_b0_RatioDiv]) Tryz.f77 an_r9_Pair [Tapi_TraceCourse, Tapi_TraceMarks, Tapi_TraceRoll] [(.arr 2 (.int .i64)), .bool] (c, x, r) = r9_Pair c x r := by kernel_rfl
end Go.Lift
namespace Go.Lift
open Go Go.Proofs
theorem ck_trace_course_pair (c : Dtrace_course) (marks : (List Dtrace_ratio)) (r : Dapi_TraceRoll) (tolerance : Int) : funK (cx [] [sg_trace_course_contradicts]) Tryz.f152 an_trace_course_pair [Ttrace_course, (.slice Ttrace_ratio), Tapi_TraceRoll, (.int .i64)] [(.arr 2 (.int .i64)), .bool] (c, marks, r, tolerance) = trace_course_pair c marks r tolerance := by kernel_rfl
theorem ck_r9_MarksErr (c : Dapi_TraceCourse) (x : Dapi_TraceMarks) : funK (cx [] [sg_b0_Within, sg_r9_ReadingErr]) Tryz.f72 an_r9_MarksErr [Tapi_TraceCourse, Tapi_TraceMarks] [(.int .i64)] (c, x) = r9_MarksErr c x := by kernel_rfl
theorem ck_r9_RollsOf (c : Dapi_TraceCourse) (x : Dapi_TraceMarks) (rolls : (List Dapi_TraceRoll)) : funK (cx [] [sg_r9_RollErr, sg_r9_Pair]) Tryz.f74 an_r9_RollsOf [Tapi_TraceCourse, Tapi_TraceMarks, (.slice Tapi_TraceRoll)] [(.slice .str), (.int .i64)] (c, x, rolls) = r9_RollsOf c x rolls := by kernel_rfl
end Go.Lift
namespace Go.Lift
open Go Go.Proofs
set_option maxRecDepth 100000
section
variable (m_slices_Clone_uint32 : Has Tryz.prog sg_slices_Clone_uint32) (m_trace_evidence_explanations : Has Tryz.prog sg_trace_evidence_explanations) (m_strings_Join : Has Tryz.prog sg_strings_Join) (m_strconv_Itoa : Has Tryz.prog sg_strconv_Itoa)
include m_slices_Clone_uint32 in
theorem h_trace_openMarks : Has Tryz.prog sg_trace_openMarks :=
  has_of prog_mixed tys_ok nfs_ok eqs_ok (own := []) (all_cons (h_trace_opened m_slices_Clone_uint32) (all_cons h_trace_first (all_cons h_trace_unless (all_cons h_trace_within (all_cons h_trace_course_last (all_cons h_trace_whole (all_cons (h_trace_strip_slabAt m_slices_Clone_uint32) (all_cons (h_trace_strip_has m_slices_Clone_uint32) all_nil)))))))) (n := an_trace_openMarks) Tryz.func150 (by kernel_rfl) fun x => ck_trace_openMarks x.1 x.2
theorem h_trace_course_rollErr : Has Tryz.prog sg_trace_course_rollErr :=
  has_of prog_mixed tys_ok nfs_ok eqs_ok (own := []) (all_cons h_trace_first (all_cons h_trace_unless (all_cons h_trace_within (all_cons h_trace_course_stepsErr (all_cons h_trace_isName all_nil))))) (n := an_trace_course_rollErr) Tryz.func151 (by kernel_rfl) fun x => ck_trace_course_rollErr x.1 x.2.1 x.2.2
include m_slices_Clone_uint32 in
theorem h_trace_course_contradicts : Has Tryz.prog sg_trace_course_contradicts :=
  has_of prog_mixed tys_ok nfs_ok eqs_ok (own := []) (all_cons (h_trace_ratio_cmp m_slices_Clone_uint32) (all_cons h_trace_whole (all_cons (h_trace_ratio_times m_slices_Clone_uint32) (all_cons (h_trace_strip_at m_slices_Clone_uint32) (all_cons (h_trace_ratio_minus m_slices_Clone_uint32) (all_cons (h_trace_ratio_over m_slices_Clone_uint32) (all_cons (h_trace_ratio_floor m_slices_Clone_uint32) all_nil))))))) (n := an_trace_course_contradicts) Tryz.func211 (by kernel_rfl) fun x => ck_trace_course_contradicts x.1 x.2.1 x.2.2.1 x.2.2.2.1 x.2.2.2.2
include m_slices_Clone_uint32 in
theorem h_trace_course_pair : Has Tryz.prog sg_trace_course_pair :=
  has_of prog_mixed tys_ok nfs_ok eqs_ok (own := []) (all_cons (h_trace_course_contradicts m_slices_Clone_uint32) all_nil) (n := an_trace_course_pair) Tryz.func152 (by kernel_rfl) fun x => ck_trace_course_pair x.1 x.2.1 x.2.2.1 x.2.2.2
include m_slices_Clone_uint32 in
theorem h_trace_RollsOf : Has Tryz.prog sg_trace_RollsOf :=
  has_ofM prog_mixed tys_ok nfs_ok eqs_ok (own := []) (all_cons h_trace_first (all_cons h_trace_unless (all_cons (h_trace_openMarks m_slices_Clone_uint32) (all_cons h_trace_course_rollErr (all_cons (h_trace_course_pair m_slices_Clone_uint32) all_nil))))) (n := an_trace_RollsOf) Tryz.func69 (by kernel_rfl) fun x => ck_trace_RollsOf x.1 x.2.1 x.2.2
theorem h_r9_CopyMarks : Has Tryz.prog sg_r9_CopyMarks :=
  has_of prog_mixed tys_ok nfs_ok eqs_ok (own := []) (all_cons h_b0_CopyInts all_nil) (n := an_r9_CopyMarks) Tryz.func70 (by kernel_rfl) fun x => ck_r9_CopyMarks x
theorem h_r9_CopyRolls : Has Tryz.prog sg_r9_CopyRolls :=
  has_of prog_mixed tys_ok nfs_ok eqs_ok (own := []) all_nil (n := an_r9_CopyRolls) Tryz.func71 (by kernel_rfl) fun x => ck_r9_CopyRolls x
theorem h_r9_MarksErr : Has Tryz.prog sg_r9_MarksErr :=
  has_of prog_mixed tys_ok nfs_ok eqs_ok (own := []) (all_cons h_b0_Within (all_cons h_r9_ReadingErr all_nil)) (n := an_r9_MarksErr) Tryz.func72 (by kernel_rfl) fun x => ck_r9_MarksErr x.1 x.2
include m_slices_Clone_uint32 in
theorem h_trace_RollPair : Has Tryz.prog sg_trace_RollPair :=
  has_of prog_mixed tys_ok nfs_ok eqs_ok (own := []) (all_cons h_trace_unless (all_cons (h_trace_openMarks m_slices_Clone_uint32) (all_cons h_trace_course_rollErr (all_cons (h_trace_course_pair m_slices_Clone_uint32) all_nil)))) (n := an_trace_RollPair) Tryz.func73 (by kernel_rfl) fun x => ck_trace_RollPair x.1 x.2.1 x.2.2
theorem h_r9_RollErr : Has Tryz.prog sg_r9_RollErr :=
  has_of prog_mixed tys_ok nfs_ok eqs_ok (own := []) (all_cons h_b0_Within (all_cons h_r9_StepsErr (all_cons h_b0_IsName all_nil))) (n := an_r9_RollErr) Tryz.func76 (by kernel_rfl) fun x => ck_r9_RollErr x.1 x.2.1 x.2.2
theorem h_r9_Pair : Has Tryz.prog sg_r9_Pair :=
  has_of prog_mixed tys_ok nfs_ok eqs_ok (own := []) (all_cons h_b0_RatioInt (all_cons h_b0_RatioCmp (all_cons h_b0_WideOf (all_cons h_b0_RatioMul (all_cons h_r9_Move (all_cons h_b0_RatioSub (all_cons h_b0_RatioFloor (all_cons h_b0_RatioDiv all_nil)))))))) (n := an_r9_Pair) Tryz.func77 (by kernel_rfl) fun x => ck_r9_Pair x.1 x.2.1 x.2.2
theorem h_r9_RollsOf : Has Tryz.prog sg_r9_RollsOf :=
  has_of prog_mixed tys_ok nfs_ok eqs_ok (own := []) (all_cons h_r9_RollErr (all_cons h_r9_Pair all_nil)) (n := an_r9_RollsOf) Tryz.func74 (by kernel_rfl) fun x => ck_r9_RollsOf x.1 x.2.1 x.2.2
theorem h_b0_Texts : Has Tryz.prog sg_b0_Texts :=
  has_of prog_mixed tys_ok nfs_ok eqs_ok (own := []) all_nil (n := an_b0_Texts) Tryz.func75 (by kernel_rfl) fun x => ck_b0_Texts x.1 x.2
include m_slices_Clone_uint32 m_trace_evidence_explanations m_strings_Join m_strconv_Itoa in
theorem h_l9_TraceRolls : Has Tryz.prog sg_l9_TraceRolls :=
  has_of prog_mixed tys_ok nfs_ok eqs_ok (own := []) (all_cons (h_l9_awake m_slices_Clone_uint32 m_trace_evidence_explanations m_strings_Join m_strconv_Itoa) (all_cons h_l9_Few (all_cons h_r9_CourseErr (all_cons h_r9_CopyCourse (all_cons (h_trace_RollsOf m_slices_Clone_uint32) (all_cons h_r9_CopyMarks (all_cons h_r9_CopyRolls (all_cons h_r9_MarksErr (all_cons (h_trace_RollPair m_slices_Clone_uint32) (all_cons h_r9_RollsOf (all_cons h_b0_Texts (all_cons h_r9_RollErr (all_cons h_r9_Pair all_nil))))))))))))) (n := an_l9_TraceRolls) Tryz.func11 (by kernel_rfl) fun x => ck_l9_TraceRolls x.1 x.2.1 x.2.2
end
end Go.Lift
