/-
  The contracts of the functions of strips after steps.
-/
import Derived.Test.YtfihcmhknhbndaaGreatDoorFunG
import Derived.Test.YtfihcmhknhbndaaGreatDoorFunT
import Derived.Test.YtfihcmhknhbndaaGreatDoorFunH
set_option linter.unusedSectionVars false
set_option linter.unusedVariables false
set_option linter.unusedSimpArgs false
namespace Go.Lift
open Go Go.Proofs
def an_trace_LengthAfter : Ann := .nil
def an_trace_StripAfter : Ann := (.seq .nil (.seq .nil (.seq .nil (.seq .nil (.seq (.seq .nil (.blk (.loopB ⟨[⟨false, 30, 0, (.int .i64), [], false⟩, ⟨true, 8, 68, Tapi_TraceStrip, [([.one], some 150000800)], false⟩], [2, 4, 6, 16]⟩ ⟨[⟨true, 8, 68, Tapi_TraceStrip, [([.one], some 250000800)], false⟩], [2, 4, 6, 16]⟩ 0 .nil))) .nil)))))
def an_trace_CheckCourse : Ann := .nil
def an_trace_VolumeAfter : Ann := (.seq .nil (.seq .nil (.seq .nil (.seq .nil (.seq (.seq .nil (.blk (.loopB ⟨[⟨false, 29, 0, (.int .i64), [], false⟩, ⟨true, 8, 184, Ttrace_ratio, [], false⟩], [2, 4, 6, 14]⟩ ⟨[⟨true, 8, 184, Ttrace_ratio, [], false⟩], [2, 4, 6, 14]⟩ 0 .nil))) .nil)))))
def an_cobbleref09_SameStrip : Ann := (.seq .nil (.seq .nil (.seq (.seq .nil (.blk (.loopBD ⟨[⟨false, 5, 0, (.int .i64), [], false⟩], [2, 3]⟩ ⟨[], [2, 3]⟩ 0 .nil))) .nil)))
def an_cobbleref09_StripOf : Ann := (.seq .nil (.seq .nil (.seq (.seq .nil (.blk (.loopB ⟨[⟨false, 4, 0, (.int .i64), [], false⟩, ⟨true, 3, 68, Tapi_TraceStrip, [([.one], some 150000300)], false⟩], [2]⟩ ⟨[⟨true, 3, 68, Tapi_TraceStrip, [([.one], some 250000300)], false⟩], [2]⟩ 0 .nil))) .nil)))
def an_cobblelaw09_fracOr : Ann := .nil
def an_cobbleref09_Volume : Ann := (.seq .nil (.seq .nil (.seq (.seq .nil (.blk (.loopB ⟨[⟨false, 4, 0, (.int .i64), [], false⟩, ⟨true, 3, 74, Tcobblebase_Ratio, [], false⟩], [2]⟩ ⟨[⟨true, 3, 74, Tcobblebase_Ratio, [], false⟩], [2]⟩ 0 .nil))) .nil)))
def an_cobblelaw09_TraceCourses : Ann := (.seq .nil (.seq .nil (.seq .nil (.seq .nil (.seq .nil (.seq .nil (.seq .nil (.seq .nil (.seq .nil (.seq (.seq .nil (.join ⟨[⟨false, 14, 0, (.int .i64), [], false⟩], [2, 7, 9, 11]⟩ .nil .nil)) .nil))))))))))
noncomputable abbrev sg_trace_LengthAfter : Sig := ⟨24, [Tapi_TraceCourse, (.int .i64)], [Tapi_Frac, (.int .i64)], fun x => trace_LengthAfter x.1 x.2⟩
noncomputable abbrev sg_trace_StripAfter : Sig := ⟨38, [Tapi_TraceCourse, (.int .i64)], [Tapi_TraceStrip, (.int .i64)], fun x => trace_StripAfter x.1 x.2⟩
noncomputable abbrev sg_trace_CheckCourse : Sig := ⟨56, [Tapi_TraceCourse], [(.int .i64), (.int .i64)], fun x => trace_CheckCourse x⟩
noncomputable abbrev sg_trace_VolumeAfter : Sig := ⟨57, [Tapi_TraceCourse, (.int .i64)], [Tapi_Frac, (.int .i64)], fun x => trace_VolumeAfter x.1 x.2⟩
noncomputable abbrev sg_cobbleref09_SameStrip : Sig := ⟨61, [Tapi_TraceStrip, Tapi_TraceStrip], [.bool], fun x => cobbleref09_SameStrip x.1 x.2⟩
noncomputable abbrev sg_cobbleref09_StripOf : Sig := ⟨62, [(.slice Tcobbleref09_Section)], [Tapi_TraceStrip], fun x => cobbleref09_StripOf x⟩
noncomputable abbrev sg_cobblelaw09_fracOr : Sig := ⟨63, [Tapi_Frac, (.int .i64), Tcobblebase_Ratio], [.bool], fun x => cobblelaw09_fracOr x.1 x.2.1 x.2.2⟩
noncomputable abbrev sg_cobbleref09_Volume : Sig := ⟨65, [(.slice Tcobbleref09_Section)], [Tcobblebase_Ratio], fun x => cobbleref09_Volume x⟩
noncomputable abbrev sg_cobblelaw09_TraceCourses : Sig := ⟨9, [Tapi_TraceCourse, (.int .i64)], [.bool], fun x => cobblelaw09_TraceCourses x.1 x.2⟩
end Go.Lift

namespace Go.Lift
open Go Go.Proofs
theorem ck_trace_LengthAfter (c : Dapi_TraceCourse) (steps : Int) : funK (cx [] [sg_trace_opened, sg_trace_strip_length, sg_trace_small]) Tryz.f24 an_trace_LengthAfter [Tapi_TraceCourse, (.int .i64)] [Tapi_Frac, (.int .i64)] (c, steps) = trace_LengthAfter c steps := by kernel_rfl

theorem ck_cobbleref09_SameStrip (a : Dapi_TraceStrip) (b : Dapi_TraceStrip) : funK (cx [] []) Tryz.f61 an_cobbleref09_SameStrip [Tapi_TraceStrip, Tapi_TraceStrip] [.bool] (a, b) = cobbleref09_SameStrip a b := by kernel_rfl

theorem ck_cobblelaw09_TraceCourses (c : Dapi_TraceCourse) (steps : Int) : funK (cx [] [sg_cobblelaw09_awake, sg_cobblelaw09_Few, sg_cobbleref09_CopyCourse, sg_trace_LengthAfter, sg_trace_StripAfter, sg_trace_CheckCourse, sg_trace_VolumeAfter, sg_cobbleref09_CheckCourse, sg_cobbleref09_StepsErr, sg_cobbleref09_After, sg_cobbleref09_SameStrip, sg_cobbleref09_StripOf, sg_cobblelaw09_fracOr, sg_cobbleref09_Strip_Length, sg_cobbleref09_Volume]) Tryz.f9 an_cobblelaw09_TraceCourses [Tapi_TraceCourse, (.int .i64)] [.bool] (c, steps) = cobblelaw09_TraceCourses c steps := by kernel_rfl

end Go.Lift

namespace Go.Lift
open Go Go.Proofs
theorem ck_trace_StripAfter (c : Dapi_TraceCourse) (steps : Int) : funK (cx [] [sg_trace_opened, sg_trace_section_length, sg_trace_ratio_frac]) Tryz.f38 an_trace_StripAfter [Tapi_TraceCourse, (.int .i64)] [Tapi_TraceStrip, (.int .i64)] (c, steps) = trace_StripAfter c steps := by kernel_rfl

theorem ck_cobbleref09_StripOf (s : (List Dcobbleref09_Section)) : funK (cx [] [sg_cobblebase_RatioFrac]) Tryz.f62 an_cobbleref09_StripOf [(.slice Tcobbleref09_Section)] [Tapi_TraceStrip] s = cobbleref09_StripOf s := by kernel_rfl

end Go.Lift

namespace Go.Lift
open Go Go.Proofs
theorem ck_trace_CheckCourse (c : Dapi_TraceCourse) : funK (cx [] [sg_trace_open]) Tryz.f56 an_trace_CheckCourse [Tapi_TraceCourse] [(.int .i64), (.int .i64)] c = trace_CheckCourse c := by kernel_rfl

theorem ck_cobblelaw09_fracOr (x : Dapi_Frac) (e : Int) (want : Dcobblebase_Ratio) : funK (cx [] [sg_cobblebase_RatioFrac]) Tryz.f63 an_cobblelaw09_fracOr [Tapi_Frac, (.int .i64), Tcobblebase_Ratio] [.bool] (x, e, want) = cobblelaw09_fracOr x e want := by kernel_rfl

end Go.Lift

namespace Go.Lift
open Go Go.Proofs
theorem ck_trace_VolumeAfter (c : Dapi_TraceCourse) (steps : Int) : funK (cx [] [sg_trace_opened, sg_trace_whole, sg_trace_small, sg_trace_section_length, sg_trace_ratio_plus, sg_trace_ratio_times]) Tryz.f57 an_trace_VolumeAfter [Tapi_TraceCourse, (.int .i64)] [Tapi_Frac, (.int .i64)] (c, steps) = trace_VolumeAfter c steps := by kernel_rfl

theorem ck_cobbleref09_Volume (s : (List Dcobbleref09_Section)) : funK (cx [] [sg_cobblebase_RatioInt, sg_cobblebase_RatioAdd, sg_cobblebase_RatioMul]) Tryz.f65 an_cobbleref09_Volume [(.slice Tcobbleref09_Section)] [Tcobblebase_Ratio] s = cobbleref09_Volume s := by kernel_rfl

end Go.Lift

namespace Go.Lift
open Go Go.Proofs
set_option maxRecDepth 100000
section
variable (m_slices_Clone_uint32 : Has Tryz.prog sg_slices_Clone_uint32) (m_trace_evidence_explanations : Has Tryz.prog sg_trace_evidence_explanations) (m_strings_Join : Has Tryz.prog sg_strings_Join) (m_strconv_Itoa : Has Tryz.prog sg_strconv_Itoa)
include m_slices_Clone_uint32 in
theorem h_trace_LengthAfter : Has Tryz.prog sg_trace_LengthAfter :=
  has_of prog_mixed tys_ok nfs_ok eqs_ok (own := []) (all_cons (h_trace_opened m_slices_Clone_uint32) (all_cons h_trace_strip_length (all_cons h_trace_small all_nil))) (n := an_trace_LengthAfter) Tryz.func24 (by kernel_rfl) fun x => ck_trace_LengthAfter x.1 x.2
include m_slices_Clone_uint32 in
theorem h_trace_StripAfter : Has Tryz.prog sg_trace_StripAfter :=
  has_of prog_mixed tys_ok nfs_ok eqs_ok (own := []) (all_cons (h_trace_opened m_slices_Clone_uint32) (all_cons (h_trace_section_length m_slices_Clone_uint32) (all_cons h_trace_ratio_frac all_nil))) (n := an_trace_StripAfter) Tryz.func38 (by kernel_rfl) fun x => ck_trace_StripAfter x.1 x.2
include m_slices_Clone_uint32 in
theorem h_trace_CheckCourse : Has Tryz.prog sg_trace_CheckCourse :=
  has_of prog_mixed tys_ok nfs_ok eqs_ok (own := []) (all_cons (h_trace_open m_slices_Clone_uint32) all_nil) (n := an_trace_CheckCourse) Tryz.func56 (by kernel_rfl) fun x => ck_trace_CheckCourse x
include m_slices_Clone_uint32 in
theorem h_trace_VolumeAfter : Has Tryz.prog sg_trace_VolumeAfter :=
  has_of prog_mixed tys_ok nfs_ok eqs_ok (own := []) (all_cons (h_trace_opened m_slices_Clone_uint32) (all_cons h_trace_whole (all_cons h_trace_small (all_cons (h_trace_section_length m_slices_Clone_uint32) (all_cons (h_trace_ratio_plus m_slices_Clone_uint32) (all_cons (h_trace_ratio_times m_slices_Clone_uint32) all_nil)))))) (n := an_trace_VolumeAfter) Tryz.func57 (by kernel_rfl) fun x => ck_trace_VolumeAfter x.1 x.2
theorem h_cobbleref09_SameStrip : Has Tryz.prog sg_cobbleref09_SameStrip :=
  has_of prog_mixed tys_ok nfs_ok eqs_ok (own := []) all_nil (n := an_cobbleref09_SameStrip) Tryz.func61 (by kernel_rfl) fun x => ck_cobbleref09_SameStrip x.1 x.2
theorem h_cobbleref09_StripOf : Has Tryz.prog sg_cobbleref09_StripOf :=
  has_of prog_mixed tys_ok nfs_ok eqs_ok (own := []) (all_cons h_cobblebase_RatioFrac all_nil) (n := an_cobbleref09_StripOf) Tryz.func62 (by kernel_rfl) fun x => ck_cobbleref09_StripOf x
theorem h_cobblelaw09_fracOr : Has Tryz.prog sg_cobblelaw09_fracOr :=
  has_of prog_mixed tys_ok nfs_ok eqs_ok (own := []) (all_cons h_cobblebase_RatioFrac all_nil) (n := an_cobblelaw09_fracOr) Tryz.func63 (by kernel_rfl) fun x => ck_cobblelaw09_fracOr x.1 x.2.1 x.2.2
theorem h_cobbleref09_Volume : Has Tryz.prog sg_cobbleref09_Volume :=
  has_of prog_mixed tys_ok nfs_ok eqs_ok (own := []) (all_cons h_cobblebase_RatioInt (all_cons h_cobblebase_RatioAdd (all_cons h_cobblebase_RatioMul all_nil))) (n := an_cobbleref09_Volume) Tryz.func65 (by kernel_rfl) fun x => ck_cobbleref09_Volume x
include m_slices_Clone_uint32 m_trace_evidence_explanations m_strings_Join m_strconv_Itoa in
theorem h_cobblelaw09_TraceCourses : Has Tryz.prog sg_cobblelaw09_TraceCourses :=
  has_of prog_mixed tys_ok nfs_ok eqs_ok (own := []) (all_cons (h_cobblelaw09_awake m_slices_Clone_uint32 m_trace_evidence_explanations m_strings_Join m_strconv_Itoa) (all_cons h_cobblelaw09_Few (all_cons h_cobbleref09_CopyCourse (all_cons (h_trace_LengthAfter m_slices_Clone_uint32) (all_cons (h_trace_StripAfter m_slices_Clone_uint32) (all_cons (h_trace_CheckCourse m_slices_Clone_uint32) (all_cons (h_trace_VolumeAfter m_slices_Clone_uint32) (all_cons h_cobbleref09_CheckCourse (all_cons h_cobbleref09_StepsErr (all_cons h_cobbleref09_After (all_cons h_cobbleref09_SameStrip (all_cons h_cobbleref09_StripOf (all_cons h_cobblelaw09_fracOr (all_cons h_cobbleref09_Strip_Length (all_cons h_cobbleref09_Volume all_nil))))))))))))))) (n := an_cobblelaw09_TraceCourses) Tryz.func9 (by kernel_rfl) fun x => ck_cobblelaw09_TraceCourses x.1 x.2
end
end Go.Lift
