/-
  The contracts of the functions of maps there and back.
-/
import Derived.Test.YtfihcmhknhbndaaGreatDoorFunBa
import Derived.Test.YtfihcmhknhbndaaGreatDoorFunT
import Derived.Test.YtfihcmhknhbndaaGreatDoorExtVo
import Derived.Test.YtfihcmhknhbndaaGreatDoorExtEv
import Derived.Test.YtfihcmhknhbndaaGreatDoorExtMa
import Derived.Test.YtfihcmhknhbndaaGreatDoorExtVa
import Derived.Test.YtfihcmhknhbndaaGreatDoorFunH
set_option linter.unusedSectionVars false
set_option linter.unusedVariables false
set_option linter.unusedSimpArgs false
namespace Go.Lift
open Go Go.Proofs
def an_l9_TraceBack : Ann := (.seq .nil (.seq .nil (.seq .nil (.seq (.seq .nil (.joinD ⟨[], [3, 4, 5]⟩ (.seq .nil (.seq .nil (.seq .nil (.seq .nil (.seq .nil (.blk (.loopBD ⟨[⟨false, 11, 0, (.int .i64), [], false⟩], [3, 4, 5, 7, 9]⟩ ⟨[], [3, 4, 5, 7, 9]⟩ 0 .nil))))))) .nil)) .nil))))
noncomputable abbrev sg_l9_TraceBack : Sig := ⟨13, [Tapi_TraceCourse, (.arr 3 (.int .i64)), Tapi_TraceMap], [.bool], fun x => l9_TraceBack x.1 x.2.1 x.2.2⟩
end Go.Lift
namespace Go.Lift
open Go Go.Proofs
theorem ck_l9_TraceBack (c : Dapi_TraceCourse) (x : (Nat → Int)) (a : Dapi_TraceMap) : funK (cx [] [sg_l9_awake, sg_l9_Few, sg_r9_CourseErr, sg_b0_Within, sg_r9_CopyCourse, sg_trace_MapOf, sg_r9_SameMap, sg_l9_fewMap, sg_r9_CopyMap, sg_trace_ValueAt, sg_trace_Inverse, sg_trace_Composed, sg_r9_MapErr]) Tryz.f13 an_l9_TraceBack [Tapi_TraceCourse, (.arr 3 (.int .i64)), Tapi_TraceMap] [.bool] (c, x, a) = l9_TraceBack c x a := by kernel_rfl
end Go.Lift
namespace Go.Lift
open Go Go.Proofs
end Go.Lift
namespace Go.Lift
open Go Go.Proofs
end Go.Lift
namespace Go.Lift
open Go Go.Proofs
end Go.Lift
namespace Go.Lift
open Go Go.Proofs
set_option maxRecDepth 100000
section
variable (m_slices_Clone_uint32 : Has Tryz.prog sg_slices_Clone_uint32) (m_trace_evidence_explanations : Has Tryz.prog sg_trace_evidence_explanations) (m_strings_Join : Has Tryz.prog sg_strings_Join) (m_strconv_Itoa : Has Tryz.prog sg_strconv_Itoa)
include m_slices_Clone_uint32 m_trace_evidence_explanations m_strings_Join m_strconv_Itoa in
theorem h_l9_TraceBack : Has Tryz.prog sg_l9_TraceBack :=
  has_of prog_mixed tys_ok nfs_ok eqs_ok (own := []) (all_cons (h_l9_awake m_slices_Clone_uint32 m_trace_evidence_explanations m_strings_Join m_strconv_Itoa) (all_cons h_l9_Few (all_cons h_r9_CourseErr (all_cons h_b0_Within (all_cons h_r9_CopyCourse (all_cons (h_trace_MapOf m_slices_Clone_uint32) (all_cons h_r9_SameMap (all_cons h_l9_fewMap (all_cons h_r9_CopyMap (all_cons (h_trace_ValueAt m_slices_Clone_uint32) (all_cons (h_trace_Inverse m_slices_Clone_uint32) (all_cons (h_trace_Composed m_slices_Clone_uint32) (all_cons h_r9_MapErr all_nil))))))))))))) (n := an_l9_TraceBack) Tryz.func13 (by kernel_rfl) fun x => ck_l9_TraceBack x.1 x.2.1 x.2.2
end
end Go.Lift
