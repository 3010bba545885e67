/-
  The contracts of the functions of explanations.
-/
import Derived.Test.YtfihcmhknhbndaaGreatDoorFunEx
import Derived.Test.YtfihcmhknhbndaaGreatDoorFunT
import Derived.Test.YtfihcmhknhbndaaGreatDoorExtCb
import Derived.Test.YtfihcmhknhbndaaGreatDoorExtRe
import Derived.Test.YtfihcmhknhbndaaGreatDoorExtCt
import Derived.Test.YtfihcmhknhbndaaGreatDoorFunH
set_option linter.unusedSectionVars false
set_option linter.unusedVariables false
set_option linter.unusedSimpArgs false
namespace Go.Lift
open Go Go.Proofs
def an_r9_Contradicting : Ann := (.seq .nil (.seq .nil (.seq .nil (.seq .nil (.seq (.seq .nil (.blk (.loopB ⟨[⟨false, 9, 0, (.slice (.int .i64)), [], false⟩, ⟨false, 10, 0, (.int .i64), [], false⟩], [3]⟩ ⟨[⟨false, 9, 0, (.slice (.int .i64)), [], false⟩], [3]⟩ 0 (.seq .nil (.seq (.blk (.seq .nil (.seq .nil (.seq .nil (.seq .nil (.seq (.seq .nil (.blk (.loopB ⟨[⟨false, 12, 0, (.slice (.slice .bool)), [([], some 1601001200)], false⟩, ⟨false, 13, 0, (.slice Tapi_TraceReading), [([], some 1601001300)], false⟩, ⟨false, 14, 0, (.int .i64), [], false⟩], [3]⟩ ⟨[⟨false, 12, 0, (.slice (.slice .bool)), [([], some 1701001200)], false⟩, ⟨false, 13, 0, (.slice Tapi_TraceReading), [([], some 1701001300)], false⟩], [3]⟩ 2 .nil))) (.seq .nil (.join ⟨[⟨false, 9, 0, (.slice (.int .i64)), [], false⟩], [3, 1701001200, 1701001300]⟩ .nil .nil)))))))) .nil))))) .nil)))))
def an_l9_TraceExplained : Ann := (.seq .nil (.seq .nil (.seq .nil (.seq .nil (.seq .nil (.seq .nil (.seq (.seq .nil (.join ⟨[⟨false, 11, 0, (.int .i64), [], false⟩], [3]⟩ .nil .nil)) .nil)))))))
noncomputable abbrev sg_r9_Contradicting : Sig := ⟨36, [Tapi_TraceCourse, (.slice Tapi_TraceCause), (.slice Tapi_TraceReading)], [(.slice (.int .i64)), .bool], fun x => r9_Contradicting x.1 x.2.1 x.2.2⟩
noncomputable abbrev sg_l9_TraceExplained : Sig := ⟨4, [Tapi_TraceCourse, (.slice Tapi_TraceCause), (.slice Tapi_TraceReading)], [.bool], fun x => l9_TraceExplained x.1 x.2.1 x.2.2⟩
end Go.Lift
namespace Go.Lift
open Go Go.Proofs
theorem ck_r9_Contradicting (c : Dapi_TraceCourse) (l : (List Dapi_TraceCause)) (r : (List Dapi_TraceReading)) : funK (cx [] [sg_r9_Table, sg_r9_explained, sg_r9_members, sg_b0_Before]) Tryz.f36 an_r9_Contradicting [Tapi_TraceCourse, (.slice Tapi_TraceCause), (.slice Tapi_TraceReading)] [(.slice (.int .i64)), .bool] (c, l, r) = r9_Contradicting c l r := by kernel_rfl
end Go.Lift
namespace Go.Lift
open Go Go.Proofs
theorem ck_l9_TraceExplained (c : Dapi_TraceCourse) (l : (List Dapi_TraceCause)) (r : (List Dapi_TraceReading)) : funK (cx [] [sg_l9_awake, sg_l9_Few, sg_r9_CopyCourse, sg_l9_light, sg_trace_Explanations, sg_r9_CopyCauses, sg_r9_CopyReadings, sg_trace_Contradicting, sg_r9_CausesErr, sg_r9_ReadingsErr, sg_r9_Explanations, sg_b0_Lists, sg_r9_Contradicting, sg_b0_Ints]) Tryz.f4 an_l9_TraceExplained [Tapi_TraceCourse, (.slice Tapi_TraceCause), (.slice Tapi_TraceReading)] [.bool] (c, l, r) = l9_TraceExplained c l r := by kernel_rfl
end Go.Lift
namespace Go.Lift
open Go Go.Proofs
end Go.Lift
namespace Go.Lift
open Go Go.Proofs
end Go.Lift
namespace Go.Lift
open Go Go.Proofs
set_option maxRecDepth 100000
section
variable (m_slices_Clone_uint32 : Has Tryz.prog sg_slices_Clone_uint32) (m_trace_evidence_explanations : Has Tryz.prog sg_trace_evidence_explanations) (m_trace_sets : Has Tryz.prog sg_trace_sets) (m_strings_Join : Has Tryz.prog sg_strings_Join) (m_strconv_Itoa : Has Tryz.prog sg_strconv_Itoa)
theorem h_r9_Contradicting : Has Tryz.prog sg_r9_Contradicting :=
  has_of prog_mixed tys_ok nfs_ok eqs_ok (own := []) (all_cons h_r9_Table (all_cons h_r9_explained (all_cons h_r9_members (all_cons h_b0_Before all_nil)))) (n := an_r9_Contradicting) Tryz.func36 (by kernel_rfl) fun x => ck_r9_Contradicting x.1 x.2.1 x.2.2
include m_slices_Clone_uint32 m_trace_evidence_explanations m_trace_sets m_strings_Join m_strconv_Itoa in
theorem h_l9_TraceExplained : Has Tryz.prog sg_l9_TraceExplained :=
  has_of prog_mixed tys_ok nfs_ok eqs_ok (own := []) (all_cons (h_l9_awake m_slices_Clone_uint32 m_trace_evidence_explanations m_strings_Join m_strconv_Itoa) (all_cons h_l9_Few (all_cons h_r9_CopyCourse (all_cons h_l9_light (all_cons (h_trace_Explanations m_slices_Clone_uint32 m_trace_evidence_explanations) (all_cons h_r9_CopyCauses (all_cons h_r9_CopyReadings (all_cons (h_trace_Contradicting m_slices_Clone_uint32 m_trace_evidence_explanations m_trace_sets) (all_cons h_r9_CausesErr (all_cons h_r9_ReadingsErr (all_cons h_r9_Explanations (all_cons h_b0_Lists (all_cons h_r9_Contradicting (all_cons h_b0_Ints all_nil)))))))))))))) (n := an_l9_TraceExplained) Tryz.func4 (by kernel_rfl) fun x => ck_l9_TraceExplained x.1 x.2.1 x.2.2
end
end Go.Lift
