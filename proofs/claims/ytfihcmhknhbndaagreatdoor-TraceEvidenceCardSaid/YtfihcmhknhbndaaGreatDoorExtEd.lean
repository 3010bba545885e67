/-
  The contracts of the functions of all evidence.
-/
import Derived.Test.YtfihcmhknhbndaaGreatDoorFunEd
import Derived.Test.YtfihcmhknhbndaaGreatDoorFunT
import Derived.Test.YtfihcmhknhbndaaGreatDoorExtCb
import Derived.Test.YtfihcmhknhbndaaGreatDoorExtCt
import Derived.Test.YtfihcmhknhbndaaGreatDoorFunH
set_option linter.unusedSectionVars false
set_option linter.unusedVariables false
set_option linter.unusedSimpArgs false
namespace Go.Lift
open Go Go.Proofs
def an_l9_areIndexes : Ann := (.seq .nil (.seq (.seq .nil (.blk (.loopBD ⟨[⟨false, 5, 0, (.int .i64), [], false⟩], []⟩ ⟨[], []⟩ 0 .nil))) .nil))
def an_l9_TraceEvidence : Ann := (.seq .nil (.seq .nil (.seq .nil (.seq .nil (.seq .nil (.seq (.seq .nil (.cond (.seq .nil (.seq (.seq .nil (.blk (.loopBD ⟨[⟨false, 11, 0, (.int .i64), [], false⟩], [3]⟩ ⟨[], [3]⟩ 0 (.seq .nil (.seq (.blk (.seq .nil (.seq .nil (.blk (.loopBD ⟨[⟨false, 12, 0, (.int .i64), [], false⟩], [3]⟩ ⟨[], [3]⟩ 2 (.seq .nil (.seq (.blk (.seq .nil (.seq (.seq .nil (.blk (.loopB ⟨[⟨false, 13, 0, (.slice Tapi_TraceCause), [([], some 6201001300)], false⟩, ⟨false, 14, 0, (.int .i64), [], false⟩], [3]⟩ ⟨[⟨false, 13, 0, (.slice Tapi_TraceCause), [([], some 6401001300)], false⟩], [3]⟩ 4 (.seq .nil (.seq (.blk (.seq .nil (.join ⟨[⟨false, 13, 0, (.slice Tapi_TraceCause), [([], some 6501001300)], false⟩], [3]⟩ .nil .nil))) .nil))))) .nil))) .nil))))))) .nil))))) .nil)) .nil)) (.seq .nil (.seq (.seq .nil (.blk (.loopBD ⟨[⟨false, 17, 0, (.int .i64), [], false⟩], [3]⟩ ⟨[], [3]⟩ 6 (.seq .nil (.seq (.blk (.seq .nil (.seq (.seq .nil (.blk (.loopB ⟨[⟨false, 18, 0, (.slice Tapi_TraceReading), [([], some 8301001800)], false⟩, ⟨false, 19, 0, (.int .i64), [], false⟩], [3]⟩ ⟨[⟨false, 18, 0, (.slice Tapi_TraceReading), [([], some 8501001800)], false⟩], [3]⟩ 8 (.seq .nil (.seq (.blk (.seq .nil (.join ⟨[⟨false, 18, 0, (.slice Tapi_TraceReading), [([], some 8601001800)], false⟩], [3]⟩ .nil .nil))) .nil))))) .nil))) .nil))))) .nil))))))))
noncomputable abbrev sg_l9_areIndexes : Sig := ⟨55, [(.slice (.int .i64)), (.int .i64)], [.bool], fun x => l9_areIndexes x.1 x.2⟩
noncomputable abbrev sg_l9_TraceEvidence : Sig := ⟨8, [Tapi_TraceCourse, (.slice Tapi_TraceCause), (.slice Tapi_TraceReading)], [.bool], fun x => l9_TraceEvidence x.1 x.2.1 x.2.2⟩
end Go.Lift

namespace Go.Lift
open Go Go.Proofs
theorem ck_l9_areIndexes (l : (List Int)) (count : Int) : funK (cx [] [sg_b0_Within]) Tryz.f55 an_l9_areIndexes [(.slice (.int .i64)), (.int .i64)] [.bool] (l, count) = l9_areIndexes l count := by kernel_rfl

end Go.Lift

namespace Go.Lift
open Go Go.Proofs
theorem ck_l9_TraceEvidence (c : Dapi_TraceCourse) (l : (List Dapi_TraceCause)) (r : (List Dapi_TraceReading)) : funK (cx [] [sg_l9_awake, sg_l9_Few, sg_r9_CopyCourse, sg_l9_light, sg_trace_Explanations, sg_r9_CopyCauses, sg_r9_CopyReadings, sg_trace_Contradicting, sg_r9_CausesErr, sg_r9_ReadingsErr, sg_trace_Contradiction, sg_l9_areIndexes]) Tryz.f8 an_l9_TraceEvidence [Tapi_TraceCourse, (.slice Tapi_TraceCause), (.slice Tapi_TraceReading)] [.bool] (c, l, r) = l9_TraceEvidence c l r := by kernel_rfl

end Go.Lift

namespace Go.Lift
open Go Go.Proofs

end Go.Lift

namespace Go.Lift
open Go Go.Proofs

end Go.Lift

namespace Go.Lift
open Go Go.Proofs
set_option maxRecDepth 100000
section
variable (m_slices_Clone_uint32 : Has Tryz.prog sg_slices_Clone_uint32) (m_trace_evidence_explanations : Has Tryz.prog sg_trace_evidence_explanations) (m_trace_sets : Has Tryz.prog sg_trace_sets) (m_strings_Join : Has Tryz.prog sg_strings_Join) (m_strconv_Itoa : Has Tryz.prog sg_strconv_Itoa)
theorem h_l9_areIndexes : Has Tryz.prog sg_l9_areIndexes :=
  has_of prog_mixed tys_ok nfs_ok eqs_ok (own := []) (all_cons h_b0_Within all_nil) (n := an_l9_areIndexes) Tryz.func55 (by kernel_rfl) fun x => ck_l9_areIndexes x.1 x.2
include m_slices_Clone_uint32 m_trace_evidence_explanations m_trace_sets m_strings_Join m_strconv_Itoa in
theorem h_l9_TraceEvidence : Has Tryz.prog sg_l9_TraceEvidence :=
  has_of prog_mixed tys_ok nfs_ok eqs_ok (own := []) (all_cons (h_l9_awake m_slices_Clone_uint32 m_trace_evidence_explanations m_strings_Join m_strconv_Itoa) (all_cons h_l9_Few (all_cons h_r9_CopyCourse (all_cons h_l9_light (all_cons (h_trace_Explanations m_slices_Clone_uint32 m_trace_evidence_explanations) (all_cons h_r9_CopyCauses (all_cons h_r9_CopyReadings (all_cons (h_trace_Contradicting m_slices_Clone_uint32 m_trace_evidence_explanations m_trace_sets) (all_cons h_r9_CausesErr (all_cons h_r9_ReadingsErr (all_cons (h_trace_Contradiction m_slices_Clone_uint32) (all_cons h_l9_areIndexes all_nil)))))))))))) (n := an_l9_TraceEvidence) Tryz.func8 (by kernel_rfl) fun x => ck_l9_TraceEvidence x.1 x.2.1 x.2.2
end
end Go.Lift
