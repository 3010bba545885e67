/-
  The contracts of the function of contradicting readings.
-/
import Derived.Test.YtfihcmhknhbndaaGreatDoorFunCt
import Derived.Test.YtfihcmhknhbndaaGreatDoorFunT
import Derived.Test.YtfihcmhknhbndaaGreatDoorExtCb
import Derived.Test.YtfihcmhknhbndaaGreatDoorFunH
set_option linter.unusedSectionVars false
set_option linter.unusedVariables false
set_option linter.unusedSimpArgs false
namespace Go.Lift
open Go Go.Proofs
def an_trace_Contradicting : Ann := (.seq .nil (.seq .nil (.seq .nil (.seq .nil (.seq (.seq .nil (.blk (.loopD ⟨[], [3, 6, 7, 8, 9]⟩ .nil))) .nil)))))
noncomputable abbrev sg_trace_sets : Sig := ⟨112, [(.int .i64)], [(.seq (.int .u64))], fun x => trace_sets x⟩
noncomputable abbrev sg_trace_Contradicting : Sig := ⟨31, [Tapi_TraceCourse, (.slice Tapi_TraceCause), (.slice Tapi_TraceReading)], [(.slice (.int .i64)), (.int .i64)], fun x => trace_Contradicting x.1 x.2.1 x.2.2⟩
end Go.Lift
namespace Go.Lift
open Go Go.Proofs
theorem ck_trace_Contradicting (c : Dapi_TraceCourse) (l : (List Dapi_TraceCause)) (r : (List Dapi_TraceReading)) : funK (cx [] [sg_trace_openEvidence, sg_trace_evidence_explanations, sg_trace_evidence_every, sg_trace_set_list, sg_trace_sets]) Tryz.f31 an_trace_Contradicting [Tapi_TraceCourse, (.slice Tapi_TraceCause), (.slice Tapi_TraceReading)] [(.slice (.int .i64)), (.int .i64)] (c, l, r) = trace_Contradicting c l r := by kernel_rfl
end Go.Lift
namespace Go.Lift
open Go Go.Proofs
end Go.Lift
namespace Go.Lift
open Go Go.Proofs
end Go.Lift
namespace Go.Lift
open Go Go.Proofs
end Go.Lift
namespace Go.Lift
open Go Go.Proofs
set_option maxRecDepth 100000
section
variable (m_slices_Clone_uint32 : Has Tryz.prog sg_slices_Clone_uint32) (m_trace_evidence_explanations : Has Tryz.prog sg_trace_evidence_explanations) (m_trace_sets : Has Tryz.prog sg_trace_sets)
include m_slices_Clone_uint32 m_trace_evidence_explanations m_trace_sets in
theorem h_trace_Contradicting : Has Tryz.prog sg_trace_Contradicting :=
  has_of prog_mixed tys_ok nfs_ok eqs_ok (own := []) (all_cons (h_trace_openEvidence m_slices_Clone_uint32) (all_cons m_trace_evidence_explanations (all_cons h_trace_evidence_every (all_cons h_trace_set_list (all_cons m_trace_sets all_nil))))) (n := an_trace_Contradicting) Tryz.func31 (by kernel_rfl) fun x => ck_trace_Contradicting x.1 x.2.1 x.2.2
end
end Go.Lift
