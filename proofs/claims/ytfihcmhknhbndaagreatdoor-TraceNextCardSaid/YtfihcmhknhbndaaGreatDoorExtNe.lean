/-
  The contracts of the functions of the next reading.
-/
import Derived.Test.YtfihcmhknhbndaaGreatDoorFunNe
import Derived.Test.YtfihcmhknhbndaaGreatDoorFunT
import Derived.Test.YtfihcmhknhbndaaGreatDoorExtCb
import Derived.Test.YtfihcmhknhbndaaGreatDoorExtRe
import Derived.Test.YtfihcmhknhbndaaGreatDoorFunH
set_option linter.unusedSectionVars false
set_option linter.unusedVariables false
set_option linter.unusedSimpArgs false
namespace Go.Lift
open Go Go.Proofs
def an_trace_NextReading : Ann := (.seq .nil (.seq .nil (.seq (.seq .nil (.seq .nil (.join ⟨[⟨false, 11, 0, (.int .i64), [], false⟩], [3, 5, 9, 10, 36]⟩ .nil .nil))) (.seq .nil (.seq .nil (.seq .nil (.seq .nil (.seq (.seq .nil (.blk (.loopB ⟨[⟨false, 13, 0, (.int .i64), [], false⟩, ⟨false, 14, 0, (.int .i64), [], false⟩, ⟨false, 64, 0, (.int .i64), [], false⟩], [3, 5, 9, 10, 36]⟩ ⟨[⟨false, 13, 0, (.int .i64), [], false⟩, ⟨false, 14, 0, (.int .i64), [], false⟩], [3, 5, 9, 10, 36]⟩ 0 (.seq .nil (.seq .nil (.seq (.blk (.seq .nil (.seq .nil (.seq (.seq .nil (.blk (.loopB ⟨[⟨false, 17, 0, (.int .i64), [], false⟩, ⟨false, 71, 0, (.int .i64), [], false⟩], [3, 5, 9, 10, 36]⟩ ⟨[⟨false, 17, 0, (.int .i64), [], false⟩], [3, 5, 9, 10, 36]⟩ 2 (.seq .nil (.seq .nil (.seq (.blk (.seq .nil (.seq .nil (.join ⟨[⟨false, 17, 0, (.int .i64), [], false⟩], [3, 5, 9, 10, 36]⟩ .nil .nil)))) .nil)))))) (.seq .nil (.seq .nil (.join ⟨[⟨false, 13, 0, (.int .i64), [], false⟩, ⟨false, 14, 0, (.int .i64), [], false⟩], [3, 5, 9, 10, 36]⟩ .nil .nil))))))) .nil)))))) .nil))))))))
def an_cobbleref09_Next : Ann := (.seq .nil (.seq .nil (.seq .nil (.seq .nil (.seq .nil (.seq (.seq .nil (.blk (.loopB ⟨[⟨false, 11, 0, (.int .i64), [], false⟩, ⟨false, 12, 0, (.int .i64), [], false⟩, ⟨false, 13, 0, (.int .i64), [], false⟩], [3, 5]⟩ ⟨[⟨false, 11, 0, (.int .i64), [], false⟩, ⟨false, 12, 0, (.int .i64), [], false⟩], [3, 5]⟩ 0 (.seq .nil (.seq (.blk (.seq .nil (.seq (.seq .nil (.blk (.loopB ⟨[⟨false, 14, 0, (.int .i64), [], false⟩, ⟨false, 15, 0, (.int .i64), [], false⟩], [3, 5]⟩ ⟨[⟨false, 14, 0, (.int .i64), [], false⟩], [3, 5]⟩ 2 (.seq .nil (.seq (.blk (.seq .nil (.join ⟨[⟨false, 14, 0, (.int .i64), [], false⟩], [3, 5]⟩ .nil .nil))) .nil))))) (.seq .nil (.seq .nil (.join ⟨[⟨false, 11, 0, (.int .i64), [], false⟩, ⟨false, 12, 0, (.int .i64), [], false⟩], [3, 5]⟩ .nil .nil)))))) .nil))))) .nil))))))
def an_cobblelaw09_TraceNext : Ann := (.seq .nil (.seq .nil (.seq .nil (.seq .nil (.seq .nil (.seq (.seq .nil (.join ⟨[⟨false, 10, 0, (.int .i64), [], false⟩], [3, 5]⟩ .nil .nil)) (.seq (.seq .nil (.join ⟨[⟨false, 10, 0, (.int .i64), [], false⟩], [3, 5]⟩ .nil .nil)) (.seq (.seq .nil (.join ⟨[⟨false, 10, 0, (.int .i64), [], false⟩], [3, 5]⟩ .nil .nil)) .nil))))))))
noncomputable abbrev sg_trace_NextReading : Sig := ⟨53, [Tapi_TraceCourse, (.slice Tapi_TraceCause), Tapi_TraceSearch], [(.int .i64), (.int .i64), (.int .i64)], fun x => trace_NextReading x.1 x.2.1 x.2.2⟩
noncomputable abbrev sg_cobbleref09_Next : Sig := ⟨54, [Tapi_TraceCourse, (.slice Tapi_TraceCause), Tapi_TraceSearch], [(.int .i64), (.int .i64), .bool], fun x => cobbleref09_Next x.1 x.2.1 x.2.2⟩
noncomputable abbrev sg_cobblelaw09_TraceNext : Sig := ⟨7, [Tapi_TraceCourse, (.slice Tapi_TraceCause), Tapi_TraceSearch], [.bool], fun x => cobblelaw09_TraceNext x.1 x.2.1 x.2.2⟩
end Go.Lift

namespace Go.Lift
open Go Go.Proofs
theorem ck_trace_NextReading (c : Dapi_TraceCourse) (l : (List Dapi_TraceCause)) (x : Dapi_TraceSearch) : funK (cx [] [sg_trace_first, sg_trace_unless, sg_trace_openEvidence, sg_trace_evidence_explanations, sg_trace_evidence_every, sg_trace_course_openReadings, sg_trace_course_evidenceOf]) Tryz.f53 an_trace_NextReading [Tapi_TraceCourse, (.slice Tapi_TraceCause), Tapi_TraceSearch] [(.int .i64), (.int .i64), (.int .i64)] (c, l, x) = trace_NextReading c l x := by kernel_rfl

end Go.Lift

namespace Go.Lift
open Go Go.Proofs
theorem ck_cobbleref09_Next (c : Dapi_TraceCourse) (l : (List Dapi_TraceCause)) (x : Dapi_TraceSearch) : funK (cx [] [sg_cobbleref09_Explanations, sg_cobbleref09_Table, sg_cobbleref09_some]) Tryz.f54 an_cobbleref09_Next [Tapi_TraceCourse, (.slice Tapi_TraceCause), Tapi_TraceSearch] [(.int .i64), (.int .i64), .bool] (c, l, x) = cobbleref09_Next c l x := by kernel_rfl

end Go.Lift

namespace Go.Lift
open Go Go.Proofs
theorem ck_cobblelaw09_TraceNext (c : Dapi_TraceCourse) (l : (List Dapi_TraceCause)) (x : Dapi_TraceSearch) : funK (cx [] [sg_cobblelaw09_awake, sg_cobblelaw09_Few, sg_cobbleref09_CopyCourse, sg_cobblelaw09_light, sg_cobbleref09_CopyCauses, sg_cobbleref09_CopyReadings, sg_cobbleref09_CausesErr, sg_cobbleref09_ReadingsErr, sg_trace_NextReading, sg_cobbleref09_Next]) Tryz.f7 an_cobblelaw09_TraceNext [Tapi_TraceCourse, (.slice Tapi_TraceCause), Tapi_TraceSearch] [.bool] (c, l, x) = cobblelaw09_TraceNext c l x := by kernel_rfl

end Go.Lift

namespace Go.Lift
open Go Go.Proofs

end Go.Lift

namespace Go.Lift
open Go Go.Proofs
set_option maxRecDepth 100000
section
variable (m_slices_Clone_uint32 : Has Tryz.prog sg_slices_Clone_uint32) (m_trace_evidence_explanations : Has Tryz.prog sg_trace_evidence_explanations) (m_strings_Join : Has Tryz.prog sg_strings_Join) (m_strconv_Itoa : Has Tryz.prog sg_strconv_Itoa)
include m_slices_Clone_uint32 m_trace_evidence_explanations in
theorem h_trace_NextReading : Has Tryz.prog sg_trace_NextReading :=
  has_of prog_mixed tys_ok nfs_ok eqs_ok (own := []) (all_cons h_trace_first (all_cons h_trace_unless (all_cons (h_trace_openEvidence m_slices_Clone_uint32) (all_cons m_trace_evidence_explanations (all_cons h_trace_evidence_every (all_cons (h_trace_course_openReadings m_slices_Clone_uint32) (all_cons (h_trace_course_evidenceOf m_slices_Clone_uint32) all_nil))))))) (n := an_trace_NextReading) Tryz.func53 (by kernel_rfl) fun x => ck_trace_NextReading x.1 x.2.1 x.2.2
theorem h_cobbleref09_Next : Has Tryz.prog sg_cobbleref09_Next :=
  has_of prog_mixed tys_ok nfs_ok eqs_ok (own := []) (all_cons h_cobbleref09_Explanations (all_cons h_cobbleref09_Table (all_cons h_cobbleref09_some all_nil))) (n := an_cobbleref09_Next) Tryz.func54 (by kernel_rfl) fun x => ck_cobbleref09_Next x.1 x.2.1 x.2.2
include m_slices_Clone_uint32 m_trace_evidence_explanations m_strings_Join m_strconv_Itoa in
theorem h_cobblelaw09_TraceNext : Has Tryz.prog sg_cobblelaw09_TraceNext :=
  has_of prog_mixed tys_ok nfs_ok eqs_ok (own := []) (all_cons (h_cobblelaw09_awake m_slices_Clone_uint32 m_trace_evidence_explanations m_strings_Join m_strconv_Itoa) (all_cons h_cobblelaw09_Few (all_cons h_cobbleref09_CopyCourse (all_cons h_cobblelaw09_light (all_cons h_cobbleref09_CopyCauses (all_cons h_cobbleref09_CopyReadings (all_cons h_cobbleref09_CausesErr (all_cons h_cobbleref09_ReadingsErr (all_cons (h_trace_NextReading m_slices_Clone_uint32 m_trace_evidence_explanations) (all_cons h_cobbleref09_Next all_nil)))))))))) (n := an_cobblelaw09_TraceNext) Tryz.func7 (by kernel_rfl) fun x => ck_cobblelaw09_TraceNext x.1 x.2.1 x.2.2
end
end Go.Lift
