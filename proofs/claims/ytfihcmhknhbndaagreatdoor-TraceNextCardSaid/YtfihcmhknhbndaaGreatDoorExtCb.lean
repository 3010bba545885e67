/-
  The contracts of the functions of causes and evidence.
-/
import Derived.Test.YtfihcmhknhbndaaGreatDoorFunCb
import Derived.Test.YtfihcmhknhbndaaGreatDoorFunT
import Derived.Test.YtfihcmhknhbndaaGreatDoorFunH
set_option linter.unusedSectionVars false
set_option linter.unusedVariables false
set_option linter.unusedSimpArgs false
namespace Go.Lift
open Go Go.Proofs
def an_cobbleref09_CopyCauses : Ann := .nil
def an_cobbleref09_CopyReadings : Ann := .nil
def an_cobbleref09_ReadingErr : Ann := .nil
def an_cobbleref09_ReadingsErr : Ann := (.seq .nil (.seq .nil (.seq (.seq .nil (.blk (.loopBD ⟨[⟨false, 5, 0, (.int .i64), [], false⟩], [2]⟩ ⟨[], [2]⟩ 0 .nil))) .nil)))
def an_cobbleref09_CheckCauses : Ann := (.seq .nil (.seq .nil (.seq .nil (.seq (.seq .nil (.blk (.loopBD ⟨[⟨false, 7, 0, (.int .i64), [], false⟩], [2]⟩ ⟨[], [2]⟩ 0 (.seq .nil (.seq (.blk (.seq .nil (.seq .nil (.seq (.seq .nil (.blk (.loopBD ⟨[⟨false, 9, 0, (.int .i64), [], false⟩], [2, 8]⟩ ⟨[], [2, 8]⟩ 2 .nil))) .nil)))) .nil))))) .nil))))
def an_cobbleref09_CausesErr : Ann := .nil
def an_cobblelaw09_light : Ann := .nil
def an_trace_Contradiction : Ann := .nil
noncomputable abbrev sg_cobbleref09_CopyCauses : Sig := ⟨29, [(.slice Tapi_TraceCause)], [(.slice Tapi_TraceCause)], fun x => cobbleref09_CopyCauses x⟩
noncomputable abbrev sg_cobbleref09_CopyReadings : Sig := ⟨30, [(.slice Tapi_TraceReading)], [(.slice Tapi_TraceReading)], fun x => cobbleref09_CopyReadings x⟩
noncomputable abbrev sg_cobbleref09_ReadingErr : Sig := ⟨48, [Tapi_TraceCourse, Tapi_TraceReading], [(.int .i64)], fun x => cobbleref09_ReadingErr x.1 x.2⟩
noncomputable abbrev sg_cobbleref09_ReadingsErr : Sig := ⟨33, [Tapi_TraceCourse, (.slice Tapi_TraceReading)], [(.int .i64)], fun x => cobbleref09_ReadingsErr x.1 x.2⟩
noncomputable abbrev sg_cobbleref09_CheckCauses : Sig := ⟨47, [Tapi_TraceCourse, (.slice Tapi_TraceCause)], [(.int .i64), (.int .i64)], fun x => cobbleref09_CheckCauses x.1 x.2⟩
noncomputable abbrev sg_cobbleref09_CausesErr : Sig := ⟨32, [Tapi_TraceCourse, (.slice Tapi_TraceCause)], [(.int .i64)], fun x => cobbleref09_CausesErr x.1 x.2⟩
noncomputable abbrev sg_cobblelaw09_light : Sig := ⟨27, [(.slice Tapi_TraceCause), (.slice Tapi_TraceReading)], [.bool], fun x => cobblelaw09_light x.1 x.2⟩
noncomputable abbrev sg_trace_Contradiction : Sig := ⟨45, [Tapi_TraceCourse, (.slice Tapi_TraceCause), (.slice Tapi_TraceReading)], [(.int .i64), (.int .i64)], fun x => trace_Contradiction x.1 x.2.1 x.2.2⟩
end Go.Lift

namespace Go.Lift
open Go Go.Proofs
theorem ck_cobbleref09_CopyCauses (l : (List Dapi_TraceCause)) : funK (cx [] []) Tryz.f29 an_cobbleref09_CopyCauses [(.slice Tapi_TraceCause)] [(.slice Tapi_TraceCause)] l = cobbleref09_CopyCauses l := by kernel_rfl

theorem ck_cobbleref09_CheckCauses (c : Dapi_TraceCourse) (l : (List Dapi_TraceCause)) : funK (cx [] [sg_cobbleref09_CourseErr, sg_cobblebase_Within, sg_cobbleref09_StepsErr, sg_cobblebase_IsName]) Tryz.f47 an_cobbleref09_CheckCauses [Tapi_TraceCourse, (.slice Tapi_TraceCause)] [(.int .i64), (.int .i64)] (c, l) = cobbleref09_CheckCauses c l := by kernel_rfl

end Go.Lift

namespace Go.Lift
open Go Go.Proofs
theorem ck_cobbleref09_CopyReadings (l : (List Dapi_TraceReading)) : funK (cx [] []) Tryz.f30 an_cobbleref09_CopyReadings [(.slice Tapi_TraceReading)] [(.slice Tapi_TraceReading)] l = cobbleref09_CopyReadings l := by kernel_rfl

theorem ck_cobbleref09_CausesErr (c : Dapi_TraceCourse) (l : (List Dapi_TraceCause)) : funK (cx [] [sg_cobbleref09_CheckCauses]) Tryz.f32 an_cobbleref09_CausesErr [Tapi_TraceCourse, (.slice Tapi_TraceCause)] [(.int .i64)] (c, l) = cobbleref09_CausesErr c l := by kernel_rfl

end Go.Lift

namespace Go.Lift
open Go Go.Proofs
theorem ck_cobbleref09_ReadingErr (c : Dapi_TraceCourse) (r : Dapi_TraceReading) : funK (cx [] [sg_cobblebase_RatioInt, sg_cobblebase_RatioCmp, sg_cobbleref09_StepsErr, sg_cobbleref09_After, sg_cobbleref09_Strip_Length]) Tryz.f48 an_cobbleref09_ReadingErr [Tapi_TraceCourse, Tapi_TraceReading] [(.int .i64)] (c, r) = cobbleref09_ReadingErr c r := by kernel_rfl

theorem ck_cobblelaw09_light (l : (List Dapi_TraceCause)) (r : (List Dapi_TraceReading)) : funK (cx [] []) Tryz.f27 an_cobblelaw09_light [(.slice Tapi_TraceCause), (.slice Tapi_TraceReading)] [.bool] (l, r) = cobblelaw09_light l r := by kernel_rfl

end Go.Lift

namespace Go.Lift
open Go Go.Proofs
theorem ck_cobbleref09_ReadingsErr (c : Dapi_TraceCourse) (l : (List Dapi_TraceReading)) : funK (cx [] [sg_cobbleref09_ReadingErr]) Tryz.f33 an_cobbleref09_ReadingsErr [Tapi_TraceCourse, (.slice Tapi_TraceReading)] [(.int .i64)] (c, l) = cobbleref09_ReadingsErr c l := by kernel_rfl

theorem ck_trace_Contradiction (c : Dapi_TraceCourse) (l : (List Dapi_TraceCause)) (r : (List Dapi_TraceReading)) : funK (cx [] [sg_trace_openEvidence, sg_trace_evidence_every, sg_trace_evidence_firstWrong]) Tryz.f45 an_trace_Contradiction [Tapi_TraceCourse, (.slice Tapi_TraceCause), (.slice Tapi_TraceReading)] [(.int .i64), (.int .i64)] (c, l, r) = trace_Contradiction c l r := by kernel_rfl

end Go.Lift

namespace Go.Lift
open Go Go.Proofs
set_option maxRecDepth 100000
section
variable (m_slices_Clone_uint32 : Has Tryz.prog sg_slices_Clone_uint32)
theorem h_cobbleref09_CopyCauses : Has Tryz.prog sg_cobbleref09_CopyCauses :=
  has_of prog_mixed tys_ok nfs_ok eqs_ok (own := []) all_nil (n := an_cobbleref09_CopyCauses) Tryz.func29 (by kernel_rfl) fun x => ck_cobbleref09_CopyCauses x
theorem h_cobbleref09_CopyReadings : Has Tryz.prog sg_cobbleref09_CopyReadings :=
  has_of prog_mixed tys_ok nfs_ok eqs_ok (own := []) all_nil (n := an_cobbleref09_CopyReadings) Tryz.func30 (by kernel_rfl) fun x => ck_cobbleref09_CopyReadings x
theorem h_cobbleref09_ReadingErr : Has Tryz.prog sg_cobbleref09_ReadingErr :=
  has_of prog_mixed tys_ok nfs_ok eqs_ok (own := []) (all_cons h_cobblebase_RatioInt (all_cons h_cobblebase_RatioCmp (all_cons h_cobbleref09_StepsErr (all_cons h_cobbleref09_After (all_cons h_cobbleref09_Strip_Length all_nil))))) (n := an_cobbleref09_ReadingErr) Tryz.func48 (by kernel_rfl) fun x => ck_cobbleref09_ReadingErr x.1 x.2
theorem h_cobbleref09_ReadingsErr : Has Tryz.prog sg_cobbleref09_ReadingsErr :=
  has_of prog_mixed tys_ok nfs_ok eqs_ok (own := []) (all_cons h_cobbleref09_ReadingErr all_nil) (n := an_cobbleref09_ReadingsErr) Tryz.func33 (by kernel_rfl) fun x => ck_cobbleref09_ReadingsErr x.1 x.2
theorem h_cobbleref09_CheckCauses : Has Tryz.prog sg_cobbleref09_CheckCauses :=
  has_of prog_mixed tys_ok nfs_ok eqs_ok (own := []) (all_cons h_cobbleref09_CourseErr (all_cons h_cobblebase_Within (all_cons h_cobbleref09_StepsErr (all_cons h_cobblebase_IsName all_nil)))) (n := an_cobbleref09_CheckCauses) Tryz.func47 (by kernel_rfl) fun x => ck_cobbleref09_CheckCauses x.1 x.2
theorem h_cobbleref09_CausesErr : Has Tryz.prog sg_cobbleref09_CausesErr :=
  has_of prog_mixed tys_ok nfs_ok eqs_ok (own := []) (all_cons h_cobbleref09_CheckCauses all_nil) (n := an_cobbleref09_CausesErr) Tryz.func32 (by kernel_rfl) fun x => ck_cobbleref09_CausesErr x.1 x.2
theorem h_cobblelaw09_light : Has Tryz.prog sg_cobblelaw09_light :=
  has_of prog_mixed tys_ok nfs_ok eqs_ok (own := []) all_nil (n := an_cobblelaw09_light) Tryz.func27 (by kernel_rfl) fun x => ck_cobblelaw09_light x.1 x.2
include m_slices_Clone_uint32 in
theorem h_trace_Contradiction : Has Tryz.prog sg_trace_Contradiction :=
  has_of prog_mixed tys_ok nfs_ok eqs_ok (own := []) (all_cons (h_trace_openEvidence m_slices_Clone_uint32) (all_cons h_trace_evidence_every (all_cons h_trace_evidence_firstWrong all_nil))) (n := an_trace_Contradiction) Tryz.func45 (by kernel_rfl) fun x => ck_trace_Contradiction x.1 x.2.1 x.2.2
end
end Go.Lift
