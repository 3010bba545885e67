/-
  The contracts of the functions of causes and evidence.
-/
import Derived.Test.YtfihcmhknhbndaaGreatDoorFunCb
import Derived.Test.YtfihcmhknhbndaaGreatDoorFunT
import Derived.Test.YtfihcmhknhbndaaGreatDoorFunH
set_option linter.unusedSectionVars false
set_option linter.unusedVariables false
set_option linter.unusedSimpArgs false
namespace Go.Lift
open Go Go.Proofs
def an_r9_CopyCauses : Ann := .nil
def an_r9_CopyReadings : Ann := .nil
def an_r9_ReadingErr : Ann := .nil
def an_r9_ReadingsErr : Ann := (.seq .nil (.seq .nil (.seq (.seq .nil (.blk (.loopBD ⟨[⟨false, 5, 0, (.int .i64), [], false⟩], [2]⟩ ⟨[], [2]⟩ 0 .nil))) .nil)))
def an_r9_CheckCauses : Ann := (.seq .nil (.seq .nil (.seq .nil (.seq (.seq .nil (.blk (.loopBD ⟨[⟨false, 7, 0, (.int .i64), [], false⟩], [2]⟩ ⟨[], [2]⟩ 0 (.seq .nil (.seq (.blk (.seq .nil (.seq .nil (.seq (.seq .nil (.blk (.loopBD ⟨[⟨false, 9, 0, (.int .i64), [], false⟩], [2, 8]⟩ ⟨[], [2, 8]⟩ 2 .nil))) .nil)))) .nil))))) .nil))))
def an_r9_CausesErr : Ann := .nil
def an_l9_light : Ann := .nil
noncomputable abbrev sg_r9_CopyCauses : Sig := ⟨29, [(.slice Tapi_TraceCause)], [(.slice Tapi_TraceCause)], fun x => r9_CopyCauses x⟩
noncomputable abbrev sg_r9_CopyReadings : Sig := ⟨30, [(.slice Tapi_TraceReading)], [(.slice Tapi_TraceReading)], fun x => r9_CopyReadings x⟩
noncomputable abbrev sg_r9_ReadingErr : Sig := ⟨48, [Tapi_TraceCourse, Tapi_TraceReading], [(.int .i64)], fun x => r9_ReadingErr x.1 x.2⟩
noncomputable abbrev sg_r9_ReadingsErr : Sig := ⟨33, [Tapi_TraceCourse, (.slice Tapi_TraceReading)], [(.int .i64)], fun x => r9_ReadingsErr x.1 x.2⟩
noncomputable abbrev sg_r9_CheckCauses : Sig := ⟨47, [Tapi_TraceCourse, (.slice Tapi_TraceCause)], [(.int .i64), (.int .i64)], fun x => r9_CheckCauses x.1 x.2⟩
noncomputable abbrev sg_r9_CausesErr : Sig := ⟨32, [Tapi_TraceCourse, (.slice Tapi_TraceCause)], [(.int .i64)], fun x => r9_CausesErr x.1 x.2⟩
noncomputable abbrev sg_l9_light : Sig := ⟨27, [(.slice Tapi_TraceCause), (.slice Tapi_TraceReading)], [.bool], fun x => l9_light x.1 x.2⟩
end Go.Lift
namespace Go.Lift
open Go Go.Proofs
theorem ck_r9_CopyCauses (l : (List Dapi_TraceCause)) : funK (cx [] []) Tryz.f29 an_r9_CopyCauses [(.slice Tapi_TraceCause)] [(.slice Tapi_TraceCause)] l = r9_CopyCauses l := by kernel_rfl
theorem ck_r9_CheckCauses (c : Dapi_TraceCourse) (l : (List Dapi_TraceCause)) : funK (cx [] [sg_r9_CourseErr, sg_b0_Within, sg_r9_StepsErr, sg_b0_IsName]) Tryz.f47 an_r9_CheckCauses [Tapi_TraceCourse, (.slice Tapi_TraceCause)] [(.int .i64), (.int .i64)] (c, l) = r9_CheckCauses c l := by kernel_rfl
end Go.Lift
namespace Go.Lift
open Go Go.Proofs
theorem ck_r9_CopyReadings (l : (List Dapi_TraceReading)) : funK (cx [] []) Tryz.f30 an_r9_CopyReadings [(.slice Tapi_TraceReading)] [(.slice Tapi_TraceReading)] l = r9_CopyReadings l := by kernel_rfl
theorem ck_r9_CausesErr (c : Dapi_TraceCourse) (l : (List Dapi_TraceCause)) : funK (cx [] [sg_r9_CheckCauses]) Tryz.f32 an_r9_CausesErr [Tapi_TraceCourse, (.slice Tapi_TraceCause)] [(.int .i64)] (c, l) = r9_CausesErr c l := by kernel_rfl
end Go.Lift
namespace Go.Lift
open Go Go.Proofs
theorem ck_r9_ReadingErr (c : Dapi_TraceCourse) (r : Dapi_TraceReading) : funK (cx [] [sg_b0_RatioInt, sg_b0_RatioCmp, sg_r9_StepsErr, sg_r9_After, sg_r9_Strip_Length]) Tryz.f48 an_r9_ReadingErr [Tapi_TraceCourse, Tapi_TraceReading] [(.int .i64)] (c, r) = r9_ReadingErr c r := by kernel_rfl
theorem ck_l9_light (l : (List Dapi_TraceCause)) (r : (List Dapi_TraceReading)) : funK (cx [] []) Tryz.f27 an_l9_light [(.slice Tapi_TraceCause), (.slice Tapi_TraceReading)] [.bool] (l, r) = l9_light l r := by kernel_rfl
end Go.Lift
namespace Go.Lift
open Go Go.Proofs
theorem ck_r9_ReadingsErr (c : Dapi_TraceCourse) (l : (List Dapi_TraceReading)) : funK (cx [] [sg_r9_ReadingErr]) Tryz.f33 an_r9_ReadingsErr [Tapi_TraceCourse, (.slice Tapi_TraceReading)] [(.int .i64)] (c, l) = r9_ReadingsErr c l := by kernel_rfl
end Go.Lift
namespace Go.Lift
open Go Go.Proofs
set_option maxRecDepth 100000
section
variable (m_slices_Clone_uint32 : Has Tryz.prog sg_slices_Clone_uint32)
theorem h_r9_CopyCauses : Has Tryz.prog sg_r9_CopyCauses :=
  has_of prog_mixed tys_ok nfs_ok eqs_ok (own := []) all_nil (n := an_r9_CopyCauses) Tryz.func29 (by kernel_rfl) fun x => ck_r9_CopyCauses x
theorem h_r9_CopyReadings : Has Tryz.prog sg_r9_CopyReadings :=
  has_of prog_mixed tys_ok nfs_ok eqs_ok (own := []) all_nil (n := an_r9_CopyReadings) Tryz.func30 (by kernel_rfl) fun x => ck_r9_CopyReadings x
theorem h_r9_ReadingErr : Has Tryz.prog sg_r9_ReadingErr :=
  has_of prog_mixed tys_ok nfs_ok eqs_ok (own := []) (all_cons h_b0_RatioInt (all_cons h_b0_RatioCmp (all_cons h_r9_StepsErr (all_cons h_r9_After (all_cons h_r9_Strip_Length all_nil))))) (n := an_r9_ReadingErr) Tryz.func48 (by kernel_rfl) fun x => ck_r9_ReadingErr x.1 x.2
theorem h_r9_ReadingsErr : Has Tryz.prog sg_r9_ReadingsErr :=
  has_of prog_mixed tys_ok nfs_ok eqs_ok (own := []) (all_cons h_r9_ReadingErr all_nil) (n := an_r9_ReadingsErr) Tryz.func33 (by kernel_rfl) fun x => ck_r9_ReadingsErr x.1 x.2
theorem h_r9_CheckCauses : Has Tryz.prog sg_r9_CheckCauses :=
  has_of prog_mixed tys_ok nfs_ok eqs_ok (own := []) (all_cons h_r9_CourseErr (all_cons h_b0_Within (all_cons h_r9_StepsErr (all_cons h_b0_IsName all_nil)))) (n := an_r9_CheckCauses) Tryz.func47 (by kernel_rfl) fun x => ck_r9_CheckCauses x.1 x.2
theorem h_r9_CausesErr : Has Tryz.prog sg_r9_CausesErr :=
  has_of prog_mixed tys_ok nfs_ok eqs_ok (own := []) (all_cons h_r9_CheckCauses all_nil) (n := an_r9_CausesErr) Tryz.func32 (by kernel_rfl) fun x => ck_r9_CausesErr x.1 x.2
theorem h_l9_light : Has Tryz.prog sg_l9_light :=
  has_of prog_mixed tys_ok nfs_ok eqs_ok (own := []) all_nil (n := an_l9_light) Tryz.func27 (by kernel_rfl) fun x => ck_l9_light x.1 x.2
end
end Go.Lift
