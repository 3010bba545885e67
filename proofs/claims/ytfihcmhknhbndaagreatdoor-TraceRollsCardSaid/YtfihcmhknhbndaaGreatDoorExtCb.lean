/-
  The contracts of the functions of causes and evidence.
-/
import Derived.Test.YtfihcmhknhbndaaGreatDoorFunCb
import Derived.Test.YtfihcmhknhbndaaGreatDoorFunT
import Derived.Test.YtfihcmhknhbndaaGreatDoorFunH
set_option linter.unusedSectionVars false
set_option linter.unusedVariables false
set_option linter.unusedSimpArgs false
namespace Go.Lift
open Go Go.Proofs
def an_r9_ReadingErr : Ann := .nil
noncomputable abbrev sg_r9_ReadingErr : Sig := ⟨48, [Tapi_TraceCourse, Tapi_TraceReading], [(.int .i64)], fun x => r9_ReadingErr x.1 x.2⟩
end Go.Lift
namespace Go.Lift
open Go Go.Proofs
end Go.Lift
namespace Go.Lift
open Go Go.Proofs
end Go.Lift
namespace Go.Lift
open Go Go.Proofs
theorem ck_r9_ReadingErr (c : Dapi_TraceCourse) (r : Dapi_TraceReading) : funK (cx [] [sg_b0_RatioInt, sg_b0_RatioCmp, sg_r9_StepsErr, sg_r9_After, sg_r9_Strip_Length]) Tryz.f48 an_r9_ReadingErr [Tapi_TraceCourse, Tapi_TraceReading] [(.int .i64)] (c, r) = r9_ReadingErr c r := by kernel_rfl
end Go.Lift
namespace Go.Lift
open Go Go.Proofs
end Go.Lift
namespace Go.Lift
open Go Go.Proofs
set_option maxRecDepth 100000
section
variable (m_slices_Clone_uint32 : Has Tryz.prog sg_slices_Clone_uint32)
theorem h_r9_ReadingErr : Has Tryz.prog sg_r9_ReadingErr :=
  has_of prog_mixed tys_ok nfs_ok eqs_ok (own := []) (all_cons h_b0_RatioInt (all_cons h_b0_RatioCmp (all_cons h_r9_StepsErr (all_cons h_r9_After (all_cons h_r9_Strip_Length all_nil))))) (n := an_r9_ReadingErr) Tryz.func48 (by kernel_rfl) fun x => ck_r9_ReadingErr x.1 x.2
end
end Go.Lift
