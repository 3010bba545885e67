/-
  The contracts of the functions of pieces in order.
-/
import Derived.Test.YtfihcmhknhbndaaGreatDoorFunEv
import Derived.Test.YtfihcmhknhbndaaGreatDoorFunT
import Derived.Test.YtfihcmhknhbndaaGreatDoorExtVo
import Derived.Test.YtfihcmhknhbndaaGreatDoorFunH
set_option linter.unusedSectionVars false
set_option linter.unusedVariables false
set_option linter.unusedSimpArgs false
namespace Go.Lift
open Go Go.Proofs
def an_b0_Cmp : Ann := .nil
noncomputable abbrev sg_b0_Cmp : Sig := ⟨22, [Tapi_Frac, Tapi_Frac], [(.int .i64)], fun x => b0_Cmp x.1 x.2⟩
end Go.Lift
namespace Go.Lift
open Go Go.Proofs
theorem ck_b0_Cmp (a : Dapi_Frac) (b : Dapi_Frac) : funK (cx [] []) Tryz.f22 an_b0_Cmp [Tapi_Frac, Tapi_Frac] [(.int .i64)] (a, b) = b0_Cmp a b := by kernel_rfl
end Go.Lift
namespace Go.Lift
open Go Go.Proofs
end Go.Lift
namespace Go.Lift
open Go Go.Proofs
end Go.Lift
namespace Go.Lift
open Go Go.Proofs
end Go.Lift
namespace Go.Lift
open Go Go.Proofs
set_option maxRecDepth 100000
section
variable (m_slices_Clone_uint32 : Has Tryz.prog sg_slices_Clone_uint32) (m_trace_evidence_explanations : Has Tryz.prog sg_trace_evidence_explanations) (m_strings_Join : Has Tryz.prog sg_strings_Join) (m_strconv_Itoa : Has Tryz.prog sg_strconv_Itoa)
theorem h_b0_Cmp : Has Tryz.prog sg_b0_Cmp :=
  has_of prog_mixed tys_ok nfs_ok eqs_ok (own := []) all_nil (n := an_b0_Cmp) Tryz.func22 (by kernel_rfl) fun x => ck_b0_Cmp x.1 x.2
end
end Go.Lift
