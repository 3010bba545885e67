/-
  The contracts of the functions of volumes.
-/
import Derived.Test.YtfihcmhknhbndaaGreatDoorFunVo
import Derived.Test.YtfihcmhknhbndaaGreatDoorFunT
import Derived.Test.YtfihcmhknhbndaaGreatDoorFunH
set_option linter.unusedSectionVars false
set_option linter.unusedVariables false
set_option linter.unusedSimpArgs false
namespace Go.Lift
open Go Go.Proofs
def an_b0_Gcd : Ann := (.seq .nil (.seq (.blk (.loopB ⟨[⟨false, 0, 0, (.int .i64), [], false⟩, ⟨false, 1, 0, (.int .i64), [], false⟩], []⟩ ⟨[⟨false, 0, 0, (.int .i64), [], false⟩], []⟩ 0 .nil)) .nil))
def an_b0_IsLowest : Ann := .nil
noncomputable abbrev sg_b0_Gcd : Sig := ⟨104, [(.int .i64), (.int .i64)], [(.int .i64)], fun x => b0_Gcd x.1 x.2⟩
noncomputable abbrev sg_b0_IsLowest : Sig := ⟨20, [Tapi_Frac], [.bool], fun x => b0_IsLowest x⟩
end Go.Lift
namespace Go.Lift
open Go Go.Proofs
theorem ck_b0_Gcd (a : Int) (b : Int) : funK (cx [] [sg_b0_Size]) Tryz.f104 an_b0_Gcd [(.int .i64), (.int .i64)] [(.int .i64)] (a, b) = b0_Gcd a b := by kernel_rfl
end Go.Lift
namespace Go.Lift
open Go Go.Proofs
theorem ck_b0_IsLowest (f : Dapi_Frac) : funK (cx [] [sg_b0_Gcd]) Tryz.f20 an_b0_IsLowest [Tapi_Frac] [.bool] f = b0_IsLowest f := by kernel_rfl
end Go.Lift
namespace Go.Lift
open Go Go.Proofs
end Go.Lift
namespace Go.Lift
open Go Go.Proofs
end Go.Lift
namespace Go.Lift
open Go Go.Proofs
set_option maxRecDepth 100000
section
variable (m_slices_Clone_uint32 : Has Tryz.prog sg_slices_Clone_uint32) (m_trace_evidence_explanations : Has Tryz.prog sg_trace_evidence_explanations) (m_strings_Join : Has Tryz.prog sg_strings_Join) (m_strconv_Itoa : Has Tryz.prog sg_strconv_Itoa)
theorem h_b0_Gcd : Has Tryz.prog sg_b0_Gcd :=
  has_of prog_mixed tys_ok nfs_ok eqs_ok (own := []) (all_cons h_b0_Size all_nil) (n := an_b0_Gcd) Tryz.func104 (by kernel_rfl) fun x => ck_b0_Gcd x.1 x.2
theorem h_b0_IsLowest : Has Tryz.prog sg_b0_IsLowest :=
  has_of prog_mixed tys_ok nfs_ok eqs_ok (own := []) (all_cons h_b0_Gcd all_nil) (n := an_b0_IsLowest) Tryz.func20 (by kernel_rfl) fun x => ck_b0_IsLowest x
end
end Go.Lift
