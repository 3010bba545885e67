/-
  The contracts of the functions of pieces in order.
-/
import Derived.Test.YtfihcmhknhbndaaGreatDoorFunEv
import Derived.Test.YtfihcmhknhbndaaGreatDoorFunT
import Derived.Test.YtfihcmhknhbndaaGreatDoorExtVo
import Derived.Test.YtfihcmhknhbndaaGreatDoorFunH
set_option linter.unusedSectionVars false
set_option linter.unusedVariables false
set_option linter.unusedSimpArgs false
namespace Go.Lift
open Go Go.Proofs
def an_b0_Cmp : Ann := .nil
def an_b0_Floor : Ann := (.seq .nil (.seq .nil (.seq (.seq .nil (.join ⟨[⟨false, 5, 0, (.int .i64), [], false⟩], []⟩ .nil .nil)) .nil)))
def an_b0_Ceil : Ann := .nil
def an_l9_TraceEvery : Ann := (.seq .nil (.seq .nil (.seq .nil (.seq .nil (.seq .nil (.seq .nil (.seq .nil (.seq (.seq .nil (.blk (.loopBD ⟨[⟨false, 10, 0, (.int .i64), [], false⟩], [3]⟩ ⟨[], [3]⟩ 0 .nil))) .nil))))))))
noncomputable abbrev sg_b0_Cmp : Sig := ⟨22, [Tapi_Frac, Tapi_Frac], [(.int .i64)], fun x => b0_Cmp x.1 x.2⟩
noncomputable abbrev sg_b0_Floor : Sig := ⟨26, [(.int .i64), (.int .i64)], [(.int .i64)], fun x => b0_Floor x.1 x.2⟩
noncomputable abbrev sg_b0_Ceil : Sig := ⟨25, [(.int .i64), (.int .i64)], [(.int .i64)], fun x => b0_Ceil x.1 x.2⟩
noncomputable abbrev sg_l9_TraceEvery : Sig := ⟨3, [Tapi_TraceCourse, (.int .i64), (.int .i64)], [.bool], fun x => l9_TraceEvery x.1 x.2.1 x.2.2⟩
end Go.Lift

namespace Go.Lift
open Go Go.Proofs
theorem ck_b0_Cmp (a : Dapi_Frac) (b : Dapi_Frac) : funK (cx [] []) Tryz.f22 an_b0_Cmp [Tapi_Frac, Tapi_Frac] [(.int .i64)] (a, b) = b0_Cmp a b := by kernel_rfl

end Go.Lift

namespace Go.Lift
open Go Go.Proofs
theorem ck_b0_Floor (n : Int) (by_ : Int) : funK (cx [] []) Tryz.f26 an_b0_Floor [(.int .i64), (.int .i64)] [(.int .i64)] (n, by_) = b0_Floor n by_ := by kernel_rfl

end Go.Lift

namespace Go.Lift
open Go Go.Proofs
theorem ck_b0_Ceil (n : Int) (by_ : Int) : funK (cx [] [sg_b0_Floor]) Tryz.f25 an_b0_Ceil [(.int .i64), (.int .i64)] [(.int .i64)] (n, by_) = b0_Ceil n by_ := by kernel_rfl

end Go.Lift

namespace Go.Lift
open Go Go.Proofs
theorem ck_l9_TraceEvery (c : Dapi_TraceCourse) (size_ : Int) (at_ : Int) : funK (cx [] [sg_l9_awake, sg_l9_Few, sg_r9_CourseErr, sg_b0_Within, sg_trace_PiecesOf, sg_r9_CopyCourse, sg_b0_IsLowest, sg_b0_IsSmall, sg_b0_Cmp, sg_trace_PlaceOf, sg_trace_LengthAfter, sg_b0_Ceil, sg_b0_Floor]) Tryz.f3 an_l9_TraceEvery [Tapi_TraceCourse, (.int .i64), (.int .i64)] [.bool] (c, size_, at_) = l9_TraceEvery c size_ at_ := by kernel_rfl

end Go.Lift

namespace Go.Lift
open Go Go.Proofs
set_option maxRecDepth 100000
section
variable (m_slices_Clone_uint32 : Has Tryz.prog sg_slices_Clone_uint32) (m_trace_evidence_explanations : Has Tryz.prog sg_trace_evidence_explanations) (m_strings_Join : Has Tryz.prog sg_strings_Join) (m_strconv_Itoa : Has Tryz.prog sg_strconv_Itoa)
theorem h_b0_Cmp : Has Tryz.prog sg_b0_Cmp :=
  has_of prog_mixed tys_ok nfs_ok eqs_ok (own := []) all_nil (n := an_b0_Cmp) Tryz.func22 (by kernel_rfl) fun x => ck_b0_Cmp x.1 x.2
theorem h_b0_Floor : Has Tryz.prog sg_b0_Floor :=
  has_of prog_mixed tys_ok nfs_ok eqs_ok (own := []) all_nil (n := an_b0_Floor) Tryz.func26 (by kernel_rfl) fun x => ck_b0_Floor x.1 x.2
theorem h_b0_Ceil : Has Tryz.prog sg_b0_Ceil :=
  has_of prog_mixed tys_ok nfs_ok eqs_ok (own := []) (all_cons h_b0_Floor all_nil) (n := an_b0_Ceil) Tryz.func25 (by kernel_rfl) fun x => ck_b0_Ceil x.1 x.2
include m_slices_Clone_uint32 m_trace_evidence_explanations m_strings_Join m_strconv_Itoa in
theorem h_l9_TraceEvery : Has Tryz.prog sg_l9_TraceEvery :=
  has_of prog_mixed tys_ok nfs_ok eqs_ok (own := []) (all_cons (h_l9_awake m_slices_Clone_uint32 m_trace_evidence_explanations m_strings_Join m_strconv_Itoa) (all_cons h_l9_Few (all_cons h_r9_CourseErr (all_cons h_b0_Within (all_cons (h_trace_PiecesOf m_slices_Clone_uint32) (all_cons h_r9_CopyCourse (all_cons h_b0_IsLowest (all_cons h_b0_IsSmall (all_cons h_b0_Cmp (all_cons (h_trace_PlaceOf m_slices_Clone_uint32) (all_cons (h_trace_LengthAfter m_slices_Clone_uint32) (all_cons h_b0_Ceil (all_cons h_b0_Floor all_nil))))))))))))) (n := an_l9_TraceEvery) Tryz.func3 (by kernel_rfl) fun x => ck_l9_TraceEvery x.1 x.2.1 x.2.2
end
end Go.Lift
