/-
  The contracts of the functions of pieces in order.
-/
import Derived.Test.YtfihcmhknhbndaaGreatDoorFunEv
import Derived.Test.YtfihcmhknhbndaaGreatDoorFunT
import Derived.Test.YtfihcmhknhbndaaGreatDoorExtCo
import Derived.Test.YtfihcmhknhbndaaGreatDoorExtVo
import Derived.Test.YtfihcmhknhbndaaGreatDoorFunH
set_option linter.unusedSectionVars false
set_option linter.unusedVariables false
set_option linter.unusedSimpArgs false
namespace Go.Lift
open Go Go.Proofs
def an_cobblebase_Cmp : Ann := .nil
def an_cobblebase_Floor : Ann := (.seq .nil (.seq .nil (.seq (.seq .nil (.join ⟨[⟨false, 5, 0, (.int .i64), [], false⟩], []⟩ .nil .nil)) .nil)))
def an_cobblebase_Ceil : Ann := .nil
def an_cobblelaw09_TraceEvery : Ann := (.seq .nil (.seq .nil (.seq .nil (.seq .nil (.seq .nil (.seq .nil (.seq .nil (.seq (.seq .nil (.blk (.loopBD ⟨[⟨false, 10, 0, (.int .i64), [], false⟩], [3]⟩ ⟨[], [3]⟩ 0 .nil))) .nil))))))))
noncomputable abbrev sg_cobblebase_Cmp : Sig := ⟨22, [Tapi_Frac, Tapi_Frac], [(.int .i64)], fun x => cobblebase_Cmp x.1 x.2⟩
noncomputable abbrev sg_cobblebase_Floor : Sig := ⟨26, [(.int .i64), (.int .i64)], [(.int .i64)], fun x => cobblebase_Floor x.1 x.2⟩
noncomputable abbrev sg_cobblebase_Ceil : Sig := ⟨25, [(.int .i64), (.int .i64)], [(.int .i64)], fun x => cobblebase_Ceil x.1 x.2⟩
noncomputable abbrev sg_cobblelaw09_TraceEvery : Sig := ⟨3, [Tapi_TraceCourse, (.int .i64), (.int .i64)], [.bool], fun x => cobblelaw09_TraceEvery x.1 x.2.1 x.2.2⟩
end Go.Lift

namespace Go.Lift
open Go Go.Proofs
theorem ck_cobblebase_Cmp (a : Dapi_Frac) (b : Dapi_Frac) : funK (cx [] []) Tryz.f22 an_cobblebase_Cmp [Tapi_Frac, Tapi_Frac] [(.int .i64)] (a, b) = cobblebase_Cmp a b := by kernel_rfl

end Go.Lift

namespace Go.Lift
open Go Go.Proofs
theorem ck_cobblebase_Floor (n : Int) (by_ : Int) : funK (cx [] []) Tryz.f26 an_cobblebase_Floor [(.int .i64), (.int .i64)] [(.int .i64)] (n, by_) = cobblebase_Floor n by_ := by kernel_rfl

end Go.Lift

namespace Go.Lift
open Go Go.Proofs
theorem ck_cobblebase_Ceil (n : Int) (by_ : Int) : funK (cx [] [sg_cobblebase_Floor]) Tryz.f25 an_cobblebase_Ceil [(.int .i64), (.int .i64)] [(.int .i64)] (n, by_) = cobblebase_Ceil n by_ := by kernel_rfl

end Go.Lift

namespace Go.Lift
open Go Go.Proofs
theorem ck_cobblelaw09_TraceEvery (c : Dapi_TraceCourse) (size_ : Int) (at_ : Int) : funK (cx [] [sg_cobblelaw09_awake, sg_cobblelaw09_Few, sg_cobbleref09_CourseErr, sg_cobblebase_Within, sg_trace_PiecesOf, sg_cobbleref09_CopyCourse, sg_cobblebase_IsLowest, sg_cobblebase_IsSmall, sg_cobblebase_Cmp, sg_trace_PlaceOf, sg_trace_LengthAfter, sg_cobblebase_Ceil, sg_cobblebase_Floor]) Tryz.f3 an_cobblelaw09_TraceEvery [Tapi_TraceCourse, (.int .i64), (.int .i64)] [.bool] (c, size_, at_) = cobblelaw09_TraceEvery c size_ at_ := by kernel_rfl

end Go.Lift

namespace Go.Lift
open Go Go.Proofs
set_option maxRecDepth 100000
section
variable (m_slices_Clone_uint32 : Has Tryz.prog sg_slices_Clone_uint32) (m_trace_evidence_explanations : Has Tryz.prog sg_trace_evidence_explanations) (m_strings_Join : Has Tryz.prog sg_strings_Join) (m_strconv_Itoa : Has Tryz.prog sg_strconv_Itoa)
theorem h_cobblebase_Cmp : Has Tryz.prog sg_cobblebase_Cmp :=
  has_of prog_mixed tys_ok nfs_ok eqs_ok (own := []) all_nil (n := an_cobblebase_Cmp) Tryz.func22 (by kernel_rfl) fun x => ck_cobblebase_Cmp x.1 x.2
theorem h_cobblebase_Floor : Has Tryz.prog sg_cobblebase_Floor :=
  has_of prog_mixed tys_ok nfs_ok eqs_ok (own := []) all_nil (n := an_cobblebase_Floor) Tryz.func26 (by kernel_rfl) fun x => ck_cobblebase_Floor x.1 x.2
theorem h_cobblebase_Ceil : Has Tryz.prog sg_cobblebase_Ceil :=
  has_of prog_mixed tys_ok nfs_ok eqs_ok (own := []) (all_cons h_cobblebase_Floor all_nil) (n := an_cobblebase_Ceil) Tryz.func25 (by kernel_rfl) fun x => ck_cobblebase_Ceil x.1 x.2
include m_slices_Clone_uint32 m_trace_evidence_explanations m_strings_Join m_strconv_Itoa in
theorem h_cobblelaw09_TraceEvery : Has Tryz.prog sg_cobblelaw09_TraceEvery :=
  has_of prog_mixed tys_ok nfs_ok eqs_ok (own := []) (all_cons (h_cobblelaw09_awake m_slices_Clone_uint32 m_trace_evidence_explanations m_strings_Join m_strconv_Itoa) (all_cons h_cobblelaw09_Few (all_cons h_cobbleref09_CourseErr (all_cons h_cobblebase_Within (all_cons (h_trace_PiecesOf m_slices_Clone_uint32) (all_cons h_cobbleref09_CopyCourse (all_cons h_cobblebase_IsLowest (all_cons h_cobblebase_IsSmall (all_cons h_cobblebase_Cmp (all_cons (h_trace_PlaceOf m_slices_Clone_uint32) (all_cons (h_trace_LengthAfter m_slices_Clone_uint32) (all_cons h_cobblebase_Ceil (all_cons h_cobblebase_Floor all_nil))))))))))))) (n := an_cobblelaw09_TraceEvery) Tryz.func3 (by kernel_rfl) fun x => ck_cobblelaw09_TraceEvery x.1 x.2.1 x.2.2
end
end Go.Lift
