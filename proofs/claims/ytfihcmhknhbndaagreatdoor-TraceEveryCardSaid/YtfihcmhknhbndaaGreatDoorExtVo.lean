/-
  The contracts of the functions of volumes.
-/
import Derived.Test.YtfihcmhknhbndaaGreatDoorFunVo
import Derived.Test.YtfihcmhknhbndaaGreatDoorFunT
import Derived.Test.YtfihcmhknhbndaaGreatDoorExtCo
import Derived.Test.YtfihcmhknhbndaaGreatDoorFunH
set_option linter.unusedSectionVars false
set_option linter.unusedVariables false
set_option linter.unusedSimpArgs false
namespace Go.Lift
open Go Go.Proofs
def an_cobblebase_Gcd : Ann := (.seq .nil (.seq (.blk (.loopB ⟨[⟨false, 0, 0, (.int .i64), [], false⟩, ⟨false, 1, 0, (.int .i64), [], false⟩], []⟩ ⟨[⟨false, 0, 0, (.int .i64), [], false⟩], []⟩ 0 .nil)) .nil))
def an_cobblebase_IsLowest : Ann := .nil
def an_cobblebase_RatioFrom : Ann := .nil
def an_cobblelaw09_volume : Ann := .nil
def an_cobblelaw09_TraceVolumes : Ann := (.seq .nil (.seq .nil (.seq .nil (.seq .nil (.seq (.seq .nil (.blk (.loopBD ⟨[⟨false, 4, 0, (.int .i64), [], false⟩, ⟨true, 3, 68, Tapi_TraceStrip, [([.one], some 1450000300)], false⟩], [1]⟩ ⟨[], [1]⟩ 0 (.seq .nil (.seq (.blk (.seq .nil (.seq .nil (.seq .nil (.seq .nil (.seq (.seq .nil (.blk (.loopBD ⟨[⟨false, 12, 0, (.int .i64), [], false⟩, ⟨true, 9, 74, Tcobblebase_Ratio, [], false⟩, ⟨true, 11, 74, Tcobblebase_Ratio, [], false⟩], [1, 3, 5, 7, 10, 1450000300]⟩ ⟨[⟨true, 9, 74, Tcobblebase_Ratio, [], false⟩, ⟨true, 11, 74, Tcobblebase_Ratio, [], false⟩], [1, 3, 5, 7, 10, 1450000300]⟩ 2 .nil))) (.seq .nil (.seq (.seq .nil (.blk (.loopB ⟨[⟨false, 14, 0, (.int .i64), [], false⟩, ⟨true, 10, 74, Tcobblebase_Ratio, [], false⟩], [1, 3, 5, 7, 9, 11, 1450000300]⟩ ⟨[⟨true, 10, 74, Tcobblebase_Ratio, [], false⟩], [1, 3, 5, 7, 9, 11, 1450000300]⟩ 4 .nil))) (.seq (.seq .nil (.joinD ⟨[], [1, 3, 5, 7, 9, 10, 11, 1450000300]⟩ (.seq .nil (.seq .nil (.blk (.loopBD ⟨[⟨false, 15, 0, (.int .i64), [], false⟩], [1, 3, 5, 7, 9, 10, 11, 1450000300]⟩ ⟨[], [1, 3, 5, 7, 9, 10, 11, 1450000300]⟩ 6 .nil)))) .nil)) .nil))))))))) .nil))))) .nil)))))
noncomputable abbrev sg_cobblebase_Gcd : Sig := ⟨104, [(.int .i64), (.int .i64)], [(.int .i64)], fun x => cobblebase_Gcd x.1 x.2⟩
noncomputable abbrev sg_cobblebase_IsLowest : Sig := ⟨20, [Tapi_Frac], [.bool], fun x => cobblebase_IsLowest x⟩
noncomputable abbrev sg_cobblebase_RatioFrom : Sig := ⟨41, [Tapi_Frac], [Tcobblebase_Ratio], fun x => cobblebase_RatioFrom x⟩
noncomputable abbrev sg_cobblelaw09_volume : Sig := ⟨42, [Tapi_TraceSection], [Tcobblebase_Ratio], fun x => cobblelaw09_volume x⟩
noncomputable abbrev sg_cobblelaw09_TraceVolumes : Sig := ⟨5, [Tapi_TraceCourse], [.bool], fun x => cobblelaw09_TraceVolumes x⟩
end Go.Lift

namespace Go.Lift
open Go Go.Proofs
theorem ck_cobblebase_Gcd (a : Int) (b : Int) : funK (cx [] [sg_cobblebase_Size]) Tryz.f104 an_cobblebase_Gcd [(.int .i64), (.int .i64)] [(.int .i64)] (a, b) = cobblebase_Gcd a b := by kernel_rfl

theorem ck_cobblelaw09_TraceVolumes (c : Dapi_TraceCourse) : funK (cx [] [sg_cobblelaw09_awake, sg_cobblelaw09_Few, sg_cobbleref09_CourseErr, sg_cobblebase_Within, sg_cobbleref09_CopyCourse, sg_cobblebase_IsLowest, sg_cobblebase_IsSmall, sg_trace_LengthAfter, sg_trace_StripAfter, sg_cobblebase_RatioInt, sg_cobblebase_RatioAdd, sg_cobblebase_RatioFrom, sg_cobblelaw09_volume, sg_cobblebase_RatioCmp]) Tryz.f5 an_cobblelaw09_TraceVolumes [Tapi_TraceCourse] [.bool] c = cobblelaw09_TraceVolumes c := by kernel_rfl

end Go.Lift

namespace Go.Lift
open Go Go.Proofs
theorem ck_cobblebase_IsLowest (f : Dapi_Frac) : funK (cx [] [sg_cobblebase_Gcd]) Tryz.f20 an_cobblebase_IsLowest [Tapi_Frac] [.bool] f = cobblebase_IsLowest f := by kernel_rfl

end Go.Lift

namespace Go.Lift
open Go Go.Proofs
theorem ck_cobblebase_RatioFrom (f : Dapi_Frac) : funK (cx [] [sg_cobblebase_RatioOf]) Tryz.f41 an_cobblebase_RatioFrom [Tapi_Frac] [Tcobblebase_Ratio] f = cobblebase_RatioFrom f := by kernel_rfl

end Go.Lift

namespace Go.Lift
open Go Go.Proofs
theorem ck_cobblelaw09_volume (x : Dapi_TraceSection) : funK (cx [] [sg_cobblebase_RatioInt, sg_cobblebase_RatioFrom, sg_cobblebase_RatioMul]) Tryz.f42 an_cobblelaw09_volume [Tapi_TraceSection] [Tcobblebase_Ratio] x = cobblelaw09_volume x := by kernel_rfl

end Go.Lift

namespace Go.Lift
open Go Go.Proofs
set_option maxRecDepth 100000
section
variable (m_slices_Clone_uint32 : Has Tryz.prog sg_slices_Clone_uint32) (m_trace_evidence_explanations : Has Tryz.prog sg_trace_evidence_explanations) (m_strings_Join : Has Tryz.prog sg_strings_Join) (m_strconv_Itoa : Has Tryz.prog sg_strconv_Itoa)
theorem h_cobblebase_Gcd : Has Tryz.prog sg_cobblebase_Gcd :=
  has_of prog_mixed tys_ok nfs_ok eqs_ok (own := []) (all_cons h_cobblebase_Size all_nil) (n := an_cobblebase_Gcd) Tryz.func104 (by kernel_rfl) fun x => ck_cobblebase_Gcd x.1 x.2
theorem h_cobblebase_IsLowest : Has Tryz.prog sg_cobblebase_IsLowest :=
  has_of prog_mixed tys_ok nfs_ok eqs_ok (own := []) (all_cons h_cobblebase_Gcd all_nil) (n := an_cobblebase_IsLowest) Tryz.func20 (by kernel_rfl) fun x => ck_cobblebase_IsLowest x
theorem h_cobblebase_RatioFrom : Has Tryz.prog sg_cobblebase_RatioFrom :=
  has_of prog_mixed tys_ok nfs_ok eqs_ok (own := []) (all_cons h_cobblebase_RatioOf all_nil) (n := an_cobblebase_RatioFrom) Tryz.func41 (by kernel_rfl) fun x => ck_cobblebase_RatioFrom x
theorem h_cobblelaw09_volume : Has Tryz.prog sg_cobblelaw09_volume :=
  has_of prog_mixed tys_ok nfs_ok eqs_ok (own := []) (all_cons h_cobblebase_RatioInt (all_cons h_cobblebase_RatioFrom (all_cons h_cobblebase_RatioMul all_nil))) (n := an_cobblelaw09_volume) Tryz.func42 (by kernel_rfl) fun x => ck_cobblelaw09_volume x
include m_slices_Clone_uint32 m_trace_evidence_explanations m_strings_Join m_strconv_Itoa in
theorem h_cobblelaw09_TraceVolumes : Has Tryz.prog sg_cobblelaw09_TraceVolumes :=
  has_of prog_mixed tys_ok nfs_ok eqs_ok (own := []) (all_cons (h_cobblelaw09_awake m_slices_Clone_uint32 m_trace_evidence_explanations m_strings_Join m_strconv_Itoa) (all_cons h_cobblelaw09_Few (all_cons h_cobbleref09_CourseErr (all_cons h_cobblebase_Within (all_cons h_cobbleref09_CopyCourse (all_cons h_cobblebase_IsLowest (all_cons h_cobblebase_IsSmall (all_cons (h_trace_LengthAfter m_slices_Clone_uint32) (all_cons (h_trace_StripAfter m_slices_Clone_uint32) (all_cons h_cobblebase_RatioInt (all_cons h_cobblebase_RatioAdd (all_cons h_cobblebase_RatioFrom (all_cons h_cobblelaw09_volume (all_cons h_cobblebase_RatioCmp all_nil)))))))))))))) (n := an_cobblelaw09_TraceVolumes) Tryz.func5 (by kernel_rfl) fun x => ck_cobblelaw09_TraceVolumes x
end
end Go.Lift
