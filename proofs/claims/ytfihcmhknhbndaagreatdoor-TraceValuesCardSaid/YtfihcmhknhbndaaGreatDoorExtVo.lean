/-
  The contracts of the functions of volumes.
-/
import Derived.Test.YtfihcmhknhbndaaGreatDoorFunVo
import Derived.Test.YtfihcmhknhbndaaGreatDoorFunT
import Derived.Test.YtfihcmhknhbndaaGreatDoorFunH
set_option linter.unusedSectionVars false
set_option linter.unusedVariables false
set_option linter.unusedSimpArgs false
namespace Go.Lift
open Go Go.Proofs
def an_b0_Gcd : Ann := (.seq .nil (.seq (.blk (.loopB ⟨[⟨false, 0, 0, (.int .i64), [], false⟩, ⟨false, 1, 0, (.int .i64), [], false⟩], []⟩ ⟨[⟨false, 0, 0, (.int .i64), [], false⟩], []⟩ 0 .nil)) .nil))
def an_b0_IsLowest : Ann := .nil
def an_trace_LengthAfter : Ann := .nil
def an_trace_StripAfter : Ann := (.seq .nil (.seq .nil (.seq .nil (.seq .nil (.seq (.seq .nil (.blk (.loopB ⟨[⟨false, 30, 0, (.int .i64), [], false⟩, ⟨true, 8, 68, Tapi_TraceStrip, [([.one], some 150000800)], false⟩], [2, 4, 6, 16]⟩ ⟨[⟨true, 8, 68, Tapi_TraceStrip, [([.one], some 250000800)], false⟩], [2, 4, 6, 16]⟩ 0 .nil))) .nil)))))
def an_b0_RatioFrom : Ann := .nil
def an_l9_volume : Ann := .nil
def an_l9_TraceVolumes : Ann := (.seq .nil (.seq .nil (.seq .nil (.seq .nil (.seq (.seq .nil (.blk (.loopBD ⟨[⟨false, 4, 0, (.int .i64), [], false⟩, ⟨true, 3, 68, Tapi_TraceStrip, [([.one], some 1450000300)], false⟩], [1]⟩ ⟨[], [1]⟩ 0 (.seq .nil (.seq (.blk (.seq .nil (.seq .nil (.seq .nil (.seq .nil (.seq (.seq .nil (.blk (.loopBD ⟨[⟨false, 12, 0, (.int .i64), [], false⟩, ⟨true, 9, 74, Tb0_Ratio, [], false⟩, ⟨true, 11, 74, Tb0_Ratio, [], false⟩], [1, 3, 5, 7, 10, 1450000300]⟩ ⟨[⟨true, 9, 74, Tb0_Ratio, [], false⟩, ⟨true, 11, 74, Tb0_Ratio, [], false⟩], [1, 3, 5, 7, 10, 1450000300]⟩ 2 .nil))) (.seq .nil (.seq (.seq .nil (.blk (.loopB ⟨[⟨false, 14, 0, (.int .i64), [], false⟩, ⟨true, 10, 74, Tb0_Ratio, [], false⟩], [1, 3, 5, 7, 9, 11, 1450000300]⟩ ⟨[⟨true, 10, 74, Tb0_Ratio, [], false⟩], [1, 3, 5, 7, 9, 11, 1450000300]⟩ 4 .nil))) (.seq (.seq .nil (.joinD ⟨[], [1, 3, 5, 7, 9, 10, 11, 1450000300]⟩ (.seq .nil (.seq .nil (.blk (.loopBD ⟨[⟨false, 15, 0, (.int .i64), [], false⟩], [1, 3, 5, 7, 9, 10, 11, 1450000300]⟩ ⟨[], [1, 3, 5, 7, 9, 10, 11, 1450000300]⟩ 6 .nil)))) .nil)) .nil))))))))) .nil))))) .nil)))))
noncomputable abbrev sg_b0_Gcd : Sig := ⟨104, [(.int .i64), (.int .i64)], [(.int .i64)], fun x => b0_Gcd x.1 x.2⟩
noncomputable abbrev sg_b0_IsLowest : Sig := ⟨20, [Tapi_Frac], [.bool], fun x => b0_IsLowest x⟩
noncomputable abbrev sg_trace_LengthAfter : Sig := ⟨24, [Tapi_TraceCourse, (.int .i64)], [Tapi_Frac, (.int .i64)], fun x => trace_LengthAfter x.1 x.2⟩
noncomputable abbrev sg_trace_StripAfter : Sig := ⟨38, [Tapi_TraceCourse, (.int .i64)], [Tapi_TraceStrip, (.int .i64)], fun x => trace_StripAfter x.1 x.2⟩
noncomputable abbrev sg_b0_RatioFrom : Sig := ⟨41, [Tapi_Frac], [Tb0_Ratio], fun x => b0_RatioFrom x⟩
noncomputable abbrev sg_l9_volume : Sig := ⟨42, [Tapi_TraceSection], [Tb0_Ratio], fun x => l9_volume x⟩
noncomputable abbrev sg_l9_TraceVolumes : Sig := ⟨5, [Tapi_TraceCourse], [.bool], fun x => l9_TraceVolumes x⟩
end Go.Lift

namespace Go.Lift
open Go Go.Proofs
theorem ck_b0_Gcd (a : Int) (b : Int) : funK (cx [] [sg_b0_Size]) Tryz.f104 an_b0_Gcd [(.int .i64), (.int .i64)] [(.int .i64)] (a, b) = b0_Gcd a b := by kernel_rfl

theorem ck_b0_RatioFrom (f : Dapi_Frac) : funK (cx [] [sg_b0_RatioOf]) Tryz.f41 an_b0_RatioFrom [Tapi_Frac] [Tb0_Ratio] f = b0_RatioFrom f := by kernel_rfl

end Go.Lift

namespace Go.Lift
open Go Go.Proofs
theorem ck_b0_IsLowest (f : Dapi_Frac) : funK (cx [] [sg_b0_Gcd]) Tryz.f20 an_b0_IsLowest [Tapi_Frac] [.bool] f = b0_IsLowest f := by kernel_rfl

theorem ck_l9_volume (x : Dapi_TraceSection) : funK (cx [] [sg_b0_RatioInt, sg_b0_RatioFrom, sg_b0_RatioMul]) Tryz.f42 an_l9_volume [Tapi_TraceSection] [Tb0_Ratio] x = l9_volume x := by kernel_rfl

end Go.Lift

namespace Go.Lift
open Go Go.Proofs
theorem ck_trace_LengthAfter (c : Dapi_TraceCourse) (steps : Int) : funK (cx [] [sg_trace_opened, sg_trace_strip_length, sg_trace_small]) Tryz.f24 an_trace_LengthAfter [Tapi_TraceCourse, (.int .i64)] [Tapi_Frac, (.int .i64)] (c, steps) = trace_LengthAfter c steps := by kernel_rfl

theorem ck_l9_TraceVolumes (c : Dapi_TraceCourse) : funK (cx [] [sg_l9_awake, sg_l9_Few, sg_r9_CourseErr, sg_b0_Within, sg_r9_CopyCourse, sg_b0_IsLowest, sg_b0_IsSmall, sg_trace_LengthAfter, sg_trace_StripAfter, sg_b0_RatioInt, sg_b0_RatioAdd, sg_b0_RatioFrom, sg_l9_volume, sg_b0_RatioCmp]) Tryz.f5 an_l9_TraceVolumes [Tapi_TraceCourse] [.bool] c = l9_TraceVolumes c := by kernel_rfl

end Go.Lift

namespace Go.Lift
open Go Go.Proofs
theorem ck_trace_StripAfter (c : Dapi_TraceCourse) (steps : Int) : funK (cx [] [sg_trace_opened, sg_trace_section_length, sg_trace_ratio_frac]) Tryz.f38 an_trace_StripAfter [Tapi_TraceCourse, (.int .i64)] [Tapi_TraceStrip, (.int .i64)] (c, steps) = trace_StripAfter c steps := by kernel_rfl

end Go.Lift

namespace Go.Lift
open Go Go.Proofs
set_option maxRecDepth 100000
section
variable (m_slices_Clone_uint32 : Has Tryz.prog sg_slices_Clone_uint32) (m_trace_evidence_explanations : Has Tryz.prog sg_trace_evidence_explanations) (m_strings_Join : Has Tryz.prog sg_strings_Join) (m_strconv_Itoa : Has Tryz.prog sg_strconv_Itoa)
theorem h_b0_Gcd : Has Tryz.prog sg_b0_Gcd :=
  has_of prog_mixed tys_ok nfs_ok eqs_ok (own := []) (all_cons h_b0_Size all_nil) (n := an_b0_Gcd) Tryz.func104 (by kernel_rfl) fun x => ck_b0_Gcd x.1 x.2
theorem h_b0_IsLowest : Has Tryz.prog sg_b0_IsLowest :=
  has_of prog_mixed tys_ok nfs_ok eqs_ok (own := []) (all_cons h_b0_Gcd all_nil) (n := an_b0_IsLowest) Tryz.func20 (by kernel_rfl) fun x => ck_b0_IsLowest x
include m_slices_Clone_uint32 in
theorem h_trace_LengthAfter : Has Tryz.prog sg_trace_LengthAfter :=
  has_of prog_mixed tys_ok nfs_ok eqs_ok (own := []) (all_cons (h_trace_opened m_slices_Clone_uint32) (all_cons h_trace_strip_length (all_cons h_trace_small all_nil))) (n := an_trace_LengthAfter) Tryz.func24 (by kernel_rfl) fun x => ck_trace_LengthAfter x.1 x.2
include m_slices_Clone_uint32 in
theorem h_trace_StripAfter : Has Tryz.prog sg_trace_StripAfter :=
  has_of prog_mixed tys_ok nfs_ok eqs_ok (own := []) (all_cons (h_trace_opened m_slices_Clone_uint32) (all_cons (h_trace_section_length m_slices_Clone_uint32) (all_cons h_trace_ratio_frac all_nil))) (n := an_trace_StripAfter) Tryz.func38 (by kernel_rfl) fun x => ck_trace_StripAfter x.1 x.2
theorem h_b0_RatioFrom : Has Tryz.prog sg_b0_RatioFrom :=
  has_of prog_mixed tys_ok nfs_ok eqs_ok (own := []) (all_cons h_b0_RatioOf all_nil) (n := an_b0_RatioFrom) Tryz.func41 (by kernel_rfl) fun x => ck_b0_RatioFrom x
theorem h_l9_volume : Has Tryz.prog sg_l9_volume :=
  has_of prog_mixed tys_ok nfs_ok eqs_ok (own := []) (all_cons h_b0_RatioInt (all_cons h_b0_RatioFrom (all_cons h_b0_RatioMul all_nil))) (n := an_l9_volume) Tryz.func42 (by kernel_rfl) fun x => ck_l9_volume x
include m_slices_Clone_uint32 m_trace_evidence_explanations m_strings_Join m_strconv_Itoa in
theorem h_l9_TraceVolumes : Has Tryz.prog sg_l9_TraceVolumes :=
  has_of prog_mixed tys_ok nfs_ok eqs_ok (own := []) (all_cons (h_l9_awake m_slices_Clone_uint32 m_trace_evidence_explanations m_strings_Join m_strconv_Itoa) (all_cons h_l9_Few (all_cons h_r9_CourseErr (all_cons h_b0_Within (all_cons h_r9_CopyCourse (all_cons h_b0_IsLowest (all_cons h_b0_IsSmall (all_cons (h_trace_LengthAfter m_slices_Clone_uint32) (all_cons (h_trace_StripAfter m_slices_Clone_uint32) (all_cons h_b0_RatioInt (all_cons h_b0_RatioAdd (all_cons h_b0_RatioFrom (all_cons h_l9_volume (all_cons h_b0_RatioCmp all_nil)))))))))))))) (n := an_l9_TraceVolumes) Tryz.func5 (by kernel_rfl) fun x => ck_l9_TraceVolumes x
end
end Go.Lift
