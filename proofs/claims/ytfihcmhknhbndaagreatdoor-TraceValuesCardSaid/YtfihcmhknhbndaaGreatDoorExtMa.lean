/-
  The contracts of the functions of maps.
-/
import Derived.Test.YtfihcmhknhbndaaGreatDoorFunMa
import Derived.Test.YtfihcmhknhbndaaGreatDoorFunT
import Derived.Test.YtfihcmhknhbndaaGreatDoorFunH
set_option linter.unusedSectionVars false
set_option linter.unusedVariables false
set_option linter.unusedSimpArgs false
namespace Go.Lift
open Go Go.Proofs
def an_trace_strip_begin : Ann := .nil
def an_trace_onLine : Ann := .nil
def an_trace_chart_simple : Ann := (.seq .nil (.seq .nil (.seq (.seq .nil (.blk (.loopB ⟨[⟨false, 3, 0, (.slice Ttrace_knot), [([], some 101000300)], false⟩, ⟨false, 8, 0, (.int .i64), [], false⟩], []⟩ ⟨[⟨false, 3, 0, (.slice Ttrace_knot), [([], some 201000300)], false⟩], []⟩ 0 .nil))) .nil)))
def an_trace_chart_written : Ann := (.seq .nil (.seq .nil (.seq (.seq .nil (.blk (.loopBD ⟨[⟨false, 13, 0, (.int .i64), [], false⟩, ⟨true, 4, 122, Tapi_TraceMap, [([.one], some 150000400)], false⟩], [2]⟩ ⟨[⟨true, 4, 122, Tapi_TraceMap, [([.one], some 250000400)], false⟩], [2]⟩ 0 .nil))) .nil)))
def an_trace_MapOf : Ann := (.seq .nil (.seq .nil (.seq .nil (.seq .nil (.seq .nil (.seq (.seq .nil (.blk (.loopB ⟨[⟨false, 12, 0, (.slice Ttrace_ratio), [([], some 101001200)], false⟩, ⟨false, 56, 0, (.int .i64), [], false⟩], [3, 6, 8, 26, 35]⟩ ⟨[⟨false, 12, 0, (.slice Ttrace_ratio), [([], some 201001200)], false⟩], [3, 6, 8, 26, 35]⟩ 0 .nil))) (.seq .nil (.seq (.seq .nil (.blk (.loopB ⟨[⟨false, 15, 0, (.slice Ttrace_knot), [([], some 401001500)], false⟩, ⟨false, 69, 0, (.int .i64), [], false⟩], [3, 6, 8, 26, 35, 201001200]⟩ ⟨[⟨false, 15, 0, (.slice Ttrace_knot), [([], some 501001500)], false⟩], [3, 6, 8, 26, 35, 201001200]⟩ 2 .nil))) .nil))))))))
def an_b0_RatioDiv : Ann := .nil
def an_r9_through : Ann := (.seq .nil (.seq .nil (.seq (.seq .nil (.blk (.loopBD ⟨[⟨false, 9, 0, (.int .i64), [], false⟩, ⟨true, 7, 74, Tb0_Ratio, [], false⟩, ⟨true, 8, 74, Tb0_Ratio, [], false⟩], [5, 6]⟩ ⟨[⟨true, 8, 74, Tb0_Ratio, [], false⟩], [5, 6]⟩ 0 .nil))) .nil)))
def an_r9_Move : Ann := (.seq .nil (.seq .nil (.seq (.seq .nil (.blk (.loopB ⟨[⟨false, 11, 0, (.int .i64), [], false⟩, ⟨true, 5, 74, Tb0_Ratio, [], false⟩], [4, 8]⟩ ⟨[⟨true, 5, 74, Tb0_Ratio, [], false⟩], [4, 8]⟩ 0 (.seq .nil (.seq (.blk (.seq .nil (.seq .nil (.join ⟨[⟨true, 5, 74, Tb0_Ratio, [], false⟩], [4, 8, 12]⟩ .nil .nil)))) .nil))))) (.seq (.seq .nil (.blk (.loopBD ⟨[⟨false, 13, 0, (.int .i64), [], false⟩, ⟨true, 5, 74, Tb0_Ratio, [], false⟩], [4, 8]⟩ ⟨[⟨true, 5, 74, Tb0_Ratio, [], false⟩], [4, 8]⟩ 2 (.seq .nil (.seq (.blk (.seq .nil (.seq .nil (.joinD ⟨[⟨true, 5, 74, Tb0_Ratio, [], false⟩], [4, 8, 14]⟩ .nil .nil)))) .nil))))) .nil))))
def an_r9_small : Ann := (.seq .nil (.seq .nil (.seq (.seq .nil (.blk (.loopBD ⟨[⟨false, 5, 0, (.int .i64), [], false⟩, ⟨true, 4, 122, Tapi_TraceMap, [([.one], some 150000400)], false⟩], [2]⟩ ⟨[⟨true, 4, 122, Tapi_TraceMap, [([.one], some 250000400)], false⟩], [2]⟩ 0 .nil))) .nil)))
def an_r9_simple : Ann := (.seq .nil (.seq .nil (.seq (.seq .nil (.blk (.loopB ⟨[⟨false, 3, 0, (.slice Tr9_Knot), [([], some 201000300)], false⟩, ⟨false, 4, 0, (.int .i64), [], false⟩], []⟩ ⟨[⟨false, 3, 0, (.slice Tr9_Knot), [([], some 401000300)], false⟩], []⟩ 0 (.seq .nil (.seq (.blk (.seq (.seq .nil (.joinD ⟨[], [201000300]⟩ .nil .nil)) .nil)) .nil))))) .nil)))
def an_r9_MapOf : Ann := (.seq .nil (.seq .nil (.seq .nil (.seq .nil (.seq .nil (.seq .nil (.seq (.seq .nil (.blk (.loopB ⟨[⟨false, 13, 0, (.slice Tr9_Knot), [([], some 201001300)], false⟩, ⟨false, 15, 0, (.int .i64), [], false⟩], [3, 6, 8, 9, 11]⟩ ⟨[⟨false, 13, 0, (.slice Tr9_Knot), [([], some 501001300)], false⟩], [3, 6, 8, 9, 11]⟩ 0 (.seq .nil (.seq (.blk (.seq .nil (.join ⟨[⟨false, 13, 0, (.slice Tr9_Knot), [([], some 601001300)], false⟩], [3, 6, 8, 9, 11]⟩ .nil .nil))) .nil))))) .nil)))))))
def an_r9_SameMap : Ann := (.seq .nil (.seq .nil (.seq (.seq .nil (.blk (.loopBD ⟨[⟨false, 5, 0, (.int .i64), [], false⟩], [2, 3]⟩ ⟨[], [2, 3]⟩ 0 .nil))) .nil)))
def an_l9_TraceMaps : Ann := (.seq .nil (.seq .nil (.seq .nil (.seq .nil (.seq .nil (.seq (.seq .nil (.join ⟨[⟨false, 9, 0, (.int .i64), [], false⟩], [3, 7]⟩ .nil .nil)) (.seq (.seq .nil (.join ⟨[⟨false, 9, 0, (.int .i64), [], false⟩], [3, 7]⟩ .nil .nil)) (.seq (.seq .nil (.join ⟨[⟨false, 9, 0, (.int .i64), [], false⟩], [3, 7]⟩ .nil .nil)) .nil))))))))
noncomputable abbrev sg_trace_strip_begin : Sig := ⟨142, [(.slice Ttrace_section)], [Ttrace_ratio], fun x => trace_strip_begin x⟩
noncomputable abbrev sg_trace_onLine : Sig := ⟨209, [Ttrace_knot, Ttrace_knot, Ttrace_knot], [.bool], fun x => trace_onLine x.1 x.2.1 x.2.2⟩
noncomputable abbrev sg_trace_chart_simple : Sig := ⟨144, [(.slice Ttrace_knot)], [(.slice Ttrace_knot)], fun x => trace_chart_simple x⟩
noncomputable abbrev sg_trace_chart_written : Sig := ⟨145, [(.slice Ttrace_knot)], [Tapi_TraceMap, (.int .i64)], fun x => trace_chart_written x⟩
noncomputable abbrev sg_trace_MapOf : Sig := ⟨66, [Tapi_TraceCourse, (.int .i64), (.int .i64)], [Tapi_TraceMap, (.int .i64)], fun x => trace_MapOf x.1 x.2.1 x.2.2⟩
noncomputable abbrev sg_b0_RatioDiv : Sig := ⟨155, [Tb0_Ratio, Tb0_Ratio], [Tb0_Ratio], fun x => b0_RatioDiv x.1 x.2⟩
noncomputable abbrev sg_r9_through : Sig := ⟨210, [(.slice Tr9_Section), (.slice Tr9_Section), Tb0_Ratio], [Tb0_Ratio], fun x => r9_through x.1 x.2.1 x.2.2⟩
noncomputable abbrev sg_r9_Move : Sig := ⟨146, [Tapi_TraceCourse, Tb0_Ratio, (.int .i64), (.int .i64)], [Tb0_Ratio, .bool], fun x => r9_Move x.1 x.2.1 x.2.2.1 x.2.2.2⟩
noncomputable abbrev sg_r9_small : Sig := ⟨148, [(.slice Tr9_Knot)], [Tapi_TraceMap, .bool], fun x => r9_small x⟩
noncomputable abbrev sg_r9_simple : Sig := ⟨149, [(.slice Tr9_Knot)], [(.slice Tr9_Knot)], fun x => r9_simple x⟩
noncomputable abbrev sg_r9_MapOf : Sig := ⟨67, [Tapi_TraceCourse, (.int .i64), (.int .i64)], [Tapi_TraceMap, .bool], fun x => r9_MapOf x.1 x.2.1 x.2.2⟩
noncomputable abbrev sg_r9_SameMap : Sig := ⟨68, [Tapi_TraceMap, Tapi_TraceMap], [.bool], fun x => r9_SameMap x.1 x.2⟩
noncomputable abbrev sg_l9_TraceMaps : Sig := ⟨10, [Tapi_TraceCourse, (.int .i64), (.int .i64)], [.bool], fun x => l9_TraceMaps x.1 x.2.1 x.2.2⟩
end Go.Lift

namespace Go.Lift
open Go Go.Proofs
theorem ck_trace_strip_begin (s : (List Dtrace_section)) : funK (cx [] []) Tryz.f142 an_trace_strip_begin [(.slice Ttrace_section)] [Ttrace_ratio] s = trace_strip_begin s := by kernel_rfl

theorem ck_trace_MapOf (c : Dapi_TraceCourse) (before : Int) (after : Int) : funK (cx [] [sg_trace_opened, sg_trace_first, sg_trace_unless, sg_trace_strip_begin, sg_trace_strip_at, sg_trace_chart_simple, sg_trace_chart_written]) Tryz.f66 an_trace_MapOf [Tapi_TraceCourse, (.int .i64), (.int .i64)] [Tapi_TraceMap, (.int .i64)] (c, before, after) = trace_MapOf c before after := by kernel_rfl

theorem ck_r9_small (l : (List Dr9_Knot)) : funK (cx [] [sg_b0_RatioFrac]) Tryz.f148 an_r9_small [(.slice Tr9_Knot)] [Tapi_TraceMap, .bool] l = r9_small l := by kernel_rfl

theorem ck_l9_TraceMaps (c : Dapi_TraceCourse) (from_ : Int) (to : Int) : funK (cx [] [sg_l9_awake, sg_l9_Few, sg_r9_CourseErr, sg_r9_CopyCourse, sg_r9_StepsErr, sg_trace_MapOf, sg_r9_MapOf, sg_r9_SameMap]) Tryz.f10 an_l9_TraceMaps [Tapi_TraceCourse, (.int .i64), (.int .i64)] [.bool] (c, from_, to) = l9_TraceMaps c from_ to := by kernel_rfl

end Go.Lift

namespace Go.Lift
open Go Go.Proofs
theorem ck_trace_onLine (a : Dtrace_knot) (k : Dtrace_knot) (b : Dtrace_knot) : funK (cx [] [sg_trace_ratio_cmp, sg_trace_ratio_times, sg_trace_ratio_minus]) Tryz.f209 an_trace_onLine [Ttrace_knot, Ttrace_knot, Ttrace_knot] [.bool] (a, k, b) = trace_onLine a k b := by kernel_rfl

theorem ck_b0_RatioDiv (a : Db0_Ratio) (b : Db0_Ratio) : funK (cx [] [sg_b0_RatioMake, sg_b0_WideMul]) Tryz.f155 an_b0_RatioDiv [Tb0_Ratio, Tb0_Ratio] [Tb0_Ratio] (a, b) = b0_RatioDiv a b := by kernel_rfl

theorem ck_r9_simple (l : (List Dr9_Knot)) : funK (cx [] [sg_b0_RatioCmp, sg_b0_RatioMul, sg_b0_RatioSub]) Tryz.f149 an_r9_simple [(.slice Tr9_Knot)] [(.slice Tr9_Knot)] l = r9_simple l := by kernel_rfl

end Go.Lift

namespace Go.Lift
open Go Go.Proofs
theorem ck_trace_chart_simple (m : (List Dtrace_knot)) : funK (cx [] [sg_trace_onLine]) Tryz.f144 an_trace_chart_simple [(.slice Ttrace_knot)] [(.slice Ttrace_knot)] m = trace_chart_simple m := by kernel_rfl

theorem ck_r9_through (a : (List Dr9_Section)) (b : (List Dr9_Section)) (x : Db0_Ratio) : funK (cx [] [sg_b0_RatioInt, sg_b0_RatioAdd, sg_b0_RatioCmp, sg_b0_RatioMul, sg_b0_RatioSub, sg_b0_RatioDiv]) Tryz.f210 an_r9_through [(.slice Tr9_Section), (.slice Tr9_Section), Tb0_Ratio] [Tb0_Ratio] (a, b, x) = r9_through a b x := by kernel_rfl

theorem ck_r9_MapOf (c : Dapi_TraceCourse) (from_ : Int) (to : Int) : funK (cx [] [sg_b0_RatioInt, sg_b0_RatioCmp, sg_r9_After, sg_r9_Strip_Length, sg_r9_Move, sg_r9_Strip_Ends, sg_r9_small, sg_r9_simple]) Tryz.f67 an_r9_MapOf [Tapi_TraceCourse, (.int .i64), (.int .i64)] [Tapi_TraceMap, .bool] (c, from_, to) = r9_MapOf c from_ to := by kernel_rfl

end Go.Lift

namespace Go.Lift
open Go Go.Proofs
theorem ck_trace_chart_written (m : (List Dtrace_knot)) : funK (cx [] [sg_trace_first, sg_trace_small]) Tryz.f145 an_trace_chart_written [(.slice Ttrace_knot)] [Tapi_TraceMap, (.int .i64)] m = trace_chart_written m := by kernel_rfl

theorem ck_r9_Move (c : Dapi_TraceCourse) (x : Db0_Ratio) (from_ : Int) (to : Int) : funK (cx [] [sg_b0_RatioInt, sg_b0_RatioAdd, sg_b0_RatioCmp, sg_r9_strips, sg_b0_RatioSub, sg_r9_through]) Tryz.f146 an_r9_Move [Tapi_TraceCourse, Tb0_Ratio, (.int .i64), (.int .i64)] [Tb0_Ratio, .bool] (c, x, from_, to) = r9_Move c x from_ to := by kernel_rfl

theorem ck_r9_SameMap (a : Dapi_TraceMap) (b : Dapi_TraceMap) : funK (cx [] []) Tryz.f68 an_r9_SameMap [Tapi_TraceMap, Tapi_TraceMap] [.bool] (a, b) = r9_SameMap a b := by kernel_rfl

end Go.Lift

namespace Go.Lift
open Go Go.Proofs
set_option maxRecDepth 100000
section
variable (m_slices_Clone_uint32 : Has Tryz.prog sg_slices_Clone_uint32) (m_trace_evidence_explanations : Has Tryz.prog sg_trace_evidence_explanations) (m_strings_Join : Has Tryz.prog sg_strings_Join) (m_strconv_Itoa : Has Tryz.prog sg_strconv_Itoa)
theorem h_trace_strip_begin : Has Tryz.prog sg_trace_strip_begin :=
  has_of prog_mixed tys_ok nfs_ok eqs_ok (own := []) all_nil (n := an_trace_strip_begin) Tryz.func142 (by kernel_rfl) fun x => ck_trace_strip_begin x
include m_slices_Clone_uint32 in
theorem h_trace_onLine : Has Tryz.prog sg_trace_onLine :=
  has_of prog_mixed tys_ok nfs_ok eqs_ok (own := []) (all_cons (h_trace_ratio_cmp m_slices_Clone_uint32) (all_cons (h_trace_ratio_times m_slices_Clone_uint32) (all_cons (h_trace_ratio_minus m_slices_Clone_uint32) all_nil))) (n := an_trace_onLine) Tryz.func209 (by kernel_rfl) fun x => ck_trace_onLine x.1 x.2.1 x.2.2
include m_slices_Clone_uint32 in
theorem h_trace_chart_simple : Has Tryz.prog sg_trace_chart_simple :=
  has_of prog_mixed tys_ok nfs_ok eqs_ok (own := []) (all_cons (h_trace_onLine m_slices_Clone_uint32) all_nil) (n := an_trace_chart_simple) Tryz.func144 (by kernel_rfl) fun x => ck_trace_chart_simple x
theorem h_trace_chart_written : Has Tryz.prog sg_trace_chart_written :=
  has_of prog_mixed tys_ok nfs_ok eqs_ok (own := []) (all_cons h_trace_first (all_cons h_trace_small all_nil)) (n := an_trace_chart_written) Tryz.func145 (by kernel_rfl) fun x => ck_trace_chart_written x
include m_slices_Clone_uint32 in
theorem h_trace_MapOf : Has Tryz.prog sg_trace_MapOf :=
  has_of prog_mixed tys_ok nfs_ok eqs_ok (own := []) (all_cons (h_trace_opened m_slices_Clone_uint32) (all_cons h_trace_first (all_cons h_trace_unless (all_cons h_trace_strip_begin (all_cons (h_trace_strip_at m_slices_Clone_uint32) (all_cons (h_trace_chart_simple m_slices_Clone_uint32) (all_cons h_trace_chart_written all_nil))))))) (n := an_trace_MapOf) Tryz.func66 (by kernel_rfl) fun x => ck_trace_MapOf x.1 x.2.1 x.2.2
theorem h_b0_RatioDiv : Has Tryz.prog sg_b0_RatioDiv :=
  has_of prog_mixed tys_ok nfs_ok eqs_ok (own := []) (all_cons h_b0_RatioMake (all_cons h_b0_WideMul all_nil)) (n := an_b0_RatioDiv) Tryz.func155 (by kernel_rfl) fun x => ck_b0_RatioDiv x.1 x.2
theorem h_r9_through : Has Tryz.prog sg_r9_through :=
  has_of prog_mixed tys_ok nfs_ok eqs_ok (own := []) (all_cons h_b0_RatioInt (all_cons h_b0_RatioAdd (all_cons h_b0_RatioCmp (all_cons h_b0_RatioMul (all_cons h_b0_RatioSub (all_cons h_b0_RatioDiv all_nil)))))) (n := an_r9_through) Tryz.func210 (by kernel_rfl) fun x => ck_r9_through x.1 x.2.1 x.2.2
theorem h_r9_Move : Has Tryz.prog sg_r9_Move :=
  has_of prog_mixed tys_ok nfs_ok eqs_ok (own := []) (all_cons h_b0_RatioInt (all_cons h_b0_RatioAdd (all_cons h_b0_RatioCmp (all_cons h_r9_strips (all_cons h_b0_RatioSub (all_cons h_r9_through all_nil)))))) (n := an_r9_Move) Tryz.func146 (by kernel_rfl) fun x => ck_r9_Move x.1 x.2.1 x.2.2.1 x.2.2.2
theorem h_r9_small : Has Tryz.prog sg_r9_small :=
  has_of prog_mixed tys_ok nfs_ok eqs_ok (own := []) (all_cons h_b0_RatioFrac all_nil) (n := an_r9_small) Tryz.func148 (by kernel_rfl) fun x => ck_r9_small x
theorem h_r9_simple : Has Tryz.prog sg_r9_simple :=
  has_of prog_mixed tys_ok nfs_ok eqs_ok (own := []) (all_cons h_b0_RatioCmp (all_cons h_b0_RatioMul (all_cons h_b0_RatioSub all_nil))) (n := an_r9_simple) Tryz.func149 (by kernel_rfl) fun x => ck_r9_simple x
theorem h_r9_MapOf : Has Tryz.prog sg_r9_MapOf :=
  has_of prog_mixed tys_ok nfs_ok eqs_ok (own := []) (all_cons h_b0_RatioInt (all_cons h_b0_RatioCmp (all_cons h_r9_After (all_cons h_r9_Strip_Length (all_cons h_r9_Move (all_cons h_r9_Strip_Ends (all_cons h_r9_small (all_cons h_r9_simple all_nil)))))))) (n := an_r9_MapOf) Tryz.func67 (by kernel_rfl) fun x => ck_r9_MapOf x.1 x.2.1 x.2.2
theorem h_r9_SameMap : Has Tryz.prog sg_r9_SameMap :=
  has_of prog_mixed tys_ok nfs_ok eqs_ok (own := []) all_nil (n := an_r9_SameMap) Tryz.func68 (by kernel_rfl) fun x => ck_r9_SameMap x.1 x.2
include m_slices_Clone_uint32 m_trace_evidence_explanations m_strings_Join m_strconv_Itoa in
theorem h_l9_TraceMaps : Has Tryz.prog sg_l9_TraceMaps :=
  has_of prog_mixed tys_ok nfs_ok eqs_ok (own := []) (all_cons (h_l9_awake m_slices_Clone_uint32 m_trace_evidence_explanations m_strings_Join m_strconv_Itoa) (all_cons h_l9_Few (all_cons h_r9_CourseErr (all_cons h_r9_CopyCourse (all_cons h_r9_StepsErr (all_cons (h_trace_MapOf m_slices_Clone_uint32) (all_cons h_r9_MapOf (all_cons h_r9_SameMap all_nil)))))))) (n := an_l9_TraceMaps) Tryz.func10 (by kernel_rfl) fun x => ck_l9_TraceMaps x.1 x.2.1 x.2.2
end
end Go.Lift
