/-
  The contracts of the functions of maps.
-/
import Derived.Test.YtfihcmhknhbndaaGreatDoorFunMa
import Derived.Test.YtfihcmhknhbndaaGreatDoorFunT
import Derived.Test.YtfihcmhknhbndaaGreatDoorFunH
set_option linter.unusedSectionVars false
set_option linter.unusedVariables false
set_option linter.unusedSimpArgs false
namespace Go.Lift
open Go Go.Proofs
def an_trace_strip_begin : Ann := .nil
def an_trace_onLine : Ann := .nil
def an_trace_chart_simple : Ann := (.seq .nil (.seq .nil (.seq (.seq .nil (.blk (.loopB ⟨[⟨false, 3, 0, (.slice Ttrace_knot), [([], some 101000300)], false⟩, ⟨false, 8, 0, (.int .i64), [], false⟩], []⟩ ⟨[⟨false, 3, 0, (.slice Ttrace_knot), [([], some 201000300)], false⟩], []⟩ 0 .nil))) .nil)))
def an_trace_chart_written : Ann := (.seq .nil (.seq .nil (.seq (.seq .nil (.blk (.loopBD ⟨[⟨false, 13, 0, (.int .i64), [], false⟩, ⟨true, 4, 122, Tapi_TraceMap, [([.one], some 150000400)], false⟩], [2]⟩ ⟨[⟨true, 4, 122, Tapi_TraceMap, [([.one], some 250000400)], false⟩], [2]⟩ 0 .nil))) .nil)))
def an_trace_MapOf : Ann := (.seq .nil (.seq .nil (.seq .nil (.seq .nil (.seq .nil (.seq (.seq .nil (.blk (.loopB ⟨[⟨false, 12, 0, (.slice Ttrace_ratio), [([], some 101001200)], false⟩, ⟨false, 56, 0, (.int .i64), [], false⟩], [3, 6, 8, 26, 35]⟩ ⟨[⟨false, 12, 0, (.slice Ttrace_ratio), [([], some 201001200)], false⟩], [3, 6, 8, 26, 35]⟩ 0 .nil))) (.seq .nil (.seq (.seq .nil (.blk (.loopB ⟨[⟨false, 15, 0, (.slice Ttrace_knot), [([], some 401001500)], false⟩, ⟨false, 69, 0, (.int .i64), [], false⟩], [3, 6, 8, 26, 35, 201001200]⟩ ⟨[⟨false, 15, 0, (.slice Ttrace_knot), [([], some 501001500)], false⟩], [3, 6, 8, 26, 35, 201001200]⟩ 2 .nil))) .nil))))))))
def an_r9_SameMap : Ann := (.seq .nil (.seq .nil (.seq (.seq .nil (.blk (.loopBD ⟨[⟨false, 5, 0, (.int .i64), [], false⟩], [2, 3]⟩ ⟨[], [2, 3]⟩ 0 .nil))) .nil)))
noncomputable abbrev sg_trace_strip_begin : Sig := ⟨142, [(.slice Ttrace_section)], [Ttrace_ratio], fun x => trace_strip_begin x⟩
noncomputable abbrev sg_trace_onLine : Sig := ⟨209, [Ttrace_knot, Ttrace_knot, Ttrace_knot], [.bool], fun x => trace_onLine x.1 x.2.1 x.2.2⟩
noncomputable abbrev sg_trace_chart_simple : Sig := ⟨144, [(.slice Ttrace_knot)], [(.slice Ttrace_knot)], fun x => trace_chart_simple x⟩
noncomputable abbrev sg_trace_chart_written : Sig := ⟨145, [(.slice Ttrace_knot)], [Tapi_TraceMap, (.int .i64)], fun x => trace_chart_written x⟩
noncomputable abbrev sg_trace_MapOf : Sig := ⟨66, [Tapi_TraceCourse, (.int .i64), (.int .i64)], [Tapi_TraceMap, (.int .i64)], fun x => trace_MapOf x.1 x.2.1 x.2.2⟩
noncomputable abbrev sg_r9_SameMap : Sig := ⟨68, [Tapi_TraceMap, Tapi_TraceMap], [.bool], fun x => r9_SameMap x.1 x.2⟩
end Go.Lift
namespace Go.Lift
open Go Go.Proofs
theorem ck_trace_strip_begin (s : (List Dtrace_section)) : funK (cx [] []) Tryz.f142 an_trace_strip_begin [(.slice Ttrace_section)] [Ttrace_ratio] s = trace_strip_begin s := by kernel_rfl
theorem ck_trace_MapOf (c : Dapi_TraceCourse) (before : Int) (after : Int) : funK (cx [] [sg_trace_opened, sg_trace_first, sg_trace_unless, sg_trace_strip_begin, sg_trace_strip_at, sg_trace_chart_simple, sg_trace_chart_written]) Tryz.f66 an_trace_MapOf [Tapi_TraceCourse, (.int .i64), (.int .i64)] [Tapi_TraceMap, (.int .i64)] (c, before, after) = trace_MapOf c before after := by kernel_rfl
end Go.Lift
namespace Go.Lift
open Go Go.Proofs
theorem ck_trace_onLine (a : Dtrace_knot) (k : Dtrace_knot) (b : Dtrace_knot) : funK (cx [] [sg_trace_ratio_cmp, sg_trace_ratio_times, sg_trace_ratio_minus]) Tryz.f209 an_trace_onLine [Ttrace_knot, Ttrace_knot, Ttrace_knot] [.bool] (a, k, b) = trace_onLine a k b := by kernel_rfl
end Go.Lift
namespace Go.Lift
open Go Go.Proofs
theorem ck_trace_chart_simple (m : (List Dtrace_knot)) : funK (cx [] [sg_trace_onLine]) Tryz.f144 an_trace_chart_simple [(.slice Ttrace_knot)] [(.slice Ttrace_knot)] m = trace_chart_simple m := by kernel_rfl
end Go.Lift
namespace Go.Lift
open Go Go.Proofs
theorem ck_trace_chart_written (m : (List Dtrace_knot)) : funK (cx [] [sg_trace_first, sg_trace_small]) Tryz.f145 an_trace_chart_written [(.slice Ttrace_knot)] [Tapi_TraceMap, (.int .i64)] m = trace_chart_written m := by kernel_rfl
theorem ck_r9_SameMap (a : Dapi_TraceMap) (b : Dapi_TraceMap) : funK (cx [] []) Tryz.f68 an_r9_SameMap [Tapi_TraceMap, Tapi_TraceMap] [.bool] (a, b) = r9_SameMap a b := by kernel_rfl
end Go.Lift
namespace Go.Lift
open Go Go.Proofs
set_option maxRecDepth 100000
section
variable (m_slices_Clone_uint32 : Has Tryz.prog sg_slices_Clone_uint32) (m_trace_evidence_explanations : Has Tryz.prog sg_trace_evidence_explanations) (m_strings_Join : Has Tryz.prog sg_strings_Join) (m_strconv_Itoa : Has Tryz.prog sg_strconv_Itoa)
theorem h_trace_strip_begin : Has Tryz.prog sg_trace_strip_begin :=
  has_of prog_mixed tys_ok nfs_ok eqs_ok (own := []) all_nil (n := an_trace_strip_begin) Tryz.func142 (by kernel_rfl) fun x => ck_trace_strip_begin x
include m_slices_Clone_uint32 in
theorem h_trace_onLine : Has Tryz.prog sg_trace_onLine :=
  has_of prog_mixed tys_ok nfs_ok eqs_ok (own := []) (all_cons (h_trace_ratio_cmp m_slices_Clone_uint32) (all_cons (h_trace_ratio_times m_slices_Clone_uint32) (all_cons (h_trace_ratio_minus m_slices_Clone_uint32) all_nil))) (n := an_trace_onLine) Tryz.func209 (by kernel_rfl) fun x => ck_trace_onLine x.1 x.2.1 x.2.2
include m_slices_Clone_uint32 in
theorem h_trace_chart_simple : Has Tryz.prog sg_trace_chart_simple :=
  has_of prog_mixed tys_ok nfs_ok eqs_ok (own := []) (all_cons (h_trace_onLine m_slices_Clone_uint32) all_nil) (n := an_trace_chart_simple) Tryz.func144 (by kernel_rfl) fun x => ck_trace_chart_simple x
theorem h_trace_chart_written : Has Tryz.prog sg_trace_chart_written :=
  has_of prog_mixed tys_ok nfs_ok eqs_ok (own := []) (all_cons h_trace_first (all_cons h_trace_small all_nil)) (n := an_trace_chart_written) Tryz.func145 (by kernel_rfl) fun x => ck_trace_chart_written x
include m_slices_Clone_uint32 in
theorem h_trace_MapOf : Has Tryz.prog sg_trace_MapOf :=
  has_of prog_mixed tys_ok nfs_ok eqs_ok (own := []) (all_cons (h_trace_opened m_slices_Clone_uint32) (all_cons h_trace_first (all_cons h_trace_unless (all_cons h_trace_strip_begin (all_cons (h_trace_strip_at m_slices_Clone_uint32) (all_cons (h_trace_chart_simple m_slices_Clone_uint32) (all_cons h_trace_chart_written all_nil))))))) (n := an_trace_MapOf) Tryz.func66 (by kernel_rfl) fun x => ck_trace_MapOf x.1 x.2.1 x.2.2
theorem h_r9_SameMap : Has Tryz.prog sg_r9_SameMap :=
  has_of prog_mixed tys_ok nfs_ok eqs_ok (own := []) all_nil (n := an_r9_SameMap) Tryz.func68 (by kernel_rfl) fun x => ck_r9_SameMap x.1 x.2
end
end Go.Lift
