/-
  The contracts of the functions of values of maps.
-/
import Derived.Test.YtfihcmhknhbndaaGreatDoorFunVa
import Derived.Test.YtfihcmhknhbndaaGreatDoorFunT
import Derived.Test.YtfihcmhknhbndaaGreatDoorExtVo
import Derived.Test.YtfihcmhknhbndaaGreatDoorExtEv
import Derived.Test.YtfihcmhknhbndaaGreatDoorExtMa
import Derived.Test.YtfihcmhknhbndaaGreatDoorFunH
set_option linter.unusedSectionVars false
set_option linter.unusedVariables false
set_option linter.unusedSimpArgs false
namespace Go.Lift
open Go Go.Proofs
def an_l9_fewMap : Ann := .nil
def an_trace_isLowest : Ann := .nil
def an_trace_from : Ann := .nil
def an_trace_isSmall : Ann := .nil
def an_trace_openMap : Ann := (.seq .nil (.seq .nil (.seq .nil (.seq (.seq .nil (.blk (.loopBD ⟨[⟨false, 6, 0, (.slice Ttrace_knot), [([], some 101000600)], false⟩, ⟨false, 29, 0, (.int .i64), [], false⟩], [1, 21]⟩ ⟨[⟨false, 6, 0, (.slice Ttrace_knot), [([], some 201000600)], false⟩], [1, 21]⟩ 0 .nil))) .nil))))
def an_r9_CopyMap : Ann := .nil
def an_trace_chart_begin : Ann := .nil
def an_trace_chart_end : Ann := .nil
def an_trace_chart_value : Ann := (.seq .nil (.seq (.seq .nil (.blk (.loopBD ⟨[⟨false, 11, 0, (.int .i64), [], false⟩], [3, 4]⟩ ⟨[], [3, 4]⟩ 0 .nil))) .nil))
def an_trace_ValueAt : Ann := .nil
def an_trace_chart_inverse : Ann := (.seq .nil (.seq .nil (.seq (.seq .nil (.blk (.loopB ⟨[⟨false, 3, 0, (.slice Ttrace_knot), [([], some 101000300)], false⟩, ⟨false, 8, 0, (.int .i64), [], false⟩], []⟩ ⟨[⟨false, 3, 0, (.slice Ttrace_knot), [([], some 201000300)], false⟩], []⟩ 0 .nil))) .nil)))
def an_trace_Inverse : Ann := .nil
def an_trace_Composed : Ann := (.seq .nil (.seq .nil (.seq .nil (.seq .nil (.seq .nil (.seq (.seq .nil (.join ⟨[⟨true, 12, 184, Ttrace_ratio, [], false⟩], [2, 3, 4, 13, 36]⟩ .nil .nil)) (.seq (.seq .nil (.join ⟨[⟨true, 13, 184, Ttrace_ratio, [], false⟩], [2, 3, 4, 12, 36]⟩ .nil .nil)) (.seq .nil (.seq .nil (.seq .nil (.seq (.blk (.loopB ⟨[⟨false, 14, 0, (.slice Ttrace_ratio), [([], some 501001400)], false⟩, ⟨false, 15, 0, (.int .i64), [], false⟩, ⟨false, 16, 0, (.int .i64), [], false⟩], [2, 3, 4, 12, 13, 36]⟩ ⟨[⟨false, 14, 0, (.slice Ttrace_ratio), [([], some 1001001400)], false⟩], [2, 3, 4, 12, 13, 36]⟩ 0 (.seq .nil (.blk (.seq .nil (.seq (.seq .nil (.join ⟨[⟨false, 15, 0, (.int .i64), [], false⟩, ⟨false, 16, 0, (.int .i64), [], false⟩, ⟨true, 17, 184, Ttrace_ratio, [], false⟩], [2, 3, 4, 12, 13, 36, 501001400]⟩ .nil .nil)) (.seq .nil (.join ⟨[⟨false, 14, 0, (.slice Ttrace_ratio), [([], some 1201001400)], false⟩], [2, 3, 4, 12, 13, 17, 36]⟩ .nil .nil)))))))) (.seq .nil (.seq .nil (.seq (.seq .nil (.blk (.loopB ⟨[⟨false, 19, 0, (.slice Ttrace_knot), [([], some 1401001900)], false⟩, ⟨false, 145, 0, (.int .i64), [], false⟩], [2, 3, 4, 12, 13, 36, 1001001400]⟩ ⟨[⟨false, 19, 0, (.slice Ttrace_knot), [([], some 1501001900)], false⟩], [2, 3, 4, 12, 13, 36, 1001001400]⟩ 2 .nil))) .nil))))))))))))))
def an_r9_CheckMap : Ann := (.seq .nil (.seq .nil (.seq .nil (.seq (.seq .nil (.blk (.loopBD ⟨[⟨false, 4, 0, (.int .i64), [], false⟩], [1]⟩ ⟨[], [1]⟩ 0 .nil))) .nil))))
def an_r9_MapErr : Ann := .nil
noncomputable abbrev sg_l9_fewMap : Sig := ⟨78, [Tapi_TraceMap], [.bool], fun x => l9_fewMap x⟩
noncomputable abbrev sg_trace_isLowest : Sig := ⟨157, [Tapi_Frac], [.bool], fun x => trace_isLowest x⟩
noncomputable abbrev sg_trace_from : Sig := ⟨158, [Tapi_Frac], [Ttrace_ratio], fun x => trace_from x⟩
noncomputable abbrev sg_trace_isSmall : Sig := ⟨213, [Tapi_Frac], [.bool], fun x => trace_isSmall x⟩
noncomputable abbrev sg_trace_openMap : Sig := ⟨156, [Tapi_TraceMap], [(.slice Ttrace_knot), (.int .i64), (.int .i64)], fun x => trace_openMap x⟩
noncomputable abbrev sg_r9_CopyMap : Sig := ⟨80, [Tapi_TraceMap], [Tapi_TraceMap], fun x => r9_CopyMap x⟩
noncomputable abbrev sg_trace_chart_begin : Sig := ⟨160, [(.slice Ttrace_knot)], [Ttrace_ratio], fun x => trace_chart_begin x⟩
noncomputable abbrev sg_trace_chart_end : Sig := ⟨161, [(.slice Ttrace_knot)], [Ttrace_ratio], fun x => trace_chart_end x⟩
noncomputable abbrev sg_trace_chart_value : Sig := ⟨162, [(.slice Ttrace_knot), Ttrace_ratio], [Ttrace_ratio], fun x => trace_chart_value x.1 x.2⟩
noncomputable abbrev sg_trace_ValueAt : Sig := ⟨81, [Tapi_TraceMap, Tapi_Frac], [Tapi_Frac, (.int .i64)], fun x => trace_ValueAt x.1 x.2⟩
noncomputable abbrev sg_trace_chart_inverse : Sig := ⟨163, [(.slice Ttrace_knot)], [(.slice Ttrace_knot)], fun x => trace_chart_inverse x⟩
noncomputable abbrev sg_trace_Inverse : Sig := ⟨82, [Tapi_TraceMap], [Tapi_TraceMap, (.int .i64)], fun x => trace_Inverse x⟩
noncomputable abbrev sg_trace_Composed : Sig := ⟨83, [Tapi_TraceMap, Tapi_TraceMap], [Tapi_TraceMap, (.int .i64)], fun x => trace_Composed x.1 x.2⟩
noncomputable abbrev sg_r9_CheckMap : Sig := ⟨84, [Tapi_TraceMap], [(.int .i64), (.int .i64)], fun x => r9_CheckMap x⟩
noncomputable abbrev sg_r9_MapErr : Sig := ⟨87, [Tapi_TraceMap], [(.int .i64)], fun x => r9_MapErr x⟩
end Go.Lift
namespace Go.Lift
open Go Go.Proofs
theorem ck_l9_fewMap (m : Dapi_TraceMap) : funK (cx [] []) Tryz.f78 an_l9_fewMap [Tapi_TraceMap] [.bool] m = l9_fewMap m := by kernel_rfl
theorem ck_trace_openMap (m : Dapi_TraceMap) : funK (cx [] [sg_trace_first, sg_trace_unless, sg_trace_ratio_cmp, sg_trace_isLowest, sg_trace_from, sg_trace_isSmall]) Tryz.f156 an_trace_openMap [Tapi_TraceMap] [(.slice Ttrace_knot), (.int .i64), (.int .i64)] m = trace_openMap m := by kernel_rfl
theorem ck_trace_chart_end (m : (List Dtrace_knot)) : funK (cx [] []) Tryz.f161 an_trace_chart_end [(.slice Ttrace_knot)] [Ttrace_ratio] m = trace_chart_end m := by kernel_rfl
theorem ck_trace_Inverse (m : Dapi_TraceMap) : funK (cx [] [sg_trace_chart_written, sg_trace_openMap, sg_trace_chart_inverse]) Tryz.f82 an_trace_Inverse [Tapi_TraceMap] [Tapi_TraceMap, (.int .i64)] m = trace_Inverse m := by kernel_rfl
end Go.Lift
namespace Go.Lift
open Go Go.Proofs
theorem ck_trace_isLowest (f : Dapi_Frac) : funK (cx [] [sg_trace_naturalOf, sg_trace_size, sg_trace_natural_cmp, sg_trace_divisor]) Tryz.f157 an_trace_isLowest [Tapi_Frac] [.bool] f = trace_isLowest f := by kernel_rfl
theorem ck_trace_chart_value (m : (List Dtrace_knot)) (x : Dtrace_ratio) : funK (cx [] [sg_trace_ratio_plus, sg_trace_ratio_times, sg_trace_ratio_between, sg_trace_ratio_minus, sg_trace_ratio_over]) Tryz.f162 an_trace_chart_value [(.slice Ttrace_knot), Ttrace_ratio] [Ttrace_ratio] (m, x) = trace_chart_value m x := by kernel_rfl
theorem ck_trace_Composed (a : Dapi_TraceMap) (b : Dapi_TraceMap) : funK (cx [] [sg_trace_first, sg_trace_ratio_cmp, sg_trace_chart_simple, sg_trace_chart_written, sg_trace_openMap, sg_trace_chart_begin, sg_trace_chart_end, sg_trace_chart_value, sg_trace_chart_inverse]) Tryz.f83 an_trace_Composed [Tapi_TraceMap, Tapi_TraceMap] [Tapi_TraceMap, (.int .i64)] (a, b) = trace_Composed a b := by kernel_rfl
end Go.Lift
namespace Go.Lift
open Go Go.Proofs
theorem ck_trace_from (f : Dapi_Frac) : funK (cx [] [sg_trace_quotient]) Tryz.f158 an_trace_from [Tapi_Frac] [Ttrace_ratio] f = trace_from f := by kernel_rfl
theorem ck_r9_CopyMap (m : Dapi_TraceMap) : funK (cx [] []) Tryz.f80 an_r9_CopyMap [Tapi_TraceMap] [Tapi_TraceMap] m = r9_CopyMap m := by kernel_rfl
theorem ck_trace_ValueAt (m : Dapi_TraceMap) (position : Dapi_Frac) : funK (cx [] [sg_trace_first, sg_trace_unless, sg_trace_small, sg_trace_openMap, sg_trace_isLowest, sg_trace_from, sg_trace_ratio_between, sg_trace_chart_begin, sg_trace_chart_end, sg_trace_chart_value]) Tryz.f81 an_trace_ValueAt [Tapi_TraceMap, Tapi_Frac] [Tapi_Frac, (.int .i64)] (m, position) = trace_ValueAt m position := by kernel_rfl
theorem ck_r9_CheckMap (m : Dapi_TraceMap) : funK (cx [] [sg_b0_IsLowest, sg_b0_IsSmall, sg_b0_Cmp]) Tryz.f84 an_r9_CheckMap [Tapi_TraceMap] [(.int .i64), (.int .i64)] m = r9_CheckMap m := by kernel_rfl
end Go.Lift
namespace Go.Lift
open Go Go.Proofs
theorem ck_trace_isSmall (f : Dapi_Frac) : funK (cx [] [sg_trace_within]) Tryz.f213 an_trace_isSmall [Tapi_Frac] [.bool] f = trace_isSmall f := by kernel_rfl
theorem ck_trace_chart_begin (m : (List Dtrace_knot)) : funK (cx [] []) Tryz.f160 an_trace_chart_begin [(.slice Ttrace_knot)] [Ttrace_ratio] m = trace_chart_begin m := by kernel_rfl
theorem ck_trace_chart_inverse (m : (List Dtrace_knot)) : funK (cx [] []) Tryz.f163 an_trace_chart_inverse [(.slice Ttrace_knot)] [(.slice Ttrace_knot)] m = trace_chart_inverse m := by kernel_rfl
theorem ck_r9_MapErr (m : Dapi_TraceMap) : funK (cx [] [sg_r9_CheckMap]) Tryz.f87 an_r9_MapErr [Tapi_TraceMap] [(.int .i64)] m = r9_MapErr m := by kernel_rfl
end Go.Lift
namespace Go.Lift
open Go Go.Proofs
set_option maxRecDepth 100000
section
variable (m_slices_Clone_uint32 : Has Tryz.prog sg_slices_Clone_uint32) (m_trace_evidence_explanations : Has Tryz.prog sg_trace_evidence_explanations) (m_strings_Join : Has Tryz.prog sg_strings_Join) (m_strconv_Itoa : Has Tryz.prog sg_strconv_Itoa)
theorem h_l9_fewMap : Has Tryz.prog sg_l9_fewMap :=
  has_of prog_mixed tys_ok nfs_ok eqs_ok (own := []) all_nil (n := an_l9_fewMap) Tryz.func78 (by kernel_rfl) fun x => ck_l9_fewMap x
include m_slices_Clone_uint32 in
theorem h_trace_isLowest : Has Tryz.prog sg_trace_isLowest :=
  has_of prog_mixed tys_ok nfs_ok eqs_ok (own := []) (all_cons h_trace_naturalOf (all_cons h_trace_size (all_cons h_trace_natural_cmp (all_cons (h_trace_divisor m_slices_Clone_uint32) all_nil)))) (n := an_trace_isLowest) Tryz.func157 (by kernel_rfl) fun x => ck_trace_isLowest x
include m_slices_Clone_uint32 in
theorem h_trace_from : Has Tryz.prog sg_trace_from :=
  has_of prog_mixed tys_ok nfs_ok eqs_ok (own := []) (all_cons (h_trace_quotient m_slices_Clone_uint32) all_nil) (n := an_trace_from) Tryz.func158 (by kernel_rfl) fun x => ck_trace_from x
theorem h_trace_isSmall : Has Tryz.prog sg_trace_isSmall :=
  has_of prog_mixed tys_ok nfs_ok eqs_ok (own := []) (all_cons h_trace_within all_nil) (n := an_trace_isSmall) Tryz.func213 (by kernel_rfl) fun x => ck_trace_isSmall x
include m_slices_Clone_uint32 in
theorem h_trace_openMap : Has Tryz.prog sg_trace_openMap :=
  has_of prog_mixed tys_ok nfs_ok eqs_ok (own := []) (all_cons h_trace_first (all_cons h_trace_unless (all_cons (h_trace_ratio_cmp m_slices_Clone_uint32) (all_cons (h_trace_isLowest m_slices_Clone_uint32) (all_cons (h_trace_from m_slices_Clone_uint32) (all_cons h_trace_isSmall all_nil)))))) (n := an_trace_openMap) Tryz.func156 (by kernel_rfl) fun x => ck_trace_openMap x
theorem h_r9_CopyMap : Has Tryz.prog sg_r9_CopyMap :=
  has_of prog_mixed tys_ok nfs_ok eqs_ok (own := []) all_nil (n := an_r9_CopyMap) Tryz.func80 (by kernel_rfl) fun x => ck_r9_CopyMap x
theorem h_trace_chart_begin : Has Tryz.prog sg_trace_chart_begin :=
  has_of prog_mixed tys_ok nfs_ok eqs_ok (own := []) all_nil (n := an_trace_chart_begin) Tryz.func160 (by kernel_rfl) fun x => ck_trace_chart_begin x
theorem h_trace_chart_end : Has Tryz.prog sg_trace_chart_end :=
  has_of prog_mixed tys_ok nfs_ok eqs_ok (own := []) all_nil (n := an_trace_chart_end) Tryz.func161 (by kernel_rfl) fun x => ck_trace_chart_end x
include m_slices_Clone_uint32 in
theorem h_trace_chart_value : Has Tryz.prog sg_trace_chart_value :=
  has_of prog_mixed tys_ok nfs_ok eqs_ok (own := []) (all_cons (h_trace_ratio_plus m_slices_Clone_uint32) (all_cons (h_trace_ratio_times m_slices_Clone_uint32) (all_cons (h_trace_ratio_between m_slices_Clone_uint32) (all_cons (h_trace_ratio_minus m_slices_Clone_uint32) (all_cons (h_trace_ratio_over m_slices_Clone_uint32) all_nil))))) (n := an_trace_chart_value) Tryz.func162 (by kernel_rfl) fun x => ck_trace_chart_value x.1 x.2
include m_slices_Clone_uint32 in
theorem h_trace_ValueAt : Has Tryz.prog sg_trace_ValueAt :=
  has_of prog_mixed tys_ok nfs_ok eqs_ok (own := []) (all_cons h_trace_first (all_cons h_trace_unless (all_cons h_trace_small (all_cons (h_trace_openMap m_slices_Clone_uint32) (all_cons (h_trace_isLowest m_slices_Clone_uint32) (all_cons (h_trace_from m_slices_Clone_uint32) (all_cons (h_trace_ratio_between m_slices_Clone_uint32) (all_cons h_trace_chart_begin (all_cons h_trace_chart_end (all_cons (h_trace_chart_value m_slices_Clone_uint32) all_nil)))))))))) (n := an_trace_ValueAt) Tryz.func81 (by kernel_rfl) fun x => ck_trace_ValueAt x.1 x.2
theorem h_trace_chart_inverse : Has Tryz.prog sg_trace_chart_inverse :=
  has_of prog_mixed tys_ok nfs_ok eqs_ok (own := []) all_nil (n := an_trace_chart_inverse) Tryz.func163 (by kernel_rfl) fun x => ck_trace_chart_inverse x
include m_slices_Clone_uint32 in
theorem h_trace_Inverse : Has Tryz.prog sg_trace_Inverse :=
  has_of prog_mixed tys_ok nfs_ok eqs_ok (own := []) (all_cons h_trace_chart_written (all_cons (h_trace_openMap m_slices_Clone_uint32) (all_cons h_trace_chart_inverse all_nil))) (n := an_trace_Inverse) Tryz.func82 (by kernel_rfl) fun x => ck_trace_Inverse x
include m_slices_Clone_uint32 in
theorem h_trace_Composed : Has Tryz.prog sg_trace_Composed :=
  has_of prog_mixed tys_ok nfs_ok eqs_ok (own := []) (all_cons h_trace_first (all_cons (h_trace_ratio_cmp m_slices_Clone_uint32) (all_cons (h_trace_chart_simple m_slices_Clone_uint32) (all_cons h_trace_chart_written (all_cons (h_trace_openMap m_slices_Clone_uint32) (all_cons h_trace_chart_begin (all_cons h_trace_chart_end (all_cons (h_trace_chart_value m_slices_Clone_uint32) (all_cons h_trace_chart_inverse all_nil))))))))) (n := an_trace_Composed) Tryz.func83 (by kernel_rfl) fun x => ck_trace_Composed x.1 x.2
theorem h_r9_CheckMap : Has Tryz.prog sg_r9_CheckMap :=
  has_of prog_mixed tys_ok nfs_ok eqs_ok (own := []) (all_cons h_b0_IsLowest (all_cons h_b0_IsSmall (all_cons h_b0_Cmp all_nil))) (n := an_r9_CheckMap) Tryz.func84 (by kernel_rfl) fun x => ck_r9_CheckMap x
theorem h_r9_MapErr : Has Tryz.prog sg_r9_MapErr :=
  has_of prog_mixed tys_ok nfs_ok eqs_ok (own := []) (all_cons h_r9_CheckMap all_nil) (n := an_r9_MapErr) Tryz.func87 (by kernel_rfl) fun x => ck_r9_MapErr x
end
end Go.Lift
