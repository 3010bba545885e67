/-
  The contracts of the functions of the document's explanations.
-/
import Derived.Test.YtfihcmhknhbndaaGreatDoorFunRe
import Derived.Test.YtfihcmhknhbndaaGreatDoorFunT
import Derived.Test.YtfihcmhknhbndaaGreatDoorExtCb
import Derived.Test.YtfihcmhknhbndaaGreatDoorFunH
set_option linter.unusedSectionVars false
set_option linter.unusedVariables false
set_option linter.unusedSimpArgs false
namespace Go.Lift
open Go Go.Proofs
def an_b0_RatioDiv : Ann := .nil
def an_r9_through : Ann := (.seq .nil (.seq .nil (.seq (.seq .nil (.blk (.loopBD ⟨[⟨false, 9, 0, (.int .i64), [], false⟩, ⟨true, 7, 74, Tb0_Ratio, [], false⟩, ⟨true, 8, 74, Tb0_Ratio, [], false⟩], [5, 6]⟩ ⟨[⟨true, 8, 74, Tb0_Ratio, [], false⟩], [5, 6]⟩ 0 .nil))) .nil)))
def an_r9_Move : Ann := (.seq .nil (.seq .nil (.seq (.seq .nil (.blk (.loopB ⟨[⟨false, 11, 0, (.int .i64), [], false⟩, ⟨true, 5, 74, Tb0_Ratio, [], false⟩], [4, 8]⟩ ⟨[⟨true, 5, 74, Tb0_Ratio, [], false⟩], [4, 8]⟩ 0 (.seq .nil (.seq (.blk (.seq .nil (.seq .nil (.join ⟨[⟨true, 5, 74, Tb0_Ratio, [], false⟩], [4, 8, 12]⟩ .nil .nil)))) .nil))))) (.seq (.seq .nil (.blk (.loopBD ⟨[⟨false, 13, 0, (.int .i64), [], false⟩, ⟨true, 5, 74, Tb0_Ratio, [], false⟩], [4, 8]⟩ ⟨[⟨true, 5, 74, Tb0_Ratio, [], false⟩], [4, 8]⟩ 2 (.seq .nil (.seq (.blk (.seq .nil (.seq .nil (.joinD ⟨[⟨true, 5, 74, Tb0_Ratio, [], false⟩], [4, 8, 14]⟩ .nil .nil)))) .nil))))) .nil))))
def an_b0_RatioFloor : Ann := .nil
noncomputable abbrev sg_b0_RatioDiv : Sig := ⟨155, [Tb0_Ratio, Tb0_Ratio], [Tb0_Ratio], fun x => b0_RatioDiv x.1 x.2⟩
noncomputable abbrev sg_r9_through : Sig := ⟨210, [(.slice Tr9_Section), (.slice Tr9_Section), Tb0_Ratio], [Tb0_Ratio], fun x => r9_through x.1 x.2.1 x.2.2⟩
noncomputable abbrev sg_r9_Move : Sig := ⟨146, [Tapi_TraceCourse, Tb0_Ratio, (.int .i64), (.int .i64)], [Tb0_Ratio, .bool], fun x => r9_Move x.1 x.2.1 x.2.2.1 x.2.2.2⟩
noncomputable abbrev sg_b0_RatioFloor : Sig := ⟨154, [Tb0_Ratio], [Tb0_Wide], fun x => b0_RatioFloor x⟩
end Go.Lift
namespace Go.Lift
open Go Go.Proofs
theorem ck_b0_RatioDiv (a : Db0_Ratio) (b : Db0_Ratio) : funK (cx [] [sg_b0_RatioMake, sg_b0_WideMul]) Tryz.f155 an_b0_RatioDiv [Tb0_Ratio, Tb0_Ratio] [Tb0_Ratio] (a, b) = b0_RatioDiv a b := by kernel_rfl
end Go.Lift
namespace Go.Lift
open Go Go.Proofs
theorem ck_r9_through (a : (List Dr9_Section)) (b : (List Dr9_Section)) (x : Db0_Ratio) : funK (cx [] [sg_b0_RatioInt, sg_b0_RatioAdd, sg_b0_RatioCmp, sg_b0_RatioMul, sg_b0_RatioSub, sg_b0_RatioDiv]) Tryz.f210 an_r9_through [(.slice Tr9_Section), (.slice Tr9_Section), Tb0_Ratio] [Tb0_Ratio] (a, b, x) = r9_through a b x := by kernel_rfl
end Go.Lift
namespace Go.Lift
open Go Go.Proofs
theorem ck_r9_Move (c : Dapi_TraceCourse) (x : Db0_Ratio) (from_ : Int) (to : Int) : funK (cx [] [sg_b0_RatioInt, sg_b0_RatioAdd, sg_b0_RatioCmp, sg_r9_strips, sg_b0_RatioSub, sg_r9_through]) Tryz.f146 an_r9_Move [Tapi_TraceCourse, Tb0_Ratio, (.int .i64), (.int .i64)] [Tb0_Ratio, .bool] (c, x, from_, to) = r9_Move c x from_ to := by kernel_rfl
end Go.Lift
namespace Go.Lift
open Go Go.Proofs
theorem ck_b0_RatioFloor (a : Db0_Ratio) : funK (cx [] [sg_b0_WideFloor]) Tryz.f154 an_b0_RatioFloor [Tb0_Ratio] [Tb0_Wide] a = b0_RatioFloor a := by kernel_rfl
end Go.Lift
namespace Go.Lift
open Go Go.Proofs
set_option maxRecDepth 100000
theorem h_b0_RatioDiv : Has Tryz.prog sg_b0_RatioDiv :=
  has_of prog_mixed tys_ok nfs_ok eqs_ok (own := []) (all_cons h_b0_RatioMake (all_cons h_b0_WideMul all_nil)) (n := an_b0_RatioDiv) Tryz.func155 (by kernel_rfl) fun x => ck_b0_RatioDiv x.1 x.2
theorem h_r9_through : Has Tryz.prog sg_r9_through :=
  has_of prog_mixed tys_ok nfs_ok eqs_ok (own := []) (all_cons h_b0_RatioInt (all_cons h_b0_RatioAdd (all_cons h_b0_RatioCmp (all_cons h_b0_RatioMul (all_cons h_b0_RatioSub (all_cons h_b0_RatioDiv all_nil)))))) (n := an_r9_through) Tryz.func210 (by kernel_rfl) fun x => ck_r9_through x.1 x.2.1 x.2.2
theorem h_r9_Move : Has Tryz.prog sg_r9_Move :=
  has_of prog_mixed tys_ok nfs_ok eqs_ok (own := []) (all_cons h_b0_RatioInt (all_cons h_b0_RatioAdd (all_cons h_b0_RatioCmp (all_cons h_r9_strips (all_cons h_b0_RatioSub (all_cons h_r9_through all_nil)))))) (n := an_r9_Move) Tryz.func146 (by kernel_rfl) fun x => ck_r9_Move x.1 x.2.1 x.2.2.1 x.2.2.2
theorem h_b0_RatioFloor : Has Tryz.prog sg_b0_RatioFloor :=
  has_of prog_mixed tys_ok nfs_ok eqs_ok (own := []) (all_cons h_b0_WideFloor all_nil) (n := an_b0_RatioFloor) Tryz.func154 (by kernel_rfl) fun x => ck_b0_RatioFloor x
end Go.Lift
