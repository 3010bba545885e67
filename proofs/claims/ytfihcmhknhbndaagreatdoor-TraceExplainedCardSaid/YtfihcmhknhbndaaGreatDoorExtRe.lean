/-
  The contracts of the functions of the document's explanations.
-/
import Derived.Test.YtfihcmhknhbndaaGreatDoorFunRe
import Derived.Test.YtfihcmhknhbndaaGreatDoorFunT
import Derived.Test.YtfihcmhknhbndaaGreatDoorExtCb
import Derived.Test.YtfihcmhknhbndaaGreatDoorFunH
set_option linter.unusedSectionVars false
set_option linter.unusedVariables false
set_option linter.unusedSimpArgs false
namespace Go.Lift
open Go Go.Proofs
def an_b0_RatioDiv : Ann := .nil
def an_r9_through : Ann := (.seq .nil (.seq .nil (.seq (.seq .nil (.blk (.loopBD ⟨[⟨false, 9, 0, (.int .i64), [], false⟩, ⟨true, 7, 74, Tb0_Ratio, [], false⟩, ⟨true, 8, 74, Tb0_Ratio, [], false⟩], [5, 6]⟩ ⟨[⟨true, 8, 74, Tb0_Ratio, [], false⟩], [5, 6]⟩ 0 .nil))) .nil)))
def an_r9_Move : Ann := (.seq .nil (.seq .nil (.seq (.seq .nil (.blk (.loopB ⟨[⟨false, 11, 0, (.int .i64), [], false⟩, ⟨true, 5, 74, Tb0_Ratio, [], false⟩], [4, 8]⟩ ⟨[⟨true, 5, 74, Tb0_Ratio, [], false⟩], [4, 8]⟩ 0 (.seq .nil (.seq (.blk (.seq .nil (.seq .nil (.join ⟨[⟨true, 5, 74, Tb0_Ratio, [], false⟩], [4, 8, 12]⟩ .nil .nil)))) .nil))))) (.seq (.seq .nil (.blk (.loopBD ⟨[⟨false, 13, 0, (.int .i64), [], false⟩, ⟨true, 5, 74, Tb0_Ratio, [], false⟩], [4, 8]⟩ ⟨[⟨true, 5, 74, Tb0_Ratio, [], false⟩], [4, 8]⟩ 2 (.seq .nil (.seq (.blk (.seq .nil (.seq .nil (.joinD ⟨[⟨true, 5, 74, Tb0_Ratio, [], false⟩], [4, 8, 14]⟩ .nil .nil)))) .nil))))) .nil))))
def an_b0_RatioFloor : Ann := .nil
def an_b0_RatioSign : Ann := .nil
def an_r9_predicts : Ann := (.seq .nil (.seq .nil (.seq .nil (.seq .nil (.seq .nil (.seq (.seq .nil (.join ⟨[⟨true, 7, 74, Tb0_Ratio, [], false⟩], [3, 4, 5]⟩ .nil .nil)) .nil))))))
def an_r9_Table : Ann := (.seq .nil (.seq .nil (.seq (.seq .nil (.blk (.loopB ⟨[⟨false, 7, 0, (.slice (.slice .bool)), [([], some 401000700)], false⟩, ⟨false, 8, 0, (.int .i64), [], false⟩], [3]⟩ ⟨[⟨false, 7, 0, (.slice (.slice .bool)), [([], some 801000700)], false⟩], [3]⟩ 0 (.seq .nil (.seq (.blk (.seq .nil (.seq (.seq .nil (.blk (.loopB ⟨[⟨false, 9, 0, (.slice .bool), [([], some 1001000900)], false⟩, ⟨false, 10, 0, (.int .i64), [], false⟩], [3, 401000700]⟩ ⟨[⟨false, 9, 0, (.slice .bool), [([], some 1101000900)], false⟩], [3, 401000700]⟩ 2 .nil))) .nil))) .nil))))) .nil)))
def an_r9_some : Ann := (.seq .nil (.seq (.seq .nil (.blk (.loopBD ⟨[⟨false, 5, 0, (.int .i64), [], false⟩], []⟩ ⟨[], []⟩ 0 .nil))) .nil))
def an_r9_Contradiction : Ann := (.seq .nil (.seq (.seq .nil (.blk (.loopBD ⟨[⟨false, 8, 0, (.int .i64), [], false⟩], []⟩ ⟨[], []⟩ 0 .nil))) .nil))
def an_r9_members : Ann := (.seq .nil (.seq .nil (.seq (.seq .nil (.blk (.loopB ⟨[⟨false, 0, 0, (.int .i64), [], false⟩, ⟨false, 3, 0, (.slice (.int .i64)), [([], some 201000300)], false⟩, ⟨false, 4, 0, (.int .i64), [], false⟩], []⟩ ⟨[⟨false, 3, 0, (.slice (.int .i64)), [([], some 401000300)], false⟩], []⟩ 0 (.seq .nil (.seq (.blk (.seq (.seq .nil (.join ⟨[⟨false, 3, 0, (.slice (.int .i64)), [([], some 501000300)], false⟩], []⟩ .nil .nil)) .nil)) .nil))))) .nil)))
def an_b0_Before : Ann := (.seq .nil (.seq (.seq .nil (.blk (.loopBD ⟨[⟨false, 5, 0, (.int .i64), [], false⟩], []⟩ ⟨[], []⟩ 0 .nil))) .nil))
def an_r9_explained : Ann := (.seq .nil (.seq .nil (.seq (.seq .nil (.blk (.loopB ⟨[⟨false, 7, 0, (.slice (.slice (.int .i64))), [([], some 901000700)], false⟩, ⟨false, 8, 0, (.int .i64), [], false⟩], []⟩ ⟨[⟨false, 7, 0, (.slice (.slice (.int .i64))), [([], some 1801000700)], false⟩], []⟩ 0 (.seq .nil (.seq (.blk (.seq .nil (.seq .nil (.seq (.seq .nil (.join ⟨[⟨false, 7, 0, (.slice (.slice (.int .i64))), [([], some 1901000700)], false⟩], []⟩ .nil .nil)) (.seq .nil (.seq .nil (.seq (.seq .nil (.blk (.loopB ⟨[⟨false, 12, 0, (.slice (.slice (.int .i64))), [([], some 2201001200)], false⟩, ⟨false, 13, 0, .bool, [], false⟩, ⟨false, 14, 0, (.int .i64), [], false⟩], [1901000700]⟩ ⟨[⟨false, 12, 0, (.slice (.slice (.int .i64))), [([], some 2401001200)], false⟩, ⟨false, 13, 0, .bool, [], false⟩], [1901000700]⟩ 2 (.seq .nil (.seq (.blk (.seq (.seq .nil (.join ⟨[⟨false, 12, 0, (.slice (.slice (.int .i64))), [([], some 2501001200)], false⟩, ⟨false, 13, 0, .bool, [], false⟩], [1901000700]⟩ .nil .nil)) .nil)) .nil))))) (.seq (.seq .nil (.join ⟨[⟨false, 12, 0, (.slice (.slice (.int .i64))), [([], some 2601001200)], false⟩], [1901000700]⟩ .nil .nil)) .nil)))))))) .nil))))) .nil)))
def an_r9_Explanations : Ann := .nil
noncomputable abbrev sg_b0_RatioDiv : Sig := ⟨155, [Tb0_Ratio, Tb0_Ratio], [Tb0_Ratio], fun x => b0_RatioDiv x.1 x.2⟩
noncomputable abbrev sg_r9_through : Sig := ⟨210, [(.slice Tr9_Section), (.slice Tr9_Section), Tb0_Ratio], [Tb0_Ratio], fun x => r9_through x.1 x.2.1 x.2.2⟩
noncomputable abbrev sg_r9_Move : Sig := ⟨146, [Tapi_TraceCourse, Tb0_Ratio, (.int .i64), (.int .i64)], [Tb0_Ratio, .bool], fun x => r9_Move x.1 x.2.1 x.2.2.1 x.2.2.2⟩
noncomputable abbrev sg_b0_RatioFloor : Sig := ⟨154, [Tb0_Ratio], [Tb0_Wide], fun x => b0_RatioFloor x⟩
noncomputable abbrev sg_b0_RatioSign : Sig := ⟨198, [Tb0_Ratio], [(.int .i64)], fun x => b0_RatioSign x⟩
noncomputable abbrev sg_r9_predicts : Sig := ⟨131, [Tapi_TraceCourse, Tapi_TraceCause, Tapi_TraceReading], [.bool], fun x => r9_predicts x.1 x.2.1 x.2.2⟩
noncomputable abbrev sg_r9_Table : Sig := ⟨52, [Tapi_TraceCourse, (.slice Tapi_TraceCause), (.slice Tapi_TraceReading)], [(.slice (.slice .bool))], fun x => r9_Table x.1 x.2.1 x.2.2⟩
noncomputable abbrev sg_r9_some : Sig := ⟨132, [(.slice .bool), (.slice (.int .i64))], [.bool], fun x => r9_some x.1 x.2⟩
noncomputable abbrev sg_r9_Contradiction : Sig := ⟨51, [(.slice (.slice .bool)), (.slice (.int .i64)), (.slice Tapi_TraceReading)], [(.int .i64), .bool], fun x => r9_Contradiction x.1 x.2.1 x.2.2⟩
noncomputable abbrev sg_r9_members : Sig := ⟨114, [(.int .i64)], [(.slice (.int .i64))], fun x => r9_members x⟩
noncomputable abbrev sg_b0_Before : Sig := ⟨115, [(.slice (.int .i64)), (.slice (.int .i64))], [.bool], fun x => b0_Before x.1 x.2⟩
noncomputable abbrev sg_r9_explained : Sig := ⟨113, [(.slice (.slice .bool)), (.int .i64), (.slice Tapi_TraceReading)], [(.slice (.slice (.int .i64)))], fun x => r9_explained x.1 x.2.1 x.2.2⟩
noncomputable abbrev sg_r9_Explanations : Sig := ⟨34, [Tapi_TraceCourse, (.slice Tapi_TraceCause), (.slice Tapi_TraceReading)], [(.slice (.slice (.int .i64)))], fun x => r9_Explanations x.1 x.2.1 x.2.2⟩
end Go.Lift
namespace Go.Lift
open Go Go.Proofs
theorem ck_b0_RatioDiv (a : Db0_Ratio) (b : Db0_Ratio) : funK (cx [] [sg_b0_RatioMake, sg_b0_WideMul]) Tryz.f155 an_b0_RatioDiv [Tb0_Ratio, Tb0_Ratio] [Tb0_Ratio] (a, b) = b0_RatioDiv a b := by kernel_rfl
theorem ck_b0_RatioSign (a : Db0_Ratio) : funK (cx [] [sg_b0_WideSign]) Tryz.f198 an_b0_RatioSign [Tb0_Ratio] [(.int .i64)] a = b0_RatioSign a := by kernel_rfl
theorem ck_r9_Contradiction (x : (List (List Bool))) (set : (List Int)) (r : (List Dapi_TraceReading)) : funK (cx [] [sg_r9_some]) Tryz.f51 an_r9_Contradiction [(.slice (.slice .bool)), (.slice (.int .i64)), (.slice Tapi_TraceReading)] [(.int .i64), .bool] (x, set, r) = r9_Contradiction x set r := by kernel_rfl
theorem ck_r9_Explanations (c : Dapi_TraceCourse) (l : (List Dapi_TraceCause)) (r : (List Dapi_TraceReading)) : funK (cx [] [sg_r9_Table, sg_r9_explained]) Tryz.f34 an_r9_Explanations [Tapi_TraceCourse, (.slice Tapi_TraceCause), (.slice Tapi_TraceReading)] [(.slice (.slice (.int .i64)))] (c, l, r) = r9_Explanations c l r := by kernel_rfl
end Go.Lift
namespace Go.Lift
open Go Go.Proofs
theorem ck_r9_through (a : (List Dr9_Section)) (b : (List Dr9_Section)) (x : Db0_Ratio) : funK (cx [] [sg_b0_RatioInt, sg_b0_RatioAdd, sg_b0_RatioCmp, sg_b0_RatioMul, sg_b0_RatioSub, sg_b0_RatioDiv]) Tryz.f210 an_r9_through [(.slice Tr9_Section), (.slice Tr9_Section), Tb0_Ratio] [Tb0_Ratio] (a, b, x) = r9_through a b x := by kernel_rfl
theorem ck_r9_predicts (c : Dapi_TraceCourse) (x : Dapi_TraceCause) (r : Dapi_TraceReading) : funK (cx [] [sg_b0_RatioInt, sg_b0_RatioCmp, sg_b0_WideOf, sg_b0_RatioMul, sg_r9_Move, sg_b0_RatioSub, sg_b0_RatioFloor, sg_b0_RatioDiv, sg_b0_RatioSign]) Tryz.f131 an_r9_predicts [Tapi_TraceCourse, Tapi_TraceCause, Tapi_TraceReading] [.bool] (c, x, r) = r9_predicts c x r := by kernel_rfl
theorem ck_r9_members (n : Int) : funK (cx [] []) Tryz.f114 an_r9_members [(.int .i64)] [(.slice (.int .i64))] n = r9_members n := by kernel_rfl
end Go.Lift
namespace Go.Lift
open Go Go.Proofs
theorem ck_r9_Move (c : Dapi_TraceCourse) (x : Db0_Ratio) (from_ : Int) (to : Int) : funK (cx [] [sg_b0_RatioInt, sg_b0_RatioAdd, sg_b0_RatioCmp, sg_r9_strips, sg_b0_RatioSub, sg_r9_through]) Tryz.f146 an_r9_Move [Tapi_TraceCourse, Tb0_Ratio, (.int .i64), (.int .i64)] [Tb0_Ratio, .bool] (c, x, from_, to) = r9_Move c x from_ to := by kernel_rfl
theorem ck_r9_Table (c : Dapi_TraceCourse) (l : (List Dapi_TraceCause)) (r : (List Dapi_TraceReading)) : funK (cx [] [sg_r9_predicts]) Tryz.f52 an_r9_Table [Tapi_TraceCourse, (.slice Tapi_TraceCause), (.slice Tapi_TraceReading)] [(.slice (.slice .bool))] (c, l, r) = r9_Table c l r := by kernel_rfl
theorem ck_b0_Before (a : (List Int)) (b : (List Int)) : funK (cx [] []) Tryz.f115 an_b0_Before [(.slice (.int .i64)), (.slice (.int .i64))] [.bool] (a, b) = b0_Before a b := by kernel_rfl
end Go.Lift
namespace Go.Lift
open Go Go.Proofs
theorem ck_b0_RatioFloor (a : Db0_Ratio) : funK (cx [] [sg_b0_WideFloor]) Tryz.f154 an_b0_RatioFloor [Tb0_Ratio] [Tb0_Wide] a = b0_RatioFloor a := by kernel_rfl
theorem ck_r9_some (row : (List Bool)) (set : (List Int)) : funK (cx [] []) Tryz.f132 an_r9_some [(.slice .bool), (.slice (.int .i64))] [.bool] (row, set) = r9_some row set := by kernel_rfl
theorem ck_r9_explained (x : (List (List Bool))) (count : Int) (r : (List Dapi_TraceReading)) : funK (cx [] [sg_r9_Contradiction, sg_r9_members, sg_b0_Before]) Tryz.f113 an_r9_explained [(.slice (.slice .bool)), (.int .i64), (.slice Tapi_TraceReading)] [(.slice (.slice (.int .i64)))] (x, count, r) = r9_explained x count r := by kernel_rfl
end Go.Lift
namespace Go.Lift
open Go Go.Proofs
set_option maxRecDepth 100000
theorem h_b0_RatioDiv : Has Tryz.prog sg_b0_RatioDiv :=
  has_of prog_mixed tys_ok nfs_ok eqs_ok (own := []) (all_cons h_b0_RatioMake (all_cons h_b0_WideMul all_nil)) (n := an_b0_RatioDiv) Tryz.func155 (by kernel_rfl) fun x => ck_b0_RatioDiv x.1 x.2
theorem h_r9_through : Has Tryz.prog sg_r9_through :=
  has_of prog_mixed tys_ok nfs_ok eqs_ok (own := []) (all_cons h_b0_RatioInt (all_cons h_b0_RatioAdd (all_cons h_b0_RatioCmp (all_cons h_b0_RatioMul (all_cons h_b0_RatioSub (all_cons h_b0_RatioDiv all_nil)))))) (n := an_r9_through) Tryz.func210 (by kernel_rfl) fun x => ck_r9_through x.1 x.2.1 x.2.2
theorem h_r9_Move : Has Tryz.prog sg_r9_Move :=
  has_of prog_mixed tys_ok nfs_ok eqs_ok (own := []) (all_cons h_b0_RatioInt (all_cons h_b0_RatioAdd (all_cons h_b0_RatioCmp (all_cons h_r9_strips (all_cons h_b0_RatioSub (all_cons h_r9_through all_nil)))))) (n := an_r9_Move) Tryz.func146 (by kernel_rfl) fun x => ck_r9_Move x.1 x.2.1 x.2.2.1 x.2.2.2
theorem h_b0_RatioFloor : Has Tryz.prog sg_b0_RatioFloor :=
  has_of prog_mixed tys_ok nfs_ok eqs_ok (own := []) (all_cons h_b0_WideFloor all_nil) (n := an_b0_RatioFloor) Tryz.func154 (by kernel_rfl) fun x => ck_b0_RatioFloor x
theorem h_b0_RatioSign : Has Tryz.prog sg_b0_RatioSign :=
  has_of prog_mixed tys_ok nfs_ok eqs_ok (own := []) (all_cons h_b0_WideSign all_nil) (n := an_b0_RatioSign) Tryz.func198 (by kernel_rfl) fun x => ck_b0_RatioSign x
theorem h_r9_predicts : Has Tryz.prog sg_r9_predicts :=
  has_of prog_mixed tys_ok nfs_ok eqs_ok (own := []) (all_cons h_b0_RatioInt (all_cons h_b0_RatioCmp (all_cons h_b0_WideOf (all_cons h_b0_RatioMul (all_cons h_r9_Move (all_cons h_b0_RatioSub (all_cons h_b0_RatioFloor (all_cons h_b0_RatioDiv (all_cons h_b0_RatioSign all_nil))))))))) (n := an_r9_predicts) Tryz.func131 (by kernel_rfl) fun x => ck_r9_predicts x.1 x.2.1 x.2.2
theorem h_r9_Table : Has Tryz.prog sg_r9_Table :=
  has_of prog_mixed tys_ok nfs_ok eqs_ok (own := []) (all_cons h_r9_predicts all_nil) (n := an_r9_Table) Tryz.func52 (by kernel_rfl) fun x => ck_r9_Table x.1 x.2.1 x.2.2
theorem h_r9_some : Has Tryz.prog sg_r9_some :=
  has_of prog_mixed tys_ok nfs_ok eqs_ok (own := []) all_nil (n := an_r9_some) Tryz.func132 (by kernel_rfl) fun x => ck_r9_some x.1 x.2
theorem h_r9_Contradiction : Has Tryz.prog sg_r9_Contradiction :=
  has_of prog_mixed tys_ok nfs_ok eqs_ok (own := []) (all_cons h_r9_some all_nil) (n := an_r9_Contradiction) Tryz.func51 (by kernel_rfl) fun x => ck_r9_Contradiction x.1 x.2.1 x.2.2
theorem h_r9_members : Has Tryz.prog sg_r9_members :=
  has_of prog_mixed tys_ok nfs_ok eqs_ok (own := []) all_nil (n := an_r9_members) Tryz.func114 (by kernel_rfl) fun x => ck_r9_members x
theorem h_b0_Before : Has Tryz.prog sg_b0_Before :=
  has_of prog_mixed tys_ok nfs_ok eqs_ok (own := []) all_nil (n := an_b0_Before) Tryz.func115 (by kernel_rfl) fun x => ck_b0_Before x.1 x.2
theorem h_r9_explained : Has Tryz.prog sg_r9_explained :=
  has_of prog_mixed tys_ok nfs_ok eqs_ok (own := []) (all_cons h_r9_Contradiction (all_cons h_r9_members (all_cons h_b0_Before all_nil))) (n := an_r9_explained) Tryz.func113 (by kernel_rfl) fun x => ck_r9_explained x.1 x.2.1 x.2.2
theorem h_r9_Explanations : Has Tryz.prog sg_r9_Explanations :=
  has_of prog_mixed tys_ok nfs_ok eqs_ok (own := []) (all_cons h_r9_Table (all_cons h_r9_explained all_nil)) (n := an_r9_Explanations) Tryz.func34 (by kernel_rfl) fun x => ck_r9_Explanations x.1 x.2.1 x.2.2
end Go.Lift
