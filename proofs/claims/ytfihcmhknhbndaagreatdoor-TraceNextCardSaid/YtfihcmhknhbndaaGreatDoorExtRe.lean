/-
  The contracts of the functions of the document's explanations.
-/
import Derived.Test.YtfihcmhknhbndaaGreatDoorFunRe
import Derived.Test.YtfihcmhknhbndaaGreatDoorFunT
import Derived.Test.YtfihcmhknhbndaaGreatDoorExtCb
import Derived.Test.YtfihcmhknhbndaaGreatDoorFunH
set_option linter.unusedSectionVars false
set_option linter.unusedVariables false
set_option linter.unusedSimpArgs false
namespace Go.Lift
open Go Go.Proofs
def an_cobblebase_RatioDiv : Ann := .nil
def an_cobbleref09_through : Ann := (.seq .nil (.seq .nil (.seq (.seq .nil (.blk (.loopBD ⟨[⟨false, 9, 0, (.int .i64), [], false⟩, ⟨true, 7, 74, Tcobblebase_Ratio, [], false⟩, ⟨true, 8, 74, Tcobblebase_Ratio, [], false⟩], [5, 6]⟩ ⟨[⟨true, 8, 74, Tcobblebase_Ratio, [], false⟩], [5, 6]⟩ 0 .nil))) .nil)))
def an_cobbleref09_Move : Ann := (.seq .nil (.seq .nil (.seq (.seq .nil (.blk (.loopB ⟨[⟨false, 11, 0, (.int .i64), [], false⟩, ⟨true, 5, 74, Tcobblebase_Ratio, [], false⟩], [4, 8]⟩ ⟨[⟨true, 5, 74, Tcobblebase_Ratio, [], false⟩], [4, 8]⟩ 0 (.seq .nil (.seq (.blk (.seq .nil (.seq .nil (.join ⟨[⟨true, 5, 74, Tcobblebase_Ratio, [], false⟩], [4, 8, 12]⟩ .nil .nil)))) .nil))))) (.seq (.seq .nil (.blk (.loopBD ⟨[⟨false, 13, 0, (.int .i64), [], false⟩, ⟨true, 5, 74, Tcobblebase_Ratio, [], false⟩], [4, 8]⟩ ⟨[⟨true, 5, 74, Tcobblebase_Ratio, [], false⟩], [4, 8]⟩ 2 (.seq .nil (.seq (.blk (.seq .nil (.seq .nil (.joinD ⟨[⟨true, 5, 74, Tcobblebase_Ratio, [], false⟩], [4, 8, 14]⟩ .nil .nil)))) .nil))))) .nil))))
def an_cobblebase_RatioFloor : Ann := .nil
def an_cobblebase_RatioSign : Ann := .nil
def an_cobbleref09_predicts : Ann := (.seq .nil (.seq .nil (.seq .nil (.seq .nil (.seq .nil (.seq (.seq .nil (.join ⟨[⟨true, 7, 74, Tcobblebase_Ratio, [], false⟩], [3, 4, 5]⟩ .nil .nil)) .nil))))))
def an_cobbleref09_Table : Ann := (.seq .nil (.seq .nil (.seq (.seq .nil (.blk (.loopB ⟨[⟨false, 7, 0, (.slice (.slice .bool)), [([], some 401000700)], false⟩, ⟨false, 8, 0, (.int .i64), [], false⟩], [3]⟩ ⟨[⟨false, 7, 0, (.slice (.slice .bool)), [([], some 801000700)], false⟩], [3]⟩ 0 (.seq .nil (.seq (.blk (.seq .nil (.seq (.seq .nil (.blk (.loopB ⟨[⟨false, 9, 0, (.slice .bool), [([], some 1001000900)], false⟩, ⟨false, 10, 0, (.int .i64), [], false⟩], [3, 401000700]⟩ ⟨[⟨false, 9, 0, (.slice .bool), [([], some 1101000900)], false⟩], [3, 401000700]⟩ 2 .nil))) .nil))) .nil))))) .nil)))
def an_cobbleref09_some : Ann := (.seq .nil (.seq (.seq .nil (.blk (.loopBD ⟨[⟨false, 5, 0, (.int .i64), [], false⟩], []⟩ ⟨[], []⟩ 0 .nil))) .nil))
def an_cobbleref09_Contradiction : Ann := (.seq .nil (.seq (.seq .nil (.blk (.loopBD ⟨[⟨false, 8, 0, (.int .i64), [], false⟩], []⟩ ⟨[], []⟩ 0 .nil))) .nil))
def an_cobbleref09_members : Ann := (.seq .nil (.seq .nil (.seq (.seq .nil (.blk (.loopB ⟨[⟨false, 0, 0, (.int .i64), [], false⟩, ⟨false, 3, 0, (.slice (.int .i64)), [([], some 201000300)], false⟩, ⟨false, 4, 0, (.int .i64), [], false⟩], []⟩ ⟨[⟨false, 3, 0, (.slice (.int .i64)), [([], some 401000300)], false⟩], []⟩ 0 (.seq .nil (.seq (.blk (.seq (.seq .nil (.join ⟨[⟨false, 3, 0, (.slice (.int .i64)), [([], some 501000300)], false⟩], []⟩ .nil .nil)) .nil)) .nil))))) .nil)))
def an_cobblebase_Before : Ann := (.seq .nil (.seq (.seq .nil (.blk (.loopBD ⟨[⟨false, 5, 0, (.int .i64), [], false⟩], []⟩ ⟨[], []⟩ 0 .nil))) .nil))
def an_cobbleref09_explained : Ann := (.seq .nil (.seq .nil (.seq (.seq .nil (.blk (.loopB ⟨[⟨false, 7, 0, (.slice (.slice (.int .i64))), [([], some 901000700)], false⟩, ⟨false, 8, 0, (.int .i64), [], false⟩], []⟩ ⟨[⟨false, 7, 0, (.slice (.slice (.int .i64))), [([], some 1801000700)], false⟩], []⟩ 0 (.seq .nil (.seq (.blk (.seq .nil (.seq .nil (.seq (.seq .nil (.join ⟨[⟨false, 7, 0, (.slice (.slice (.int .i64))), [([], some 1901000700)], false⟩], []⟩ .nil .nil)) (.seq .nil (.seq .nil (.seq (.seq .nil (.blk (.loopB ⟨[⟨false, 12, 0, (.slice (.slice (.int .i64))), [([], some 2201001200)], false⟩, ⟨false, 13, 0, .bool, [], false⟩, ⟨false, 14, 0, (.int .i64), [], false⟩], [1901000700]⟩ ⟨[⟨false, 12, 0, (.slice (.slice (.int .i64))), [([], some 2401001200)], false⟩, ⟨false, 13, 0, .bool, [], false⟩], [1901000700]⟩ 2 (.seq .nil (.seq (.blk (.seq (.seq .nil (.join ⟨[⟨false, 12, 0, (.slice (.slice (.int .i64))), [([], some 2501001200)], false⟩, ⟨false, 13, 0, .bool, [], false⟩], [1901000700]⟩ .nil .nil)) .nil)) .nil))))) (.seq (.seq .nil (.join ⟨[⟨false, 12, 0, (.slice (.slice (.int .i64))), [([], some 2601001200)], false⟩], [1901000700]⟩ .nil .nil)) .nil)))))))) .nil))))) .nil)))
def an_cobbleref09_Explanations : Ann := .nil
noncomputable abbrev sg_cobblebase_RatioDiv : Sig := ⟨155, [Tcobblebase_Ratio, Tcobblebase_Ratio], [Tcobblebase_Ratio], fun x => cobblebase_RatioDiv x.1 x.2⟩
noncomputable abbrev sg_cobbleref09_through : Sig := ⟨210, [(.slice Tcobbleref09_Section), (.slice Tcobbleref09_Section), Tcobblebase_Ratio], [Tcobblebase_Ratio], fun x => cobbleref09_through x.1 x.2.1 x.2.2⟩
noncomputable abbrev sg_cobbleref09_Move : Sig := ⟨146, [Tapi_TraceCourse, Tcobblebase_Ratio, (.int .i64), (.int .i64)], [Tcobblebase_Ratio, .bool], fun x => cobbleref09_Move x.1 x.2.1 x.2.2.1 x.2.2.2⟩
noncomputable abbrev sg_cobblebase_RatioFloor : Sig := ⟨154, [Tcobblebase_Ratio], [Tcobblebase_Wide], fun x => cobblebase_RatioFloor x⟩
noncomputable abbrev sg_cobblebase_RatioSign : Sig := ⟨198, [Tcobblebase_Ratio], [(.int .i64)], fun x => cobblebase_RatioSign x⟩
noncomputable abbrev sg_cobbleref09_predicts : Sig := ⟨131, [Tapi_TraceCourse, Tapi_TraceCause, Tapi_TraceReading], [.bool], fun x => cobbleref09_predicts x.1 x.2.1 x.2.2⟩
noncomputable abbrev sg_cobbleref09_Table : Sig := ⟨52, [Tapi_TraceCourse, (.slice Tapi_TraceCause), (.slice Tapi_TraceReading)], [(.slice (.slice .bool))], fun x => cobbleref09_Table x.1 x.2.1 x.2.2⟩
noncomputable abbrev sg_cobbleref09_some : Sig := ⟨132, [(.slice .bool), (.slice (.int .i64))], [.bool], fun x => cobbleref09_some x.1 x.2⟩
noncomputable abbrev sg_cobbleref09_Contradiction : Sig := ⟨51, [(.slice (.slice .bool)), (.slice (.int .i64)), (.slice Tapi_TraceReading)], [(.int .i64), .bool], fun x => cobbleref09_Contradiction x.1 x.2.1 x.2.2⟩
noncomputable abbrev sg_cobbleref09_members : Sig := ⟨114, [(.int .i64)], [(.slice (.int .i64))], fun x => cobbleref09_members x⟩
noncomputable abbrev sg_cobblebase_Before : Sig := ⟨115, [(.slice (.int .i64)), (.slice (.int .i64))], [.bool], fun x => cobblebase_Before x.1 x.2⟩
noncomputable abbrev sg_cobbleref09_explained : Sig := ⟨113, [(.slice (.slice .bool)), (.int .i64), (.slice Tapi_TraceReading)], [(.slice (.slice (.int .i64)))], fun x => cobbleref09_explained x.1 x.2.1 x.2.2⟩
noncomputable abbrev sg_cobbleref09_Explanations : Sig := ⟨34, [Tapi_TraceCourse, (.slice Tapi_TraceCause), (.slice Tapi_TraceReading)], [(.slice (.slice (.int .i64)))], fun x => cobbleref09_Explanations x.1 x.2.1 x.2.2⟩
end Go.Lift

namespace Go.Lift
open Go Go.Proofs
theorem ck_cobblebase_RatioDiv (a : Dcobblebase_Ratio) (b : Dcobblebase_Ratio) : funK (cx [] [sg_cobblebase_RatioMake, sg_cobblebase_WideMul]) Tryz.f155 an_cobblebase_RatioDiv [Tcobblebase_Ratio, Tcobblebase_Ratio] [Tcobblebase_Ratio] (a, b) = cobblebase_RatioDiv a b := by kernel_rfl

theorem ck_cobblebase_RatioSign (a : Dcobblebase_Ratio) : funK (cx [] [sg_cobblebase_WideSign]) Tryz.f198 an_cobblebase_RatioSign [Tcobblebase_Ratio] [(.int .i64)] a = cobblebase_RatioSign a := by kernel_rfl

theorem ck_cobbleref09_Contradiction (x : (List (List Bool))) (set : (List Int)) (r : (List Dapi_TraceReading)) : funK (cx [] [sg_cobbleref09_some]) Tryz.f51 an_cobbleref09_Contradiction [(.slice (.slice .bool)), (.slice (.int .i64)), (.slice Tapi_TraceReading)] [(.int .i64), .bool] (x, set, r) = cobbleref09_Contradiction x set r := by kernel_rfl

theorem ck_cobbleref09_Explanations (c : Dapi_TraceCourse) (l : (List Dapi_TraceCause)) (r : (List Dapi_TraceReading)) : funK (cx [] [sg_cobbleref09_Table, sg_cobbleref09_explained]) Tryz.f34 an_cobbleref09_Explanations [Tapi_TraceCourse, (.slice Tapi_TraceCause), (.slice Tapi_TraceReading)] [(.slice (.slice (.int .i64)))] (c, l, r) = cobbleref09_Explanations c l r := by kernel_rfl

end Go.Lift

namespace Go.Lift
open Go Go.Proofs
theorem ck_cobbleref09_through (a : (List Dcobbleref09_Section)) (b : (List Dcobbleref09_Section)) (x : Dcobblebase_Ratio) : funK (cx [] [sg_cobblebase_RatioInt, sg_cobblebase_RatioAdd, sg_cobblebase_RatioCmp, sg_cobblebase_RatioMul, sg_cobblebase_RatioSub, sg_cobblebase_RatioDiv]) Tryz.f210 an_cobbleref09_through [(.slice Tcobbleref09_Section), (.slice Tcobbleref09_Section), Tcobblebase_Ratio] [Tcobblebase_Ratio] (a, b, x) = cobbleref09_through a b x := by kernel_rfl

theorem ck_cobbleref09_predicts (c : Dapi_TraceCourse) (x : Dapi_TraceCause) (r : Dapi_TraceReading) : funK (cx [] [sg_cobblebase_RatioInt, sg_cobblebase_RatioCmp, sg_cobblebase_WideOf, sg_cobblebase_RatioMul, sg_cobbleref09_Move, sg_cobblebase_RatioSub, sg_cobblebase_RatioFloor, sg_cobblebase_RatioDiv, sg_cobblebase_RatioSign]) Tryz.f131 an_cobbleref09_predicts [Tapi_TraceCourse, Tapi_TraceCause, Tapi_TraceReading] [.bool] (c, x, r) = cobbleref09_predicts c x r := by kernel_rfl

theorem ck_cobbleref09_members (n : Int) : funK (cx [] []) Tryz.f114 an_cobbleref09_members [(.int .i64)] [(.slice (.int .i64))] n = cobbleref09_members n := by kernel_rfl

end Go.Lift

namespace Go.Lift
open Go Go.Proofs
theorem ck_cobbleref09_Move (c : Dapi_TraceCourse) (x : Dcobblebase_Ratio) (from_ : Int) (to : Int) : funK (cx [] [sg_cobblebase_RatioInt, sg_cobblebase_RatioAdd, sg_cobblebase_RatioCmp, sg_cobbleref09_strips, sg_cobblebase_RatioSub, sg_cobbleref09_through]) Tryz.f146 an_cobbleref09_Move [Tapi_TraceCourse, Tcobblebase_Ratio, (.int .i64), (.int .i64)] [Tcobblebase_Ratio, .bool] (c, x, from_, to) = cobbleref09_Move c x from_ to := by kernel_rfl

theorem ck_cobbleref09_Table (c : Dapi_TraceCourse) (l : (List Dapi_TraceCause)) (r : (List Dapi_TraceReading)) : funK (cx [] [sg_cobbleref09_predicts]) Tryz.f52 an_cobbleref09_Table [Tapi_TraceCourse, (.slice Tapi_TraceCause), (.slice Tapi_TraceReading)] [(.slice (.slice .bool))] (c, l, r) = cobbleref09_Table c l r := by kernel_rfl

theorem ck_cobblebase_Before (a : (List Int)) (b : (List Int)) : funK (cx [] []) Tryz.f115 an_cobblebase_Before [(.slice (.int .i64)), (.slice (.int .i64))] [.bool] (a, b) = cobblebase_Before a b := by kernel_rfl

end Go.Lift

namespace Go.Lift
open Go Go.Proofs
theorem ck_cobblebase_RatioFloor (a : Dcobblebase_Ratio) : funK (cx [] [sg_cobblebase_WideFloor]) Tryz.f154 an_cobblebase_RatioFloor [Tcobblebase_Ratio] [Tcobblebase_Wide] a = cobblebase_RatioFloor a := by kernel_rfl

theorem ck_cobbleref09_some (row : (List Bool)) (set : (List Int)) : funK (cx [] []) Tryz.f132 an_cobbleref09_some [(.slice .bool), (.slice (.int .i64))] [.bool] (row, set) = cobbleref09_some row set := by kernel_rfl

theorem ck_cobbleref09_explained (x : (List (List Bool))) (count : Int) (r : (List Dapi_TraceReading)) : funK (cx [] [sg_cobbleref09_Contradiction, sg_cobbleref09_members, sg_cobblebase_Before]) Tryz.f113 an_cobbleref09_explained [(.slice (.slice .bool)), (.int .i64), (.slice Tapi_TraceReading)] [(.slice (.slice (.int .i64)))] (x, count, r) = cobbleref09_explained x count r := by kernel_rfl

end Go.Lift

namespace Go.Lift
open Go Go.Proofs
set_option maxRecDepth 100000
theorem h_cobblebase_RatioDiv : Has Tryz.prog sg_cobblebase_RatioDiv :=
  has_of prog_mixed tys_ok nfs_ok eqs_ok (own := []) (all_cons h_cobblebase_RatioMake (all_cons h_cobblebase_WideMul all_nil)) (n := an_cobblebase_RatioDiv) Tryz.func155 (by kernel_rfl) fun x => ck_cobblebase_RatioDiv x.1 x.2
theorem h_cobbleref09_through : Has Tryz.prog sg_cobbleref09_through :=
  has_of prog_mixed tys_ok nfs_ok eqs_ok (own := []) (all_cons h_cobblebase_RatioInt (all_cons h_cobblebase_RatioAdd (all_cons h_cobblebase_RatioCmp (all_cons h_cobblebase_RatioMul (all_cons h_cobblebase_RatioSub (all_cons h_cobblebase_RatioDiv all_nil)))))) (n := an_cobbleref09_through) Tryz.func210 (by kernel_rfl) fun x => ck_cobbleref09_through x.1 x.2.1 x.2.2
theorem h_cobbleref09_Move : Has Tryz.prog sg_cobbleref09_Move :=
  has_of prog_mixed tys_ok nfs_ok eqs_ok (own := []) (all_cons h_cobblebase_RatioInt (all_cons h_cobblebase_RatioAdd (all_cons h_cobblebase_RatioCmp (all_cons h_cobbleref09_strips (all_cons h_cobblebase_RatioSub (all_cons h_cobbleref09_through all_nil)))))) (n := an_cobbleref09_Move) Tryz.func146 (by kernel_rfl) fun x => ck_cobbleref09_Move x.1 x.2.1 x.2.2.1 x.2.2.2
theorem h_cobblebase_RatioFloor : Has Tryz.prog sg_cobblebase_RatioFloor :=
  has_of prog_mixed tys_ok nfs_ok eqs_ok (own := []) (all_cons h_cobblebase_WideFloor all_nil) (n := an_cobblebase_RatioFloor) Tryz.func154 (by kernel_rfl) fun x => ck_cobblebase_RatioFloor x
theorem h_cobblebase_RatioSign : Has Tryz.prog sg_cobblebase_RatioSign :=
  has_of prog_mixed tys_ok nfs_ok eqs_ok (own := []) (all_cons h_cobblebase_WideSign all_nil) (n := an_cobblebase_RatioSign) Tryz.func198 (by kernel_rfl) fun x => ck_cobblebase_RatioSign x
theorem h_cobbleref09_predicts : Has Tryz.prog sg_cobbleref09_predicts :=
  has_of prog_mixed tys_ok nfs_ok eqs_ok (own := []) (all_cons h_cobblebase_RatioInt (all_cons h_cobblebase_RatioCmp (all_cons h_cobblebase_WideOf (all_cons h_cobblebase_RatioMul (all_cons h_cobbleref09_Move (all_cons h_cobblebase_RatioSub (all_cons h_cobblebase_RatioFloor (all_cons h_cobblebase_RatioDiv (all_cons h_cobblebase_RatioSign all_nil))))))))) (n := an_cobbleref09_predicts) Tryz.func131 (by kernel_rfl) fun x => ck_cobbleref09_predicts x.1 x.2.1 x.2.2
theorem h_cobbleref09_Table : Has Tryz.prog sg_cobbleref09_Table :=
  has_of prog_mixed tys_ok nfs_ok eqs_ok (own := []) (all_cons h_cobbleref09_predicts all_nil) (n := an_cobbleref09_Table) Tryz.func52 (by kernel_rfl) fun x => ck_cobbleref09_Table x.1 x.2.1 x.2.2
theorem h_cobbleref09_some : Has Tryz.prog sg_cobbleref09_some :=
  has_of prog_mixed tys_ok nfs_ok eqs_ok (own := []) all_nil (n := an_cobbleref09_some) Tryz.func132 (by kernel_rfl) fun x => ck_cobbleref09_some x.1 x.2
theorem h_cobbleref09_Contradiction : Has Tryz.prog sg_cobbleref09_Contradiction :=
  has_of prog_mixed tys_ok nfs_ok eqs_ok (own := []) (all_cons h_cobbleref09_some all_nil) (n := an_cobbleref09_Contradiction) Tryz.func51 (by kernel_rfl) fun x => ck_cobbleref09_Contradiction x.1 x.2.1 x.2.2
theorem h_cobbleref09_members : Has Tryz.prog sg_cobbleref09_members :=
  has_of prog_mixed tys_ok nfs_ok eqs_ok (own := []) all_nil (n := an_cobbleref09_members) Tryz.func114 (by kernel_rfl) fun x => ck_cobbleref09_members x
theorem h_cobblebase_Before : Has Tryz.prog sg_cobblebase_Before :=
  has_of prog_mixed tys_ok nfs_ok eqs_ok (own := []) all_nil (n := an_cobblebase_Before) Tryz.func115 (by kernel_rfl) fun x => ck_cobblebase_Before x.1 x.2
theorem h_cobbleref09_explained : Has Tryz.prog sg_cobbleref09_explained :=
  has_of prog_mixed tys_ok nfs_ok eqs_ok (own := []) (all_cons h_cobbleref09_Contradiction (all_cons h_cobbleref09_members (all_cons h_cobblebase_Before all_nil))) (n := an_cobbleref09_explained) Tryz.func113 (by kernel_rfl) fun x => ck_cobbleref09_explained x.1 x.2.1 x.2.2
theorem h_cobbleref09_Explanations : Has Tryz.prog sg_cobbleref09_Explanations :=
  has_of prog_mixed tys_ok nfs_ok eqs_ok (own := []) (all_cons h_cobbleref09_Table (all_cons h_cobbleref09_explained all_nil)) (n := an_cobbleref09_Explanations) Tryz.func34 (by kernel_rfl) fun x => ck_cobbleref09_Explanations x.1 x.2.1 x.2.2
end Go.Lift
