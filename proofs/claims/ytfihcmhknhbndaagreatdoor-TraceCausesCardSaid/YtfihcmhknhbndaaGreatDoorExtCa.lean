/-
  The contracts of the functions of causes.
-/
import Derived.Test.YtfihcmhknhbndaaGreatDoorFunCa
import Derived.Test.YtfihcmhknhbndaaGreatDoorFunT
import Derived.Test.YtfihcmhknhbndaaGreatDoorExtCo
import Derived.Test.YtfihcmhknhbndaaGreatDoorFunH
set_option linter.unusedSectionVars false
set_option linter.unusedVariables false
set_option linter.unusedSimpArgs false
namespace Go.Lift
open Go Go.Proofs
def an_cobbleref09_CopyCauses : Ann := .nil
def an_cobbleref09_CopyReadings : Ann := .nil
def an_cobbleref09_ReadingErr : Ann := .nil
def an_cobbleref09_ReadingsErr : Ann := (.seq .nil (.seq .nil (.seq (.seq .nil (.blk (.loopBD ⟨[⟨false, 5, 0, (.int .i64), [], false⟩], [2]⟩ ⟨[], [2]⟩ 0 .nil))) .nil)))
def an_trace_CheckCauses : Ann := .nil
def an_trace_Contradiction : Ann := .nil
def an_trace_Predicts_1 : Ann := .nil
def an_trace_Predicts : Ann := (.seq .nil (.seq .nil (.seq (.seq .nil (.join ⟨[⟨false, 10, 0, (.int .i64), [], false⟩], [3, 5, 8]⟩ .nil .nil)) (.seq .nil (.seq (.frz 8 (.frz 5 .nil)) .nil)))))
def an_cobbleref09_CheckCauses : Ann := (.seq .nil (.seq .nil (.seq .nil (.seq (.seq .nil (.blk (.loopBD ⟨[⟨false, 7, 0, (.int .i64), [], false⟩], [2]⟩ ⟨[], [2]⟩ 0 (.seq .nil (.seq (.blk (.seq .nil (.seq .nil (.seq (.seq .nil (.blk (.loopBD ⟨[⟨false, 9, 0, (.int .i64), [], false⟩], [2, 8]⟩ ⟨[], [2, 8]⟩ 2 .nil))) .nil)))) .nil))))) .nil))))
def an_cobblebase_RatioDiv : Ann := .nil
def an_cobbleref09_through : Ann := (.seq .nil (.seq .nil (.seq (.seq .nil (.blk (.loopBD ⟨[⟨false, 9, 0, (.int .i64), [], false⟩, ⟨true, 7, 74, Tcobblebase_Ratio, [], false⟩, ⟨true, 8, 74, Tcobblebase_Ratio, [], false⟩], [5, 6]⟩ ⟨[⟨true, 8, 74, Tcobblebase_Ratio, [], false⟩], [5, 6]⟩ 0 .nil))) .nil)))
def an_cobbleref09_Move : Ann := (.seq .nil (.seq .nil (.seq (.seq .nil (.blk (.loopB ⟨[⟨false, 11, 0, (.int .i64), [], false⟩, ⟨true, 5, 74, Tcobblebase_Ratio, [], false⟩], [4, 8]⟩ ⟨[⟨true, 5, 74, Tcobblebase_Ratio, [], false⟩], [4, 8]⟩ 0 (.seq .nil (.seq (.blk (.seq .nil (.seq .nil (.join ⟨[⟨true, 5, 74, Tcobblebase_Ratio, [], false⟩], [4, 8, 12]⟩ .nil .nil)))) .nil))))) (.seq (.seq .nil (.blk (.loopBD ⟨[⟨false, 13, 0, (.int .i64), [], false⟩, ⟨true, 5, 74, Tcobblebase_Ratio, [], false⟩], [4, 8]⟩ ⟨[⟨true, 5, 74, Tcobblebase_Ratio, [], false⟩], [4, 8]⟩ 2 (.seq .nil (.seq (.blk (.seq .nil (.seq .nil (.joinD ⟨[⟨true, 5, 74, Tcobblebase_Ratio, [], false⟩], [4, 8, 14]⟩ .nil .nil)))) .nil))))) .nil))))
def an_cobblebase_RatioFloor : Ann := .nil
def an_cobblebase_RatioSign : Ann := .nil
def an_cobbleref09_predicts : Ann := (.seq .nil (.seq .nil (.seq .nil (.seq .nil (.seq .nil (.seq (.seq .nil (.join ⟨[⟨true, 7, 74, Tcobblebase_Ratio, [], false⟩], [3, 4, 5]⟩ .nil .nil)) .nil))))))
def an_cobbleref09_Predicts : Ann := (.seq .nil (.seq (.seq .nil (.blk (.loopBD ⟨[⟨false, 9, 0, (.int .i64), [], false⟩], [4, 7]⟩ ⟨[], [4, 7]⟩ 0 .nil))) .nil))
def an_cobbleref09_All : Ann := (.seq .nil (.seq .nil (.seq (.seq .nil (.blk (.loopB ⟨[⟨false, 3, 0, (.slice (.int .i64)), [([], some 101000300)], false⟩, ⟨false, 4, 0, (.int .i64), [], false⟩], []⟩ ⟨[⟨false, 3, 0, (.slice (.int .i64)), [([], some 201000300)], false⟩], []⟩ 0 .nil))) .nil)))
def an_cobbleref09_some : Ann := (.seq .nil (.seq (.seq .nil (.blk (.loopBD ⟨[⟨false, 5, 0, (.int .i64), [], false⟩], []⟩ ⟨[], []⟩ 0 .nil))) .nil))
def an_cobbleref09_Contradiction : Ann := (.seq .nil (.seq (.seq .nil (.blk (.loopBD ⟨[⟨false, 8, 0, (.int .i64), [], false⟩], []⟩ ⟨[], []⟩ 0 .nil))) .nil))
def an_cobbleref09_Table : Ann := (.seq .nil (.seq .nil (.seq (.seq .nil (.blk (.loopB ⟨[⟨false, 7, 0, (.slice (.slice .bool)), [([], some 401000700)], false⟩, ⟨false, 8, 0, (.int .i64), [], false⟩], [3]⟩ ⟨[⟨false, 7, 0, (.slice (.slice .bool)), [([], some 801000700)], false⟩], [3]⟩ 0 (.seq .nil (.seq (.blk (.seq .nil (.seq (.seq .nil (.blk (.loopB ⟨[⟨false, 9, 0, (.slice .bool), [([], some 1001000900)], false⟩, ⟨false, 10, 0, (.int .i64), [], false⟩], [3, 401000700]⟩ ⟨[⟨false, 9, 0, (.slice .bool), [([], some 1101000900)], false⟩], [3, 401000700]⟩ 2 .nil))) .nil))) .nil))))) .nil)))
def an_cobblelaw09_TraceCauses : Ann := (.seq .nil (.seq .nil (.seq .nil (.seq .nil (.seq .nil (.seq .nil (.seq (.seq .nil (.join ⟨[⟨true, 11, 44, Tapi_TraceReading, [], false⟩], [3]⟩ .nil .nil)) .nil)))))))
noncomputable abbrev sg_cobbleref09_CopyCauses : Sig := ⟨29, [(.slice Tapi_TraceCause)], [(.slice Tapi_TraceCause)], fun x => cobbleref09_CopyCauses x⟩
noncomputable abbrev sg_cobbleref09_CopyReadings : Sig := ⟨30, [(.slice Tapi_TraceReading)], [(.slice Tapi_TraceReading)], fun x => cobbleref09_CopyReadings x⟩
noncomputable abbrev sg_cobbleref09_ReadingErr : Sig := ⟨48, [Tapi_TraceCourse, Tapi_TraceReading], [(.int .i64)], fun x => cobbleref09_ReadingErr x.1 x.2⟩
noncomputable abbrev sg_cobbleref09_ReadingsErr : Sig := ⟨33, [Tapi_TraceCourse, (.slice Tapi_TraceReading)], [(.int .i64)], fun x => cobbleref09_ReadingsErr x.1 x.2⟩
noncomputable abbrev sg_trace_CheckCauses : Sig := ⟨44, [Tapi_TraceCourse, (.slice Tapi_TraceCause)], [(.int .i64), (.int .i64)], fun x => trace_CheckCauses x.1 x.2⟩
noncomputable abbrev sg_trace_Contradiction : Sig := ⟨45, [Tapi_TraceCourse, (.slice Tapi_TraceCause), (.slice Tapi_TraceReading)], [(.int .i64), (.int .i64)], fun x => trace_Contradiction x.1 x.2.1 x.2.2⟩
noncomputable abbrev sg_trace_Predicts_1 : Sig := ⟨128, [Tapi_TraceCause, (.ptr Ttrace_course), (.ptr Tapi_TraceReading)], [.bool], fun x => trace_Predicts_1 x.1 x.2.1 x.2.2⟩
noncomputable abbrev sg_trace_Predicts : Sig := ⟨46, [Tapi_TraceCourse, (.slice Tapi_TraceCause), Tapi_TraceReading], [.bool, (.int .i64)], fun x => trace_Predicts x.1 x.2.1 x.2.2⟩
noncomputable abbrev sg_cobbleref09_CheckCauses : Sig := ⟨47, [Tapi_TraceCourse, (.slice Tapi_TraceCause)], [(.int .i64), (.int .i64)], fun x => cobbleref09_CheckCauses x.1 x.2⟩
noncomputable abbrev sg_cobblebase_RatioDiv : Sig := ⟨155, [Tcobblebase_Ratio, Tcobblebase_Ratio], [Tcobblebase_Ratio], fun x => cobblebase_RatioDiv x.1 x.2⟩
noncomputable abbrev sg_cobbleref09_through : Sig := ⟨210, [(.slice Tcobbleref09_Section), (.slice Tcobbleref09_Section), Tcobblebase_Ratio], [Tcobblebase_Ratio], fun x => cobbleref09_through x.1 x.2.1 x.2.2⟩
noncomputable abbrev sg_cobbleref09_Move : Sig := ⟨146, [Tapi_TraceCourse, Tcobblebase_Ratio, (.int .i64), (.int .i64)], [Tcobblebase_Ratio, .bool], fun x => cobbleref09_Move x.1 x.2.1 x.2.2.1 x.2.2.2⟩
noncomputable abbrev sg_cobblebase_RatioFloor : Sig := ⟨154, [Tcobblebase_Ratio], [Tcobblebase_Wide], fun x => cobblebase_RatioFloor x⟩
noncomputable abbrev sg_cobblebase_RatioSign : Sig := ⟨198, [Tcobblebase_Ratio], [(.int .i64)], fun x => cobblebase_RatioSign x⟩
noncomputable abbrev sg_cobbleref09_predicts : Sig := ⟨131, [Tapi_TraceCourse, Tapi_TraceCause, Tapi_TraceReading], [.bool], fun x => cobbleref09_predicts x.1 x.2.1 x.2.2⟩
noncomputable abbrev sg_cobbleref09_Predicts : Sig := ⟨49, [Tapi_TraceCourse, (.slice Tapi_TraceCause), (.slice (.int .i64)), Tapi_TraceReading], [.bool], fun x => cobbleref09_Predicts x.1 x.2.1 x.2.2.1 x.2.2.2⟩
noncomputable abbrev sg_cobbleref09_All : Sig := ⟨50, [(.slice Tapi_TraceCause)], [(.slice (.int .i64))], fun x => cobbleref09_All x⟩
noncomputable abbrev sg_cobbleref09_some : Sig := ⟨132, [(.slice .bool), (.slice (.int .i64))], [.bool], fun x => cobbleref09_some x.1 x.2⟩
noncomputable abbrev sg_cobbleref09_Contradiction : Sig := ⟨51, [(.slice (.slice .bool)), (.slice (.int .i64)), (.slice Tapi_TraceReading)], [(.int .i64), .bool], fun x => cobbleref09_Contradiction x.1 x.2.1 x.2.2⟩
noncomputable abbrev sg_cobbleref09_Table : Sig := ⟨52, [Tapi_TraceCourse, (.slice Tapi_TraceCause), (.slice Tapi_TraceReading)], [(.slice (.slice .bool))], fun x => cobbleref09_Table x.1 x.2.1 x.2.2⟩
noncomputable abbrev sg_cobblelaw09_TraceCauses : Sig := ⟨6, [Tapi_TraceCourse, (.slice Tapi_TraceCause), (.slice Tapi_TraceReading)], [.bool], fun x => cobblelaw09_TraceCauses x.1 x.2.1 x.2.2⟩
end Go.Lift

namespace Go.Lift
open Go Go.Proofs
theorem ck_cobbleref09_CopyCauses (l : (List Dapi_TraceCause)) : funK (cx [] []) Tryz.f29 an_cobbleref09_CopyCauses [(.slice Tapi_TraceCause)] [(.slice Tapi_TraceCause)] l = cobbleref09_CopyCauses l := by kernel_rfl

theorem ck_trace_CheckCauses (c : Dapi_TraceCourse) (l : (List Dapi_TraceCause)) : funK (cx [] [sg_trace_openCauses]) Tryz.f44 an_trace_CheckCauses [Tapi_TraceCourse, (.slice Tapi_TraceCause)] [(.int .i64), (.int .i64)] (c, l) = trace_CheckCauses c l := by kernel_rfl

theorem ck_cobbleref09_CheckCauses (c : Dapi_TraceCourse) (l : (List Dapi_TraceCause)) : funK (cx [] [sg_cobbleref09_CourseErr, sg_cobblebase_Within, sg_cobbleref09_StepsErr, sg_cobblebase_IsName]) Tryz.f47 an_cobbleref09_CheckCauses [Tapi_TraceCourse, (.slice Tapi_TraceCause)] [(.int .i64), (.int .i64)] (c, l) = cobbleref09_CheckCauses c l := by kernel_rfl

theorem ck_cobblebase_RatioFloor (a : Dcobblebase_Ratio) : funK (cx [] [sg_cobblebase_WideFloor]) Tryz.f154 an_cobblebase_RatioFloor [Tcobblebase_Ratio] [Tcobblebase_Wide] a = cobblebase_RatioFloor a := by kernel_rfl

theorem ck_cobbleref09_All (l : (List Dapi_TraceCause)) : funK (cx [] []) Tryz.f50 an_cobbleref09_All [(.slice Tapi_TraceCause)] [(.slice (.int .i64))] l = cobbleref09_All l := by kernel_rfl

theorem ck_cobblelaw09_TraceCauses (c : Dapi_TraceCourse) (l : (List Dapi_TraceCause)) (r : (List Dapi_TraceReading)) : funK (cx [] [sg_cobblelaw09_awake, sg_cobblelaw09_Few, sg_cobbleref09_CopyCourse, sg_cobbleref09_CopyCauses, sg_cobbleref09_CopyReadings, sg_cobbleref09_ReadingsErr, sg_trace_CheckCauses, sg_trace_Contradiction, sg_trace_Predicts, sg_cobbleref09_CheckCauses, sg_cobbleref09_ReadingErr, sg_cobbleref09_Predicts, sg_cobbleref09_All, sg_cobbleref09_Contradiction, sg_cobbleref09_Table]) Tryz.f6 an_cobblelaw09_TraceCauses [Tapi_TraceCourse, (.slice Tapi_TraceCause), (.slice Tapi_TraceReading)] [.bool] (c, l, r) = cobblelaw09_TraceCauses c l r := by kernel_rfl

end Go.Lift

namespace Go.Lift
open Go Go.Proofs
theorem ck_cobbleref09_CopyReadings (l : (List Dapi_TraceReading)) : funK (cx [] []) Tryz.f30 an_cobbleref09_CopyReadings [(.slice Tapi_TraceReading)] [(.slice Tapi_TraceReading)] l = cobbleref09_CopyReadings l := by kernel_rfl

theorem ck_trace_Contradiction (c : Dapi_TraceCourse) (l : (List Dapi_TraceCause)) (r : (List Dapi_TraceReading)) : funK (cx [] [sg_trace_openEvidence, sg_trace_evidence_every, sg_trace_evidence_firstWrong]) Tryz.f45 an_trace_Contradiction [Tapi_TraceCourse, (.slice Tapi_TraceCause), (.slice Tapi_TraceReading)] [(.int .i64), (.int .i64)] (c, l, r) = trace_Contradiction c l r := by kernel_rfl

theorem ck_cobblebase_RatioDiv (a : Dcobblebase_Ratio) (b : Dcobblebase_Ratio) : funK (cx [] [sg_cobblebase_RatioMake, sg_cobblebase_WideMul]) Tryz.f155 an_cobblebase_RatioDiv [Tcobblebase_Ratio, Tcobblebase_Ratio] [Tcobblebase_Ratio] (a, b) = cobblebase_RatioDiv a b := by kernel_rfl

theorem ck_cobblebase_RatioSign (a : Dcobblebase_Ratio) : funK (cx [] [sg_cobblebase_WideSign]) Tryz.f198 an_cobblebase_RatioSign [Tcobblebase_Ratio] [(.int .i64)] a = cobblebase_RatioSign a := by kernel_rfl

theorem ck_cobbleref09_some (row : (List Bool)) (set : (List Int)) : funK (cx [] []) Tryz.f132 an_cobbleref09_some [(.slice .bool), (.slice (.int .i64))] [.bool] (row, set) = cobbleref09_some row set := by kernel_rfl

end Go.Lift

namespace Go.Lift
open Go Go.Proofs
theorem ck_cobbleref09_ReadingErr (c : Dapi_TraceCourse) (r : Dapi_TraceReading) : funK (cx [] [sg_cobblebase_RatioInt, sg_cobblebase_RatioCmp, sg_cobbleref09_StepsErr, sg_cobbleref09_After, sg_cobbleref09_Strip_Length]) Tryz.f48 an_cobbleref09_ReadingErr [Tapi_TraceCourse, Tapi_TraceReading] [(.int .i64)] (c, r) = cobbleref09_ReadingErr c r := by kernel_rfl

theorem ck_trace_Predicts_1 (own : Dapi_TraceCause) (x : Dtrace_course) (x_1 : Dapi_TraceReading) : funK (cx [] [sg_trace_course_predicts]) Tryz.f128 an_trace_Predicts_1 [Tapi_TraceCause, (.ptr Ttrace_course), (.ptr Tapi_TraceReading)] [.bool] (own, x, x_1) = trace_Predicts_1 own x x_1 := by kernel_rfl

theorem ck_cobbleref09_through (a : (List Dcobbleref09_Section)) (b : (List Dcobbleref09_Section)) (x : Dcobblebase_Ratio) : funK (cx [] [sg_cobblebase_RatioInt, sg_cobblebase_RatioAdd, sg_cobblebase_RatioCmp, sg_cobblebase_RatioMul, sg_cobblebase_RatioSub, sg_cobblebase_RatioDiv]) Tryz.f210 an_cobbleref09_through [(.slice Tcobbleref09_Section), (.slice Tcobbleref09_Section), Tcobblebase_Ratio] [Tcobblebase_Ratio] (a, b, x) = cobbleref09_through a b x := by kernel_rfl

theorem ck_cobbleref09_predicts (c : Dapi_TraceCourse) (x : Dapi_TraceCause) (r : Dapi_TraceReading) : funK (cx [] [sg_cobblebase_RatioInt, sg_cobblebase_RatioCmp, sg_cobblebase_WideOf, sg_cobblebase_RatioMul, sg_cobbleref09_Move, sg_cobblebase_RatioSub, sg_cobblebase_RatioFloor, sg_cobblebase_RatioDiv, sg_cobblebase_RatioSign]) Tryz.f131 an_cobbleref09_predicts [Tapi_TraceCourse, Tapi_TraceCause, Tapi_TraceReading] [.bool] (c, x, r) = cobbleref09_predicts c x r := by kernel_rfl

theorem ck_cobbleref09_Contradiction (x : (List (List Bool))) (set : (List Int)) (r : (List Dapi_TraceReading)) : funK (cx [] [sg_cobbleref09_some]) Tryz.f51 an_cobbleref09_Contradiction [(.slice (.slice .bool)), (.slice (.int .i64)), (.slice Tapi_TraceReading)] [(.int .i64), .bool] (x, set, r) = cobbleref09_Contradiction x set r := by kernel_rfl

end Go.Lift

namespace Go.Lift
open Go Go.Proofs
theorem ck_cobbleref09_ReadingsErr (c : Dapi_TraceCourse) (l : (List Dapi_TraceReading)) : funK (cx [] [sg_cobbleref09_ReadingErr]) Tryz.f33 an_cobbleref09_ReadingsErr [Tapi_TraceCourse, (.slice Tapi_TraceReading)] [(.int .i64)] (c, l) = cobbleref09_ReadingsErr c l := by kernel_rfl

theorem ck_trace_Predicts (c : Dapi_TraceCourse) (l : (List Dapi_TraceCause)) (r : Dapi_TraceReading) : funK (cx [] [sg_trace_course_readingErr, sg_trace_openCauses, sg_slices_ContainsFunc_apiTraceCause, sg_trace_Predicts_1]) Tryz.f46 an_trace_Predicts [Tapi_TraceCourse, (.slice Tapi_TraceCause), Tapi_TraceReading] [.bool, (.int .i64)] (c, l, r) = trace_Predicts c l r := by kernel_rfl

theorem ck_cobbleref09_Move (c : Dapi_TraceCourse) (x : Dcobblebase_Ratio) (from_ : Int) (to : Int) : funK (cx [] [sg_cobblebase_RatioInt, sg_cobblebase_RatioAdd, sg_cobblebase_RatioCmp, sg_cobbleref09_strips, sg_cobblebase_RatioSub, sg_cobbleref09_through]) Tryz.f146 an_cobbleref09_Move [Tapi_TraceCourse, Tcobblebase_Ratio, (.int .i64), (.int .i64)] [Tcobblebase_Ratio, .bool] (c, x, from_, to) = cobbleref09_Move c x from_ to := by kernel_rfl

theorem ck_cobbleref09_Predicts (c : Dapi_TraceCourse) (l : (List Dapi_TraceCause)) (set : (List Int)) (r : Dapi_TraceReading) : funK (cx [] [sg_cobbleref09_predicts]) Tryz.f49 an_cobbleref09_Predicts [Tapi_TraceCourse, (.slice Tapi_TraceCause), (.slice (.int .i64)), Tapi_TraceReading] [.bool] (c, l, set, r) = cobbleref09_Predicts c l set r := by kernel_rfl

theorem ck_cobbleref09_Table (c : Dapi_TraceCourse) (l : (List Dapi_TraceCause)) (r : (List Dapi_TraceReading)) : funK (cx [] [sg_cobbleref09_predicts]) Tryz.f52 an_cobbleref09_Table [Tapi_TraceCourse, (.slice Tapi_TraceCause), (.slice Tapi_TraceReading)] [(.slice (.slice .bool))] (c, l, r) = cobbleref09_Table c l r := by kernel_rfl

end Go.Lift

namespace Go.Lift
open Go Go.Proofs
set_option maxRecDepth 100000
section
variable (m_slices_Clone_uint32 : Has Tryz.prog sg_slices_Clone_uint32) (m_trace_evidence_explanations : Has Tryz.prog sg_trace_evidence_explanations) (m_strings_Join : Has Tryz.prog sg_strings_Join) (m_strconv_Itoa : Has Tryz.prog sg_strconv_Itoa)
theorem h_cobbleref09_CopyCauses : Has Tryz.prog sg_cobbleref09_CopyCauses :=
  has_of prog_mixed tys_ok nfs_ok eqs_ok (own := []) all_nil (n := an_cobbleref09_CopyCauses) Tryz.func29 (by kernel_rfl) fun x => ck_cobbleref09_CopyCauses x
theorem h_cobbleref09_CopyReadings : Has Tryz.prog sg_cobbleref09_CopyReadings :=
  has_of prog_mixed tys_ok nfs_ok eqs_ok (own := []) all_nil (n := an_cobbleref09_CopyReadings) Tryz.func30 (by kernel_rfl) fun x => ck_cobbleref09_CopyReadings x
theorem h_cobbleref09_ReadingErr : Has Tryz.prog sg_cobbleref09_ReadingErr :=
  has_of prog_mixed tys_ok nfs_ok eqs_ok (own := []) (all_cons h_cobblebase_RatioInt (all_cons h_cobblebase_RatioCmp (all_cons h_cobbleref09_StepsErr (all_cons h_cobbleref09_After (all_cons h_cobbleref09_Strip_Length all_nil))))) (n := an_cobbleref09_ReadingErr) Tryz.func48 (by kernel_rfl) fun x => ck_cobbleref09_ReadingErr x.1 x.2
theorem h_cobbleref09_ReadingsErr : Has Tryz.prog sg_cobbleref09_ReadingsErr :=
  has_of prog_mixed tys_ok nfs_ok eqs_ok (own := []) (all_cons h_cobbleref09_ReadingErr all_nil) (n := an_cobbleref09_ReadingsErr) Tryz.func33 (by kernel_rfl) fun x => ck_cobbleref09_ReadingsErr x.1 x.2
include m_slices_Clone_uint32 in
theorem h_trace_CheckCauses : Has Tryz.prog sg_trace_CheckCauses :=
  has_of prog_mixed tys_ok nfs_ok eqs_ok (own := []) (all_cons (h_trace_openCauses m_slices_Clone_uint32) all_nil) (n := an_trace_CheckCauses) Tryz.func44 (by kernel_rfl) fun x => ck_trace_CheckCauses x.1 x.2
include m_slices_Clone_uint32 in
theorem h_trace_Contradiction : Has Tryz.prog sg_trace_Contradiction :=
  has_of prog_mixed tys_ok nfs_ok eqs_ok (own := []) (all_cons (h_trace_openEvidence m_slices_Clone_uint32) (all_cons h_trace_evidence_every (all_cons h_trace_evidence_firstWrong all_nil))) (n := an_trace_Contradiction) Tryz.func45 (by kernel_rfl) fun x => ck_trace_Contradiction x.1 x.2.1 x.2.2
include m_slices_Clone_uint32 in
theorem h_trace_Predicts_1 : Has Tryz.prog sg_trace_Predicts_1 :=
  has_of prog_mixed tys_ok nfs_ok eqs_ok (own := []) (all_cons (h_trace_course_predicts m_slices_Clone_uint32) all_nil) (n := an_trace_Predicts_1) Tryz.func128 (by kernel_rfl) fun x => ck_trace_Predicts_1 x.1 x.2.1 x.2.2
include m_slices_Clone_uint32 in
theorem h_trace_Predicts : Has Tryz.prog sg_trace_Predicts :=
  has_of prog_mixed tys_ok nfs_ok eqs_ok (own := []) (all_cons (h_trace_course_readingErr m_slices_Clone_uint32) (all_cons (h_trace_openCauses m_slices_Clone_uint32) (all_cons h_slices_ContainsFunc_apiTraceCause (all_cons (h_trace_Predicts_1 m_slices_Clone_uint32) all_nil)))) (n := an_trace_Predicts) Tryz.func46 (by kernel_rfl) fun x => ck_trace_Predicts x.1 x.2.1 x.2.2
theorem h_cobbleref09_CheckCauses : Has Tryz.prog sg_cobbleref09_CheckCauses :=
  has_of prog_mixed tys_ok nfs_ok eqs_ok (own := []) (all_cons h_cobbleref09_CourseErr (all_cons h_cobblebase_Within (all_cons h_cobbleref09_StepsErr (all_cons h_cobblebase_IsName all_nil)))) (n := an_cobbleref09_CheckCauses) Tryz.func47 (by kernel_rfl) fun x => ck_cobbleref09_CheckCauses x.1 x.2
theorem h_cobblebase_RatioDiv : Has Tryz.prog sg_cobblebase_RatioDiv :=
  has_of prog_mixed tys_ok nfs_ok eqs_ok (own := []) (all_cons h_cobblebase_RatioMake (all_cons h_cobblebase_WideMul all_nil)) (n := an_cobblebase_RatioDiv) Tryz.func155 (by kernel_rfl) fun x => ck_cobblebase_RatioDiv x.1 x.2
theorem h_cobbleref09_through : Has Tryz.prog sg_cobbleref09_through :=
  has_of prog_mixed tys_ok nfs_ok eqs_ok (own := []) (all_cons h_cobblebase_RatioInt (all_cons h_cobblebase_RatioAdd (all_cons h_cobblebase_RatioCmp (all_cons h_cobblebase_RatioMul (all_cons h_cobblebase_RatioSub (all_cons h_cobblebase_RatioDiv all_nil)))))) (n := an_cobbleref09_through) Tryz.func210 (by kernel_rfl) fun x => ck_cobbleref09_through x.1 x.2.1 x.2.2
theorem h_cobbleref09_Move : Has Tryz.prog sg_cobbleref09_Move :=
  has_of prog_mixed tys_ok nfs_ok eqs_ok (own := []) (all_cons h_cobblebase_RatioInt (all_cons h_cobblebase_RatioAdd (all_cons h_cobblebase_RatioCmp (all_cons h_cobbleref09_strips (all_cons h_cobblebase_RatioSub (all_cons h_cobbleref09_through all_nil)))))) (n := an_cobbleref09_Move) Tryz.func146 (by kernel_rfl) fun x => ck_cobbleref09_Move x.1 x.2.1 x.2.2.1 x.2.2.2
theorem h_cobblebase_RatioFloor : Has Tryz.prog sg_cobblebase_RatioFloor :=
  has_of prog_mixed tys_ok nfs_ok eqs_ok (own := []) (all_cons h_cobblebase_WideFloor all_nil) (n := an_cobblebase_RatioFloor) Tryz.func154 (by kernel_rfl) fun x => ck_cobblebase_RatioFloor x
theorem h_cobblebase_RatioSign : Has Tryz.prog sg_cobblebase_RatioSign :=
  has_of prog_mixed tys_ok nfs_ok eqs_ok (own := []) (all_cons h_cobblebase_WideSign all_nil) (n := an_cobblebase_RatioSign) Tryz.func198 (by kernel_rfl) fun x => ck_cobblebase_RatioSign x
theorem h_cobbleref09_predicts : Has Tryz.prog sg_cobbleref09_predicts :=
  has_of prog_mixed tys_ok nfs_ok eqs_ok (own := []) (all_cons h_cobblebase_RatioInt (all_cons h_cobblebase_RatioCmp (all_cons h_cobblebase_WideOf (all_cons h_cobblebase_RatioMul (all_cons h_cobbleref09_Move (all_cons h_cobblebase_RatioSub (all_cons h_cobblebase_RatioFloor (all_cons h_cobblebase_RatioDiv (all_cons h_cobblebase_RatioSign all_nil))))))))) (n := an_cobbleref09_predicts) Tryz.func131 (by kernel_rfl) fun x => ck_cobbleref09_predicts x.1 x.2.1 x.2.2
theorem h_cobbleref09_Predicts : Has Tryz.prog sg_cobbleref09_Predicts :=
  has_of prog_mixed tys_ok nfs_ok eqs_ok (own := []) (all_cons h_cobbleref09_predicts all_nil) (n := an_cobbleref09_Predicts) Tryz.func49 (by kernel_rfl) fun x => ck_cobbleref09_Predicts x.1 x.2.1 x.2.2.1 x.2.2.2
theorem h_cobbleref09_All : Has Tryz.prog sg_cobbleref09_All :=
  has_of prog_mixed tys_ok nfs_ok eqs_ok (own := []) all_nil (n := an_cobbleref09_All) Tryz.func50 (by kernel_rfl) fun x => ck_cobbleref09_All x
theorem h_cobbleref09_some : Has Tryz.prog sg_cobbleref09_some :=
  has_of prog_mixed tys_ok nfs_ok eqs_ok (own := []) all_nil (n := an_cobbleref09_some) Tryz.func132 (by kernel_rfl) fun x => ck_cobbleref09_some x.1 x.2
theorem h_cobbleref09_Contradiction : Has Tryz.prog sg_cobbleref09_Contradiction :=
  has_of prog_mixed tys_ok nfs_ok eqs_ok (own := []) (all_cons h_cobbleref09_some all_nil) (n := an_cobbleref09_Contradiction) Tryz.func51 (by kernel_rfl) fun x => ck_cobbleref09_Contradiction x.1 x.2.1 x.2.2
theorem h_cobbleref09_Table : Has Tryz.prog sg_cobbleref09_Table :=
  has_of prog_mixed tys_ok nfs_ok eqs_ok (own := []) (all_cons h_cobbleref09_predicts all_nil) (n := an_cobbleref09_Table) Tryz.func52 (by kernel_rfl) fun x => ck_cobbleref09_Table x.1 x.2.1 x.2.2
include m_slices_Clone_uint32 m_trace_evidence_explanations m_strings_Join m_strconv_Itoa in
theorem h_cobblelaw09_TraceCauses : Has Tryz.prog sg_cobblelaw09_TraceCauses :=
  has_of prog_mixed tys_ok nfs_ok eqs_ok (own := []) (all_cons (h_cobblelaw09_awake m_slices_Clone_uint32 m_trace_evidence_explanations m_strings_Join m_strconv_Itoa) (all_cons h_cobblelaw09_Few (all_cons h_cobbleref09_CopyCourse (all_cons h_cobbleref09_CopyCauses (all_cons h_cobbleref09_CopyReadings (all_cons h_cobbleref09_ReadingsErr (all_cons (h_trace_CheckCauses m_slices_Clone_uint32) (all_cons (h_trace_Contradiction m_slices_Clone_uint32) (all_cons (h_trace_Predicts m_slices_Clone_uint32) (all_cons h_cobbleref09_CheckCauses (all_cons h_cobbleref09_ReadingErr (all_cons h_cobbleref09_Predicts (all_cons h_cobbleref09_All (all_cons h_cobbleref09_Contradiction (all_cons h_cobbleref09_Table all_nil))))))))))))))) (n := an_cobblelaw09_TraceCauses) Tryz.func6 (by kernel_rfl) fun x => ck_cobblelaw09_TraceCauses x.1 x.2.1 x.2.2
end
end Go.Lift
