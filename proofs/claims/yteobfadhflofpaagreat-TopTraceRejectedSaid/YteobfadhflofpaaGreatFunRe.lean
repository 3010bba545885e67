/-
  The functions of the document's explanations, as plain functions.
-/
import Derived.Test.YteobfadhflofpaaGreatFunF
import Derived.Test.YteobfadhflofpaaGreatFunG
import Derived.Test.YteobfadhflofpaaGreatFunCb
set_option linter.unusedSectionVars false
set_option linter.unusedVariables false
set_option linter.unusedSimpArgs false
namespace Go.Lift
open Go
noncomputable def b0_RatioFloor (a : Db0_Ratio) : Option (Db0_Wide) :=
 (b0_WideFloor a.1 a.2).bind fun (t : Db0_Wide) =>
 some t
noncomputable def b0_RatioSign (a : Db0_Ratio) : Option (Int) :=
 (b0_WideSign a.1).bind fun (t : Int) =>
 some t
noncomputable def r9_predicts (c : Dapi_TraceCourse) (x : Dapi_TraceCause) (r : Dapi_TraceReading) : Option (Bool) :=
 bif decide (x.2.1 > r.1) then
 some false
 else
 (b0_RatioInt r.2.1).bind fun (t : Db0_Ratio) =>
 (r9_Move c t r.1 x.2.1).bind fun (r_1 : Db0_Ratio × Bool) =>
 (b0_RatioInt x.2.2.1).bind fun (t_1 : Db0_Ratio) =>
 (b0_RatioSub r_1.1 t_1).bind fun (t_2 : Db0_Ratio) =>
 (b0_RatioSign t_2).bind fun (t_3 : Int) =>
 bif decide (t_3 < 0) then
 some false
 else
 (bif (x.2.2.2.2 != 0) then
 (b0_RatioInt x.2.2.2.2).bind fun (t_4 : Db0_Ratio) =>
 (b0_RatioDiv t_2 t_4).bind fun (t_5 : Db0_Ratio) =>
 (b0_RatioFloor t_5).bind fun (t_6 : Db0_Wide) =>
 (b0_WideOf 1).bind fun (t_7 : Db0_Wide) =>
 (b0_RatioInt x.2.2.2.2).bind fun (t_8 : Db0_Ratio) =>
 (b0_RatioMul (t_6, t_7) t_8).bind fun (t_9 : Db0_Ratio) =>
 (b0_RatioSub t_2 t_9).bind fun (t_10 : Db0_Ratio) =>
 some t_10
 else
 some t_2).bind fun (at_ : Db0_Ratio) =>
 (b0_RatioInt (wi64 (x.2.2.2.1 - x.2.2.1))).bind fun (t_11 : Db0_Ratio) =>
 (b0_RatioCmp at_ t_11).bind fun (t_12 : Int) =>
 some (decide (t_12 ≤ 0))
end Go.Lift
