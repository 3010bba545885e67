/-
  The walk of the sequence of all violations, and its contract.
-/
import Derived.Test.YtggnjngdmadbaaaGreatDoorVioF
import Derived.Test.YtggnjngdmadbaaaGreatDoorManD
import Derived.Test.YtggnjngdmadbaaaGreatDoorLiftP
set_option linter.unusedSectionVars false
set_option linter.unusedVariables false
set_option linter.unusedSimpArgs false
namespace Go.Lift
open Go Go.Proofs Go.RowKit
attribute [local go_sem] Oper.semAt_some
def vioV(x:Int×Int):Value :=.agg #[.int .i64 x.1,.int .i64 x.2]
theorem ya4{M:Mem}(x:Int×Int):z0o (Ty.pair (.int .i64) (.int .i64)).agg (relC Tryz.prog (.pair (.int .i64) (.int .i64)) M x) (vioV x):=⟨_,rfl,rfl,rfl⟩
end Go.Lift
