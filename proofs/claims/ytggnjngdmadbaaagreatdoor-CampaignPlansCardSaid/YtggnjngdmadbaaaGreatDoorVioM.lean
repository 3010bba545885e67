/-
  The walk of the sequence of all violations, and its contract.
-/
import Derived.Test.YtggnjngdmadbaaaGreatDoorVioF
import Derived.Test.YtggnjngdmadbaaaGreatDoorManD
import Derived.Test.YtggnjngdmadbaaaGreatDoorLiftP
set_option linter.all false
namespace Go.Lift
open Go Go.Proofs Go.RowKit
attribute [local go_sem] Oper.semAt_some
def Kk(x:Int×Int):Value :=.agg #[.int .i64 x.1,.int .i64 x.2]
theorem yb7{M:Mem}(x:Int×Int):Qd (Ty.pair (.int .i64) (.int .i64)).agg (jB Tryz.prog (.pair (.int .i64) (.int .i64)) M x) (Kk x):=⟨_,rfl,rfl,rfl⟩
end Go.Lift
