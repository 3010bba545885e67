/-
  The further functions of the law of violations.
-/
import Derived.Test.YtggnjngdmadbaaaGreatDoorFunT
set_option linter.all false
namespace Go.Lift
open Go
open Go.Proofs
end Go.Lift
