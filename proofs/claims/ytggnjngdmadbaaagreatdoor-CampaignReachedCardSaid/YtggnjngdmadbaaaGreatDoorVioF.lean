/-
  The further functions of the law of violations.
-/
import Derived.Test.YtggnjngdmadbaaaGreatDoorFunT
set_option linter.unusedSectionVars false
set_option linter.unusedVariables false
set_option linter.unusedSimpArgs false
namespace Go.Lift
open Go
end Go.Lift
namespace Go.Lift
open Go Go.Proofs
end Go.Lift
