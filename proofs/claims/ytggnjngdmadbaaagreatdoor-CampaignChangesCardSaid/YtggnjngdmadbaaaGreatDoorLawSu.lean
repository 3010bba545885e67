/-
  The laws of suiting and of constant volume hold of the plain functions.
-/
import Derived.Test.YtggnjngdmadbaaaGreatDoorPlainB
set_option linter.unusedSectionVars false
set_option linter.unusedVariables false
set_option linter.unusedSimpArgs false
namespace Go.Lift
open Go
end Go.Lift
