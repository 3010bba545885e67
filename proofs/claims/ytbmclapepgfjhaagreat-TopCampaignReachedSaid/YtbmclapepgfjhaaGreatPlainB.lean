/-
  Slabs, orders, and the lengths of coils, on both sides.
-/
import Derived.Test.YtbmclapepgfjhaaGreatPlainA
set_option linter.unusedSectionVars false
set_option linter.unusedVariables false
set_option linter.unusedSimpArgs false
namespace Go.Lift
open Go
def inR (n lo hi : Int) : Bool := decide (lo ≤ n ∧ n ≤ hi)
theorem zgn {A : Type} (k : Option A) : chk true k = k := rfl
end Go.Lift
