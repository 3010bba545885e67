/-
  Slabs, orders, and the lengths of coils, on both sides.
-/
import Derived.Test.YtggnjngdmadbaaaGreatDoorPlainA
set_option linter.all false
namespace Go.Lift
open Go
theorem WU{A:Type}(k:Option A):chk true k=k:=rfl
def G1(n lo hi:Int):Bool:=decide (lo≤n∧n≤hi)
end Go.Lift
