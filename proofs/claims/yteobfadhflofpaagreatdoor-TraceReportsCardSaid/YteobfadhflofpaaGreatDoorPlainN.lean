/-
  Causes are checked.
-/
import Derived.Test.YteobfadhflofpaaGreatDoorFunCb
import Derived.Test.YteobfadhflofpaaGreatDoorPlainJ
import Derived.Test.YteobfadhflofpaaGreatDoorPlainE
import Derived.Test.YteobfadhflofpaaGreatDoorPlainF
set_option linter.unusedSectionVars false
set_option linter.unusedVariables false
set_option linter.unusedSimpArgs false
namespace Go.Lift
open Go
abbrev d0 : Dapi_TraceCause := (ByteArray.empty, (0, (0, (0, 0))))
theorem lget_getD {A : Type} {d : A} {l : List A} {i : Nat} (hi : i < l.length) : lget d l (i : Int) = l[i] := by
 unfold lget
 rw [Int.toNat_natCast, List.getD_eq_getElem?_getD, List.getElem?_eq_getElem hi]; rfl
end Go.Lift
