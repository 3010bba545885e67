/-
  Causes are checked.
-/
import Derived.Test.YteobfadhflofpaaGreatFunCb
import Derived.Test.YteobfadhflofpaaGreatPlainJ
import Derived.Test.YteobfadhflofpaaGreatPlainE
import Derived.Test.YteobfadhflofpaaGreatPlainF
set_option linter.unusedSectionVars false
set_option linter.unusedVariables false
set_option linter.unusedSimpArgs false
namespace Go.Lift
open Go
abbrev d0 : Dapi_TraceCause := (ByteArray.empty, (0, (0, (0, 0))))
theorem lget_getD {A : Type} {d : A} {l : List A} {i : Nat} (hi : i < l.length) : lget d l (i : Int) = l[i] := by
  unfold lget
  rw [Int.toNat_natCast, List.getD_eq_getElem?_getD, List.getElem?_eq_getElem hi]; rfl
theorem fE0 {l : List Int} : firstE (0 :: l) = firstE l := by conv => lhs; unfold firstE
                                                              rw [if_pos rfl]
theorem fEn {n : Int} {l : List Int} (h : n ≠ 0) : firstE (n :: l) = n := by unfold firstE; rw [if_neg h]
end Go.Lift
