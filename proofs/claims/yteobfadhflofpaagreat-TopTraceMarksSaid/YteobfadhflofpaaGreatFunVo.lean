/-
  The functions of volumes, as plain functions.
-/
import Derived.Test.YteobfadhflofpaaGreatFunF
import Derived.Test.YteobfadhflofpaaGreatFunG
set_option linter.unusedSectionVars false
set_option linter.unusedVariables false
set_option linter.unusedSimpArgs false
namespace Go.Lift
open Go
noncomputable def b0_Gcd (a : Int) (b : Int) : Option (Int) :=
 (loopM (S := Int × Int) (R := Int) (fun s =>
 let a_1 : Int := s.1
 let b_1 : Int := s.2
 bif (b_1 != 0) then
 chk (b_1 != 0) (
 some (.inl (b_1, Int.tmod a_1 b_1)))
 else
 some (.inr a_1)) (a, b)).bind fun (a_2 : Int) =>
 (b0_Size a_2).bind fun (t : Int) =>
 some t
noncomputable def b0_IsLowest (f : Dapi_Frac) : Option (Bool) :=
 (bif decide (f.2 > 0) then
 (b0_Gcd f.1 f.2).bind fun (t : Int) =>
 some (t == 1)
 else some false).bind fun (c : Bool) =>
 some c
end Go.Lift
