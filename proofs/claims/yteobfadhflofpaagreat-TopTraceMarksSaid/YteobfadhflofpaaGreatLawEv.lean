/-
  The law of pieces in order holds of the plain functions.
-/
import Derived.Test.YteobfadhflofpaaGreatPlainI
import Derived.Test.YteobfadhflofpaaGreatPlainS
set_option linter.unusedSectionVars false
set_option linter.unusedVariables false
set_option linter.unusedSimpArgs false
namespace Go.Lift
open Go
theorem Floor_ok {n b : Int} (hb : 0 < b) (h1 : n.natAbs ≤ 4611686018427387904) : b0_Floor n b = some (n / b) := by
  have e1 := Int.mul_tdiv_add_tmod n b
  have e2 : (Int.tmod n b).natAbs = n.natAbs % b.natAbs := Int.natAbs_tmod n b
  have e3 := Nat.mod_lt n.natAbs (show 0 < b.natAbs by omega)
  have e4 : (Int.tdiv n b).natAbs ≤ n.natAbs := by rw [Int.natAbs_tdiv]; exact Nat.div_le_self _ _
  have w : wi64 (Int.tdiv n b) = Int.tdiv n b := wi64_id (by omega) (by omega)
  unfold b0_Floor
  have hb0 : (b != 0) = true := by rw [bne_iff_ne]; omega
  rw [chk_true hb0, w]
  simp only
  rw [chk_true hb0]
  by_cases h : Int.tmod n b < 0
  · rw [dec_true h, cond_true, Option.bind_some, wi64_id (by omega) (by omega)]
    congr 1
    refine ((Int.ediv_emod_unique (r := Int.tmod n b + b) hb).2 ⟨?_, by omega, by omega⟩).1.symm
    rw [Int.mul_sub, Int.mul_one]
    omega
  · rw [dec_false h, cond_false, Option.bind_some]
    congr 1
    exact ((Int.ediv_emod_unique (r := Int.tmod n b) hb).2 ⟨by omega, by omega, by omega⟩).1.symm
end Go.Lift
