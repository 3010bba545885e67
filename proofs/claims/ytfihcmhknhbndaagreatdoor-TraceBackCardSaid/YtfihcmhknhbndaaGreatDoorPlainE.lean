/-
  Places of the program and of the document.
-/
import Derived.Test.YtfihcmhknhbndaaGreatDoorPlainD
set_option linter.unusedSectionVars false
set_option linter.unusedVariables false
set_option linter.unusedSimpArgs false
namespace Go.Lift
open Go
theorem tstepsErr_ok {c : Dapi_TraceCourse} {strips : List (List Dtrace_section)} {n : Int} : trace_course_stepsErr (c, strips) n = some (if 0 ≤ n ∧ n ≤ (c.2.2.2.length : Int) then 0 else 2) := by
  unfold trace_course_stepsErr
  rw [within_ok, Option.bind_some, unless_ok, Option.bind_some]
  congr 1
  by_cases h : 0 ≤ n ∧ n ≤ (c.2.2.2.length : Int)
  · rw [dec_true h, if_pos h, if_pos rfl]
  · rw [dec_false h, if_neg h, if_neg (by decide)]
end Go.Lift
