/-
  The law of values of maps holds of the plain functions.
-/
import Derived.Test.YtfihcmhknhbndaaGreatDoorPlainU
import Derived.Test.YtfihcmhknhbndaaGreatDoorLiftK
set_option linter.unusedSectionVars false
set_option linter.unusedVariables false
set_option linter.unusedSimpArgs false
namespace Go.Lift
open Go
theorem in64_of {f : Dapi_Frac} (h : okv Tapi_Frac f) : In64 f := by
  obtain ⟨h1, h2⟩ := h
  have a1 : -9223372036854775808 ≤ f.1 := h1.1
  have a2 : f.1 ≤ 9223372036854775807 := h1.2
  have b1 : -9223372036854775808 ≤ f.2 := h2.1
  have b2 : f.2 ≤ 9223372036854775807 := h2.2
  exact ⟨a1, by omega, b1, by omega⟩
theorem in64s_of {l : Dapi_TraceMap} (h : okv Tapi_TraceMap l) : In64s l := fun s hs => by
  have := h.2 s hs
  exact ⟨in64_of this.1, in64_of this.2⟩
theorem fewMap_ok (l : Dapi_TraceMap) : l9_fewMap l = some (decide (l.length ≤ 14)) := by
  unfold l9_fewMap
  simp only [Option.some.injEq]
  rw [decide_eq_decide]
  omega
theorem CopyMap_ok {l : Dapi_TraceMap} (h : l.length ≤ 14) : r9_CopyMap l = some l := by
  unfold r9_CopyMap
  rw [app_ok (by rw [List.length_nil]; omega), Option.bind_some]
  rfl
end Go.Lift
