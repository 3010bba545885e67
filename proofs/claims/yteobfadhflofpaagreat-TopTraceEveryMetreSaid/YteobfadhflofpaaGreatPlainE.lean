/-
  Places of the program and of the document.
-/
import Derived.Test.YteobfadhflofpaaGreatPlainD
set_option linter.unusedSectionVars false
set_option linter.unusedVariables false
set_option linter.unusedSimpArgs false
namespace Go.Lift
open Go
theorem slab_same : ∀ {l k : List Int} {t : Int} {x : Sec}, x ∈ slabS t l k → x.a = x.u ∧ x.old = x.area
  | [], _, _, _, h => by simp [slabS] at h
  | n :: l, [], _, _, h => by simp [slabS] at h
  | n :: l, m :: k, t, x, h => by
    unfold slabS at h
    rcases List.mem_cons.1 h with rfl | h
    · exact ⟨rfl, rfl⟩
    · exact slab_same h
theorem on_slab {c : Dapi_TraceCourse} (hv : Valid c) {P Q : Rat} (h : On (stS c 0) P Q) : P = Q := by
  obtain ⟨x, hx, _, _, _, _, e⟩ := h
  have hs := hv.strip 0 (Nat.zero_le _)
  have ho := int_pos (hs.each x hx).1.old1
  rw [stS_zero] at hx
  obtain ⟨e1, e2⟩ := slab_same hx
  rw [← e1, ← e2] at e
  have := of_mul_eq ho e
  grind
theorem tstepsErr_ok {c : Dapi_TraceCourse} {strips : List (List Dtrace_section)} {n : Int} : trace_course_stepsErr (c, strips) n = some (if 0 ≤ n ∧ n ≤ (c.2.2.2.length : Int) then 0 else 2) := by
  unfold trace_course_stepsErr
  rw [within_ok, Option.bind_some, unless_ok, Option.bind_some]
  congr 1
  by_cases h : 0 ≤ n ∧ n ≤ (c.2.2.2.length : Int)
  · rw [dec_true h, if_pos h, if_pos rfl]
  · rw [dec_false h, if_neg h, if_neg (by decide)]
end Go.Lift
