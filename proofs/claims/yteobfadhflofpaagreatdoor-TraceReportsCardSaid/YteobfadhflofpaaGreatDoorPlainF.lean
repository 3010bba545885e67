/-
  Small courses, copies, kinds of numbers.
-/
import Derived.Test.YteobfadhflofpaaGreatDoorPlainD
import Derived.Test.YteobfadhflofpaaGreatDoorLiftK
set_option linter.unusedSectionVars false
set_option linter.unusedVariables false
set_option linter.unusedSimpArgs false
namespace Go.Lift
open Go
theorem Few_ok {c : Dapi_TraceCourse} : ∃ b, l9_Few c = some b ∧ (b = true → c.2.1.length ≤ 8 ∧ c.2.2.1.length ≤ 8 ∧ c.2.2.2.length ≤ 12 ∧ c.1.size ≤ 30 ∧ ∀ x, x ∈ c.2.2.2 → x.2.1.length ≤ 8) := by
 unfold l9_Few
 by_cases h : (((((decide ((List.length c.2.1 : Int) > 8)) || (decide ((List.length c.2.2.1 : Int) > 8))) || ((decide ((List.length c.2.2.2 : Int) > 6)) && (decide ((List.length c.2.2.2 : Int) ≤ 10)))) || (decide ((List.length c.2.2.2 : Int) > 12))) || (decide ((ByteArray.size c.1 : Int) > 30))) = true
 ·rw [h, cond_true]
  exact ⟨false, rfl, fun e => by cases e⟩
 ·rw [Bool.not_eq_true] at h
  rw [h, cond_false]
  rw [Bool.or_eq_false_iff, Bool.or_eq_false_iff, Bool.or_eq_false_iff, Bool.or_eq_false_iff, decide_eq_false_iff_not, decide_eq_false_iff_not, decide_eq_false_iff_not, decide_eq_false_iff_not] at h
  obtain ⟨⟨⟨⟨h1, h2⟩, _⟩, h3⟩, h4⟩ := h
  refine ⟨c.2.2.2.all fun x => decide (x.2.1.length ≤ 8), ?_, fun hb => ⟨by omega, by omega, by omega, by omega, fun x hx => ?_⟩⟩
  ·refine Option.bind_eq_some_iff.2 ⟨(if c.2.2.2.all (fun x => decide (x.2.1.length ≤ 8)) then .inl () else .inr false), ?_, by cases c.2.2.2.all (fun x => decide (x.2.1.length ≤ 8)) <;> rfl⟩
   refine loopM_list_eq (X := Dapi_TraceStep) (l := c.2.2.2) (fun l' s => ∃ pre, c.2.2.2 = pre ++ l' ∧ s = (pre.length : Int) ∧ c.2.2.2.all (fun x => decide (x.2.1.length ≤ 8)) = l'.all (fun x => decide (x.2.1.length ≤ 8))) ?_ ?_ ⟨[], rfl, rfl, rfl⟩
   ·rintro x l' s ⟨pre, e1, rfl, e2⟩
    have hL : c.2.2.2.length = pre.length + (l'.length + 1) := by rw [e1, List.length_append, List.length_cons]
    have g1 : ∀ d, lget d c.2.2.2 (pre.length : Int) = x := fun d => by rw [e1]; exact lget_mid
    rw [dec_true (show (pre.length : Int) < (c.2.2.2.length : Int) by omega), cond_true, chk_true (and_true' (dec_true (by omega)) rfl), g1]
    rw [List.all_cons] at e2
    by_cases hx : x.2.1.length ≤ 8
    ·left
     rw [dec_true hx, Bool.true_and] at e2
     rw [dec_false (show ¬ (x.2.1.length : Int) > 8 by omega), cond_false, wi64_id (by omega) (by omega)]
     exact ⟨_, rfl, pre ++ [x], by rw [e1]; simp, by rw [List.length_append, List.length_singleton]; rfl, e2⟩
    ·right
     rw [dec_false hx, Bool.false_and] at e2
     rw [dec_true (show (x.2.1.length : Int) > 8 by omega), cond_true, e2]
     rfl
   ·rintro s ⟨pre, e1, rfl, e2⟩
    have hL : c.2.2.2.length = pre.length := by rw [e1, List.append_nil]
    rw [dec_false (show ¬ (pre.length : Int) < (c.2.2.2.length : Int) by omega), cond_false, e2]
    rfl
  ·rw [List.all_eq_true] at hb
   have := hb x hx
   simpa using this
theorem CopyInts_ok {l : List Int} (h : l.length ≤ 4294967296) : b0_CopyInts l = some l := by
 unfold b0_CopyInts
 rw [app_ok (by simpa using h), Option.bind_some, List.nil_append]
theorem CopyCourse_ok {c : Dapi_TraceCourse} (h1 : c.2.1.length ≤ 8) (h2 : c.2.2.1.length ≤ 8) (h3 : c.2.2.2.length ≤ 12) (h4 : ∀ x, x ∈ c.2.2.2 → x.2.1.length ≤ 8) : r9_CopyCourse c = some c := by
 unfold r9_CopyCourse
 rw [CopyInts_ok (by omega), Option.bind_some, CopyInts_ok (by omega), Option.bind_some]
 refine Option.bind_eq_some_iff.2 ⟨_, ?_, rfl⟩
 refine loopM_list_eq (X := Dapi_TraceStep) (l := c.2.2.2) (fun l' s => ∃ pre, c.2.2.2 = pre ++ l' ∧ s = ((pre.length : Int), (c.1, (c.2.1, (c.2.2.1, pre))))) ?_ ?_ ⟨[], rfl, rfl⟩
 ·rintro x l' s ⟨pre, e1, rfl⟩
  left
  have hL : c.2.2.2.length = pre.length + (l'.length + 1) := by rw [e1, List.length_append, List.length_cons]
  have g1 : ∀ d, lget d c.2.2.2 (pre.length : Int) = x := fun d => by rw [e1]; exact lget_mid
  have hx := h4 x (by rw [e1]; simp)
  simp only
  rw [dec_true (show (pre.length : Int) < (c.2.2.2.length : Int) by omega), cond_true, chk_true (and_true' (dec_true (by omega)) rfl), g1, CopyInts_ok (by omega), Option.bind_some, app_ok (by rw [List.length_singleton]; omega), Option.bind_some, wi64_id (by omega) (by omega)]
  exact ⟨_, rfl, pre ++ [x], by rw [e1]; simp, by rw [List.length_append, List.length_singleton]; rfl⟩
 ·rintro s ⟨pre, e1, rfl⟩
  have hL : c.2.2.2.length = pre.length := by rw [e1, List.append_nil]
  simp only
  rw [dec_false (show ¬ (pre.length : Int) < (c.2.2.2.length : Int) by omega), cond_false]
  rw [List.append_nil] at e1
  rw [← e1]
theorem courseIn_of {c : Dapi_TraceCourse} (h : okv Tapi_TraceCourse c) (h1 : c.2.1.length ≤ 8) (h2 : c.2.2.1.length ≤ 8) (h3 : c.2.2.2.length ≤ 12) (h5 : c.1.size ≤ 30) (h4 : ∀ x, x ∈ c.2.2.2 → x.2.1.length ≤ 8) : CourseIn c := by
 obtain ⟨_, _, _, _, hs⟩ := h
 refine ⟨fun x hx => ?_, fun x hx => by have := h4 x hx; omega, by omega, by omega, by omega, by omega⟩
 have : x.2.2.2 ≤ IntKind.i64.max := (hs x hx).2.2.2.2
 have e : IntKind.i64.max = 9223372036854775807 := by decide
 omega
end Go.Lift
