/-
  The law of a course's text holds of the plain functions.
-/
import Derived.Test.YteobfadhflofpaaGreatDoorPlainAC
import Derived.Test.YteobfadhflofpaaGreatDoorLawCo
set_option linter.unusedSectionVars false
set_option linter.unusedVariables false
set_option linter.unusedSimpArgs false
namespace Go.Lift
open Go
theorem Ints_same {a : List Int} (h : a.length ≤ 1000) : b0_Ints a a = some true := by
 unfold b0_Ints
 rw [show ((a.length : Int) != (a.length : Int)) = false by simp, cond_false]
 refine bind_of (loopM_upto (fun k => (k : Int)) a.length rfl (r := .inl ()) ?_ ?_) rfl
 ·intro k hk
  rw [dec_true (show (k : Int) < (a.length : Int) by omega), cond_true, chk_true (and_true' (dec_true (by omega)) rfl), chk_true (and_true' (dec_true (by omega)) rfl), show (lget 0 a (k : Int) != lget 0 a (k : Int)) = false by simp, cond_false, wi64_id (by omega) (by omega)]
  rfl
 ·rw [dec_false (show ¬ (a.length : Int) < (a.length : Int) by omega), cond_false]
theorem seqb_self (s : ByteArray) : seqb s s = true := by rw [seqb_data]; exact beq_self_eq_true _
theorem SameCourse_same {a : Dapi_TraceCourse} (h1 : a.2.1.length ≤ 1000) (h2 : a.2.2.1.length ≤ 1000) (h3 : a.2.2.2.length ≤ 1000) (h4 : ∀ x, x ∈ a.2.2.2 → x.2.1.length ≤ 1000) : r9_SameCourse a a = some true := by
 unfold r9_SameCourse
 rw [seqb_self, Bool.not_true, cond_false, Ints_same h1, Option.bind_some, Option.bind_some, Bool.not_true, cond_false, Ints_same h2, Option.bind_some, Option.bind_some, Bool.not_true, Bool.false_or, show ((a.2.2.2.length : Int) != (a.2.2.2.length : Int)) = false by simp, cond_false]
 refine bind_of (loopM_upto (fun k => (k : Int)) a.2.2.2.length rfl (r := .inl ()) ?_ ?_) rfl
 ·intro k hk
  have hx : a.2.2.2.getD k (0, ([], (0, 0))) ∈ a.2.2.2 := getD_mem hk
  have h5 := h4 _ hx
  simp only
  rw [dec_true (show (k : Int) < (a.2.2.2.length : Int) by omega), cond_true, chk_true (and_true' (dec_true (by omega)) rfl), chk_true (and_true' (dec_true (by omega)) rfl), lget_nat]
  generalize a.2.2.2.getD k (0, ([], (0, 0))) = x at *
  rw [show (x.1 != x.1) = false by simp, cond_false, Ints_same h5, Option.bind_some, Option.bind_some, Bool.not_true, Bool.false_or, show (x.2.2.1 != x.2.2.1) = false by simp, show (x.2.2.2 != x.2.2.2) = false by simp, Bool.or_false, cond_false, wi64_id (by omega) (by omega)]
  rfl
 ·simp only
  rw [dec_false (show ¬ (a.2.2.2.length : Int) < (a.2.2.2.length : Int) by omega), cond_false]
theorem CheckCourse_ok {c : Dapi_TraceCourse} (hin : CourseIn c) : ∃ (i e : Int), trace_CheckCourse c = some (i, e) ∧ r9_CourseErr c = some e := by
 obtain ⟨e, i, strips, h1, h2, _⟩ := open_ok hin
 refine ⟨i, e, ?_, ?_⟩
 ·unfold trace_CheckCourse; rw [h1]; rfl
 ·unfold r9_CourseErr; rw [h2]; rfl
theorem getD_all {P : Int → Prop} {l : List Int} (h0 : P 0) (h : ∀ x, x ∈ l → P x) (i : Nat) : P (l.getD i 0) := by
 by_cases hi : i < l.length
 ·exact h _ (getD_mem hi)
 ·rw [List.getD_eq_getElem?_getD, List.getElem?_eq_none (by omega)]; exact h0
theorem fmtIn_of {c : Dapi_TraceCourse} (hc : okv Tapi_TraceCourse c) (h1 : c.2.1.length ≤ 8) (h2 : c.2.2.1.length ≤ 8) (h3 : c.2.2.2.length ≤ 12) (h5 : c.1.size ≤ 30) (h4 : ∀ x, x ∈ c.2.2.2 → x.2.1.length ≤ 8) : FmtIn c := by
 obtain ⟨_, hl, hk, _, hs⟩ := hc
 have e1 : IntKind.i64.max = 9223372036854775807 := by decide
 have e2 : IntKind.i64.min = -9223372036854775808 := by decide
 have hw : ∀ n : Int, IntKind.i64.min ≤ n ∧ n ≤ IntKind.i64.max → W64I n := fun n hn => ⟨by omega, by omega⟩
 have h0 : W64I 0 := by unfold W64I; decide
 refine ⟨by omega, by omega, by omega, by omega, fun x hx => by have := h4 x hx; omega, getD_all h0 fun x hx => hw x (hl.2 x hx), getD_all h0 fun x hx => hw x (hk.2 x hx), fun x hx => ?_⟩
 obtain ⟨_, ⟨_, g1⟩, g2, g3⟩ := hs x hx
 exact ⟨getD_all h0 fun y hy => hw y (g1 y hy), hw _ g2, hw _ g3⟩
end Go.Lift
