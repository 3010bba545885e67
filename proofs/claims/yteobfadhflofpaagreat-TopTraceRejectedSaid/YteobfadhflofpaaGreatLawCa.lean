/-
  The law of causes holds of the plain functions.
-/
import Derived.Test.YteobfadhflofpaaGreatPlainK
import Derived.Test.YteobfadhflofpaaGreatFunCa
set_option linter.unusedSectionVars false
set_option linter.unusedVariables false
set_option linter.unusedSimpArgs false
namespace Go.Lift
open Go
theorem any_all {l : List Dapi_TraceCause} {g : Dapi_TraceCause → Bool} : l.any g = (allL l.length).any fun k => g (lget d0 l k) := by
  rw [Bool.eq_iff_iff, List.any_eq_true, List.any_eq_true]
  constructor
  · rintro ⟨x, hx, hg⟩
    obtain ⟨i, hi, rfl⟩ := List.getElem_of_mem hx
    exact ⟨(i : Int), List.mem_map.2 ⟨i, List.mem_range.2 hi, rfl⟩, by rw [lget_getD hi]; exact hg⟩
  · rintro ⟨k, hk, hg⟩
    obtain ⟨i, hi, rfl⟩ := List.mem_map.1 hk
    exact ⟨_, lget_mem (List.mem_range.1 hi), hg⟩
theorem containsP_ok {c : Dapi_TraceCourse} (hv : Valid c) {l : List Dapi_TraceCause} {x : Dapi_TraceReading} (h5 : l.length ≤ 5) (hc : ∀ k, k < l.length → CauseOk c (lget d0 l (k : Int))) (hr : readErr c x = 0) (hx : ReadIn x) :
    slices_ContainsFunc_apiTraceCause l (fun o => trace_Predicts_1 o (c, stripsQ c (c.2.2.2.length + 1)) x) = some (l.any fun o => predB c o x) := by
  unfold slices_ContainsFunc_apiTraceCause slices_IndexFunc_apiTraceCause
  have key : ∃ r : Unit ⊕ Int, loopM (S := Int) (R := (Unit) ⊕ (Int)) (fun t =>
    bif decide (t < (List.length l : Int)) then
      chk (decide ((0 : Int) ≤ t) && decide (t < (List.length l : Int))) (
        ((fun o => trace_Predicts_1 o (c, stripsQ c (c.2.2.2.length + 1)) x) (lget (ByteArray.empty, (0, (0, (0, 0)))) l t)).bind fun (t_1 : Bool) =>
        bif t_1 then
          Option.map Sum.inr (Option.map Sum.inr (
            some t))
        else
          some (.inl (wi64 (t + 1))))
    else
      some (.inr (.inl ()))) 0 = some r ∧ ((r = .inl () ∧ (l.any fun o => predB c o x) = false) ∨ ∃ i : Nat, r = .inr (i : Int) ∧ (l.any fun o => predB c o x) = true) := by
    refine loopM_list (X := Dapi_TraceCause) (l := l) (fun l' s => ∃ pre, l = pre ++ l' ∧ s = (pre.length : Int) ∧ (l.any fun o => predB c o x) = l'.any fun o => predB c o x) _ ?_ ?_ ⟨[], rfl, rfl, rfl⟩
    · rintro o l' s ⟨pre, e1, rfl, e2⟩
      have hL : l.length = pre.length + (l'.length + 1) := by rw [e1, List.length_append, List.length_cons]
      have g1 : ∀ d, lget d l (pre.length : Int) = o := fun d => by rw [e1]; exact lget_mid
      have ho := hc pre.length (by omega)
      rw [g1] at ho
      obtain ⟨p1, _⟩ := predB_ok hv ho hr hx.2
      have hp : trace_Predicts_1 o (c, stripsQ c (c.2.2.2.length + 1)) x = some (predB c o x) := by
        unfold trace_Predicts_1
        rw [p1, Option.bind_some]
      rw [dec_true (show (pre.length : Int) < (l.length : Int) by omega), cond_true, chk_true (and_true' (dec_true (by omega)) rfl), g1]
      simp only
      rw [hp, Option.bind_some]
      rw [List.any_cons] at e2
      cases hb : predB c o x with
      | false =>
        left
        rw [hb, Bool.false_or] at e2
        rw [cond_false, wi64_id (by omega) (by omega)]
        exact ⟨_, rfl, pre ++ [o], by rw [e1]; simp, by rw [List.length_append, List.length_singleton]; rfl, e2⟩
      | true =>
        right
        rw [hb, Bool.true_or] at e2
        exact ⟨_, rfl, Or.inr ⟨pre.length, rfl, e2⟩⟩
    · rintro s ⟨pre, e1, rfl, e2⟩
      have hL : l.length = pre.length := by rw [e1, List.append_nil]
      rw [dec_false (show ¬ (pre.length : Int) < (l.length : Int) by omega), cond_false]
      exact ⟨_, rfl, Or.inl ⟨rfl, e2⟩⟩
  obtain ⟨r, e1, e2⟩ := key
  rw [e1]
  rcases e2 with ⟨rfl, e2⟩ | ⟨i, rfl, e2⟩
  · rw [e2]; rfl
  · rw [e2, Option.bind_some]
    simp only
    rw [Option.bind_some, dec_true (show (i : Int) ≥ 0 by omega)]
theorem tPredicts_ok {c : Dapi_TraceCourse} (hv : Valid c) {l : List Dapi_TraceCause} {x : Dapi_TraceReading} (hoc : trace_openCauses c l = some ((c, stripsQ c (c.2.2.2.length + 1)), (0, 0))) (h5 : l.length ≤ 5) (hc : ∀ k, k < l.length → CauseOk c (lget d0 l (k : Int))) (hx : ReadIn x) :
    trace_Predicts c l x = some (if readErr c x = 0 then (l.any fun o => predB c o x, 0) else (false, readErr c x)) := by
  unfold trace_Predicts
  rw [hoc, Option.bind_some]
  simp only
  rw [show ((0 : Int) == 0) = true from rfl, cond_true, treadErr_ok hv hx.1 hx.2, Option.bind_some, Option.bind_some]
  by_cases h : readErr c x = 0
  · rw [h, show ((0 : Int) != 0) = false from rfl, cond_false, if_pos rfl, containsP_ok hv h5 hc h hx, Option.bind_some]
  · rw [show (readErr c x != 0) = true by rw [bne_iff_ne]; exact h, cond_true, if_neg h]
end Go.Lift
