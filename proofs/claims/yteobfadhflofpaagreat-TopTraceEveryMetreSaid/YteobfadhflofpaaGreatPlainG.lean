/-
  Strips after steps, their lengths and volumes.
-/
import Derived.Test.YteobfadhflofpaaGreatFunG
import Derived.Test.YteobfadhflofpaaGreatPlainE
import Derived.Test.YteobfadhflofpaaGreatPlainF
set_option linter.unusedSectionVars false
set_option linter.unusedVariables false
set_option linter.unusedSimpArgs false
namespace Go.Lift
open Go
theorem opened1_ok {c : Dapi_TraceCourse} {strips : List (List Dtrace_section)} {i : Nat} {e n : Int} (h : trace_open c = some ((c, strips), (i : Int), e)) :
    trace_opened c [n] = some ((c, strips), firstE [e, if 0 ≤ n ∧ n ≤ (c.2.2.2.length : Int) then 0 else 2]) := by
  unfold trace_opened
  rw [h, Option.bind_some]
  simp only
  refine Option.bind_eq_some_iff.2 ⟨_, ?_, rfl⟩
  refine loopM_list_eq (X := Int) (l := [n]) (fun l' s => (l' = [n] ∧ s = (e, 0)) ∨ (l' = [] ∧ s = (firstE [e, if 0 ≤ n ∧ n ≤ (c.2.2.2.length : Int) then 0 else 2], 1))) ?_ ?_ (Or.inl ⟨rfl, rfl⟩)
  · rintro x l' s (⟨e1, rfl⟩ | ⟨e1, rfl⟩)
    · left
      obtain ⟨rfl, rfl⟩ : x = n ∧ l' = [] := by simpa using e1
      simp only
      rw [dec_true (show (0 : Int) < (([x] : List Int).length : Int) by rw [List.length_singleton]; decide), cond_true, chk_true (and_true' (dec_true (Int.le_refl 0)) rfl), show lget 0 [x] (0 : Int) = x from rfl, tstepsErr_ok, Option.bind_some, first_ok (by simp), Option.bind_some, wi64_id (by decide) (by decide)]
      exact ⟨_, rfl, Or.inr (by simp)⟩
    · cases e1
  · rintro s (⟨e1, rfl⟩ | ⟨_, rfl⟩)
    · cases e1
    · rfl
theorem lget_strips {c : Dapi_TraceCourse} {k : Nat} {d : List Dtrace_section} (h : k ≤ c.2.2.2.length) : lget d (stripsQ c (c.2.2.2.length + 1)) (k : Int) = (stS c k).map secQ := stripsQ_get (by omega)
theorem LengthAfter_ok {c : Dapi_TraceCourse} (hv : Valid c) (hop : trace_open c = some ((c, stripsQ c (c.2.2.2.length + 1)), ((0 : Nat) : Int), 0)) {k : Nat} (hk : k ≤ c.2.2.2.length) : trace_LengthAfter c (k : Int) = some (fracE (lastV 0 (stS c k))) := by
  have hs := hv.strip k hk
  have h6 := hs.len
  unfold trace_LengthAfter
  rw [opened1_ok hop, Option.bind_some, if_pos (by omega), show firstE [(0 : Int), 0] = 0 from rfl]
  simp only
  rw [show ((0 : Int) != 0) = false from rfl, cond_false, chk_true (and_true' (dec_true (by omega)) (dec_true (by rw [stripsQ_len]; omega))), lget_strips hk, strip_length_ok hs.ne (by omega), Option.bind_some, small_ok (fit_small hs.last).1 (by decide), Option.bind_some]
  rfl
def volS : List Sec → Rat
  | [] => 0
  | x :: l => (x.v - x.u) * (x.area : Rat) + volS l
theorem VolumeAfter_ok {c : Dapi_TraceCourse} (hv : Valid c) (hop : trace_open c = some ((c, stripsQ c (c.2.2.2.length + 1)), ((0 : Nat) : Int), 0)) {k : Nat} (hk : k ≤ c.2.2.2.length) : trace_VolumeAfter c (k : Int) = some (fracE (volS (stS c k))) := by
  have hs := hv.strip k hk
  have h6 := hs.len
  unfold trace_VolumeAfter
  rw [opened1_ok hop, Option.bind_some, if_pos (by omega), show firstE [(0 : Int), 0] = 0 from rfl]
  simp only
  rw [show ((0 : Int) != 0) = false from rfl, cond_false, whole0, Option.bind_some, chk_true (and_true' (dec_true (by omega)) (dec_true (by rw [stripsQ_len]; omega))), lget_strips hk]
  suffices hloop : ∃ N, N ≤ 100 ∧ Fit N (volS (stS c k)) ∧ loopM (S := Int × Dtrace_ratio) (R := Dtrace_ratio) (fun s =>
        let t_1 : Int := s.1
        let sum : Dtrace_ratio := s.2
        bif decide (t_1 < (List.length ((stS c k).map secQ) : Int)) then
          chk (decide ((0 : Int) ≤ t_1) && decide (t_1 < (List.length ((stS c k).map secQ) : Int))) (
            let s_1 : Dtrace_section := lget ((fun _ => (false, ([], []))), ((fun _ => (false, ([], []))), (0, 0))) ((stS c k).map secQ) t_1
            (trace_section_length s_1).bind fun (t_2 : Dtrace_ratio) =>
            (trace_whole s_1.2.2.2).bind fun (t_3 : Dtrace_ratio) =>
            (trace_ratio_times t_2 t_3).bind fun (t_4 : Dtrace_ratio) =>
            (trace_ratio_plus sum t_4).bind fun (t_5 : Dtrace_ratio) =>
            some (.inl (wi64 (t_1 + 1), t_5)))
        else
          some (.inr sum)) (0, ratioQ 0) = some (ratioQ (volS (stS c k))) by
    obtain ⟨N, h1, h2, h3⟩ := hloop
    refine Option.bind_eq_some_iff.2 ⟨_, h3, ?_⟩
    rw [small_ok h2 (by omega), Option.bind_some]
    rfl
  have key : ∀ (l' pre : List Sec) (q : Rat), stS c k = pre ++ l' → q + volS l' = volS (stS c k) → Fit (5 * pre.length + 1) q → Fit 100 (volS (stS c k)) := by
    intro l'
    induction l' with
    | nil =>
      intro pre q e1 e2 e3
      rw [show volS [] = 0 from rfl, Rat.add_zero] at e2
      rw [← e2]
      have : (stS c k).length = pre.length := by rw [e1, List.append_nil]
      exact e3.mono (by omega)
    | cons x l' ih =>
      intro pre q e1 e2 e3
      obtain ⟨hx, _, _, hu, hvv, _⟩ := hs.each x (by rw [e1]; simp)
      obtain ⟨_, s2⟩ := seclen_ok hu hvv (by decide)
      have hL : (stS c k).length = pre.length + (l'.length + 1) := by rw [e1, List.length_append, List.length_cons]
      have f1 : Fit 1 (x.area : Rat) := fit_whole (by have := hx.area1; omega) (by have := hx.area2; omega)
      have f2 := (rtimes_ok s2 f1 (by decide)).2
      have f3 := (rplus_ok e3 f2 (by omega)).2
      refine ih (pre ++ [x]) (q + (x.v - x.u) * (x.area : Rat)) (by rw [e1]; simp) ?_ (f3.mono (by rw [List.length_append, List.length_singleton]; omega))
      rw [← e2]
      show _ = q + ((x.v - x.u) * (x.area : Rat) + volS l')
      rw [Rat.add_assoc]
  refine ⟨100, by decide, key (stS c k) [] 0 rfl (by rw [Rat.zero_add]) (fit_zero.mono (by decide)), ?_⟩
  refine loopM_list_eq (X := Sec) (l := stS c k) (fun l' s => ∃ pre q, stS c k = pre ++ l' ∧ s = ((pre.length : Int), ratioQ q) ∧ q + volS l' = volS (stS c k) ∧ Fit (5 * pre.length + 1) q) ?_ ?_ ⟨[], 0, rfl, rfl, by rw [Rat.zero_add], fit_zero.mono (by decide)⟩
  · rintro x l' s ⟨pre, q, e1, rfl, e2, e3⟩
    left
    have hL : (stS c k).length = pre.length + (l'.length + 1) := by rw [e1, List.length_append, List.length_cons]
    obtain ⟨hx, _, _, hu, hvv, _⟩ := hs.each x (by rw [e1]; simp)
    obtain ⟨s1, s2⟩ := seclen_ok hu hvv (by decide)
    have f1 : Fit 1 (x.area : Rat) := fit_whole (by have := hx.area1; omega) (by have := hx.area2; omega)
    obtain ⟨m1, f2⟩ := rtimes_ok s2 f1 (by decide)
    obtain ⟨m2, f3⟩ := rplus_ok e3 f2 (by omega)
    have g1 : ∀ d, lget d ((stS c k).map secQ) (pre.length : Int) = secQ x := fun d => by rw [e1]; exact lget_map
    simp only
    rw [List.length_map, dec_true (show (pre.length : Int) < ((stS c k).length : Int) by omega), cond_true, chk_true (and_true' (dec_true (by omega)) rfl), g1, s1, Option.bind_some, show (secQ x).2.2.2 = x.area from rfl, whole_ok (by have := hx.area1; omega) (by have := hx.area2; omega), Option.bind_some, m1, Option.bind_some, m2, Option.bind_some, wi64_id (by omega) (by omega)]
    refine ⟨_, rfl, pre ++ [x], _, by rw [e1]; simp, by rw [List.length_append, List.length_singleton]; rfl, ?_, f3.mono (by rw [List.length_append, List.length_singleton]; omega)⟩
    rw [← e2]
    show _ = q + ((x.v - x.u) * (x.area : Rat) + volS l')
    rw [Rat.add_assoc]
  · rintro s ⟨pre, q, e1, rfl, e2, e3⟩
    have hL : (stS c k).length = pre.length := by rw [e1, List.append_nil]
    simp only
    rw [List.length_map, dec_false (show ¬ (pre.length : Int) < ((stS c k).length : Int) by omega), cond_false, ← e2, show volS [] = 0 from rfl, Rat.add_zero]
end Go.Lift
