/-
  The law of courses holds of the plain functions.
-/
import Derived.Test.YtfihcmhknhbndaaGreatDoorPlainG
set_option linter.unusedSectionVars false
set_option linter.unusedVariables false
set_option linter.unusedSimpArgs false
namespace Go.Lift
open Go

theorem after_err {c : Dapi_TraceCourse} {strips : List (List Dtrace_section)} {i : Nat} {e n : Int} (h : trace_open c = some ((c, strips), (i : Int), e)) (he : firstE [e, if 0 ≤ n ∧ n ≤ (c.2.2.2.length : Int) then 0 else 2] ≠ 0) :
    trace_StripAfter c n = some ([], firstE [e, if 0 ≤ n ∧ n ≤ (c.2.2.2.length : Int) then 0 else 2]) ∧ trace_LengthAfter c n = some ((0, 0), firstE [e, if 0 ≤ n ∧ n ≤ (c.2.2.2.length : Int) then 0 else 2]) ∧
    trace_VolumeAfter c n = some ((0, 0), firstE [e, if 0 ≤ n ∧ n ≤ (c.2.2.2.length : Int) then 0 else 2]) := by
  have hb : (firstE [e, if 0 ≤ n ∧ n ≤ (c.2.2.2.length : Int) then 0 else 2] != 0) = true := by rw [bne_iff_ne]; exact he
  unfold trace_StripAfter trace_LengthAfter trace_VolumeAfter
  rw [opened1_ok h, Option.bind_some, Option.bind_some, Option.bind_some]
  simp only
  rw [hb, cond_true, cond_true, cond_true]
  exact ⟨rfl, rfl, rfl⟩

theorem TraceCourses_ok {c : Dapi_TraceCourse} {n : Int} (hawake : cobblelaw09_awake = some true) (hc : okv Tapi_TraceCourse c) : cobblelaw09_TraceCourses c n = some true := by
  unfold cobblelaw09_TraceCourses
  rw [hawake, Option.bind_some, Bool.not_true, cond_false]
  obtain ⟨b, hb, hb2⟩ := Few_ok (c := c)
  rw [hb, Option.bind_some]
  cases b with
  | false => rfl
  | true =>
    obtain ⟨h1, h2, h3, h5, h4⟩ := hb2 rfl
    have hin := courseIn_of hc h1 h2 h3 h5 h4
    obtain ⟨e, i, strips, o1, o2, o3⟩ := open_ok hin
    have hck : trace_CheckCourse c = some ((i : Int), e) := by
      unfold trace_CheckCourse
      rw [o1, Option.bind_some]
    rw [Bool.not_true, cond_false, CopyCourse_ok h1 h2 h3 h4, Option.bind_some, hck, Option.bind_some, Option.bind_some]
    by_cases hd : firstE [e, if 0 ≤ n ∧ n ≤ (c.2.2.2.length : Int) then 0 else 2] = 0
    · have he : e = 0 := by
        rw [first2] at hd
        split at hd
        · assumption
        · exact hd
      subst he
      rw [first2, if_pos rfl] at hd
      obtain ⟨rfl, rfl, hv⟩ := o3 rfl
      have hn : 0 ≤ n ∧ n ≤ (c.2.2.2.length : Int) := by
        by_cases h : 0 ≤ n ∧ n ≤ (c.2.2.2.length : Int)
        · exact h
        · rw [if_neg h] at hd; cases hd
      obtain ⟨k, rfl⟩ : ∃ k : Nat, n = (k : Int) := ⟨n.toNat, by omega⟩
      have hk : k ≤ c.2.2.2.length := by omega
      have hs := hv.strip k hk
      have h6 := hs.len
      rw [StripAfter_ok hv o1 hk, Option.bind_some, Option.bind_some, LengthAfter_ok hv o1 hk, Option.bind_some, Option.bind_some, VolumeAfter_ok hv o1 hk, Option.bind_some, o2, Option.bind_some]
      simp only
      rw [show ((0 : Int) != 0) = false from rfl, show (((0 : Nat) : Int) != ((0 : Nat) : Int)) = false from rfl, Bool.or_false, cond_false, show ((0 : Int) == 0) = true from rfl, cond_true, rstepsErr_ok, Option.bind_some, if_pos hn, Option.bind_some]
      rw [show ((0 : Int) != 0) = false from rfl, cond_false, After_ok hv hk hv.len6, Option.bind_some, cond_true, StripOf_ok hs, Option.bind_some, SameStrip_ok (by rw [List.length_map]; omega), Option.bind_some, Option.bind_some, Bool.true_and]
      have hl := Length_ok hs
      have f1 := fracOr_ok (fit_small hs.last).2 (by decide)
      obtain ⟨w1, w2⟩ := Volume_ok hs
      have f2 := fracOr_ok w2 (by decide)
      rw [hl, Option.bind_some, f1, Option.bind_some, w1, Option.bind_some, f2, Option.bind_some]
      have hz : (fracE (lastV 0 (stS c k))).2 = 0 := by
        unfold fracE
        simp only
        rw [fracQ_small, hs.last, if_pos rfl]
      rw [hz]
      rfl
    · obtain ⟨a1, a2, a3⟩ := after_err o1 hd
      rw [a1, Option.bind_some, Option.bind_some, a2, Option.bind_some, Option.bind_some, a3, Option.bind_some, o2, Option.bind_some]
      simp only
      rw [show (e != e) = false by simp, show ((i : Int) != (i : Int)) = false by simp, Bool.or_false, cond_false]
      have hdd : (bif e == 0 then (cobbleref09_StepsErr c n).bind fun (t_6 : Int) => some t_6 else some e) = some (firstE [e, if 0 ≤ n ∧ n ≤ (c.2.2.2.length : Int) then 0 else 2]) := by
        rw [first2, rstepsErr_ok, Option.bind_some]
        by_cases he : e = 0
        · rw [if_pos he, he]; rfl
        · rw [if_neg he, show (e == 0) = false by rw [beq_eq_false_iff_ne]; exact he, cond_false]
      rw [hdd, Option.bind_some, show (firstE [e, if 0 ≤ n ∧ n ≤ (c.2.2.2.length : Int) then 0 else 2] != 0) = true by rw [bne_iff_ne]; exact hd, cond_true, beq_self_eq_true]
      rfl
end Go.Lift
