/-
  The law of a course's text holds of the plain functions.
-/
import Derived.Test.YteobfadhflofpaaGreatDoorPlainAC
import Derived.Test.YteobfadhflofpaaGreatDoorLawCo
set_option linter.unusedSectionVars false
set_option linter.unusedVariables false
set_option linter.unusedSimpArgs false
namespace Go.Lift
open Go
theorem Ints_same {a : List Int} (h : a.length ≤ 1000) : b0_Ints a a = some true := by
  unfold b0_Ints
  rw [show ((a.length : Int) != (a.length : Int)) = false by simp, cond_false]
  refine bind_of (loopM_upto (fun k => (k : Int)) a.length rfl (r := .inl ()) ?_ ?_) rfl
  · intro k hk
    rw [dec_true (show (k : Int) < (a.length : Int) by omega), cond_true, chk_true (and_true' (dec_true (by omega)) rfl), chk_true (and_true' (dec_true (by omega)) rfl), show (lget 0 a (k : Int) != lget 0 a (k : Int)) = false by simp, cond_false, wi64_id (by omega) (by omega)]
    rfl
  · rw [dec_false (show ¬ (a.length : Int) < (a.length : Int) by omega), cond_false]
theorem seqb_self (s : ByteArray) : seqb s s = true := by rw [seqb_data]; exact beq_self_eq_true _
theorem SameCourse_same {a : Dapi_TraceCourse} (h1 : a.2.1.length ≤ 1000) (h2 : a.2.2.1.length ≤ 1000) (h3 : a.2.2.2.length ≤ 1000) (h4 : ∀ x, x ∈ a.2.2.2 → x.2.1.length ≤ 1000) : r9_SameCourse a a = some true := by
  unfold r9_SameCourse
  rw [seqb_self, Bool.not_true, cond_false, Ints_same h1, Option.bind_some, Option.bind_some, Bool.not_true, cond_false, Ints_same h2, Option.bind_some, Option.bind_some, Bool.not_true, Bool.false_or, show ((a.2.2.2.length : Int) != (a.2.2.2.length : Int)) = false by simp, cond_false]
  refine bind_of (loopM_upto (fun k => (k : Int)) a.2.2.2.length rfl (r := .inl ()) ?_ ?_) rfl
  · intro k hk
    have hx : a.2.2.2.getD k (0, ([], (0, 0))) ∈ a.2.2.2 := getD_mem hk
    have h5 := h4 _ hx
    simp only
    rw [dec_true (show (k : Int) < (a.2.2.2.length : Int) by omega), cond_true, chk_true (and_true' (dec_true (by omega)) rfl), chk_true (and_true' (dec_true (by omega)) rfl), lget_nat]
    generalize a.2.2.2.getD k (0, ([], (0, 0))) = x at *
    rw [show (x.1 != x.1) = false by simp, cond_false, Ints_same h5, Option.bind_some, Option.bind_some, Bool.not_true, Bool.false_or, show (x.2.2.1 != x.2.2.1) = false by simp, show (x.2.2.2 != x.2.2.2) = false by simp, Bool.or_false, cond_false, wi64_id (by omega) (by omega)]
    rfl
  · simp only
    rw [dec_false (show ¬ (a.2.2.2.length : Int) < (a.2.2.2.length : Int) by omega), cond_false]
theorem numsL_all {c : UInt8} {w : List UInt8} {l : List Int} (h : numsL c w = some l) : l.length ≤ w.length + 1 := by
  rw [allL_len h]; exact pcs_len
theorem stepL_in {w : List UInt8} {x : Dapi_TraceStep} (h : stepL w = some x) : x.2.1.length ≤ w.length + 1 ∧ x.2.2.2 < 10000000 := by
  unfold stepL at h
  cases hc : cutL 32 w with
  | none => rw [hc] at h; cases h
  | some p =>
    have hl := congrArg List.length (cutL_len (x := p.1) (y := p.2) hc)
    rw [List.length_append, List.length_cons] at hl
    rw [hc] at h
    simp only at h
    by_cases h1 : p.1 = [112]
    · rw [if_pos h1] at h
      cases hn : numsL 44 p.2 with
      | none => rw [hn] at h; cases h
      | some l =>
        rw [hn] at h
        cases h
        have := numsL_all hn
        exact ⟨by show l.length ≤ _; omega, by show (0 : Int) < _; decide⟩
    · rw [if_neg h1] at h
      by_cases h2 : p.1 = [99]
      · rw [if_pos h2] at h
        cases hn : pairL 32 p.2 with
        | none => rw [hn] at h; cases h
        | some a =>
          rw [hn] at h
          cases h
          refine ⟨Nat.zero_le _, ?_⟩
          show a.2 < 10000000
          unfold pairL at hn
          split at hn
          · split at hn
            · rename_i ha hb
              cases hn
              exact (numI_lt hb).2
            · cases hn
          · cases hn
      · rw [if_neg h2] at h; cases h
theorem parse_in {s : ByteArray} {c : Dapi_TraceCourse} (h : s.size ≤ 300) (hp : parseL s.data.toList = some c) : CourseIn c := by
  have hsz := size_len s
  have hmem : ∀ p, p ∈ pcs 59 s.data.toList → p.length ≤ 300 := fun p hp => by have := pcs_mem hp; omega
  have hlen := pcs_len (c := 59) (l := s.data.toList)
  unfold parseL at hp
  split at hp
  · rename_i n secs steps h1
    rw [h1] at hmem hlen
    rw [List.length_cons, List.length_cons] at hlen
    have hn := hmem n (by simp)
    have hs := hmem secs (by simp)
    have hlen2 := pcs_len (c := 44) (l := secs)
    split at hp
    · cases hp
    · rename_i A hA
      split at hp
      · cases hp
      · rename_i B hB
        cases hp
        have lA := allL_len hA
        have lB := allL_len hB
        refine ⟨fun x hx => ?_, fun x hx => ?_, ?_, ?_, ?_, ?_⟩
        · obtain ⟨w, w1, w2⟩ := allL_mem hB x hx
          have := (stepL_in w2).2; omega
        · obtain ⟨w, w1, w2⟩ := allL_mem hB x hx
          have := (stepL_in w2).1
          have := hmem w (by simp [w1])
          omega
        · show (bof n).size ≤ 1000
          rw [bof_size]; omega
        · show (A.map (·.1)).length ≤ 1000
          rw [List.length_map]; omega
        · show (A.map (·.2)).length ≤ 1000
          rw [List.length_map]; omega
        · show B.length ≤ 1000
          omega
  · cases hp
theorem CheckCourse_ok {c : Dapi_TraceCourse} (hin : CourseIn c) : ∃ (i e : Int), trace_CheckCourse c = some (i, e) ∧ r9_CourseErr c = some e := by
  obtain ⟨e, i, strips, h1, h2, _⟩ := open_ok hin
  refine ⟨i, e, ?_, ?_⟩
  · unfold trace_CheckCourse; rw [h1]; rfl
  · unfold r9_CourseErr; rw [h2]; rfl
theorem Parse_same {s : ByteArray} (h : s.size ≤ 300) : ∃ (c : Dapi_TraceCourse) (e : Int), trace_ParseCourse s = some (c, e) ∧ r9_ParseCourse s = some (c, e) ∧ CourseIn c := by
  rw [tParse_ok h, rParse_ok h]
  have hno : CourseIn noCourse := by
    refine ⟨fun x hx => ?_, fun x hx => ?_, ?_, ?_, ?_, ?_⟩
    · cases hx
    · cases hx
    all_goals exact Nat.zero_le _
  cases hp : parseL s.data.toList with
  | none => exact ⟨noCourse, 7, rfl, rfl, hno⟩
  | some c =>
    have hin := parse_in h hp
    obtain ⟨i, e, h1, h2⟩ := CheckCourse_ok hin
    simp only
    rw [h1, h2, Option.bind_some, Option.bind_some]
    by_cases he : e = 0
    · subst he
      exact ⟨c, 0, rfl, rfl, hin⟩
    · refine ⟨noCourse, e, ?_, ?_, hno⟩ <;> simp only [show (e != 0) = true by rw [bne_iff_ne]; exact he, cond_true]
theorem getD_all {P : Int → Prop} {l : List Int} (h0 : P 0) (h : ∀ x, x ∈ l → P x) (i : Nat) : P (l.getD i 0) := by
  by_cases hi : i < l.length
  · exact h _ (getD_mem hi)
  · rw [List.getD_eq_getElem?_getD, List.getElem?_eq_none (by omega)]; exact h0
theorem fmtIn_of {c : Dapi_TraceCourse} (hc : okv Tapi_TraceCourse c) (h1 : c.2.1.length ≤ 8) (h2 : c.2.2.1.length ≤ 8) (h3 : c.2.2.2.length ≤ 12) (h5 : c.1.size ≤ 30) (h4 : ∀ x, x ∈ c.2.2.2 → x.2.1.length ≤ 8) : FmtIn c := by
  obtain ⟨_, hl, hk, _, hs⟩ := hc
  have e1 : IntKind.i64.max = 9223372036854775807 := by decide
  have e2 : IntKind.i64.min = -9223372036854775808 := by decide
  have hw : ∀ n : Int, IntKind.i64.min ≤ n ∧ n ≤ IntKind.i64.max → W64I n := fun n hn => ⟨by omega, by omega⟩
  have h0 : W64I 0 := by unfold W64I; decide
  refine ⟨by omega, by omega, by omega, by omega, fun x hx => by have := h4 x hx; omega, getD_all h0 fun x hx => hw x (hl.2 x hx), getD_all h0 fun x hx => hw x (hk.2 x hx), fun x hx => ?_⟩
  obtain ⟨_, ⟨_, g1⟩, g2, g3⟩ := hs x hx
  exact ⟨getD_all h0 fun y hy => hw y (g1 y hy), hw _ g2, hw _ g3⟩
theorem TraceStrings_ok {c : Dapi_TraceCourse} {s : ByteArray} (hawake : l9_awake = some true) (hc : okv Tapi_TraceCourse c) : l9_TraceStrings c s = some true := by
  unfold l9_TraceStrings
  rw [hawake, Option.bind_some, Bool.not_true, cond_false]
  obtain ⟨b, hb, hb2⟩ := Few_ok (c := c)
  rw [hb, Option.bind_some]
  cases b with
  | false => rfl
  | true =>
    obtain ⟨h1, h2, h3, h5, h4⟩ := hb2 rfl
    have hf := fmtIn_of hc h1 h2 h3 h5 h4
    rw [Bool.not_true, Bool.false_or]
    by_cases hs : s.size ≤ 300
    · obtain ⟨c', e, p1, p2, p3⟩ := Parse_same hs
      rw [dec_false (show ¬ (s.size : Int) > 300 by omega), cond_false, CopyCourse_ok h1 h2 h3 h4, Option.bind_some, tFormat_ok hf, Option.bind_some, p1, Option.bind_some, p2, Option.bind_some, rFormat_ok hf, Option.bind_some]
      simp only
      rw [seqb_self, beq_self_eq_true, Bool.and_self, cond_true, SameCourse_same p3.ls p3.la p3.steps p3.areas]
      rfl
    · rw [dec_true (show (s.size : Int) > 300 by omega), cond_true]
end Go.Lift
