/-
  The law of reports holds of the plain functions.
-/
import Derived.Test.YteobfadhflofpaaGreatDoorPlainAD
set_option linter.unusedSectionVars false
set_option linter.unusedVariables false
set_option linter.unusedSimpArgs false
namespace Go.Lift
open Go
theorem name_of {c : Dapi_TraceCourse} (hin : CourseIn c) (h : r9_CourseErr c = some 0) : nameB c.1 = true := by
 unfold r9_CourseErr at h
 obtain ⟨⟨i, e⟩, h1, h2⟩ := Option.bind_eq_some_iff.1 h
 unfold r9_CheckCourse at h1
 rw [IsName_ok (Nat.le_trans hin.name (by decide)), Option.bind_some] at h1
 cases hn : nameB c.1 with
 | true => rfl
 | false =>
  rw [hn, Bool.not_false, cond_true] at h1
  cases h1
  cases h2
theorem reads_all {c : Dapi_TraceCourse} {l : List Dapi_TraceReading} (h : readsE c l = 0) : l.length ≤ 10 ∧ ∀ x, x ∈ l → readErr c x = 0 := by
 unfold readsE at h
 split at h
 ·cases h
 ·rename_i hl
  refine ⟨by omega, fun x hx => ?_⟩
  cases hf : findF (readR c l) 0 l.length with
  | none =>
   obtain ⟨i, hi, rfl⟩ := List.getElem_of_mem hx
   have := findF_none.1 hf i (Nat.zero_le _) (by omega)
   unfold readR at this
   split at this
   ·rename_i h0
    rw [lget_getD hi] at h0
    exact h0
   ·cases this
  | some e =>
   obtain ⟨i, _, hi, hg, _⟩ := findF_some hf
   rw [hf] at h
   unfold readR at hg
   split at hg
   ·cases hg
   ·rename_i h0
    cases hg
    exact absurd h h0
theorem readW_of {own : Dapi_TraceReading} (h : okv Tapi_TraceReading own) : ReadW own := by
 have e1 : IntKind.i64.max = 9223372036854775807 := by decide
 have e2 : IntKind.i64.min = -9223372036854775808 := by decide
 have h1 : IntKind.i64.min ≤ own.1 ∧ own.1 ≤ IntKind.i64.max := h.1
 have h2 : IntKind.i64.min ≤ own.2.1 ∧ own.2.1 ≤ IntKind.i64.max := h.2.1
 exact ⟨⟨by omega, by omega⟩, ⟨by omega, by omega⟩⟩
theorem report_bad {c : Dapi_TraceCourse} {strips : List (List Dtrace_section)} {e : Int} (h : trace_opened c [] = some ((c, strips), e)) (he : e ≠ 0) {r : List Dapi_TraceReading} : trace_ReportOf c r = some (ByteArray.empty, e) := by
 unfold trace_ReportOf
 rw [h, Option.bind_some]
 simp only
 rw [show (e == 0) = false by rw [beq_eq_false_iff_ne]; exact he, cond_false, Option.bind_some, show (e != 0) = true by rw [bne_iff_ne]; exact he, cond_true]
theorem report_bad2 {c : Dapi_TraceCourse} (hv : Valid c) (h : trace_opened c [] = some ((c, stripsQ c (c.2.2.2.length + 1)), 0)) {r : List Dapi_TraceReading} (hr : ∀ x, x ∈ r → ReadIn x) (he : readsE c r ≠ 0) : trace_ReportOf c r = some (ByteArray.empty, readsE c r) := by
 unfold trace_ReportOf
 rw [h, Option.bind_some]
 simp only
 rw [show ((0 : Int) == 0) = true from rfl, cond_true, openReadings_ok hv hr, Option.bind_some, Option.bind_some, show (readsE c r != 0) = true by rw [bne_iff_ne]; exact he, cond_true]
theorem TraceReports_ok {c : Dapi_TraceCourse} {r : List Dapi_TraceReading} (hawake : l9_awake = some true) (hc : okv Tapi_TraceCourse c) (hr : okv (.slice Tapi_TraceReading) r) : l9_TraceReports c r = some true := by
 have hI : ∀ x, x ∈ r → ReadIn x := fun x hx => readIn_of (hr.2 x hx)
 have hW : ∀ x, x ∈ r → ReadW x := fun x hx => readW_of (hr.2 x hx)
 have hself : ∀ b : ByteArray, seqb b b = true := seqb_self
 unfold l9_TraceReports
 rw [hawake, Option.bind_some, Bool.not_true, cond_false]
 obtain ⟨b, hb, hb2⟩ := Few_ok (c := c)
 rw [hb, Option.bind_some]
 cases b with
 | false => rfl
 | true =>
  obtain ⟨h1, h2, h3, h5, h4⟩ := hb2 rfl
  have hin := courseIn_of hc h1 h2 h3 h5 h4
  have hf := fmtIn_of hc h1 h2 h3 h5 h4
  rw [Bool.not_true, Bool.false_or]
  by_cases h12 : r.length ≤ 12
  ·rw [dec_false (show ¬ (r.length : Int) > 12 by omega), cond_false]
   obtain ⟨e, strips, o1, o2, o3⟩ := opened_ok hin
   rw [CopyCourse_ok h1 h2 h3 h4, Option.bind_some, CopyReadings_ok (by omega), Option.bind_some, o2]
   by_cases he : e = 0
   ·subst he
    obtain ⟨rfl, hv⟩ := o3 rfl
    rw [ReadingsErr_ok hv hI]
    by_cases hE : readsE c r = 0
    ·obtain ⟨h10, hall⟩ := reads_all hE
     have hR : ∀ x, x ∈ r → Rd c x := fun x hx => rd_of (hall x hx) (hI x hx)
     have t1 := tReport_ok hv hin.name o1 hI hW hE hR (by omega)
     have t2 := rReport_ok hv hin.name hW hR (show r.length ≤ 20 by omega)
     obtain ⟨p1, p2⟩ := round_trip hv (name_of hin o2)
     obtain ⟨i, e', q1, q2⟩ := CheckCourse_ok hin
     have he' : e' = 0 := by rw [o2] at q2; exact (Option.some.inj q2).symm
     subst he'
     have hparse : trace_ParseCourse (bof (courseS c)) = some (c, 0) := by
      rw [tParse_ok (by rw [bof_size]; exact p2), data_bof, p1]
      simp only
      rw [q1]
      rfl
     rw [t1, Option.bind_some, Option.bind_some, hE, t2]
     simp only [Option.bind_some]
     rw [show ((0 : Int) == 0) = true from rfl, cond_true, Option.bind_some, show ((0 : Int) != 0) = false from rfl, cond_false, show ((repR c r).2 != (repR c r).2) = false by simp, hself, Bool.not_true, Bool.or_self, cond_false, tFormat_ok hf, Option.bind_some, hparse, Option.bind_some]
     simp only
     rw [show ((0 : Int) != 0) = false from rfl, cond_false, SameCourse_same hin.ls hin.la hin.steps hin.areas, Option.bind_some, Option.bind_some, Bool.not_true, cond_false, t1, Option.bind_some, hself, beq_self_eq_true]
     rfl
    ·rw [report_bad2 hv o1 hI hE]
     simp only [Option.bind_some]
     rw [show ((0 : Int) == 0) = true from rfl, cond_true, Option.bind_some, show (readsE c r != 0) = true by rw [bne_iff_ne]; exact hE, cond_true, hself, beq_self_eq_true]
     rfl
   ·rw [report_bad o1 he]
    simp only [Option.bind_some]
    rw [show (e == 0) = false by rw [beq_eq_false_iff_ne]; exact he, cond_false, Option.bind_some, show (e != 0) = true by rw [bne_iff_ne]; exact he, cond_true, hself, beq_self_eq_true]
    rfl
  ·rw [dec_true (show (r.length : Int) > 12 by omega), cond_true]
end Go.Lift
