/-
  The law of values of maps holds of the plain functions.
-/
import Derived.Test.YtfihcmhknhbndaaGreatDoorPlainU
import Derived.Test.YtfihcmhknhbndaaGreatDoorLiftK
set_option linter.unusedSectionVars false
set_option linter.unusedVariables false
set_option linter.unusedSimpArgs false
namespace Go.Lift
open Go

theorem in64_of {f : Dapi_Frac} (h : okv Tapi_Frac f) : In64 f := by
  obtain ⟨h1, h2⟩ := h
  have a1 : -9223372036854775808 ≤ f.1 := h1.1
  have a2 : f.1 ≤ 9223372036854775807 := h1.2
  have b1 : -9223372036854775808 ≤ f.2 := h2.1
  have b2 : f.2 ≤ 9223372036854775807 := h2.2
  exact ⟨a1, by omega, b1, by omega⟩
theorem in64s_of {l : Dapi_TraceMap} (h : okv Tapi_TraceMap l) : In64s l := fun s hs => by
  have := h.2 s hs
  exact ⟨in64_of this.1, in64_of this.2⟩
theorem fewMap_ok (l : Dapi_TraceMap) : l9_fewMap l = some (decide (l.length ≤ 14)) := by
  unfold l9_fewMap
  simp only [Option.some.injEq]
  rw [decide_eq_decide]
  omega
theorem CopyMap_ok {l : Dapi_TraceMap} (h : l.length ≤ 14) : r9_CopyMap l = some l := by
  unfold r9_CopyMap
  rw [app_ok (by rw [List.length_nil]; omega), Option.bind_some]
  rfl

theorem tComposed_err {a b : List Dapi_Span} (ha : In64s a) (hb : In64s b) (h : ¬ ((mapE a).2 = 0 ∧ (mapE b).2 = 0)) : trace_Composed a b = some ([], if (mapE a).2 = 0 then (mapE b).2 else (mapE a).2) := by
  unfold trace_Composed
  rw [openMap_ok ha, Option.bind_some, openMap_ok hb, Option.bind_some, first_ok (by simp), Option.bind_some]
  by_cases h1 : (mapE a).2 = 0
  · by_cases h2 : (mapE b).2 = 0
    · exact absurd ⟨h1, h2⟩ h
    · rw [if_pos h1, if_neg h2, if_pos h1]
      have e : firstE [((outM a a.length, 0, 0) : (List Dtrace_knot) × Int × Int).2.2, (([], (mapE b).1, (mapE b).2) : (List Dtrace_knot) × Int × Int).2.2] = (mapE b).2 := by
        simp only [firstE]
        rw [if_neg h2]
        exact if_pos trivial
      rw [e, show ((mapE b).2 != 0) = true by rw [bne_iff_ne]; exact h2]
      rfl
  · rw [if_neg h1, if_neg h1]
    have e : firstE [(([], (mapE a).1, (mapE a).2) : (List Dtrace_knot) × Int × Int).2.2, (if (mapE b).2 = 0 then (outM b b.length, 0, 0) else ([], (mapE b).1, (mapE b).2) : (List Dtrace_knot) × Int × Int).2.2] = (mapE a).2 := by
      simp only [firstE]
      rw [if_neg h1]
    rw [e, show ((mapE a).2 != 0) = true by rw [bne_iff_ne]; exact h1]
    rfl
theorem fin_len (K : List Kn) : (finK K).1.length ≤ 1000 := by
  unfold finK
  split
  · rename_i h
    rw [List.length_map]
    omega
  · simp

/-- Both sides compose two valid maps alike. -/
theorem composed_same {a b : List Dapi_Span} (ha : In64s a) (hb : In64s b) (ea : (mapE a).2 = 0) (eb : (mapE b).2 = 0) : ∃ r : Dapi_TraceMap × Int, trace_Composed a b = some r ∧ r9_Composed a b = some r ∧ r.1.length ≤ 1000 := by
  have ma := (map_ok ea).2
  have mb := (map_ok eb).2
  obtain ⟨t1, t2⟩ := tComposed_ok ha hb ma mb ea eb
  obtain ⟨r1, r2⟩ := rComposed_ok ha hb ma mb
  by_cases h : earlierQ (getK (a.map kn) ((a.map kn).length - 1)).2 (getK (b.map kn) ((b.map kn).length - 1)).1 ≤ laterQ (getK (a.map kn) 0).2 (getK (b.map kn) 0).1
  · exact ⟨_, t1 h, r1 h, by simp⟩
  · have h' := Rat.not_le.1 h
    obtain ⟨B, hB, hl, e⟩ := t2 h'
    exact ⟨_, e, r2 h' B hB hl, fin_len _⟩

theorem TraceValues_ok {a b : Dapi_TraceMap} {f : Dapi_Frac} (hawake : l9_awake = some true) (ha : okv Tapi_TraceMap a) (hb : okv Tapi_TraceMap b) (hf : okv Tapi_Frac f) : l9_TraceValues a b f = some true := by
  have ia := in64s_of ha
  have ib := in64s_of hb
  have if' := in64_of hf
  unfold l9_TraceValues
  rw [hawake, Option.bind_some, Bool.not_true, cond_false, fewMap_ok, Option.bind_some, fewMap_ok]
  by_cases na : a.length ≤ 14
  · by_cases nb : b.length ≤ 14
    · rw [dec_true na, dec_true nb, Bool.not_true, cond_false, Option.bind_some, Option.bind_some, Bool.not_true, cond_false, CopyMap_ok na, CopyMap_ok nb, Option.bind_some, tCheckMap_ok ia, Option.bind_some, Option.bind_some, tValueAt_ok ia if', Option.bind_some, Option.bind_some, tInverse_ok ia, Option.bind_some, Option.bind_some, Option.bind_some]
      by_cases ea : (mapE a).2 = 0
      · have hcp : ∃ r3 : Dapi_TraceMap × Int, trace_Composed a b = some r3 ∧ ((mapE b).2 ≠ 0 → r3 = ([], (mapE b).2)) ∧ ((mapE b).2 = 0 → r9_Composed a b = some r3 ∧ r3.1.length ≤ 1000) := by
          by_cases eb : (mapE b).2 = 0
          · obtain ⟨r, h1, h2, h3⟩ := composed_same ia ib ea eb
            exact ⟨r, h1, fun e => absurd eb e, fun _ => ⟨h2, h3⟩⟩
          · refine ⟨_, tComposed_err ia ib (fun e => eb e.2), fun _ => by rw [if_pos ea], fun e => absurd e eb⟩
        obtain ⟨r3, h1, h2, h3⟩ := hcp
        have hm := (map_ok ea).2
        rw [h1, Option.bind_some, rCheckMap_ok ia, Option.bind_some, if_pos ea, if_pos ea]
        have e1 : (((mapE a).2 != (mapE a).2) || ((mapE a).1 != (mapE a).1)) = false := by simp
        rw [e1, cond_false, ea, show ((0 : Int) != 0) = false from rfl, cond_false, rValueAt_ok ia if' hm, Option.bind_some]
        have e2 : ((((atE a f).2 != (atE a f).2) || (!(Ty.eqb Tapi_Frac (atE a f).1 (atE a f).1))) || false) = false := by
          rw [eqb_frac]
          simp
        rw [e2, cond_false, rInverse_ok (by have := hm.len; omega), Option.bind_some, SameMap_ok (by rw [List.length_map]; have := hm.len; omega), Option.bind_some, Option.bind_some, Bool.not_true, cond_false, MapErr_ok ib, Option.bind_some]
        by_cases eb : (mapE b).2 = 0
        · obtain ⟨h4, h5⟩ := h3 eb
          rw [eb, show ((0 : Int) != 0) = false from rfl, cond_false, h4, Option.bind_some, show (r3.2 == r3.2) = true by simp, cond_true, SameMap_ok h5]
          rfl
        · rw [show ((mapE b).2 != 0) = true by rw [bne_iff_ne]; exact eb, cond_true, h2 eb]
          simp
      · rw [tComposed_err ia ib (fun e => ea e.1), if_neg ea, if_neg ea, if_neg ea, Option.bind_some, rCheckMap_ok ia, Option.bind_some]
        have e1 : (((mapE a).2 != (mapE a).2) || ((mapE a).1 != (mapE a).1)) = false := by simp
        rw [e1, cond_false, show ((mapE a).2 != 0) = true by rw [bne_iff_ne]; exact ea, cond_true]
        simp only
        rw [show ((mapE a).2 == (mapE a).2) = true by simp, Bool.and_self, Bool.and_self, cond_true, eqb_frac]
        rfl
    · rw [dec_true na, dec_false nb]; rfl
  · rw [dec_false na]; rfl

end Go.Lift
