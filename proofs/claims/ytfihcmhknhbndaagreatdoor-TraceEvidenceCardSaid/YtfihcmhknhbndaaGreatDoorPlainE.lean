/-
  Places of the program and of the document.
-/
import Derived.Test.YtfihcmhknhbndaaGreatDoorPlainD
set_option linter.unusedSectionVars false
set_option linter.unusedVariables false
set_option linter.unusedSimpArgs false
namespace Go.Lift
open Go

theorem slab_same : ∀ {l k : List Int} {t : Int} {x : Sec}, x ∈ slabS t l k → x.a = x.u ∧ x.old = x.area
  | [], _, _, _, h => by simp [slabS] at h
  | n :: l, [], _, _, h => by simp [slabS] at h
  | n :: l, m :: k, t, x, h => by
    unfold slabS at h
    rcases List.mem_cons.1 h with rfl | h
    · exact ⟨rfl, rfl⟩
    · exact slab_same h

/-- A point of the slab has the same position on the strip after no step. -/
theorem on_slab {c : Dapi_TraceCourse} (hv : Valid c) {P Q : Rat} (h : On (stS c 0) P Q) : P = Q := by
  obtain ⟨x, hx, _, _, _, _, e⟩ := h
  have hs := hv.strip 0 (Nat.zero_le _)
  have ho := int_pos (hs.each x hx).1.old1
  rw [stS_zero] at hx
  obtain ⟨e1, e2⟩ := slab_same hx
  rw [← e1, ← e2] at e
  have := of_mul_eq ho e
  grind

theorem within_n (n hi : Int) : trace_within n 0 hi = some (decide (0 ≤ n ∧ n ≤ hi)) := within_ok n 0 hi

theorem tstepsErr_ok {c : Dapi_TraceCourse} {strips : List (List Dtrace_section)} {n : Int} : trace_course_stepsErr (c, strips) n = some (if 0 ≤ n ∧ n ≤ (c.2.2.2.length : Int) then 0 else 2) := by
  unfold trace_course_stepsErr
  rw [within_ok, Option.bind_some, unless_ok, Option.bind_some]
  congr 1
  by_cases h : 0 ≤ n ∧ n ≤ (c.2.2.2.length : Int)
  · rw [dec_true h, if_pos h, if_pos rfl]
  · rw [dec_false h, if_neg h, if_neg (by decide)]
theorem rstepsErr_ok {c : Dapi_TraceCourse} {n : Int} : r9_StepsErr c n = some (if 0 ≤ n ∧ n ≤ (c.2.2.2.length : Int) then 0 else 2) := by
  unfold r9_StepsErr
  rw [Within_ok, Option.bind_some]
  by_cases h : 0 ≤ n ∧ n ≤ (c.2.2.2.length : Int)
  · rw [dec_true h, if_pos h]; rfl
  · rw [dec_false h, if_neg h]; rfl

/-- The error of a reading. -/
def readErr (c : Dapi_TraceCourse) (r : Dapi_TraceReading) : Int :=
  if 0 ≤ r.1 ∧ r.1 ≤ (c.2.2.2.length : Int) then (if 0 ≤ r.2.1 ∧ (r.2.1 : Rat) ≤ lastV 0 (stS c r.1.toNat) then 0 else 6) else 2

theorem treadErr_ok {c : Dapi_TraceCourse} (hv : Valid c) {r : Dapi_TraceReading} (h1 : -9223372036854775808 ≤ r.2.1) (h2 : r.2.1 < 9223372036854775808) : trace_course_readingErr (c, stripsQ c (c.2.2.2.length + 1)) r = some (readErr c r) := by
  unfold trace_course_readingErr readErr
  rw [tstepsErr_ok, Option.bind_some]
  by_cases h : 0 ≤ r.1 ∧ r.1 ≤ (c.2.2.2.length : Int)
  · rw [if_pos h, if_pos h, show ((0 : Int) != 0) = false from rfl, cond_false, stripsQ_len]
    obtain ⟨n, hn⟩ : ∃ n : Nat, r.1 = (n : Int) := ⟨r.1.toNat, by omega⟩
    have hs := hv.strip n (by omega)
    have hl6 := hs.len
    rw [hn, Int.toNat_natCast, chk_idx (by omega), stripsQ_get (by omega), has_ok hs.ne (by omega) (fit_small hs.last).1 (by decide) h1 h2, Option.bind_some, unless_ok, Option.bind_some]
    congr 1
    by_cases h3 : 0 ≤ r.2.1 ∧ (r.2.1 : Rat) ≤ lastV 0 (stS c n)
    · rw [dec_true h3, if_pos h3, if_pos rfl]
    · rw [dec_false h3, if_neg h3, if_neg (by decide)]
  · rw [if_neg h, if_neg h]; rfl

theorem rreadErr_ok {c : Dapi_TraceCourse} (hv : Valid c) {r : Dapi_TraceReading} (h1 : -9223372036854775808 ≤ r.2.1) (h2 : r.2.1 < 9223372036854775808) : r9_ReadingErr c r = some (readErr c r) := by
  unfold r9_ReadingErr readErr
  rw [rstepsErr_ok, Option.bind_some]
  by_cases h : 0 ≤ r.1 ∧ r.1 ≤ (c.2.2.2.length : Int)
  · rw [if_pos h, if_pos h, show ((0 : Int) != 0) = false from rfl, cond_false]
    obtain ⟨n, hn⟩ : ∃ n : Nat, r.1 = (n : Int) := ⟨r.1.toNat, by omega⟩
    have hs := hv.strip n (by omega)
    rw [hn, Int.toNat_natCast, RatioInt_ok h1 h2, Option.bind_some, After_ok hv (by omega) hv.len6, Option.bind_some, Length_ok hs, Option.bind_some]
    rw [RatioCmp_ok (N := 3) (M := 2) ?_ (fit_small hs.last).2 (by decide), Option.bind_some]
    · by_cases h4 : r.2.1 < 0
      · rw [dec_true h4, cond_true, Option.bind_some, cond_true, if_neg (by omega)]
      · rw [dec_false h4, cond_false, Option.bind_some]
        by_cases h3 : (r.2.1 : Rat) ≤ lastV 0 (stS c n)
        · rw [dec_false (mt cmp_gt.1 (show ¬ lastV 0 (stS c n) < (r.2.1 : Rat) by grind)), cond_false, if_pos ⟨by omega, h3⟩]
        · rw [dec_true (cmp_gt.2 (show lastV 0 (stS c n) < (r.2.1 : Rat) by grind)), cond_true, if_neg (fun e => h3 e.2)]
    · unfold FitT
      rw [Rat.num_intCast, Rat.den_intCast]
      have : (T9 : Nat) ^ 3 = 1000000000000000000000000000 := by decide
      exact ⟨tw_of_lt (by rw [this]; omega), tw_of_lt (by rw [this]; omega)⟩
  · rw [if_neg h, if_neg h]; rfl

theorem fitT3_int {n : Int} (h1 : -9223372036854775808 ≤ n) (h2 : n < 9223372036854775808) : FitT 3 (n : Rat) := by
  unfold FitT
  rw [Rat.num_intCast, Rat.den_intCast]
  have : (T9 : Nat) ^ 3 = 1000000000000000000000000000 := by decide
  exact ⟨tw_of_lt (by rw [this]; omega), tw_of_lt (by rw [this]; omega)⟩
theorem fit2_int {n : Int} (h1 : -9223372036854775808 ≤ n) (h2 : n < 9223372036854775808) : Fit 2 (n : Rat) := by
  unfold Fit
  rw [Rat.num_intCast, Rat.den_intCast]
  exact ⟨nw64 (by omega), nw64 (by decide)⟩

/-- The place of a point that was read, and where the reference moves it. -/
theorem place_ok {c : Dapi_TraceCourse} (hv : Valid c) {r : Dapi_TraceReading} {n to : Nat} (hr : r.1 = (n : Int)) (hn : n ≤ c.2.2.2.length) (hto : to ≤ c.2.2.2.length) (h0 : 0 ≤ r.2.1) (h1 : (r.2.1 : Rat) ≤ lastV 0 (stS c n)) (h2 : r.2.1 < 9223372036854775808) :
    ∃ o : Option Rat, trace_course_place (c, stripsQ c (c.2.2.2.length + 1)) r (to : Int) = some (atR o) ∧
      r9_Move c (ratioW (r.2.1 : Rat)) (n : Int) (to : Int) = some (match o with | some q => (ratioW q, true) | none => (zeroW, false)) ∧
      (∀ q, o = some q → Fit 300 q ∧ FitT 300 q ∧ On (stS c to) (slabAtS (stS c n) (r.2.1 : Rat)) q) ∧ (o = none → ∀ Q, ¬ On (stS c to) (slabAtS (stS c n) (r.2.1 : Rat)) Q) ∧ On (stS c n) (slabAtS (stS c n) (r.2.1 : Rat)) (r.2.1 : Rat) := by
  have h10 := hv.steps
  have hs := hv.strip n hn
  have ht := hv.strip to hto
  obtain ⟨p, hp⟩ := hs.secs
  obtain ⟨p', hp'⟩ := ht.secs
  have hs6 := hs.len
  have ht6 := ht.len
  have h0' : (0 : Rat) ≤ (r.2.1 : Rat) := by rw [← Rat.intCast_zero, Rat.intCast_le_intCast]; exact h0
  have hon := slabAt_on hp hs.ne h0' h1
  have hq := fit2_int (n := r.2.1) (by omega) h2
  have a1 := tslabAt_ok hp hs.ne h0' h1 (fun x hx => ⟨(hs.each x hx).1, (hs.each x hx).2.1, (hs.each x hx).2.2.2.1, (hs.each x hx).2.2.2.2.1⟩) hq (by decide) (by omega) (by omega)
  have a2 := slabAtS_fit (fun x hx => ⟨(hs.each x hx).1, (hs.each x hx).2.1, (hs.each x hx).2.2.2.1⟩) hq (show 1 + 5 * n + 2 ≤ 1000 by omega)
  generalize hP : slabAtS (stS c n) (r.2.1 : Rat) = P at *
  have a2' : Fit 100 P := a2.mono (by omega)
  obtain ⟨b1, b2⟩ := tat_ok (fun x hx => ⟨(ht.each x hx).1, (ht.each x hx).2.1, (ht.each x hx).2.2.1, (ht.each x hx).2.2.2.1⟩) a2' (show 1 + 5 * to ≤ 100 by omega) (by omega) (by omega)
  obtain ⟨m, m1, m2⟩ := Move_ok hv hn hto (N := 3) (by decide) hon (fitT3_int (by omega) h2)
  refine ⟨atS (stS c to) P, ?_, ?_, ?_, ?_, hon⟩
  · unfold trace_course_place
    rw [stripsQ_len, hr, chk_idx (by omega), chk_idx (by omega), whole_ok (by omega) h2, Option.bind_some, stripsQ_get (by omega), a1, Option.bind_some, stripsQ_get (by omega), b1, Option.bind_some]
  · rw [m2]
    rcases m1 with ⟨q', rfl, c1, c2⟩ | ⟨rfl, c1⟩
    · rw [(at_on hp').2 c1]
    · cases h : atS (stS c to) P with
      | none => rfl
      | some q => exact absurd ((at_on hp').1 h) (c1 q)
  · intro q h
    refine ⟨(b2 q h).mono (by omega), ?_, (at_on hp').1 h⟩
    rcases m1 with ⟨q', rfl, c1, c2⟩ | ⟨rfl, c1⟩
    · rw [on_fun hp' ((at_on hp').1 h) c1]
      exact c2.mono (by decide)
    · exact absurd ((at_on hp').1 h) (c1 q)
  · intro h Q hQ
    rw [(at_on hp').2 hQ] at h
    cases h

/-- What place has as a fraction, with its error. -/
def fracE (q : Rat) : Dapi_Frac × Int := ((fracQ q).1, if (fracQ q).2 then 0 else 8)
theorem fracQ_none {q : Rat} (h : (fracQ q).2 = false) : (fracQ q).1 = (0, 0) := by
  unfold fracQ at h ⊢
  split
  · rename_i h1
    rw [if_pos h1] at h
    cases h
  · rfl

theorem PlaceOf_ok {c : Dapi_TraceCourse} (hin : CourseIn c) (hv : Valid c) (hop : trace_opened c [] = some ((c, stripsQ c (c.2.2.2.length + 1)), 0)) {r : Dapi_TraceReading} {to : Int} (h1 : -9223372036854775808 ≤ r.2.1) (h2 : r.2.1 < 9223372036854775808) :
    ∃ f e, trace_PlaceOf c r to = some (f, e) ∧
      (firstE [readErr c r, if 0 ≤ to ∧ to ≤ (c.2.2.2.length : Int) then 0 else 2] ≠ 0 → f = (0, 0) ∧ e = firstE [readErr c r, if 0 ≤ to ∧ to ≤ (c.2.2.2.length : Int) then 0 else 2]) ∧
      (firstE [readErr c r, if 0 ≤ to ∧ to ≤ (c.2.2.2.length : Int) then 0 else 2] = 0 → r9_PlaceOf c r to = some (f, e)) := by
  unfold trace_PlaceOf
  rw [hop, Option.bind_some]
  simp only
  rw [show ((0 : Int) == 0) = true from rfl, cond_true, treadErr_ok hv h1 h2, Option.bind_some, tstepsErr_ok, Option.bind_some, first_ok (by simp), Option.bind_some, Option.bind_some]
  by_cases he : firstE [readErr c r, if 0 ≤ to ∧ to ≤ (c.2.2.2.length : Int) then 0 else 2] = 0
  · rw [he, show ((0 : Int) != 0) = false from rfl, cond_false]
    unfold firstE at he
    by_cases hr0 : readErr c r = 0
    · rw [if_pos hr0] at he
      have hto : 0 ≤ to ∧ to ≤ (c.2.2.2.length : Int) := by
        by_cases h : 0 ≤ to ∧ to ≤ (c.2.2.2.length : Int)
        · exact h
        · rw [if_neg h] at he
          unfold firstE at he
          simp at he
      unfold readErr at hr0
      by_cases hs : 0 ≤ r.1 ∧ r.1 ≤ (c.2.2.2.length : Int)
      · rw [if_pos hs] at hr0
        by_cases ha : 0 ≤ r.2.1 ∧ (r.2.1 : Rat) ≤ lastV 0 (stS c r.1.toNat)
        · obtain ⟨n, hn⟩ : ∃ n : Nat, r.1 = (n : Int) := ⟨r.1.toNat, by omega⟩
          obtain ⟨k, hk⟩ : ∃ k : Nat, to = (k : Int) := ⟨to.toNat, by omega⟩
          rw [hn, Int.toNat_natCast] at ha
          obtain ⟨o, p1, p2, p3, p4, _⟩ := place_ok hv hn (by omega) (show k ≤ _ by omega) ha.1 ha.2 h2
          rw [hk, p1, Option.bind_some]
          unfold r9_PlaceOf
          rw [RatioInt_ok h1 h2, Option.bind_some, hn, p2, Option.bind_some]
          cases o with
          | none => exact ⟨_, _, rfl, fun h => absurd rfl h, fun _ => rfl⟩
          | some q =>
            obtain ⟨f1, f2, _⟩ := p3 q rfl
            refine ⟨(fracQ q).1, if (fracQ q).2 then 0 else 8, ?_, fun h => absurd rfl h, fun _ => ?_⟩
            · unfold atR
              simp only
              rw [Bool.not_true, cond_false, small_ok f1 (by decide), Option.bind_some]
            · simp only
              rw [Bool.not_true, cond_false, RatioFrac_ok f2 (by decide), Option.bind_some]
              cases hf : (fracQ q).2 with
              | true => rfl
              | false => rw [fracQ_none hf]; rfl
        · rw [if_neg ha] at hr0; cases hr0
      · rw [if_neg hs] at hr0; cases hr0
    · rw [if_neg hr0] at he; exact absurd he hr0
  · rw [show (firstE [readErr c r, if 0 ≤ to ∧ to ≤ (c.2.2.2.length : Int) then 0 else 2] != 0) = true by rw [bne_iff_ne]; exact he, cond_true]
    exact ⟨_, _, rfl, fun _ => ⟨rfl, rfl⟩, fun h => absurd h he⟩

end Go.Lift
