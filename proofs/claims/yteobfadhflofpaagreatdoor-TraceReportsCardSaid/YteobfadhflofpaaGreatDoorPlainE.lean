/-
  Places of the program and of the document.
-/
import Derived.Test.YteobfadhflofpaaGreatDoorPlainD
set_option linter.unusedSectionVars false
set_option linter.unusedVariables false
set_option linter.unusedSimpArgs false
namespace Go.Lift
open Go
theorem tstepsErr_ok {c : Dapi_TraceCourse} {strips : List (List Dtrace_section)} {n : Int} : trace_course_stepsErr (c, strips) n = some (if 0 ≤ n ∧ n ≤ (c.2.2.2.length : Int) then 0 else 2) := by
 unfold trace_course_stepsErr
 rw [within_ok, Option.bind_some, unless_ok, Option.bind_some]
 congr 1
 by_cases h : 0 ≤ n ∧ n ≤ (c.2.2.2.length : Int)
 ·rw [dec_true h, if_pos h, if_pos rfl]
 ·rw [dec_false h, if_neg h, if_neg (by decide)]
theorem rstepsErr_ok {c : Dapi_TraceCourse} {n : Int} : r9_StepsErr c n = some (if 0 ≤ n ∧ n ≤ (c.2.2.2.length : Int) then 0 else 2) := by
 unfold r9_StepsErr
 rw [Within_ok, Option.bind_some]
 by_cases h : 0 ≤ n ∧ n ≤ (c.2.2.2.length : Int)
 ·rw [dec_true h, if_pos h]; rfl
 ·rw [dec_false h, if_neg h]; rfl
def readErr (c : Dapi_TraceCourse) (r : Dapi_TraceReading) : Int :=
 if 0 ≤ r.1 ∧ r.1 ≤ (c.2.2.2.length : Int) then (if 0 ≤ r.2.1 ∧ (r.2.1 : Rat) ≤ lastV 0 (stS c r.1.toNat) then 0 else 6) else 2
theorem treadErr_ok {c : Dapi_TraceCourse} (hv : Valid c) {r : Dapi_TraceReading} (h1 : -9223372036854775808 ≤ r.2.1) (h2 : r.2.1 < 9223372036854775808) : trace_course_readingErr (c, stripsQ c (c.2.2.2.length + 1)) r = some (readErr c r) := by
 unfold trace_course_readingErr readErr
 rw [tstepsErr_ok, Option.bind_some]
 by_cases h : 0 ≤ r.1 ∧ r.1 ≤ (c.2.2.2.length : Int)
 ·rw [if_pos h, if_pos h, show ((0 : Int) != 0) = false from rfl, cond_false, stripsQ_len]
  obtain ⟨n, hn⟩ : ∃ n : Nat, r.1 = (n : Int) := ⟨r.1.toNat, by omega⟩
  have hs := hv.strip n (by omega)
  have hl6 := hs.len
  rw [hn, Int.toNat_natCast, chk_idx (by omega), stripsQ_get (by omega), has_ok hs.ne (by omega) (fit_small hs.last).1 (by decide) h1 h2, Option.bind_some, unless_ok, Option.bind_some]
  congr 1
  by_cases h3 : 0 ≤ r.2.1 ∧ (r.2.1 : Rat) ≤ lastV 0 (stS c n)
  ·rw [dec_true h3, if_pos h3, if_pos rfl]
  ·rw [dec_false h3, if_neg h3, if_neg (by decide)]
 ·rw [if_neg h, if_neg h]; rfl
theorem rreadErr_ok {c : Dapi_TraceCourse} (hv : Valid c) {r : Dapi_TraceReading} (h1 : -9223372036854775808 ≤ r.2.1) (h2 : r.2.1 < 9223372036854775808) : r9_ReadingErr c r = some (readErr c r) := by
 unfold r9_ReadingErr readErr
 rw [rstepsErr_ok, Option.bind_some]
 by_cases h : 0 ≤ r.1 ∧ r.1 ≤ (c.2.2.2.length : Int)
 ·rw [if_pos h, if_pos h, show ((0 : Int) != 0) = false from rfl, cond_false]
  obtain ⟨n, hn⟩ : ∃ n : Nat, r.1 = (n : Int) := ⟨r.1.toNat, by omega⟩
  have hs := hv.strip n (by omega)
  rw [hn, Int.toNat_natCast, RatioInt_ok h1 h2, Option.bind_some, After_ok hv (by omega) hv.len6, Option.bind_some, Length_ok hs, Option.bind_some]
  rw [RatioCmp_ok (N := 3) (M := 2) ?_ (fit_small hs.last).2 (by decide), Option.bind_some]
  ·by_cases h4 : r.2.1 < 0
   ·rw [dec_true h4, cond_true, Option.bind_some, cond_true, if_neg (by omega)]
   ·rw [dec_false h4, cond_false, Option.bind_some]
    by_cases h3 : (r.2.1 : Rat) ≤ lastV 0 (stS c n)
    ·rw [dec_false (mt cmp_gt.1 (show ¬ lastV 0 (stS c n) < (r.2.1 : Rat) by grind)), cond_false, if_pos ⟨by omega, h3⟩]
    ·rw [dec_true (cmp_gt.2 (show lastV 0 (stS c n) < (r.2.1 : Rat) by grind)), cond_true, if_neg (fun e => h3 e.2)]
  ·unfold FitT
   rw [Rat.num_intCast, Rat.den_intCast]
   have : (T9 : Nat) ^ 3 = 1000000000000000000000000000 := by decide
   exact ⟨tw_of_lt (by rw [this]; omega), tw_of_lt (by rw [this]; omega)⟩
 ·rw [if_neg h, if_neg h]; rfl
theorem fitT3_int {n : Int} (h1 : -9223372036854775808 ≤ n) (h2 : n < 9223372036854775808) : FitT 3 (n : Rat) := by
 unfold FitT
 rw [Rat.num_intCast, Rat.den_intCast]
 have : (T9 : Nat) ^ 3 = 1000000000000000000000000000 := by decide
 exact ⟨tw_of_lt (by rw [this]; omega), tw_of_lt (by rw [this]; omega)⟩
theorem fit2_int {n : Int} (h1 : -9223372036854775808 ≤ n) (h2 : n < 9223372036854775808) : Fit 2 (n : Rat) := by
 unfold Fit
 rw [Rat.num_intCast, Rat.den_intCast]
 exact ⟨nw64 (by omega), nw64 (by decide)⟩
theorem place_at {c : Dapi_TraceCourse} (hv : Valid c) {r : Dapi_TraceReading} {n to : Nat} (hr : r.1 = (n : Int)) (hn : n ≤ c.2.2.2.length) (hto : to ≤ c.2.2.2.length) (h0 : 0 ≤ r.2.1) (h1 : (r.2.1 : Rat) ≤ lastV 0 (stS c n)) (h2 : r.2.1 < 9223372036854775808) :
  trace_course_place (c, stripsQ c (c.2.2.2.length + 1)) r (to : Int) = some (atR (atS (stS c to) (slabAtS (stS c n) (r.2.1 : Rat)))) ∧
   r9_Move c (ratioW (r.2.1 : Rat)) (n : Int) (to : Int) = some (match (atS (stS c to) (slabAtS (stS c n) (r.2.1 : Rat))) with | some q => (ratioW q, true) | none => (zeroW, false)) ∧
   (∀ q, (atS (stS c to) (slabAtS (stS c n) (r.2.1 : Rat))) = some q → Fit 300 q ∧ FitT 300 q ∧ On (stS c to) (slabAtS (stS c n) (r.2.1 : Rat)) q) ∧ ((atS (stS c to) (slabAtS (stS c n) (r.2.1 : Rat))) = none → ∀ Q, ¬ On (stS c to) (slabAtS (stS c n) (r.2.1 : Rat)) Q) ∧ On (stS c n) (slabAtS (stS c n) (r.2.1 : Rat)) (r.2.1 : Rat) := by
 have h10 := hv.steps
 have hs := hv.strip n hn
 have ht := hv.strip to hto
 obtain ⟨p, hp⟩ := hs.secs
 obtain ⟨p', hp'⟩ := ht.secs
 have hs6 := hs.len
 have ht6 := ht.len
 have h0' : (0 : Rat) ≤ (r.2.1 : Rat) := by rw [← Rat.intCast_zero, Rat.intCast_le_intCast]; exact h0
 have hon := slabAt_on hp hs.ne h0' h1
 have hq := fit2_int (n := r.2.1) (by omega) h2
 have a1 := tslabAt_ok hp hs.ne h0' h1 (fun x hx => ⟨(hs.each x hx).1, (hs.each x hx).2.1, (hs.each x hx).2.2.2.1, (hs.each x hx).2.2.2.2.1⟩) hq (by decide) (by omega) (by omega)
 have a2 := slabAtS_fit (fun x hx => ⟨(hs.each x hx).1, (hs.each x hx).2.1, (hs.each x hx).2.2.2.1⟩) hq (show 1 + 5 * n + 2 ≤ 1000 by omega)
 generalize hP : slabAtS (stS c n) (r.2.1 : Rat) = P at *
 have a2' : Fit 100 P := a2.mono (by omega)
 obtain ⟨b1, b2⟩ := tat_ok (fun x hx => ⟨(ht.each x hx).1, (ht.each x hx).2.1, (ht.each x hx).2.2.1, (ht.each x hx).2.2.2.1⟩) a2' (show 1 + 5 * to ≤ 100 by omega) (by omega) (by omega)
 obtain ⟨m, m1, m2⟩ := Move_ok hv hn hto (N := 3) (by decide) hon (fitT3_int (by omega) h2)
 refine ⟨?_, ?_, ?_, ?_, hon⟩
 ·unfold trace_course_place
  rw [stripsQ_len, hr, chk_idx (by omega), chk_idx (by omega), whole_ok (by omega) h2, Option.bind_some, stripsQ_get (by omega), a1, Option.bind_some, stripsQ_get (by omega), b1, Option.bind_some]
 ·rw [m2]
  rcases m1 with ⟨q', rfl, c1, c2⟩ | ⟨rfl, c1⟩
  ·rw [(at_on hp').2 c1]
  ·cases h : atS (stS c to) P with
   | none => rfl
   | some q => exact absurd ((at_on hp').1 h) (c1 q)
 ·intro q h
  refine ⟨(b2 q h).mono (by omega), ?_, (at_on hp').1 h⟩
  rcases m1 with ⟨q', rfl, c1, c2⟩ | ⟨rfl, c1⟩
  ·rw [on_fun hp' ((at_on hp').1 h) c1]
   exact c2.mono (by decide)
  ·exact absurd ((at_on hp').1 h) (c1 q)
 ·intro h Q hQ
  rw [(at_on hp').2 hQ] at h
  cases h
end Go.Lift
