/-
  Places and pieces of the program and of the document.
-/
import Derived.Test.YtkhkjbcnnlcamaaGreatDoorPlainD
set_option linter.unusedSectionVars false
set_option linter.unusedVariables false
set_option linter.unusedSimpArgs false
namespace Go.Lift
open Go

theorem slab_same : ∀ {l k : List Int} {t : Int} {x : Sec}, x ∈ slabS t l k → x.a = x.u ∧ x.old = x.area
  | [], _, _, _, h => by simp [slabS] at h
  | n :: l, [], _, _, h => by simp [slabS] at h
  | n :: l, m :: k, t, x, h => by
    unfold slabS at h
    rcases List.mem_cons.1 h with rfl | h
    · exact ⟨rfl, rfl⟩
    · exact slab_same h

/-- A point of the slab has the same position on the strip after no step. -/
theorem on_slab {c : Dapi_TraceCourse} (hv : Valid c) {P Q : Rat} (h : On (stS c 0) P Q) : P = Q := by
  obtain ⟨x, hx, _, _, _, _, e⟩ := h
  have hs := hv.strip 0 (Nat.zero_le _)
  have ho := int_pos (hs.each x hx).1.old1
  rw [stS_zero] at hx
  obtain ⟨e1, e2⟩ := slab_same hx
  rw [← e1, ← e2] at e
  have := of_mul_eq ho e
  grind

theorem within_n (n hi : Int) : trace_within n 0 hi = some (decide (0 ≤ n ∧ n ≤ hi)) := within_ok n 0 hi

theorem tstepsErr_ok {c : Dapi_TraceCourse} {strips : List (List Dtrace_section)} {n : Int} : trace_course_stepsErr (c, strips) n = some (if 0 ≤ n ∧ n ≤ (c.2.2.2.length : Int) then 0 else 2) := by
  unfold trace_course_stepsErr
  rw [within_ok, Option.bind_some, unless_ok, Option.bind_some]
  congr 1
  by_cases h : 0 ≤ n ∧ n ≤ (c.2.2.2.length : Int)
  · rw [dec_true h, if_pos h, if_pos rfl]
  · rw [dec_false h, if_neg h, if_neg (by decide)]
theorem rstepsErr_ok {c : Dapi_TraceCourse} {n : Int} : cobbleref09_StepsErr c n = some (if 0 ≤ n ∧ n ≤ (c.2.2.2.length : Int) then 0 else 2) := by
  unfold cobbleref09_StepsErr
  rw [Within_ok, Option.bind_some]
  by_cases h : 0 ≤ n ∧ n ≤ (c.2.2.2.length : Int)
  · rw [dec_true h, if_pos h]; rfl
  · rw [dec_false h, if_neg h]; rfl

/-- The error of a reading. -/
def readErr (c : Dapi_TraceCourse) (r : Dapi_TraceReading) : Int :=
  if 0 ≤ r.1 ∧ r.1 ≤ (c.2.2.2.length : Int) then (if 0 ≤ r.2.1 ∧ (r.2.1 : Rat) ≤ lastV 0 (stS c r.1.toNat) then 0 else 6) else 2

theorem treadErr_ok {c : Dapi_TraceCourse} (hv : Valid c) {r : Dapi_TraceReading} (h1 : -9223372036854775808 ≤ r.2.1) (h2 : r.2.1 < 9223372036854775808) : trace_course_readingErr (c, stripsQ c (c.2.2.2.length + 1)) r = some (readErr c r) := by
  unfold trace_course_readingErr readErr
  rw [tstepsErr_ok, Option.bind_some]
  by_cases h : 0 ≤ r.1 ∧ r.1 ≤ (c.2.2.2.length : Int)
  · rw [if_pos h, if_pos h, show ((0 : Int) != 0) = false from rfl, cond_false, stripsQ_len]
    obtain ⟨n, hn⟩ : ∃ n : Nat, r.1 = (n : Int) := ⟨r.1.toNat, by omega⟩
    have hs := hv.strip n (by omega)
    have hl6 := hs.len
    rw [hn, Int.toNat_natCast, chk_idx (by omega), stripsQ_get (by omega), has_ok hs.ne (by omega) (fit_small hs.last).1 (by decide) h1 h2, Option.bind_some, unless_ok, Option.bind_some]
    congr 1
    by_cases h3 : 0 ≤ r.2.1 ∧ (r.2.1 : Rat) ≤ lastV 0 (stS c n)
    · rw [dec_true h3, if_pos h3, if_pos rfl]
    · rw [dec_false h3, if_neg h3, if_neg (by decide)]
  · rw [if_neg h, if_neg h]; rfl

theorem rreadErr_ok {c : Dapi_TraceCourse} (hv : Valid c) {r : Dapi_TraceReading} (h1 : -9223372036854775808 ≤ r.2.1) (h2 : r.2.1 < 9223372036854775808) : cobbleref09_ReadingErr c r = some (readErr c r) := by
  unfold cobbleref09_ReadingErr readErr
  rw [rstepsErr_ok, Option.bind_some]
  by_cases h : 0 ≤ r.1 ∧ r.1 ≤ (c.2.2.2.length : Int)
  · rw [if_pos h, if_pos h, show ((0 : Int) != 0) = false from rfl, cond_false]
    obtain ⟨n, hn⟩ : ∃ n : Nat, r.1 = (n : Int) := ⟨r.1.toNat, by omega⟩
    have hs := hv.strip n (by omega)
    rw [hn, Int.toNat_natCast, RatioInt_ok h1 h2, Option.bind_some, After_ok hv (by omega) hv.len6, Option.bind_some, Length_ok hs, Option.bind_some]
    rw [RatioCmp_ok (N := 3) (M := 2) ?_ (fit_small hs.last).2 (by decide), Option.bind_some]
    · by_cases h4 : r.2.1 < 0
      · rw [dec_true h4, cond_true, Option.bind_some, cond_true, if_neg (by omega)]
      · rw [dec_false h4, cond_false, Option.bind_some]
        by_cases h3 : (r.2.1 : Rat) ≤ lastV 0 (stS c n)
        · rw [dec_false (mt cmp_gt.1 (show ¬ lastV 0 (stS c n) < (r.2.1 : Rat) by grind)), cond_false, if_pos ⟨by omega, h3⟩]
        · rw [dec_true (cmp_gt.2 (show lastV 0 (stS c n) < (r.2.1 : Rat) by grind)), cond_true, if_neg (fun e => h3 e.2)]
    · unfold FitT
      rw [Rat.num_intCast, Rat.den_intCast]
      have : (T9 : Nat) ^ 3 = 1000000000000000000000000000 := by decide
      exact ⟨tw_of_lt (by rw [this]; omega), tw_of_lt (by rw [this]; omega)⟩
  · rw [if_neg h, if_neg h]; rfl

theorem fitT3_int {n : Int} (h1 : -9223372036854775808 ≤ n) (h2 : n < 9223372036854775808) : FitT 3 (n : Rat) := by
  unfold FitT
  rw [Rat.num_intCast, Rat.den_intCast]
  have : (T9 : Nat) ^ 3 = 1000000000000000000000000000 := by decide
  exact ⟨tw_of_lt (by rw [this]; omega), tw_of_lt (by rw [this]; omega)⟩
theorem fit2_int {n : Int} (h1 : -9223372036854775808 ≤ n) (h2 : n < 9223372036854775808) : Fit 2 (n : Rat) := by
  unfold Fit
  rw [Rat.num_intCast, Rat.den_intCast]
  exact ⟨nw64 (by omega), nw64 (by decide)⟩

/-- The place of a point that was read, and where the reference moves it. -/
theorem place_ok {c : Dapi_TraceCourse} (hv : Valid c) {r : Dapi_TraceReading} {n to : Nat} (hr : r.1 = (n : Int)) (hn : n ≤ c.2.2.2.length) (hto : to ≤ c.2.2.2.length) (h0 : 0 ≤ r.2.1) (h1 : (r.2.1 : Rat) ≤ lastV 0 (stS c n)) (h2 : r.2.1 < 9223372036854775808) :
    ∃ o : Option Rat, trace_course_place (c, stripsQ c (c.2.2.2.length + 1)) r (to : Int) = some (atR o) ∧
      cobbleref09_Move c (ratioW (r.2.1 : Rat)) (n : Int) (to : Int) = some (match o with | some q => (ratioW q, true) | none => (zeroW, false)) ∧
      (∀ q, o = some q → Fit 300 q ∧ FitT 300 q ∧ On (stS c to) (slabAtS (stS c n) (r.2.1 : Rat)) q) ∧ (o = none → ∀ Q, ¬ On (stS c to) (slabAtS (stS c n) (r.2.1 : Rat)) Q) ∧ On (stS c n) (slabAtS (stS c n) (r.2.1 : Rat)) (r.2.1 : Rat) := by
  have h10 := hv.steps
  have hs := hv.strip n hn
  have ht := hv.strip to hto
  obtain ⟨p, hp⟩ := hs.secs
  obtain ⟨p', hp'⟩ := ht.secs
  have hs6 := hs.len
  have ht6 := ht.len
  have h0' : (0 : Rat) ≤ (r.2.1 : Rat) := by rw [← Rat.intCast_zero, Rat.intCast_le_intCast]; exact h0
  have hon := slabAt_on hp hs.ne h0' h1
  have hq := fit2_int (n := r.2.1) (by omega) h2
  have a1 := tslabAt_ok hp hs.ne h0' h1 (fun x hx => ⟨(hs.each x hx).1, (hs.each x hx).2.1, (hs.each x hx).2.2.2.1, (hs.each x hx).2.2.2.2.1⟩) hq (by decide) (by omega) (by omega)
  have a2 := slabAtS_fit (fun x hx => ⟨(hs.each x hx).1, (hs.each x hx).2.1, (hs.each x hx).2.2.2.1⟩) hq (show 1 + 5 * n + 2 ≤ 1000 by omega)
  generalize hP : slabAtS (stS c n) (r.2.1 : Rat) = P at *
  have a2' : Fit 100 P := a2.mono (by omega)
  obtain ⟨b1, b2⟩ := tat_ok (fun x hx => ⟨(ht.each x hx).1, (ht.each x hx).2.1, (ht.each x hx).2.2.1, (ht.each x hx).2.2.2.1⟩) a2' (show 1 + 5 * to ≤ 100 by omega) (by omega) (by omega)
  obtain ⟨m, m1, m2⟩ := Move_ok hv hn hto (N := 3) (by decide) hon (fitT3_int (by omega) h2)
  refine ⟨atS (stS c to) P, ?_, ?_, ?_, ?_, hon⟩
  · unfold trace_course_place
    rw [stripsQ_len, hr, chk_idx (by omega), chk_idx (by omega), whole_ok (by omega) h2, Option.bind_some, stripsQ_get (by omega), a1, Option.bind_some, stripsQ_get (by omega), b1, Option.bind_some]
  · rw [m2]
    rcases m1 with ⟨q', rfl, c1, c2⟩ | ⟨rfl, c1⟩
    · rw [(at_on hp').2 c1]
    · cases h : atS (stS c to) P with
      | none => rfl
      | some q => exact absurd ((at_on hp').1 h) (c1 q)
  · intro q h
    refine ⟨(b2 q h).mono (by omega), ?_, (at_on hp').1 h⟩
    rcases m1 with ⟨q', rfl, c1, c2⟩ | ⟨rfl, c1⟩
    · rw [on_fun hp' ((at_on hp').1 h) c1]
      exact c2.mono (by decide)
    · exact absurd ((at_on hp').1 h) (c1 q)
  · intro h Q hQ
    rw [(at_on hp').2 hQ] at h
    cases h

/-- What place has as a fraction, with its error. -/
def fracE (q : Rat) : Dapi_Frac × Int := ((fracQ q).1, if (fracQ q).2 then 0 else 8)
theorem fracQ_none {q : Rat} (h : (fracQ q).2 = false) : (fracQ q).1 = (0, 0) := by
  unfold fracQ at h ⊢
  split
  · rename_i h1
    rw [if_pos h1] at h
    cases h
  · rfl

theorem PlaceOf_ok {c : Dapi_TraceCourse} (hin : CourseIn c) (hv : Valid c) (hop : trace_opened c [] = some ((c, stripsQ c (c.2.2.2.length + 1)), 0)) {r : Dapi_TraceReading} {to : Int} (h1 : -9223372036854775808 ≤ r.2.1) (h2 : r.2.1 < 9223372036854775808) :
    ∃ f e, trace_PlaceOf c r to = some (f, e) ∧
      (firstE [readErr c r, if 0 ≤ to ∧ to ≤ (c.2.2.2.length : Int) then 0 else 2] ≠ 0 → f = (0, 0) ∧ e = firstE [readErr c r, if 0 ≤ to ∧ to ≤ (c.2.2.2.length : Int) then 0 else 2]) ∧
      (firstE [readErr c r, if 0 ≤ to ∧ to ≤ (c.2.2.2.length : Int) then 0 else 2] = 0 → cobbleref09_PlaceOf c r to = some (f, e)) := by
  unfold trace_PlaceOf
  rw [hop, Option.bind_some]
  simp only
  rw [show ((0 : Int) == 0) = true from rfl, cond_true, treadErr_ok hv h1 h2, Option.bind_some, tstepsErr_ok, Option.bind_some, first_ok (by simp), Option.bind_some, Option.bind_some]
  by_cases he : firstE [readErr c r, if 0 ≤ to ∧ to ≤ (c.2.2.2.length : Int) then 0 else 2] = 0
  · rw [he, show ((0 : Int) != 0) = false from rfl, cond_false]
    unfold firstE at he
    by_cases hr0 : readErr c r = 0
    · rw [if_pos hr0] at he
      have hto : 0 ≤ to ∧ to ≤ (c.2.2.2.length : Int) := by
        by_cases h : 0 ≤ to ∧ to ≤ (c.2.2.2.length : Int)
        · exact h
        · rw [if_neg h] at he
          unfold firstE at he
          simp at he
      unfold readErr at hr0
      by_cases hs : 0 ≤ r.1 ∧ r.1 ≤ (c.2.2.2.length : Int)
      · rw [if_pos hs] at hr0
        by_cases ha : 0 ≤ r.2.1 ∧ (r.2.1 : Rat) ≤ lastV 0 (stS c r.1.toNat)
        · obtain ⟨n, hn⟩ : ∃ n : Nat, r.1 = (n : Int) := ⟨r.1.toNat, by omega⟩
          obtain ⟨k, hk⟩ : ∃ k : Nat, to = (k : Int) := ⟨to.toNat, by omega⟩
          rw [hn, Int.toNat_natCast] at ha
          obtain ⟨o, p1, p2, p3, p4, _⟩ := place_ok hv hn (by omega) (show k ≤ _ by omega) ha.1 ha.2 h2
          rw [hk, p1, Option.bind_some]
          unfold cobbleref09_PlaceOf
          rw [RatioInt_ok h1 h2, Option.bind_some, hn, p2, Option.bind_some]
          cases o with
          | none => exact ⟨_, _, rfl, fun h => absurd rfl h, fun _ => rfl⟩
          | some q =>
            obtain ⟨f1, f2, _⟩ := p3 q rfl
            refine ⟨(fracQ q).1, if (fracQ q).2 then 0 else 8, ?_, fun h => absurd rfl h, fun _ => ?_⟩
            · unfold atR
              simp only
              rw [Bool.not_true, cond_false, small_ok f1 (by decide), Option.bind_some]
            · simp only
              rw [Bool.not_true, cond_false, RatioFrac_ok f2 (by decide), Option.bind_some]
              cases hf : (fracQ q).2 with
              | true => rfl
              | false => rw [fracQ_none hf]; rfl
        · rw [if_neg ha] at hr0; cases hr0
      · rw [if_neg hs] at hr0; cases hr0
    · rw [if_neg hr0] at he; exact absurd he hr0
  · rw [show (firstE [readErr c r, if 0 ≤ to ∧ to ≤ (c.2.2.2.length : Int) then 0 else 2] != 0) = true by rw [bne_iff_ne]; exact he, cond_true]
    exact ⟨_, _, rfl, fun _ => ⟨rfl, rfl⟩, fun h => absurd h he⟩

end Go.Lift

namespace Go.Lift
open Go

/-- The part of the slab of a position on the last strip, on both sides. -/
theorem end_ok {c : Dapi_TraceCourse} (hv : Valid c) {q : Rat} (h0 : 0 ≤ q) (h1 : q ≤ lastV 0 (stS c c.2.2.2.length)) (f1 : Fit 1 q) (f2 : FitT 3 q) :
    ∃ P, trace_strip_slabAt ((stS c c.2.2.2.length).map secQ) (ratioQ q) = some (ratioQ P) ∧ Fit 100 P ∧ cobbleref09_Move c (ratioW q) (c.2.2.2.length : Int) 0 = some (ratioW P, true) ∧ FitT 300 P := by
  have h10 := hv.steps
  have hs := hv.strip c.2.2.2.length (Nat.le_refl _)
  obtain ⟨p, hp⟩ := hs.secs
  have hs6 := hs.len
  have hon := slabAt_on hp hs.ne h0 h1
  have a1 := tslabAt_ok hp hs.ne h0 h1 (fun x hx => ⟨(hs.each x hx).1, (hs.each x hx).2.1, (hs.each x hx).2.2.2.1, (hs.each x hx).2.2.2.2.1⟩) f1 (by decide) (by omega) (by omega)
  have a2 := slabAtS_fit (fun x hx => ⟨(hs.each x hx).1, (hs.each x hx).2.1, (hs.each x hx).2.2.2.1⟩) f1 (show 1 + 5 * c.2.2.2.length + 1 ≤ 1000 by omega)
  obtain ⟨m, m1, m2⟩ := Move_ok hv (Nat.le_refl _) (Nat.zero_le _) (N := 3) (by decide) hon f2
  refine ⟨slabAtS (stS c c.2.2.2.length) q, a1, a2.mono (by omega), ?_, ?_⟩
  · rw [show (0 : Int) = ((0 : Nat) : Int) from rfl, m2]
    rcases m1 with ⟨q', rfl, c1, c2⟩ | ⟨rfl, c1⟩
    · rw [on_slab hv c1]
    · obtain ⟨Q, hQ⟩ := on_before hv (k := 0) (d := c.2.2.2.length) (by omega) (by rw [Nat.zero_add]; exact hon)
      exact absurd hQ (c1 Q)
  · rcases m1 with ⟨q', rfl, c1, c2⟩ | ⟨rfl, c1⟩
    · rw [on_slab hv c1]; exact c2.mono (by decide)
    · obtain ⟨Q, hQ⟩ := on_before hv (k := 0) (d := c.2.2.2.length) (by omega) (by rw [Nat.zero_add]; exact hon)
      exact absurd hQ (c1 Q)

theorem pieces_loop {c : Dapi_TraceCourse} (hv : Valid c) {n : Nat} (hn1 : 1 ≤ n) (hn2 : n ≤ 1000000) (hlast : lastV 0 (stS c c.2.2.2.length) ≤ ((50 * n : Int) : Rat)) : ∀ (d k : Nat) (out : List Dapi_Span), k + d = 51 → out.length = k →
    ∃ (L : List Dapi_Span) (e : Int), L.length ≤ 100 ∧
    ((loopM (S := (List Dapi_Span) × Int) (R := ((List Dapi_Span)) ⊕ ((List Dapi_Span) × Int)) (fun s =>
        let out : (List Dapi_Span) := s.1
        let at_ : Int := s.2
        (trace_whole at_).bind fun (t_7 : Dtrace_ratio) =>
        (trace_strip_length ((stS c c.2.2.2.length).map secQ)).bind fun (t_8 : Dtrace_ratio) =>
        (trace_ratio_cmp t_7 t_8).bind fun (t_9 : Int) =>
        bif decide (t_9 < 0) then
          (trace_whole (wi64 (at_ + (n : Int)))).bind fun (t_10 : Dtrace_ratio) =>
          (trace_strip_length ((stS c c.2.2.2.length).map secQ)).bind fun (t_11 : Dtrace_ratio) =>
          (trace_ratio_cmp t_10 t_11).bind fun (t_12 : Int) =>
          (bif decide (t_12 > 0) then
            (trace_strip_length ((stS c c.2.2.2.length).map secQ)).bind fun (t_13 : Dtrace_ratio) =>
            some t_13
          else
            some t_10).bind fun (end_ : Dtrace_ratio) =>
          (trace_whole at_).bind fun (t_14 : Dtrace_ratio) =>
          (trace_strip_slabAt ((stS c c.2.2.2.length).map secQ) t_14).bind fun (t_15 : Dtrace_ratio) =>
          (trace_small t_15).bind fun (r_1 : Dapi_Frac × Int) =>
          (trace_strip_slabAt ((stS c c.2.2.2.length).map secQ) end_).bind fun (t_16 : Dtrace_ratio) =>
          (trace_small t_16).bind fun (r_2 : Dapi_Frac × Int) =>
          (trace_first [r_1.2, r_2.2]).bind fun (t_17 : Int) =>
          bif (t_17 != 0) then
            Option.map Sum.inr (Option.map Sum.inr (
              some ([], t_17)))
          else
            (app out [(r_1.1, r_2.1)]).bind fun (t_18 : List Dapi_Span) =>
            let at__1 : Int := wi64 (at_ + (n : Int))
            some (.inl (t_18, at__1))
        else
          some (.inr (.inl out))) (out, ((k * n : Nat) : Int))).bind fun j => match j with
      | .inl out_1 => (
        some (out_1, 0))
      | .inr r => some r) = some (L, e) ∧
    ((loopM (S := (List Dapi_Span) × Int) (R := ((List Dapi_Span)) ⊕ ((List Dapi_Span) × Int)) (fun s =>
        let out : (List Dapi_Span) := s.1
        let at_ : Int := s.2
        (cobblebase_RatioInt at_).bind fun (t_5 : Dcobblebase_Ratio) =>
        (cobblebase_RatioCmp t_5 (ratioW (lastV 0 (stS c c.2.2.2.length)))).bind fun (t_6 : Int) =>
        bif decide (t_6 < 0) then
          (cobblebase_RatioInt (wi64 (at_ + (n : Int)))).bind fun (t_7 : Dcobblebase_Ratio) =>
          (cobblebase_RatioCmp t_7 (ratioW (lastV 0 (stS c c.2.2.2.length)))).bind fun (t_8 : Int) =>
          (bif decide (t_8 > 0) then
            some (ratioW (lastV 0 (stS c c.2.2.2.length)))
          else
            some t_7).bind fun (end_ : Dcobblebase_Ratio) =>
          (cobblebase_RatioInt at_).bind fun (t_9 : Dcobblebase_Ratio) =>
          (cobbleref09_Move c t_9 (c.2.2.2.length : Int) 0).bind fun (r : Dcobblebase_Ratio × Bool) =>
          (cobbleref09_Move c end_ (c.2.2.2.length : Int) 0).bind fun (r_1 : Dcobblebase_Ratio × Bool) =>
          (cobblebase_RatioFrac r.1).bind fun (r_2 : Dapi_Frac × Bool) =>
          (cobblebase_RatioFrac r_1.1).bind fun (r_3 : Dapi_Frac × Bool) =>
          bif ((!r_2.2) || (!r_3.2)) then
            Option.map Sum.inr (Option.map Sum.inr (
              some ([], 8)))
          else
            (app out [(r_2.1, r_3.1)]).bind fun (t_10 : List Dapi_Span) =>
            some (.inl (t_10, wi64 (at_ + (n : Int))))
        else
          some (.inr (.inl out))) (out, ((k * n : Nat) : Int))).bind fun j => match j with
      | .inl out_1 => (
        some (out_1, 0))
      | .inr r => some r) = some (L, e) := by
  have hs := hv.strip c.2.2.2.length (Nat.le_refl _)
  have hs6 := hs.len
  obtain ⟨p, hp⟩ := hs.secs
  have hl0 : 0 ≤ lastV 0 (stS c c.2.2.2.length) := last_ge hp
  have hfl := fit_small hs.last
  have tlen := strip_length_ok hs.ne (show (stS c c.2.2.2.length).length ≤ 100 by omega)
  intro d
  induction d with
  | zero =>
    intro k out hk hout
    refine ⟨out, 0, by omega, ?_, ?_⟩
    · rw [loopM_done (r := .inl out)]
      · rfl
      · have hkn : k * n ≤ 51 * n := Nat.mul_le_mul_right _ (by omega)
        have hge : 50 * n ≤ k * n := Nat.mul_le_mul_right _ (by omega)
        simp only
        generalize k * n = a at *
        rw [whole_ok (by omega) (by omega), Option.bind_some, tlen, Option.bind_some, rcmp_ok (fit_whole (by omega) (by omega)) hfl.1 (by decide), Option.bind_some]
        have : ((50 * n : Int) : Rat) ≤ ((a : Int) : Rat) := by rw [Rat.intCast_le_intCast]; omega
        rw [dec_false (mt cmp_lt.1 (by grind)), cond_false]
    · rw [loopM_done (r := .inl out)]
      · rfl
      · have hkn : k * n ≤ 51 * n := Nat.mul_le_mul_right _ (by omega)
        have hge : 50 * n ≤ k * n := Nat.mul_le_mul_right _ (by omega)
        simp only
        generalize k * n = a at *
        rw [RatioInt_ok (by omega) (by omega), Option.bind_some, RatioCmp_ok (fitT_int (by omega) (by omega)) hfl.2 (by decide), Option.bind_some]
        have : ((50 * n : Int) : Rat) ≤ ((a : Int) : Rat) := by rw [Rat.intCast_le_intCast]; omega
        rw [dec_false (mt cmp_lt.1 (by grind)), cond_false]
  | succ d ih =>
    intro k out hk hout
    have hkn : k * n ≤ 50 * n := Nat.mul_le_mul_right _ (by omega)
    have hk1 : (k + 1) * n = k * n + n := by rw [Nat.add_mul, Nat.one_mul]
    have ihk := fun out' h => ih (k + 1) out' (by omega) h
    rw [hk1] at ihk
    clear ih hk1
    generalize k * n = a at *
    have t1 : trace_whole (a : Int) = some (ratioQ ((a : Int) : Rat)) := whole_ok (by omega) (by omega)
    have fa : Fit 1 ((a : Int) : Rat) := fit_whole (by omega) (by omega)
    have fa2 : FitT 2 ((a : Int) : Rat) := fitT_int (by omega) (by omega)
    have w1 : wi64 ((a : Int) + (n : Int)) = ((a + n : Nat) : Int) := by rw [wi64_id (by omega) (by omega)]; omega
    have t2 : trace_whole ((a + n : Nat) : Int) = some (ratioQ (((a + n : Nat) : Int) : Rat)) := whole_ok (by omega) (by omega)
    have fb : Fit 1 (((a + n : Nat) : Int) : Rat) := fit_whole (by omega) (by omega)
    have fb2 : FitT 2 (((a + n : Nat) : Int) : Rat) := fitT_int (by omega) (by omega)
    have ha0 : (0 : Rat) ≤ ((a : Int) : Rat) := by rw [← Rat.intCast_zero, Rat.intCast_le_intCast]; omega
    have hb0 : (0 : Rat) ≤ (((a + n : Nat) : Int) : Rat) := by rw [← Rat.intCast_zero, Rat.intCast_le_intCast]; omega
    generalize hM : lastV 0 (stS c c.2.2.2.length) = M at *
    by_cases hlt : ((a : Int) : Rat) < M
    · obtain ⟨P, p1, p2, p3, p4⟩ := end_ok hv ha0 (by rw [hM]; grind) fa (fa2.mono (by decide))
      have hend : ∃ E, (bif decide ((if (((a + n : Nat) : Int) : Rat) = M then (0 : Int) else if (((a + n : Nat) : Int) : Rat) < M then -1 else 1) > 0) then (some (ratioQ M)).bind fun (t_13 : Dtrace_ratio) => some t_13 else some (ratioQ (((a + n : Nat) : Int) : Rat))) = some (ratioQ E) ∧
          (bif decide ((if (((a + n : Nat) : Int) : Rat) = M then (0 : Int) else if (((a + n : Nat) : Int) : Rat) < M then -1 else 1) > 0) then some (ratioW M) else some (ratioW (((a + n : Nat) : Int) : Rat))) = some (ratioW E) ∧ 0 ≤ E ∧ E ≤ M ∧ Fit 1 E ∧ FitT 2 E := by
        by_cases h : M < (((a + n : Nat) : Int) : Rat)
        · rw [dec_true (cmp_gt.2 h)]
          exact ⟨M, rfl, rfl, hl0, Rat.le_refl, hfl.1, hfl.2⟩
        · rw [dec_false (mt cmp_gt.1 h)]
          exact ⟨(((a + n : Nat) : Int) : Rat), rfl, rfl, hb0, by grind, fb, fb2⟩
      obtain ⟨E, e1, e2, e3, e4, e5, e6⟩ := hend
      obtain ⟨P', p1', p2', p3', p4'⟩ := end_ok hv e3 (by rw [hM]; exact e4) e5 (e6.mono (by decide))
      by_cases hsm : (fracQ P).2 = true ∧ (fracQ P').2 = true
      · obtain ⟨L, e, l1, l2, l3⟩ := ihk (out ++ [((fracQ P).1, (fracQ P').1)]) (by rw [List.length_append, List.length_singleton]; omega)
        refine ⟨L, e, l1, ?_, ?_⟩
        · rw [← l2]
          congr 1
          refine loopM_next ?_
          simp only
          rw [t1, Option.bind_some, tlen, Option.bind_some, rcmp_ok fa hfl.1 (by decide), Option.bind_some, dec_true (cmp_lt.2 hlt), cond_true, w1, t2, Option.bind_some, Option.bind_some, rcmp_ok fb hfl.1 (by decide), Option.bind_some, e1, Option.bind_some, Option.bind_some, p1, Option.bind_some, small_ok p2 (by decide), Option.bind_some, p1', Option.bind_some, small_ok p2' (by decide), Option.bind_some, hsm.1, hsm.2, first_ok (by simp), Option.bind_some]
          rw [if_pos rfl, show firstE [0, 0] = 0 from rfl, show ((0 : Int) != 0) = false from rfl, cond_false, app_ok (by rw [List.length_singleton]; omega), Option.bind_some]
        · rw [← l3]
          congr 1
          refine loopM_next ?_
          simp only
          rw [RatioInt_ok (by omega) (by omega), Option.bind_some, RatioCmp_ok fa2 hfl.2 (by decide), Option.bind_some, dec_true (cmp_lt.2 hlt), cond_true, w1, RatioInt_ok (by omega) (by omega), Option.bind_some, RatioCmp_ok fb2 hfl.2 (by decide), Option.bind_some, e2, Option.bind_some, Option.bind_some, p3, Option.bind_some, p3', Option.bind_some, RatioFrac_ok p4 (by decide), Option.bind_some, RatioFrac_ok p4' (by decide), Option.bind_some, hsm.1, hsm.2]
          rw [Bool.not_true, Bool.or_self, cond_false, app_ok (by rw [List.length_singleton]; omega), Option.bind_some]
      · have hf : firstE [if (fracQ P).2 = true then 0 else 8, if (fracQ P').2 = true then 0 else 8] = 8 := by
          revert hsm
          cases (fracQ P).2 <;> cases (fracQ P').2 <;> simp [firstE]
        have hor : ((!(fracQ P).2) || (!(fracQ P').2)) = true := by
          revert hsm
          cases (fracQ P).2 <;> cases (fracQ P').2 <;> simp
        refine ⟨[], 8, by simp, ?_, ?_⟩
        · rw [loopM_done (r := .inr ([], 8))]
          · rfl
          · simp only
            rw [t1, Option.bind_some, tlen, Option.bind_some, rcmp_ok fa hfl.1 (by decide), Option.bind_some, dec_true (cmp_lt.2 hlt), cond_true, w1, t2, Option.bind_some, Option.bind_some, rcmp_ok fb hfl.1 (by decide), Option.bind_some, e1, Option.bind_some, Option.bind_some, p1, Option.bind_some, small_ok p2 (by decide), Option.bind_some, p1', Option.bind_some, small_ok p2' (by decide), Option.bind_some, first_ok (by simp), Option.bind_some, hf]
            rfl
        · rw [loopM_done (r := .inr ([], 8))]
          · rfl
          · simp only
            rw [RatioInt_ok (by omega) (by omega), Option.bind_some, RatioCmp_ok fa2 hfl.2 (by decide), Option.bind_some, dec_true (cmp_lt.2 hlt), cond_true, w1, RatioInt_ok (by omega) (by omega), Option.bind_some, RatioCmp_ok fb2 hfl.2 (by decide), Option.bind_some, e2, Option.bind_some, Option.bind_some, p3, Option.bind_some, p3', Option.bind_some, RatioFrac_ok p4 (by decide), Option.bind_some, RatioFrac_ok p4' (by decide), Option.bind_some, hor]
            rfl
    · refine ⟨out, 0, by omega, ?_, ?_⟩
      · rw [loopM_done (r := .inl out)]
        · rfl
        · simp only
          rw [t1, Option.bind_some, tlen, Option.bind_some, rcmp_ok fa hfl.1 (by decide), Option.bind_some, dec_false (mt cmp_lt.1 hlt), cond_false]
      · rw [loopM_done (r := .inl out)]
        · rfl
        · simp only
          rw [RatioInt_ok (by omega) (by omega), Option.bind_some, RatioCmp_ok fa2 hfl.2 (by decide), Option.bind_some, dec_false (mt cmp_lt.1 hlt), cond_false]

theorem PiecesOf_ok {c : Dapi_TraceCourse} (hv : Valid c) (hop : trace_opened c [] = some ((c, stripsQ c (c.2.2.2.length + 1)), 0)) {n : Int} :
    ∃ (L : List Dapi_Span) (e : Int), L.length ≤ 100 ∧ trace_PiecesOf c n = some (L, e) ∧ cobbleref09_PiecesOf c n = some (L, e) := by
  have h10 := hv.steps
  have hs := hv.strip c.2.2.2.length (Nat.le_refl _)
  have hs6 := hs.len
  have hfl := fit_small hs.last
  have tlen := strip_length_ok hs.ne (show (stS c c.2.2.2.length).length ≤ 100 by omega)
  by_cases hn : 1 ≤ n ∧ n ≤ 1000000
  · obtain ⟨k, rfl⟩ : ∃ k : Nat, n = (k : Int) := ⟨n.toNat, by omega⟩
    have hlastc : trace_course_last (c, stripsQ c (c.2.2.2.length + 1)) = some ((stS c c.2.2.2.length).map secQ) := by
      unfold trace_course_last
      simp only
      rw [stripsQ_len, wi64_id (by omega) (by omega), show ((c.2.2.2.length + 1 : Nat) : Int) - 1 = (c.2.2.2.length : Int) by omega, chk_idx (by omega), stripsQ_get (by omega)]
    have hw : wi64 (50 * (k : Int)) = 50 * (k : Int) := wi64_id (by omega) (by omega)
    by_cases hle : lastV 0 (stS c c.2.2.2.length) ≤ ((50 * (k : Int) : Int) : Rat)
    · obtain ⟨L, e, l1, l2, l3⟩ := pieces_loop hv (n := k) (by omega) (by omega) hle 51 0 [] rfl rfl
      rw [Nat.zero_mul] at l2 l3
      refine ⟨L, e, l1, ?_, ?_⟩
      · unfold trace_PiecesOf
        rw [hop, Option.bind_some, within_ok, Option.bind_some, unless_ok, Option.bind_some, first_ok (by simp), Option.bind_some, dec_true hn, if_pos rfl, show firstE [0, 0] = 0 from rfl, show ((0 : Int) != 0) = false from rfl, cond_false]
        simp only
        rw [hlastc, Option.bind_some]
        refine Option.bind_eq_some_iff.2 ⟨_, tlen, ?_⟩
        rw [hw, whole_ok (by omega) (by omega), Option.bind_some, rcmp_ok hfl.1 (fit_whole (by omega) (by omega)) (by decide), Option.bind_some, dec_false (mt cmp_gt.1 (show ¬ _ < lastV 0 (stS c c.2.2.2.length) by grind)), cond_false]
        exact l2
      · unfold cobbleref09_PiecesOf
        rw [Within_ok, Option.bind_some, dec_true hn, Bool.not_true, cond_false]
        simp only
        rw [After_ok hv (Nat.le_refl _) hv.len6, Option.bind_some, Length_ok hs, Option.bind_some, hw, RatioInt_ok (by omega) (by omega), Option.bind_some, RatioCmp_ok (fitT_int (by omega) (by omega)) hfl.2 (by decide), Option.bind_some, dec_false (mt cmp_lt.1 (show ¬ _ < lastV 0 (stS c c.2.2.2.length) by grind)), cond_false]
        exact l3
    · refine ⟨[], 16, by simp, ?_, ?_⟩
      · unfold trace_PiecesOf
        rw [hop, Option.bind_some, within_ok, Option.bind_some, unless_ok, Option.bind_some, first_ok (by simp), Option.bind_some, dec_true hn, if_pos rfl, show firstE [0, 0] = 0 from rfl, show ((0 : Int) != 0) = false from rfl, cond_false]
        simp only
        rw [hlastc, Option.bind_some]
        refine Option.bind_eq_some_iff.2 ⟨_, tlen, ?_⟩
        rw [hw, whole_ok (by omega) (by omega), Option.bind_some, rcmp_ok hfl.1 (fit_whole (by omega) (by omega)) (by decide), Option.bind_some, dec_true (cmp_gt.2 (show _ < lastV 0 (stS c c.2.2.2.length) by grind)), cond_true]
      · unfold cobbleref09_PiecesOf
        rw [Within_ok, Option.bind_some, dec_true hn, Bool.not_true, cond_false]
        simp only
        rw [After_ok hv (Nat.le_refl _) hv.len6, Option.bind_some, Length_ok hs, Option.bind_some, hw, RatioInt_ok (by omega) (by omega), Option.bind_some, RatioCmp_ok (fitT_int (by omega) (by omega)) hfl.2 (by decide), Option.bind_some, dec_true (cmp_lt.2 (show _ < lastV 0 (stS c c.2.2.2.length) by grind)), cond_true]
  · refine ⟨[], 2, by simp, ?_, ?_⟩
    · unfold trace_PiecesOf
      rw [hop, Option.bind_some, within_ok, Option.bind_some, unless_ok, Option.bind_some, first_ok (by simp), Option.bind_some, dec_false hn]
      rfl
    unfold cobbleref09_PiecesOf
    rw [Within_ok, Option.bind_some, dec_false hn]
    rfl

end Go.Lift
