/-
  The law of causes holds of the plain functions.
-/
import Derived.Test.YtfihcmhknhbndaaGreatDoorPlainK
set_option linter.unusedSectionVars false
set_option linter.unusedVariables false
set_option linter.unusedSimpArgs false
namespace Go.Lift
open Go

theorem findF_map {R S : Type} {g : Nat → Option R} {f : R → S} : ∀ {m k : Nat}, (findF g k m).map f = findF (fun i => (g i).map f) k m
  | 0, _ => rfl
  | m + 1, k => by
    unfold findF
    cases g k with
    | none => exact findF_map
    | some r => rfl

theorem CopyCauses_ok {l : List Dapi_TraceCause} (h : l.length ≤ 1000) : cobbleref09_CopyCauses l = some l := by
  unfold cobbleref09_CopyCauses
  rw [app_ok (by rw [List.length_nil]; omega), Option.bind_some, List.nil_append]
theorem CopyReadings_ok {l : List Dapi_TraceReading} (h : l.length ≤ 1000) : cobbleref09_CopyReadings l = some l := by
  unfold cobbleref09_CopyReadings
  rw [app_ok (by rw [List.length_nil]; omega), Option.bind_some, List.nil_append]

/-- A set of causes meets what predicts. -/
theorem meet_all {T : Nat → Bool} {n : Nat} : decide ((2 ^ n - 1) &&& setN T n ≠ 0) = (allL n).any fun k => T k.toNat := by
  rw [Bool.eq_iff_iff, decide_eq_true_eq, List.any_eq_true]
  constructor
  · intro h
    rw [ne_eq, meet_zero] at h
    simp only [Classical.not_forall, Decidable.not_not] at h
    obtain ⟨i, h1, h2⟩ := h
    rw [ones_bit, decide_eq_true_eq] at h1
    rw [setN_bit, Bool.and_eq_true] at h2
    exact ⟨(i : Int), List.mem_map.2 ⟨i, List.mem_range.2 h1, rfl⟩, by rw [Int.toNat_natCast]; exact h2.2⟩
  · rintro ⟨k, hk, hT⟩
    obtain ⟨i, hi, rfl⟩ := List.mem_map.1 hk
    rw [Int.toNat_natCast] at hT
    intro h0
    refine meet_zero.1 h0 i ⟨?_, ?_⟩
    · rw [ones_bit, decide_eq_true_eq]; exact List.mem_range.1 hi
    · rw [setN_bit, Bool.and_eq_true, decide_eq_true_eq]; exact ⟨List.mem_range.1 hi, hT⟩

theorem wrong_all {T : Nat → Nat → Bool} {present : Nat → Bool} {n k i : Nat} (hi : i < k) : wrongAt (fun i => setN (T i) n) present (2 ^ n - 1) (2 ^ k - 1) i = (clashAt T present (allL n) i).map (·.1) := by
  unfold wrongAt clashAt
  rw [meet_all, ones_bit]
  by_cases h : ((allL n).any fun k => T i k.toNat) ≠ present i
  · rw [if_pos h, if_pos ⟨decide_eq_true hi, h⟩]; rfl
  · rw [if_neg h, if_neg (fun e => h e.2)]; rfl

theorem openEvidence_ok {c : Dapi_TraceCourse} (hv : Valid c) {l : List Dapi_TraceCause} {r : List Dapi_TraceReading} (hoc : trace_openCauses c l = some ((c, stripsQ c (c.2.2.2.length + 1)), (0, 0))) (h5 : l.length ≤ 5) (hc : ∀ k, k < l.length → CauseOk c (lget d0 l (k : Int))) (hin : ∀ x, x ∈ r → ReadIn x) :
    trace_openEvidence c l r = some ((c, stripsQ c (c.2.2.2.length + 1)), (if readsE c r = 0 then evidN c l r r.length else (0, ([], [])), readsE c r)) := by
  unfold trace_openEvidence
  rw [hoc, Option.bind_some]
  simp only
  rw [show ((0 : Int) == 0) = true from rfl, cond_true, openReadings_ok hv hin, Option.bind_some, Option.bind_some]
  by_cases h : readsE c r = 0
  · obtain ⟨h10, hr⟩ := readsE_zero h
    rw [h, show ((0 : Int) != 0) = false from rfl, cond_false, if_pos rfl, evidenceOf_ok hv h5 hc (by omega) hr hin, Option.bind_some]
  · rw [show (readsE c r != 0) = true by rw [bne_iff_ne]; exact h, cond_true, if_neg h]

theorem every_ok {n : Int} {k : Nat} {a : List Int} {b : List Bool} (ha : a.length = k) (hk : k < 64) : trace_evidence_every (n, (a, b)) = some ((2 ^ k - 1 : Nat) : Int) := by
  unfold trace_evidence_every
  simp only
  rw [ha, chk_true (dec_true (by omega)), ones_ok hk]

theorem evid_len {c : Dapi_TraceCourse} {l : List Dapi_TraceCause} {r : List Dapi_TraceReading} {k : Nat} : (evidN c l r k).2.1.length = k := by
  show ((List.range k).map _).length = k
  rw [List.length_map, List.length_range]

/-- The first reading that contradicts all causes together. -/
noncomputable def firstR (c : Dapi_TraceCourse) (l : List Dapi_TraceCause) (r : List Dapi_TraceReading) : Option (Int × Bool) := findF (clashAt (tabB c l r) (presB r) (allL l.length)) 0 r.length

theorem allL_mem {n : Nat} : ∀ k, k ∈ allL n → 0 ≤ k ∧ k < (n : Int) := by
  intro k hk
  obtain ⟨i, hi, rfl⟩ := List.mem_map.1 hk
  have := List.mem_range.1 hi
  omega
theorem allL_len {n : Nat} : (allL n).length = n := by unfold allL; rw [List.length_map, List.length_range]

theorem Contra_ok {c : Dapi_TraceCourse} (hv : Valid c) {l : List Dapi_TraceCause} {r : List Dapi_TraceReading} (hoc : trace_openCauses c l = some ((c, stripsQ c (c.2.2.2.length + 1)), (0, 0))) (h5 : l.length ≤ 5) (hc : ∀ k, k < l.length → CauseOk c (lget d0 l (k : Int))) (hin : ∀ x, x ∈ r → ReadIn x) :
    trace_Contradiction c l r = some (if readsE c r = 0 then (match firstR c l r with | none => (0, 12) | some v => (v.1, 0)) else (0, readsE c r)) := by
  unfold trace_Contradiction
  rw [openEvidence_ok hv hoc h5 hc hin, Option.bind_some]
  simp only
  by_cases h : readsE c r = 0
  · obtain ⟨h10, hr⟩ := readsE_zero h
    rw [h, if_pos rfl, if_pos rfl, show ((0 : Int) != 0) = false from rfl, cond_false, chk_true (dec_true (by omega)), ones_ok (by omega)]
    unfold evidN
    rw [every_ok (k := r.length) (by rw [List.length_map, List.length_range]) (by omega), Option.bind_some, firstWrong_ok (by_ := byN c l r) (by omega) (fun i _ => setN_64 (by omega)) (ones_64 (by omega)) (ones_64 (by omega)), Option.bind_some]
    have e : findF (wrongAt (byN c l r) (presB r) (2 ^ l.length - 1) (2 ^ r.length - 1)) 0 r.length = (firstR c l r).map (·.1) := by
      unfold firstR
      rw [findF_map]
      refine findF_congr fun i _ hi => ?_
      exact wrong_all (T := tabB c l r) (by omega)
    rw [e]
    cases hf : firstR c l r with
    | none => rfl
    | some v =>
      unfold firstR at hf
      obtain ⟨i, _, _, hi, _⟩ := findF_some hf
      unfold clashAt at hi
      split at hi
      · cases hi
        simp only [Option.map_some]
        rw [dec_false (show ¬ (i : Int) < 0 by omega), cond_false]
      · cases hi
  · rw [if_neg h, show (readsE c r != 0) = true by rw [bne_iff_ne]; exact h, cond_true, if_neg h]

theorem any_all {l : List Dapi_TraceCause} {g : Dapi_TraceCause → Bool} : l.any g = (allL l.length).any fun k => g (lget d0 l k) := by
  rw [Bool.eq_iff_iff, List.any_eq_true, List.any_eq_true]
  constructor
  · rintro ⟨x, hx, hg⟩
    obtain ⟨i, hi, rfl⟩ := List.getElem_of_mem hx
    exact ⟨(i : Int), List.mem_map.2 ⟨i, List.mem_range.2 hi, rfl⟩, by rw [lget_getD hi]; exact hg⟩
  · rintro ⟨k, hk, hg⟩
    obtain ⟨i, hi, rfl⟩ := List.mem_map.1 hk
    exact ⟨_, lget_mem (List.mem_range.1 hi), hg⟩

theorem Predicts_ok {c : Dapi_TraceCourse} (hv : Valid c) {l : List Dapi_TraceCause} {x : Dapi_TraceReading} (h5 : l.length ≤ 5) (hc : ∀ k, k < l.length → CauseOk c (lget d0 l (k : Int))) (hr : readErr c x = 0) (hx : ReadIn x) :
    cobbleref09_Predicts c l (allL l.length) x = some (l.any fun o => predB c o x) := by
  unfold cobbleref09_Predicts
  have key : ∃ r : Unit ⊕ Bool, loopM (S := Int) (R := (Unit) ⊕ (Bool)) (fun i =>
    bif decide (i < (List.length (allL l.length) : Int)) then
      chk (decide ((0 : Int) ≤ i) && decide (i < (List.length (allL l.length) : Int))) (
        chk (decide ((0 : Int) ≤ (lget 0 (allL l.length) i)) && decide ((lget 0 (allL l.length) i) < (List.length l : Int))) (
          (cobbleref09_predicts c (lget (ByteArray.empty, (0, (0, (0, 0)))) l (lget 0 (allL l.length) i)) x).bind fun (t : Bool) =>
          bif t then
            Option.map Sum.inr (Option.map Sum.inr (
              some true))
          else
            some (.inl (wi64 (i + 1)))))
    else
      some (.inr (.inl ()))) 0 = some r ∧ ((r = .inl () ∧ (l.any fun o => predB c o x) = false) ∨ (r = .inr true ∧ (l.any fun o => predB c o x) = true)) := by
    have hL : (allL l.length).length = l.length := allL_len
    refine loopM_list (X := Int) (l := allL l.length) (fun l' s => ∃ pre, allL l.length = pre ++ l' ∧ s = (pre.length : Int) ∧ (l.any fun o => predB c o x) = l'.any fun k => predB c (lget d0 l k) x) _ ?_ ?_ ⟨[], rfl, rfl, any_all⟩
    · rintro k l' s ⟨pre, e1, rfl, e2⟩
      have hL2 : (allL l.length).length = pre.length + (l'.length + 1) := by rw [e1, List.length_append, List.length_cons]
      have g1 : ∀ d, lget d (allL l.length) (pre.length : Int) = k := fun d => by rw [e1]; exact lget_mid
      obtain ⟨k0, k1⟩ := allL_mem (n := l.length) k (by rw [e1]; simp)
      obtain ⟨j, rfl⟩ : ∃ j : Nat, k = (j : Int) := ⟨k.toNat, by omega⟩
      obtain ⟨_, p1⟩ := predB_ok hv (hc j (by omega)) hr hx.2
      rw [hL, dec_true (show (pre.length : Int) < (l.length : Int) by omega), cond_true, chk_true (and_true' (dec_true (by omega)) rfl), g1, chk_true (and_true' (dec_true k0) (dec_true k1))]
      rw [show cobbleref09_predicts c (lget (ByteArray.empty, (0, (0, (0, 0)))) l (j : Int)) x = some (predB c (lget d0 l (j : Int)) x) from p1, Option.bind_some]
      rw [List.any_cons] at e2
      cases hb : predB c (lget d0 l (j : Int)) x with
      | false =>
        left
        rw [hb, Bool.false_or] at e2
        rw [cond_false, wi64_id (by omega) (by omega)]
        exact ⟨_, rfl, pre ++ [(j : Int)], by rw [e1]; simp, by rw [List.length_append, List.length_singleton]; rfl, e2⟩
      | true =>
        right
        rw [hb, Bool.true_or] at e2
        exact ⟨_, rfl, Or.inr ⟨rfl, e2⟩⟩
    · rintro s ⟨pre, e1, rfl, e2⟩
      have hL2 : (allL l.length).length = pre.length := by rw [e1, List.append_nil]
      rw [dec_false (show ¬ (pre.length : Int) < ((allL l.length).length : Int) by omega), cond_false]
      exact ⟨_, rfl, Or.inl ⟨rfl, e2⟩⟩
  obtain ⟨r, e1, e2⟩ := key
  rw [e1]
  rcases e2 with ⟨rfl, e2⟩ | ⟨rfl, e2⟩ <;> rw [e2] <;> rfl

/-- For causes that have been looked at already. -/
theorem containsP_ok {c : Dapi_TraceCourse} (hv : Valid c) {l : List Dapi_TraceCause} {x : Dapi_TraceReading} (h5 : l.length ≤ 5) (hc : ∀ k, k < l.length → CauseOk c (lget d0 l (k : Int))) (hr : readErr c x = 0) (hx : ReadIn x) :
    slices_ContainsFunc_apiTraceCause l (fun o => trace_Predicts_1 o (c, stripsQ c (c.2.2.2.length + 1)) x) = some (l.any fun o => predB c o x) := by
  unfold slices_ContainsFunc_apiTraceCause slices_IndexFunc_apiTraceCause
  have key : ∃ r : Unit ⊕ Int, loopM (S := Int) (R := (Unit) ⊕ (Int)) (fun t =>
    bif decide (t < (List.length l : Int)) then
      chk (decide ((0 : Int) ≤ t) && decide (t < (List.length l : Int))) (
        ((fun o => trace_Predicts_1 o (c, stripsQ c (c.2.2.2.length + 1)) x) (lget (ByteArray.empty, (0, (0, (0, 0)))) l t)).bind fun (t_1 : Bool) =>
        bif t_1 then
          Option.map Sum.inr (Option.map Sum.inr (
            some t))
        else
          some (.inl (wi64 (t + 1))))
    else
      some (.inr (.inl ()))) 0 = some r ∧ ((r = .inl () ∧ (l.any fun o => predB c o x) = false) ∨ ∃ i : Nat, r = .inr (i : Int) ∧ (l.any fun o => predB c o x) = true) := by
    refine loopM_list (X := Dapi_TraceCause) (l := l) (fun l' s => ∃ pre, l = pre ++ l' ∧ s = (pre.length : Int) ∧ (l.any fun o => predB c o x) = l'.any fun o => predB c o x) _ ?_ ?_ ⟨[], rfl, rfl, rfl⟩
    · rintro o l' s ⟨pre, e1, rfl, e2⟩
      have hL : l.length = pre.length + (l'.length + 1) := by rw [e1, List.length_append, List.length_cons]
      have g1 : ∀ d, lget d l (pre.length : Int) = o := fun d => by rw [e1]; exact lget_mid
      have ho := hc pre.length (by omega)
      rw [g1] at ho
      obtain ⟨p1, _⟩ := predB_ok hv ho hr hx.2
      have hp : trace_Predicts_1 o (c, stripsQ c (c.2.2.2.length + 1)) x = some (predB c o x) := by
        unfold trace_Predicts_1
        rw [p1, Option.bind_some]
      rw [dec_true (show (pre.length : Int) < (l.length : Int) by omega), cond_true, chk_true (and_true' (dec_true (by omega)) rfl), g1]
      simp only
      rw [hp, Option.bind_some]
      rw [List.any_cons] at e2
      cases hb : predB c o x with
      | false =>
        left
        rw [hb, Bool.false_or] at e2
        rw [cond_false, wi64_id (by omega) (by omega)]
        exact ⟨_, rfl, pre ++ [o], by rw [e1]; simp, by rw [List.length_append, List.length_singleton]; rfl, e2⟩
      | true =>
        right
        rw [hb, Bool.true_or] at e2
        exact ⟨_, rfl, Or.inr ⟨pre.length, rfl, e2⟩⟩
    · rintro s ⟨pre, e1, rfl, e2⟩
      have hL : l.length = pre.length := by rw [e1, List.append_nil]
      rw [dec_false (show ¬ (pre.length : Int) < (l.length : Int) by omega), cond_false]
      exact ⟨_, rfl, Or.inl ⟨rfl, e2⟩⟩
  obtain ⟨r, e1, e2⟩ := key
  rw [e1]
  rcases e2 with ⟨rfl, e2⟩ | ⟨i, rfl, e2⟩
  · rw [e2]; rfl
  · rw [e2, Option.bind_some]
    simp only
    rw [Option.bind_some, dec_true (show (i : Int) ≥ 0 by omega)]

theorem tPredicts_ok {c : Dapi_TraceCourse} (hv : Valid c) {l : List Dapi_TraceCause} {x : Dapi_TraceReading} (hoc : trace_openCauses c l = some ((c, stripsQ c (c.2.2.2.length + 1)), (0, 0))) (h5 : l.length ≤ 5) (hc : ∀ k, k < l.length → CauseOk c (lget d0 l (k : Int))) (hx : ReadIn x) :
    trace_Predicts c l x = some (if readErr c x = 0 then (l.any fun o => predB c o x, 0) else (false, readErr c x)) := by
  unfold trace_Predicts
  rw [hoc, Option.bind_some]
  simp only
  rw [show ((0 : Int) == 0) = true from rfl, cond_true, treadErr_ok hv hx.1 hx.2, Option.bind_some, Option.bind_some]
  by_cases h : readErr c x = 0
  · rw [h, show ((0 : Int) != 0) = false from rfl, cond_false, if_pos rfl, containsP_ok hv h5 hc h hx, Option.bind_some]
  · rw [show (readErr c x != 0) = true by rw [bne_iff_ne]; exact h, cond_true, if_neg h]

theorem size_of_okv {l : List Dapi_TraceCause} (h : okv (.slice Tapi_TraceCause) l) : ∀ x, x ∈ l → x.1.size ≤ 9223372036854775807 := by
  intro x hx
  have : x.1.size ≤ maxLen := (h.2 x hx).1
  unfold maxLen at this
  omega

/-- Causes that are checked: on both sides. -/
theorem causes_ok {c : Dapi_TraceCourse} (hin : CourseIn c) {l : List Dapi_TraceCause} (hl : ∀ x, x ∈ l → x.1.size ≤ 9223372036854775807) :
    ∃ (strips : List (List Dtrace_section)) (i e : Int), trace_openCauses c l = some ((c, strips), (i, e)) ∧ cobbleref09_CheckCauses c l = some (i, e) ∧
      (e = 0 → i = 0 ∧ strips = stripsQ c (c.2.2.2.length + 1) ∧ Valid c ∧ l.length ≤ 5 ∧ ∀ k, k < l.length → CauseOk c (lget d0 l (k : Int))) := by
  obtain ⟨e, strips, q1, q2, q3⟩ := opened_ok hin
  have a1 := openCauses_ok q1 hl
  have a2 := CheckCauses_ok q2 hl
  obtain ⟨p, hp⟩ : ∃ p : Int × Int, p = (if e ≠ 0 then (0, e) else if l.length ≤ 5 then (findF (causeR c l) 0 l.length).getD (0, 0) else (0, 8)) := ⟨_, rfl⟩
  rw [← hp] at a1 a2
  refine ⟨strips, p.1, p.2, a1, a2, fun he => ?_⟩
  by_cases h0 : e = 0
  · subst h0
    obtain ⟨rfl, hv⟩ := q3 rfl
    rw [if_neg (show ¬ (0 : Int) ≠ 0 from fun h => h rfl)] at hp
    by_cases h5 : l.length ≤ 5
    · rw [if_pos h5] at hp
      rw [hp] at he ⊢
      cases hf : findF (causeR c l) 0 l.length with
      | none =>
        refine ⟨rfl, rfl, hv, h5, fun k hk => causeOk_of ?_⟩
        have := findF_none.1 hf k (by omega) (by omega)
        unfold causeR at this
        split at this
        · assumption
        · cases this
      | some v =>
        rw [hf] at he
        obtain ⟨i, _, _, hi, _⟩ := findF_some hf
        unfold causeR at hi
        split at hi
        · cases hi
        · rename_i hz
          cases hi
          exact absurd he hz
    · rw [if_neg h5] at hp
      rw [hp] at he
      exact absurd he (by decide)
  · rw [if_pos h0] at hp
    rw [hp] at he
    exact absurd he h0

theorem TraceCauses_ok {c : Dapi_TraceCourse} {l : List Dapi_TraceCause} {r : List Dapi_TraceReading} (hawake : cobblelaw09_awake = some true) (hc : okv Tapi_TraceCourse c) (hl : okv (.slice Tapi_TraceCause) l) (hr : okv (.slice Tapi_TraceReading) r) : cobblelaw09_TraceCauses c l r = some true := by
  unfold cobblelaw09_TraceCauses
  rw [hawake, Option.bind_some, Bool.not_true, cond_false]
  obtain ⟨b, hb, hb2⟩ := Few_ok (c := c)
  rw [hb, Option.bind_some]
  cases b with
  | false => rfl
  | true =>
    obtain ⟨h1, h2, h3, h5, h4⟩ := hb2 rfl
    have hin := courseIn_of hc h1 h2 h3 h5 h4
    have hri : ∀ x, x ∈ r → ReadIn x := fun x hx => readIn_of (hr.2 x hx)
    by_cases h7 : l.length > 7
    · rw [dec_true (show (l.length : Int) > 7 by omega)]; rfl
    by_cases h12 : r.length > 12
    · rw [dec_true (show (r.length : Int) > 12 by omega), Bool.or_true]; rfl
    rw [dec_false (show ¬ (l.length : Int) > 7 by omega), dec_false (show ¬ (r.length : Int) > 12 by omega)]
    obtain ⟨strips, i, e, o1, o2, o3⟩ := causes_ok hin (size_of_okv hl)
    have hck : trace_CheckCauses c l = some (i, e) := by
      unfold trace_CheckCauses
      rw [o1, Option.bind_some]
    rw [show ((!true || false) || false) = false from rfl, cond_false, CopyCourse_ok h1 h2 h3 h4, Option.bind_some, CopyCauses_ok (by omega), Option.bind_some, hck, Option.bind_some, Option.bind_some, Option.bind_some, CopyReadings_ok (by omega), Option.bind_some]
    have hone : ∃ x, (bif decide ((r.length : Int) > 0) then chk (decide ((0 : Int) ≤ 0) && decide ((0 : Int) < (r.length : Int))) (some (lget (0, (0, false)) r 0)) else some (0, (0, false))) = some x ∧ ReadIn x := by
      by_cases h0 : r.length > 0
      · rw [dec_true (show (r.length : Int) > 0 by omega), cond_true, chk_true (and_true' (dec_true (Int.le_refl 0)) rfl)]
        exact ⟨_, rfl, hri _ (lget_mem (d := r0) (i := 0) h0)⟩
      · rw [dec_false (show ¬ (r.length : Int) > 0 by omega)]
        exact ⟨_, rfl, show (-9223372036854775808 : Int) ≤ 0 by decide, show (0 : Int) < 9223372036854775808 by decide⟩
    obtain ⟨x, hx1, hx2⟩ := hone
    by_cases he : e = 0
    · subst he
      obtain ⟨rfl, rfl, hv, hl5, hco⟩ := o3 rfl
      rw [Contra_ok hv o1 hl5 hco hri, Option.bind_some]
      refine Option.bind_eq_some_iff.2 ⟨x, hx1, ?_⟩
      rw [Option.bind_some, Option.bind_some, tPredicts_ok hv o1 hl5 hco hx2, Option.bind_some, o2, Option.bind_some]
      simp only
      rw [show ((0 : Int) != 0) = false from rfl, Bool.or_false, cond_false, cond_false, rreadErr_ok hv hx2.1 hx2.2, Option.bind_some]
      have hpart : ((bif ((readErr c x != 0) && (((if readErr c x = 0 then (l.any fun o => predB c o x, (0 : Int)) else (false, readErr c x)).2 != readErr c x) || (if readErr c x = 0 then (l.any fun o => predB c o x, (0 : Int)) else (false, readErr c x)).1)) then some true else
            (bif (readErr c x == 0) then
              (bif ((if readErr c x = 0 then (l.any fun o => predB c o x, (0 : Int)) else (false, readErr c x)).2 != 0) then some true else
                (cobbleref09_All l).bind fun (t_11 : (List Int)) =>
                (cobbleref09_Predicts c l t_11 x).bind fun (t_12 : Bool) =>
                some ((if readErr c x = 0 then (l.any fun o => predB c o x, (0 : Int)) else (false, readErr c x)).1 != t_12)).bind fun (c_1 : Bool) =>
              some c_1
            else some false).bind fun (c_2 : Bool) =>
            some c_2)) = some false := by
        by_cases h : readErr c x = 0
        · rw [if_pos h, h, show ((0 : Int) != 0) = false from rfl, Bool.false_and, cond_false, show ((0 : Int) == 0) = true from rfl, cond_true]
          simp only
          rw [cond_false, All_ok (by omega), Option.bind_some, Predicts_ok hv hl5 hco h hx2, Option.bind_some, bne_self_eq_false]
          rfl
        · rw [if_neg h, show (readErr c x == 0) = false by rw [beq_eq_false_iff_ne]; exact h]
          simp only
          rw [bne_self_eq_false, Bool.or_false, Bool.and_false]
          rfl
      refine Option.bind_eq_some_iff.2 ⟨false, hpart, ?_⟩
      rw [cond_false, ReadingsErr_ok hv hri, Option.bind_some]
      by_cases hre : readsE c r = 0
      · obtain ⟨hr10, hrr⟩ := readsE_zero hre
        rw [hre, show ((0 : Int) != 0) = false from rfl, cond_false, Table_ok hv hl5 hco (by omega) hrr hri, Option.bind_some, All_ok (by omega), Option.bind_some]
        have hct := Contradiction_ok (T := tabB c l r) (n := l.length) (set := allL l.length) (r := r) (by rw [allL_len]; omega) allL_mem (by omega)
        rw [show tabL c l r r.length = (List.range r.length).map fun i => (List.range l.length).map (tabB c l r i) from rfl, hct, Option.bind_some, show findF (clashAt (tabB c l r) (presB r) (allL l.length)) 0 r.length = firstR c l r from rfl, if_pos rfl]
        cases hf : firstR c l r with
        | none => rfl
        | some v =>
          unfold firstR at hf
          obtain ⟨i, _, _, hi, _⟩ := findF_some hf
          unfold clashAt at hi
          split at hi
          · cases hi
            simp only [Option.getD_some]
            rw [Bool.not_true, cond_false, beq_self_eq_true, beq_self_eq_true]
            rfl
          · cases hi
      · rw [show (readsE c r != 0) = true by rw [bne_iff_ne]; exact hre, cond_true, if_neg hre]
        simp only
        rw [beq_self_eq_true]
        rfl
    · have hcon : trace_Contradiction c l r = some (0, e) := by
        unfold trace_Contradiction trace_openEvidence
        rw [o1, Option.bind_some]
        simp only
        rw [show (e == 0) = false by rw [beq_eq_false_iff_ne]; exact he, cond_false, Option.bind_some, show (e != 0) = true by rw [bne_iff_ne]; exact he, cond_true, Option.bind_some]
        simp only
        rw [show (e != 0) = true by rw [bne_iff_ne]; exact he, cond_true]
      have hpre : trace_Predicts c l x = some (false, e) := by
        unfold trace_Predicts
        rw [o1, Option.bind_some]
        simp only
        rw [show (e == 0) = false by rw [beq_eq_false_iff_ne]; exact he, cond_false, Option.bind_some, show (e != 0) = true by rw [bne_iff_ne]; exact he, cond_true]
      rw [hcon, Option.bind_some]
      refine Option.bind_eq_some_iff.2 ⟨x, hx1, ?_⟩
      rw [Option.bind_some, Option.bind_some, hpre, Option.bind_some, o2, Option.bind_some]
      simp only
      rw [bne_self_eq_false, bne_self_eq_false, Bool.or_false, cond_false, show (e != 0) = true by rw [bne_iff_ne]; exact he, cond_true, beq_self_eq_true]
      rfl
end Go.Lift
