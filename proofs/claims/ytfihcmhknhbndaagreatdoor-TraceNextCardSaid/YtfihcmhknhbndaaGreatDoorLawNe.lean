/-
  The law of the next reading holds of the plain functions.
-/
import Derived.Test.YtfihcmhknhbndaaGreatDoorPlainP
import Derived.Test.YtfihcmhknhbndaaGreatDoorFunNe
set_option linter.unusedSectionVars false
set_option linter.unusedVariables false
set_option linter.unusedSimpArgs false
namespace Go.Lift
open Go

theorem light_ok {l : List Dapi_TraceCause} {r : List Dapi_TraceReading} : ∃ b, cobblelaw09_light l r = some b ∧ (b = true → l.length ≤ 6 ∧ r.length ≤ 12 ∧ (r.length ≤ 7 ∨ r.length > 10)) := by
  refine ⟨_, rfl, fun h => ?_⟩
  rw [Bool.and_eq_true, Bool.and_eq_true, Bool.or_eq_true, decide_eq_true_eq, decide_eq_true_eq, decide_eq_true_eq, decide_eq_true_eq] at h
  omega
theorem openEvidence_bad {c : Dapi_TraceCourse} {l : List Dapi_TraceCause} {r : List Dapi_TraceReading} {x : Dtrace_course} {i e : Int} (hoc : trace_openCauses c l = some (x, (i, e))) (he : e ≠ 0) :
    trace_openEvidence c l r = some (x, ((0, ([], [])), e)) := by
  unfold trace_openEvidence
  rw [hoc, Option.bind_some]
  simp only
  rw [show (e == 0) = false by rw [beq_eq_false_iff_ne]; exact he, cond_false, Option.bind_some, show (e != 0) = true by rw [bne_iff_ne]; exact he, cond_true]
theorem row_hit {f : Nat → Bool} {n s : Nat} (hn : n ≤ 60) (hs : s < 2 ^ n) : cobbleref09_some ((List.range n).map f) (memL s) = some (hitB f s) := by
  rw [some_ok (by have := memL_len (s := s); omega) (by rw [List.length_map, List.length_range]; exact mem_lt hn hs)]
  congr 1
  unfold hitB
  rw [Bool.eq_iff_iff, List.any_eq_true, List.any_eq_true]
  constructor
  · rintro ⟨k, hk, hb⟩
    obtain ⟨k0, k1⟩ := mem_lt hn hs k hk
    obtain ⟨j, rfl⟩ : ∃ j : Nat, k = (j : Int) := ⟨k.toNat, by omega⟩
    rw [lget_range (by omega)] at hb
    exact ⟨_, hk, hb⟩
  · rintro ⟨k, hk, hb⟩
    obtain ⟨k0, k1⟩ := mem_lt hn hs k hk
    obtain ⟨j, rfl⟩ : ∃ j : Nat, k = (j : Int) := ⟨k.toNat, by omega⟩
    refine ⟨_, hk, ?_⟩
    rw [lget_range (by omega)]
    exact hb

/-- How many of some sets predict it; the greater part of both. -/
def cntN (f : Nat → Bool) (E : List Nat) : Nat := (E.filter (hitB f)).length
def scoreN (f : Nat → Bool) (E : List Nat) : Int := imax (cntN f E : Int) ((E.length : Int) - (cntN f E : Int))
theorem cnt_le {f : Nat → Bool} {E : List Nat} : cntN f E ≤ E.length := List.length_filter_le _ _
theorem score_le {f : Nat → Bool} {E : List Nat} : 0 ≤ scoreN f E ∧ scoreN f E ≤ (E.length : Int) := by
  have := cnt_le (f := f) (E := E)
  unfold scoreN imax
  split <;> omega
/-- The best one of the first ones. -/
def bst (sc : Nat → Int) : Nat → Int × Int
  | 0 => (0, sc 0)
  | k + 1 => if sc (k + 1) < (bst sc k).2 then (((k + 1 : Nat) : Int), sc (k + 1)) else bst sc k
theorem bst_pos (sc : Nat → Int) : ∀ k, 0 ≤ (bst sc k).1
  | 0 => by show (0 : Int) ≤ 0; omega
  | k + 1 => by
    unfold bst
    split
    · show (0 : Int) ≤ ((k + 1 : Nat) : Int); omega
    · exact bst_pos sc k

theorem cnt_prog {f : Nat → Bool} {n : Nat} (hn : n ≤ 5) {E : List Nat} (hE : ∀ s, s ∈ E → s < 2 ^ n) (hlen : E.length ≤ 32) {by_ : List Int} {i : Int} (hby : lget 0 by_ i = ((setN f n : Nat) : Int)) :
    loopM (S := Int × Int) (R := Int) (fun s_1 =>
              let predicted : Int := s_1.1
              let t_7 : Int := s_1.2
              bif decide (t_7 < (List.length (E.map fun (s : Nat) => (s : Int)) : Int)) then
                chk (decide ((0 : Int) ≤ t_7) && decide (t_7 < (List.length (E.map fun (s : Nat) => (s : Int)) : Int))) (
                  (bif ((iand .u64 (lget 0 (E.map fun (s : Nat) => (s : Int)) t_7) (lget 0 by_ i)) != 0) then
                    let predicted_1 : Int := wi64 (predicted + 1)
                    some predicted_1
                  else
                    some predicted).bind fun (predicted_2 : Int) =>
                  some (.inl (predicted_2, wi64 (t_7 + 1))))
              else
                some (.inr predicted)) (0, 0) = some (cntN f E : Int) := by
  refine loopM_list_eq (X := Nat) (l := E) (t := (cntN f E : Int)) (fun l' s => ∃ pre, E = pre ++ l' ∧ s = ((cntN f pre : Int), (pre.length : Int))) ?_ ?_ ⟨[], rfl, rfl⟩
  · rintro a l' s ⟨pre, q1, rfl⟩
    left
    have hL : E.length = pre.length + (l'.length + 1) := by rw [q1, List.length_append, List.length_cons]
    have ha := hE a (by rw [q1]; simp)
    have hc := cnt_le (f := f) (E := pre)
    have g1 : ∀ d, lget d (E.map fun (s : Nat) => (s : Int)) (pre.length : Int) = (a : Int) := fun d => by
      rw [q1, List.map_append, List.map_cons, show pre.length = (pre.map fun (s : Nat) => (s : Int)).length by rw [List.length_map]]
      exact lget_mid
    simp only
    rw [List.length_map, dec_true (show (pre.length : Int) < (E.length : Int) by omega), cond_true, chk_true (and_true' (dec_true (by omega)) rfl), g1, hby, iand_nat (lt_64 (n := n) (by omega) ha) (setN_64 (by omega)), wi64_id (x := (pre.length : Int) + 1) (by omega) (by omega)]
    have e : (((a &&& setN f n : Nat) : Int) != 0) = hitB f a := by
      rw [← meet_set (n := n) (by omega) ha, Bool.eq_iff_iff, bne_iff_ne, decide_eq_true_eq]; omega
    have e3 : cntN f (pre ++ [a]) = cntN f pre + (if hitB f a = true then 1 else 0) := by
      unfold cntN
      rw [List.filter_append, List.length_append, List.filter_cons]
      split <;> rfl
    rw [e]
    refine ⟨((cntN f (pre ++ [a]) : Int), ((pre ++ [a]).length : Int)), ?_, pre ++ [a], by rw [q1]; simp, rfl⟩
    rw [e3, List.length_append]
    cases hitB f a with
    | true => rw [cond_true, Option.bind_some, wi64_id (by omega) (by omega), if_pos rfl]; rfl
    | false => rw [cond_false, Option.bind_some, if_neg (by decide)]; rfl
  · rintro s ⟨pre, q1, rfl⟩
    rw [List.append_nil] at q1
    subst q1
    simp only
    rw [List.length_map, dec_false (show ¬ (E.length : Int) < (E.length : Int) by omega), cond_false]

theorem cnt_ref {f : Nat → Bool} {n : Nat} (hn : n ≤ 5) {E : List Nat} (hE : ∀ s, s ∈ E → s < 2 ^ n) (hlen : E.length ≤ 32) {tab : List (List Bool)} {i : Nat} (hi : i < tab.length) (hby : lget [] tab (i : Int) = (List.range n).map f) :
    loopM (S := Int × Int) (R := Int) (fun s_1 =>
          let n : Int := s_1.1
          let k : Int := s_1.2
          bif decide (k < (List.length (E.map memL) : Int)) then
            chk (decide ((0 : Int) ≤ (i : Int)) && decide ((i : Int) < (List.length tab : Int))) (
              chk (decide ((0 : Int) ≤ k) && decide (k < (List.length (E.map memL) : Int))) (
                (cobbleref09_some (lget [] tab (i : Int)) (lget [] (E.map memL) k)).bind fun (t_2 : Bool) =>
                (bif t_2 then
                  some (wi64 (n + 1))
                else
                  some n).bind fun (n_1 : Int) =>
                some (.inl (n_1, wi64 (k + 1)))))
          else
            some (.inr n)) (0, 0) = some (cntN f E : Int) := by
  refine loopM_list_eq (X := Nat) (l := E) (t := (cntN f E : Int)) (fun l' s => ∃ pre, E = pre ++ l' ∧ s = ((cntN f pre : Int), (pre.length : Int))) ?_ ?_ ⟨[], rfl, rfl⟩
  · rintro a l' s ⟨pre, q1, rfl⟩
    left
    have hL : E.length = pre.length + (l'.length + 1) := by rw [q1, List.length_append, List.length_cons]
    have ha := hE a (by rw [q1]; simp)
    have hc := cnt_le (f := f) (E := pre)
    have g1 : ∀ d, lget d (E.map memL) (pre.length : Int) = memL a := fun d => by
      rw [q1, List.map_append, List.map_cons, show pre.length = (pre.map memL).length by rw [List.length_map]]
      exact lget_mid
    simp only
    rw [List.length_map, dec_true (show (pre.length : Int) < (E.length : Int) by omega), cond_true, chk_true (and_true' (dec_true (by omega)) (dec_true (by omega))), chk_true (and_true' (dec_true (by omega)) rfl), g1, hby, row_hit (by omega) ha, Option.bind_some, wi64_id (x := (pre.length : Int) + 1) (by omega) (by omega)]
    have e3 : cntN f (pre ++ [a]) = cntN f pre + (if hitB f a = true then 1 else 0) := by
      unfold cntN
      rw [List.filter_append, List.length_append, List.filter_cons]
      split <;> rfl
    refine ⟨((cntN f (pre ++ [a]) : Int), ((pre ++ [a]).length : Int)), ?_, pre ++ [a], by rw [q1]; simp, rfl⟩
    rw [e3, List.length_append]
    cases hitB f a with
    | true => rw [cond_true, wi64_id (by omega) (by omega), Option.bind_some, if_pos rfl]; rfl
    | false => rw [cond_false, Option.bind_some, if_neg (by decide)]; rfl
  · rintro s ⟨pre, q1, rfl⟩
    rw [List.append_nil] at q1
    subst q1
    simp only
    rw [List.length_map, dec_false (show ¬ (E.length : Int) < (E.length : Int) by omega), cond_false]

/-- What both sides answer, once the readings are valid. -/
noncomputable def nextA (c : Dapi_TraceCourse) (l : List Dapi_TraceCause) (m : List Dapi_TraceReading) (E : List Nat) : Int × Int := bst (fun i => scoreN (tabB c l m i) E) (m.length - 1)

theorem tNext_ok {c : Dapi_TraceCourse} (hv : Valid c) {l : List Dapi_TraceCause} {x : Dapi_TraceSearch} (hoc : trace_openCauses c l = some ((c, stripsQ c (c.2.2.2.length + 1)), (0, 0))) (h5 : l.length ≤ 5) (hc : ∀ k, k < l.length → CauseOk c (lget d0 l (k : Int))) (hin : ∀ y, y ∈ x.1 → ReadIn y) (hin2 : ∀ y, y ∈ x.2 → ReadIn y) :
    ∃ E : List Nat, (readsE c x.1 = 0 → IsE (2 ^ l.length) (agreeB (tabB c l x.1) (presB x.1) x.1.length (2 ^ x.1.length - 1)) E) ∧
    trace_NextReading c l x = some (if readsE c x.1 ≠ 0 then (0, 0, readsE c x.1) else if x.2 = [] then (0, 0, 10) else if readsE c x.2 ≠ 0 then (0, 0, readsE c x.2) else if E = [] then (0, 0, 12) else ((nextA c l x.2 E).1, (nextA c l x.2 E).2, 0)) := by
  unfold trace_NextReading
  rw [openEvidence_ok hv hoc h5 hc hin, Option.bind_some, unless_ok, Option.bind_some, first_ok (by simp), Option.bind_some, first2]
  simp only
  by_cases h : readsE c x.1 = 0
  · obtain ⟨h10, hr⟩ := readsE_zero h
    rw [h, if_pos rfl, if_pos rfl]
    obtain ⟨E, e1, e2⟩ := evidExpl_ok (T := tabB c l x.1) (pres := presB x.1) (n := l.length) (k := x.1.length) (R := 2 ^ x.1.length - 1) h5 (by omega) (ones_64 (by omega))
    refine ⟨E, fun _ => e2, ?_⟩
    rw [if_neg (show ¬ (0 : Int) ≠ 0 from fun e => e rfl)]
    by_cases hz : x.2 = []
    · rw [hz, if_pos rfl]
      rfl
    rw [if_neg hz]
    have hpos : 0 < x.2.length := List.length_pos_iff.2 hz
    rw [dec_true (show (x.2.length : Int) > 0 by omega), if_pos rfl, show ((0 : Int) == 0) = true from rfl, cond_true, openReadings_ok hv hin2, Option.bind_some, Option.bind_some]
    by_cases h2 : readsE c x.2 = 0
    · obtain ⟨h210, hr2⟩ := readsE_zero h2
      rw [h2, show ((0 : Int) != 0) = false from rfl, cond_false, if_neg (show ¬ (0 : Int) ≠ 0 from fun e => e rfl)]
      have hlen := isE_len h5 e2
      unfold evidN
      rw [every_ok (k := x.1.length) (by rw [List.length_map, List.length_range]) (by omega), Option.bind_some,
        show trace_evidence_explanations ((l.length : Int), (List.range x.1.length).map (fun i => (byN c l x.1 i : Int)), (List.range x.1.length).map (presB x.1)) ((2 ^ x.1.length - 1 : Nat) : Int) = some (E.map fun (s : Nat) => (s : Int)) from e1, Option.bind_some]
      by_cases hE : E = []
      · rw [if_pos hE, hE]; rfl
      have hE0 : 0 < E.length := List.length_pos_iff.2 hE
      rw [if_neg hE, show ((List.length (E.map fun (s : Nat) => (s : Int)) : Int) == 0) = false by rw [beq_eq_false_iff_ne, List.length_map]; omega, cond_false]
      rw [show (trace_course_evidenceOf (c, stripsQ c (c.2.2.2.length + 1)) l x.2) = some (evidN c l x.2 x.2.length) from evidenceOf_ok hv h5 hc (by omega) hr2 hin2, Option.bind_some]
      have hlm : List.length (evidN c l x.2 x.2.length).2.1 = x.2.length := evid_len
      refine Option.bind_eq_some_iff.2 ⟨nextA c l x.2 E, ?_, rfl⟩
      rw [hlm]
      refine loopM_upto (fun k => match k with
        | 0 => ((0 : Int), (wi64 ((List.length (E.map fun (s : Nat) => (s : Int)) : Int) + 1), (0 : Int)))
        | k + 1 => ((bst (fun i => scoreN (tabB c l x.2 i) E) k).1, ((bst (fun i => scoreN (tabB c l x.2 i) E) k).2, ((k + 1 : Nat) : Int)))) x.2.length rfl (fun k hk => ?_) ?_
      · have hby : lget 0 (evidN c l x.2 x.2.length).2.1 (k : Int) = ((setN (tabB c l x.2 k) l.length : Nat) : Int) := lget_range (f := fun i => (byN c l x.2 i : Int)) hk
        have hcp := cnt_prog (f := tabB c l x.2 k) h5 (fun s hs => ((e2.mem s).1 hs).1) hlen hby
        have hcl := cnt_le (f := tabB c l x.2 k) (E := E)
        have hsc := score_le (f := tabB c l x.2 k) (E := E)
        cases k with
        | zero =>
          simp only
          rw [dec_true (show (0 : Int) < (x.2.length : Int) by omega), cond_true, chk_true (and_true' (dec_true (Int.le_refl 0)) rfl)]
          refine Option.bind_eq_some_iff.2 ⟨_, hcp, ?_⟩
          rw [List.length_map, wi64_id (x := (E.length : Int) - _) (by omega) (by omega), wi64_id (x := (E.length : Int) + 1) (by omega) (by omega)]
          have : imax (cntN (tabB c l x.2 0) E : Int) ((E.length : Int) - (cntN (tabB c l x.2 0) E : Int)) = scoreN (tabB c l x.2 0) E := rfl
          rw [this, dec_true (show scoreN (tabB c l x.2 0) E < (E.length : Int) + 1 by omega), cond_true, Option.bind_some]
          rfl
        | succ k =>
          simp only
          rw [dec_true (show ((k + 1 : Nat) : Int) < (x.2.length : Int) by omega), cond_true, chk_true (and_true' (dec_true (by omega)) rfl)]
          refine Option.bind_eq_some_iff.2 ⟨_, hcp, ?_⟩
          rw [List.length_map, wi64_id (x := (E.length : Int) - _) (by omega) (by omega), wi64_id (x := ((k + 1 : Nat) : Int) + 1) (by omega) (by omega)]
          have : imax (cntN (tabB c l x.2 (k + 1)) E : Int) ((E.length : Int) - (cntN (tabB c l x.2 (k + 1)) E : Int)) = scoreN (tabB c l x.2 (k + 1)) E := rfl
          rw [this]
          have hb : bst (fun i => scoreN (tabB c l x.2 i) E) (k + 1) = if scoreN (tabB c l x.2 (k + 1)) E < (bst (fun i => scoreN (tabB c l x.2 i) E) k).2 then (((k + 1 : Nat) : Int), scoreN (tabB c l x.2 (k + 1)) E) else bst (fun i => scoreN (tabB c l x.2 i) E) k := rfl
          rw [hb]
          by_cases hlt : scoreN (tabB c l x.2 (k + 1)) E < (bst (fun i => scoreN (tabB c l x.2 i) E) k).2
          · rw [dec_true hlt, cond_true, Option.bind_some, if_pos hlt]; rfl
          · rw [dec_false hlt, cond_false, Option.bind_some, if_neg hlt]; rfl
      · obtain ⟨m, hm⟩ : ∃ m, x.2.length = m + 1 := ⟨x.2.length - 1, by omega⟩
        unfold nextA
        rw [hm]
        simp only
        rw [dec_false (show ¬ ((m + 1 : Nat) : Int) < ((m + 1 : Nat) : Int) by omega), cond_false]
        rfl
    · rw [if_pos h2, show (readsE c x.2 != 0) = true by rw [bne_iff_ne]; exact h2, cond_true]
  · refine ⟨[], fun e => (h e).elim, ?_⟩
    rw [if_neg h, if_neg h, if_pos h, show (readsE c x.1 == 0) = false by rw [beq_eq_false_iff_ne]; exact h, cond_false, Option.bind_some, show (readsE c x.1 != 0) = true by rw [bne_iff_ne]; exact h, cond_true]

theorem rExpl_ok {c : Dapi_TraceCourse} (hv : Valid c) {l : List Dapi_TraceCause} {r : List Dapi_TraceReading} (h5 : l.length ≤ 5) (hc : ∀ k, k < l.length → CauseOk c (lget d0 l (k : Int))) (hin : ∀ x, x ∈ r → ReadIn x) (h : readsE c r = 0) {E : List Nat} (hE : IsE (2 ^ l.length) (agreeB (tabB c l r) (presB r) r.length (2 ^ r.length - 1)) E) :
    cobbleref09_Explanations c l r = some (E.map memL) := by
  obtain ⟨h10, hr⟩ := readsE_zero h
  unfold cobbleref09_Explanations
  rw [Table_ok hv h5 hc (by omega) hr hin, Option.bind_some]
  obtain ⟨E', q1, q2⟩ := explained_ok (T := tabB c l r) (n := l.length) (r := r) h5 (by omega)
  rw [show tabL c l r r.length = tabT (tabB c l r) l.length r.length from rfl, q1, Option.bind_some, isE_uniq hE q2]

theorem rNext_ok {c : Dapi_TraceCourse} (hv : Valid c) {l : List Dapi_TraceCause} {x : Dapi_TraceSearch} (h5 : l.length ≤ 5) (hc : ∀ k, k < l.length → CauseOk c (lget d0 l (k : Int))) (hin : ∀ y, y ∈ x.1 → ReadIn y) (hin2 : ∀ y, y ∈ x.2 → ReadIn y)
    (h : readsE c x.1 = 0) (h2 : readsE c x.2 = 0) (hz : x.2 ≠ []) {E : List Nat} (hE : IsE (2 ^ l.length) (agreeB (tabB c l x.1) (presB x.1) x.1.length (2 ^ x.1.length - 1)) E) :
    cobbleref09_Next c l x = some (if E = [] then (0, 0, false) else ((nextA c l x.2 E).1, (nextA c l x.2 E).2, true)) := by
  obtain ⟨h210, hr2⟩ := readsE_zero h2
  have hpos : 0 < x.2.length := List.length_pos_iff.2 hz
  have hlen := isE_len h5 hE
  unfold cobbleref09_Next
  rw [rExpl_ok hv h5 hc hin h hE, Option.bind_some]
  by_cases hn : E = []
  · rw [if_pos hn, hn]; rfl
  have hE0 : 0 < E.length := List.length_pos_iff.2 hn
  rw [if_neg hn, show ((List.length (E.map memL) : Int) == 0) = false by rw [beq_eq_false_iff_ne, List.length_map]; omega, cond_false, Table_ok hv h5 hc (by omega) hr2 hin2, Option.bind_some]
  refine Option.bind_eq_some_iff.2 ⟨nextA c l x.2 E, ?_, rfl⟩
  refine loopM_upto (fun k => match k with
    | 0 => ((-1 : Int), ((0 : Int), (0 : Int)))
    | k + 1 => ((bst (fun i => scoreN (tabB c l x.2 i) E) k).1, ((bst (fun i => scoreN (tabB c l x.2 i) E) k).2, ((k + 1 : Nat) : Int)))) x.2.length rfl (fun k hk => ?_) ?_
  · have htl : (tabL c l x.2 x.2.length).length = x.2.length := by unfold tabL; rw [List.length_map, List.length_range]
    have hcp := cnt_ref (f := tabB c l x.2 k) h5 (fun s hs => ((hE.mem s).1 hs).1) hlen (tab := tabL c l x.2 x.2.length) (i := k) (by omega) (lget_range (f := rowL c l x.2) hk)
    have hcl := cnt_le (f := tabB c l x.2 k) (E := E)
    have hsc := score_le (f := tabB c l x.2 k) (E := E)
    cases k with
    | zero =>
      simp only
      rw [dec_true (show (0 : Int) < (x.2.length : Int) by omega), cond_true]
      refine Option.bind_eq_some_iff.2 ⟨_, hcp, ?_⟩
      rw [List.length_map, wi64_id (x := (E.length : Int) - _) (by omega) (by omega)]
      have : imax (cntN (tabB c l x.2 0) E : Int) ((E.length : Int) - (cntN (tabB c l x.2 0) E : Int)) = scoreN (tabB c l x.2 0) E := rfl
      rw [this, dec_true (show (-1 : Int) < 0 by decide), Bool.true_or, cond_true, Option.bind_some]
      rfl
    | succ k =>
      simp only
      rw [dec_true (show ((k + 1 : Nat) : Int) < (x.2.length : Int) by omega), cond_true]
      refine Option.bind_eq_some_iff.2 ⟨_, hcp, ?_⟩
      rw [List.length_map, wi64_id (x := (E.length : Int) - _) (by omega) (by omega), wi64_id (x := ((k + 1 : Nat) : Int) + 1) (by omega) (by omega)]
      have : imax (cntN (tabB c l x.2 (k + 1)) E : Int) ((E.length : Int) - (cntN (tabB c l x.2 (k + 1)) E : Int)) = scoreN (tabB c l x.2 (k + 1)) E := rfl
      rw [this]
      have hb : bst (fun i => scoreN (tabB c l x.2 i) E) (k + 1) = if scoreN (tabB c l x.2 (k + 1)) E < (bst (fun i => scoreN (tabB c l x.2 i) E) k).2 then (((k + 1 : Nat) : Int), scoreN (tabB c l x.2 (k + 1)) E) else bst (fun i => scoreN (tabB c l x.2 i) E) k := rfl
      rw [hb, dec_false (show ¬ (bst (fun i => scoreN (tabB c l x.2 i) E) k).1 < 0 by have := bst_pos (fun i => scoreN (tabB c l x.2 i) E) k; omega), Bool.false_or]
      by_cases hlt : scoreN (tabB c l x.2 (k + 1)) E < (bst (fun i => scoreN (tabB c l x.2 i) E) k).2
      · rw [dec_true hlt, cond_true, Option.bind_some, if_pos hlt]; rfl
      · rw [dec_false hlt, cond_false, Option.bind_some, if_neg hlt]; rfl
  · obtain ⟨m, hm⟩ : ∃ m, x.2.length = m + 1 := ⟨x.2.length - 1, by omega⟩
    unfold nextA
    rw [hm]
    simp only
    rw [dec_false (show ¬ ((m + 1 : Nat) : Int) < ((m + 1 : Nat) : Int) by omega), cond_false]
    rfl

theorem TraceNext_ok {c : Dapi_TraceCourse} {l : List Dapi_TraceCause} {x : Dapi_TraceSearch} (hawake : cobblelaw09_awake = some true) (hc : okv Tapi_TraceCourse c) (hl : okv (.slice Tapi_TraceCause) l) (hx : okv Tapi_TraceSearch x) : cobblelaw09_TraceNext c l x = some true := by
  unfold cobblelaw09_TraceNext
  rw [hawake, Option.bind_some, Bool.not_true, cond_false]
  obtain ⟨b, hb, hb2⟩ := Few_ok (c := c)
  rw [hb, Option.bind_some]
  cases b with
  | false => rfl
  | true =>
    obtain ⟨h1, h2, h3, h5, h4⟩ := hb2 rfl
    have hin := courseIn_of hc h1 h2 h3 h5 h4
    have hri : ∀ y, y ∈ x.1 → ReadIn y := fun y hy => readIn_of (hx.1.2 y hy)
    have hri2 : ∀ y, y ∈ x.2 → ReadIn y := fun y hy => readIn_of (hx.2.2 y hy)
    obtain ⟨b, hb, hb3⟩ := light_ok (l := l) (r := x.1)
    rw [Bool.not_true, cond_false, hb, Option.bind_some, Option.bind_some]
    cases b with
    | false => rfl
    | true =>
      obtain ⟨l6, r12, _⟩ := hb3 rfl
      by_cases hm : x.2.length > 12
      · rw [dec_true (show (x.2.length : Int) > 12 by omega)]; rfl
      rw [dec_false (show ¬ (x.2.length : Int) > 12 by omega), show ((!true) || false) = false from rfl, cond_false, CopyCourse_ok h1 h2 h3 h4, Option.bind_some, CopyCauses_ok (by omega), Option.bind_some, CopyReadings_ok (l := x.1) (by omega), Option.bind_some, CopyReadings_ok (by omega), Option.bind_some]
      obtain ⟨strips, i, e, o1, o2, o3⟩ := causes_ok hin (size_of_okv hl)
      have hce : cobbleref09_CausesErr c l = some e := by
        unfold cobbleref09_CausesErr
        rw [o2, Option.bind_some]
      rw [show ((x.1, x.2) : Dapi_TraceSearch) = x from rfl]
      by_cases he : e = 0
      · subst he
        obtain ⟨rfl, rfl, hv, hl5, hco⟩ := o3 rfl
        obtain ⟨E, hE, hN⟩ := tNext_ok hv o1 hl5 hco hri hri2
        rw [hN, Option.bind_some, hce, Option.bind_some, show ((0 : Int) == 0) = true from rfl, cond_true, ReadingsErr_ok hv hri, Option.bind_some, Option.bind_some]
        by_cases hre : readsE c x.1 = 0
        · rw [if_neg (fun q => q hre), hre, show ((0 : Int) == 0) = true from rfl, Bool.true_and]
          by_cases hz : x.2 = []
          · rw [if_pos hz, hz]; rfl
          have hpos : 0 < x.2.length := List.length_pos_iff.2 hz
          rw [if_neg hz, show ((x.2.length : Int) == 0) = false by rw [beq_eq_false_iff_ne]; omega, cond_false, Option.bind_some, show ((0 : Int) == 0) = true from rfl, cond_true, ReadingsErr_ok hv hri2, Option.bind_some, Option.bind_some]
          by_cases hre2 : readsE c x.2 = 0
          · rw [if_neg (fun q => q hre2), hre2, show ((0 : Int) != 0) = false from rfl, cond_false, rNext_ok hv hl5 hco hri hri2 hre hre2 hz (hE hre), Option.bind_some]
            by_cases hn : E = []
            · rw [if_pos hn, if_pos hn]; rfl
            · rw [if_neg hn, if_neg hn]
              simp only
              rw [Bool.not_true, cond_false, beq_self_eq_true, beq_self_eq_true, beq_self_eq_true]
              rfl
          · rw [if_pos hre2, show (readsE c x.2 != 0) = true by rw [bne_iff_ne]; exact hre2, cond_true]
            simp only
            rw [beq_self_eq_true]
            rfl
        · rw [if_pos hre, show (readsE c x.1 == 0) = false by rw [beq_eq_false_iff_ne]; exact hre, Bool.false_and, cond_false, Option.bind_some, show (readsE c x.1 == 0) = false by rw [beq_eq_false_iff_ne]; exact hre, cond_false, Option.bind_some, show (readsE c x.1 != 0) = true by rw [bne_iff_ne]; exact hre, cond_true]
          simp only
          rw [beq_self_eq_true]
          rfl
      · have hN : trace_NextReading c l x = some (0, 0, e) := by
          unfold trace_NextReading
          rw [openEvidence_bad o1 he, Option.bind_some, unless_ok, Option.bind_some, first_ok (by simp), Option.bind_some, first2]
          simp only
          rw [if_neg he, show (e == 0) = false by rw [beq_eq_false_iff_ne]; exact he, cond_false, Option.bind_some, show (e != 0) = true by rw [bne_iff_ne]; exact he, cond_true]
        rw [hN, Option.bind_some, hce, Option.bind_some, show (e == 0) = false by rw [beq_eq_false_iff_ne]; exact he, cond_false, Option.bind_some, show (e == 0) = false by rw [beq_eq_false_iff_ne]; exact he, Bool.false_and, cond_false, Option.bind_some, show (e == 0) = false by rw [beq_eq_false_iff_ne]; exact he, cond_false, Option.bind_some, show (e != 0) = true by rw [bne_iff_ne]; exact he, cond_true]
        simp only
        rw [beq_self_eq_true]
        rfl
end Go.Lift
