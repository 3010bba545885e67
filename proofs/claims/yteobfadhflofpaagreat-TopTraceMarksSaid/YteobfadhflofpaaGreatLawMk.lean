/-
  The law of marks holds of the plain functions.
-/
import Derived.Test.YteobfadhflofpaaGreatPlainW
import Derived.Test.YteobfadhflofpaaGreatLawEv
import Derived.Test.YteobfadhflofpaaGreatFunMk
set_option linter.unusedSectionVars false
set_option linter.unusedVariables false
set_option linter.unusedSimpArgs false
namespace Go.Lift
open Go
abbrev s0W : Dr9_Section := (((0, []), (0, [])), 0)
def bigB (c : Dapi_TraceCourse) (k i : Nat) : Bool := decide (lget 0 (stepAt c k).2.1 (i : Int) > (lget s0W ((stS c k).map secW) (i : Int)).2)
def bigI (c : Dapi_TraceCourse) (k i : Nat) : Option ((Int) ⊕ ((Unit) ⊕ (Bool))) := if bigB c k i then some (.inr (.inr true)) else none
def bigO (c : Dapi_TraceCourse) (k : Nat) : Option Bool := (findF (bigI c k) 0 (stepAt c k).2.1.length).map fun _ => true
theorem areas_le {c : Dapi_TraceCourse} (hv : Valid c) {k : Nat} (hk : k < c.2.2.2.length) : (stepAt c k).2.1.length ≤ (stS c k).length ∧ ((stepAt c k).2.1.length = (stS c k).length ∨ (stepAt c k).2.1 = []) := by
  rcases hv.rel k hk with ⟨_, _, h, _⟩ | ⟨_, _, _, _, _, _, h⟩
  · exact ⟨by omega, .inl h.symm⟩
  · rw [h]; exact ⟨Nat.zero_le _, .inr rfl⟩
theorem longer_loop {c : Dapi_TraceCourse} (hv : Valid c) {s : Nat} (hs : s ≤ c.2.2.2.length) :
    loopM (S := Int) (R := (Unit) ⊕ (Bool)) (fun k =>
        bif decide (k < (List.length c.2.2.2 : Int)) then
          (r9_After c k).bind fun (t_7 : (List Dr9_Section)) =>
          (loopM (S := Int) (R := (Unit) ⊕ ((Int) ⊕ ((Unit) ⊕ (Bool)))) (fun i =>
            chk (decide ((0 : Int) ≤ k) && decide (k < (List.length c.2.2.2 : Int))) (
              bif decide (i < (List.length (((lget (0, ([], (0, 0))) c.2.2.2 k).2).1) : Int)) then
                chk (decide ((0 : Int) ≤ k) && decide (k < (List.length c.2.2.2 : Int))) (
                  chk (decide ((0 : Int) ≤ i) && decide (i < (List.length (((lget (0, ([], (0, 0))) c.2.2.2 k).2).1) : Int))) (
                    chk (decide ((0 : Int) ≤ i) && decide (i < (List.length t_7 : Int))) (
                      bif decide ((lget 0 (((lget (0, ([], (0, 0))) c.2.2.2 k).2).1) i) > ((lget (((0, []), (0, [])), 0) t_7 i).2)) then
                        Option.map Sum.inr (Option.map Sum.inr (
                          Option.map Sum.inr (Option.map Sum.inr (
                            some true))))
                      else
                        some (.inl (wi64 (i + 1))))))
              else
                some (.inr (.inl ())))) 0).bind fun j => match j with
          | .inl _ => (
            some (.inl (wi64 (k + 1))))
          | .inr r => some r
        else
          some (.inr (.inl ()))) (s : Int) = some (outF (findF (bigO c) s (c.2.2.2.length - s))) := by
  have h10 := hv.steps
  have hin : ∀ k : Nat, k < c.2.2.2.length → loopM (S := Int) (R := (Unit) ⊕ ((Int) ⊕ ((Unit) ⊕ (Bool)))) (fun i =>
            chk (decide ((0 : Int) ≤ (k : Int)) && decide ((k : Int) < (List.length c.2.2.2 : Int))) (
              bif decide (i < (List.length (((lget (0, ([], (0, 0))) c.2.2.2 (k : Int)).2).1) : Int)) then
                chk (decide ((0 : Int) ≤ (k : Int)) && decide ((k : Int) < (List.length c.2.2.2 : Int))) (
                  chk (decide ((0 : Int) ≤ i) && decide (i < (List.length (((lget (0, ([], (0, 0))) c.2.2.2 (k : Int)).2).1) : Int))) (
                    chk (decide ((0 : Int) ≤ i) && decide (i < (List.length ((stS c k).map secW) : Int))) (
                      bif decide ((lget 0 (((lget (0, ([], (0, 0))) c.2.2.2 (k : Int)).2).1) i) > ((lget (((0, []), (0, [])), 0) ((stS c k).map secW) i).2)) then
                        Option.map Sum.inr (Option.map Sum.inr (
                          Option.map Sum.inr (Option.map Sum.inr (
                            some true))))
                      else
                        some (.inl (wi64 (i + 1))))))
              else
                some (.inr (.inl ())))) 0 = some (outF (findF (bigI c k) 0 (stepAt c k).2.1.length)) := by
    intro k hk
    have hst := hv.strip k (by omega)
    have hlen := hst.len
    obtain ⟨ha, _⟩ := areas_le hv hk
    have hbi : ∀ i : Nat, decide ((lget 0 (((lget (0, ([], (0, 0))) c.2.2.2 (k : Int)).2).1) (i : Int)) > ((lget (((0, []), (0, [])), 0) ((stS c k).map secW) (i : Int)).2)) = bigB c k i := fun i => rfl
    have hlm : ((stS c k).map secW).length = (stS c k).length := List.length_map _
    have hsl : (lget (0, ([], (0, 0))) c.2.2.2 (k : Int)).2.1 = (stepAt c k).2.1 := rfl
    refine loop_find (n := (stepAt c k).2.1.length) (fun i hi hgi => ?_) (fun i hi q hgi => ?_) ?_ _ 0 (by omega)
    · have hb : bigB c k i = false := by
        cases hb : bigB c k i with
        | false => rfl
        | true => unfold bigI at hgi; rw [hb] at hgi; cases hgi
      rw [hbi, hsl, chk_idx (by omega), dec_true (show (i : Int) < ((stepAt c k).2.1.length : Int) by omega), cond_true, chk_idx (by omega), chk_true (and_true' (dec_true (by omega)) rfl), hlm, chk_idx (by omega), hb, cond_false, wi64_id (by omega) (by omega)]
      rfl
    · have hb : bigB c k i = true ∧ q = .inr (.inr true) := by
        cases hb : bigB c k i with
        | false => unfold bigI at hgi; rw [hb] at hgi; cases hgi
        | true => unfold bigI at hgi; rw [hb] at hgi; exact ⟨rfl, (Option.some.inj hgi).symm⟩
      rw [hbi, hsl, chk_idx (by omega), dec_true (show (i : Int) < ((stepAt c k).2.1.length : Int) by omega), cond_true, chk_idx (by omega), chk_true (and_true' (dec_true (by omega)) rfl), hlm, chk_idx (by omega), hb.1, cond_true, hb.2]
      rfl
    · rw [hsl, chk_idx (by omega), dec_false (show ¬ ((stepAt c k).2.1.length : Int) < ((stepAt c k).2.1.length : Int) by omega), cond_false]
  refine loop_from (k0 := s) (n := c.2.2.2.length) (fun k hsk hk hgk => ?_) (fun k hsk hk q hgk => ?_) ?_ _ s (Nat.le_refl _) (by omega)
  · have hn : findF (bigI c k) 0 (stepAt c k).2.1.length = none := by
      unfold bigO at hgk
      exact Option.map_eq_none_iff.1 hgk
    refine (bif_t (dec_true (show (k : Int) < (c.2.2.2.length : Int) by omega))).trans ?_
    rw [After_ok hv (by omega) hv.len6, Option.bind_some, hin k hk, hn]
    simp only [outF, Option.bind_some]
    rw [wi64_id (by omega) (by omega)]
    rfl
  · obtain ⟨z, hz, rfl⟩ : ∃ z, findF (bigI c k) 0 (stepAt c k).2.1.length = some z ∧ true = q := by
      unfold bigO at hgk
      exact Option.map_eq_some_iff.1 hgk
    obtain ⟨i, _, _, hi, _⟩ := findF_some hz
    have hzz : z = .inr (.inr true) := by
      unfold bigI at hi
      split at hi
      · exact (Option.some.inj hi).symm
      · cases hi
    refine (bif_t (dec_true (show (k : Int) < (c.2.2.2.length : Int) by omega))).trans ?_
    rw [After_ok hv (by omega) hv.len6, Option.bind_some, hin k hk, hz, hzz]
    rfl
  · rw [dec_false (show ¬ (c.2.2.2.length : Int) < (c.2.2.2.length : Int) by omega), cond_false]
theorem longer_of {c : Dapi_TraceCourse} (hv : Valid c) {s : Nat} (h : findF (bigO c) s (c.2.2.2.length - s) = none) : Longer c s := by
  intro k hsk hk
  have h1 := findF_none.1 h k hsk (by omega)
  unfold bigO at h1
  have h2 := Option.map_eq_none_iff.1 h1
  obtain ⟨_, ha⟩ := areas_le hv hk
  rcases ha with ha | ha
  · refine noLarger_of (d := s0W) ha.symm fun i hi hlt => ?_
    have h3 := findF_none.1 h2 i (by omega) (by omega)
    unfold bigI bigB at h3
    rw [dec_true (show lget 0 (stepAt c k).2.1 (i : Int) > (lget s0W ((stS c k).map secW) (i : Int)).2 from hlt)] at h3
    cases h3
  · rw [ha]; exact noLarger_nil
theorem frac_big {q : Rat} (h : ¬ smallQ q = true) : (fracE q).2 = 8 := by
  unfold fracE fracQ
  rw [if_neg h]
  rfl
theorem turn_bound {first K : Int} (hf : 0 ≤ first ∧ first ≤ 100000) (hK : 7 ≤ K ∧ K ≤ 100000) {i : Nat} (hi : i ≤ 20) : 0 ≤ (i : Int) * K ∧ (i : Int) * K ≤ 2000000 ∧ 0 ≤ turnQ first K i ∧ turnQ first K i ≤ 2100000 := by
  have h1 : 0 ≤ (i : Int) * K := Int.mul_nonneg (by omega) (by omega)
  have h2 : (i : Int) * K ≤ 20 * 100000 := Int.mul_le_mul (by omega) (by omega) (by omega) (by omega)
  unfold turnQ
  omega
theorem turn_mono {first K : Int} (hK : 7 ≤ K) {i j : Nat} (h : j ≤ i) : turnQ first K j ≤ turnQ first K i := by
  unfold turnQ
  have := Int.mul_le_mul_of_nonneg_right (show (j : Int) ≤ (i : Int) by omega) (show (0 : Int) ≤ K by omega)
  omega
theorem on_before_turn {c : Dapi_TraceCourse} {s : Nat} {first K : Int} (hf : 0 ≤ first) (hK : 7 ≤ K) {i j : Nat} (h : j ≤ i) (ho : OnStrip c s (turnQ first K i)) : OnStrip c s (turnQ first K j) := by
  constructor
  · unfold turnQ
    have : 0 ≤ (j : Int) * K := Int.mul_nonneg (by omega) (by omega)
    omega
  · have h1 : ((turnQ first K j : Int) : Rat) ≤ ((turnQ first K i : Int) : Rat) := by rw [Rat.intCast_le_intCast]; exact turn_mono hK h
    exact Rat.le_trans h1 ho.2
theorem marks_last {c : Dapi_TraceCourse} (hv : Valid c) {s : Nat} (hs : s ≤ c.2.2.2.length) (hlo : Longer c s) {first K : Int} (hf : 0 ≤ first) (hK : 7 ≤ K) {i : Nat} (ho : OnStrip c s (turnQ first K i)) {m : Int} (hm : markAt c s (turnQ first K i) = some m) :
    ∀ x, x ∈ marksL c s first K i → x < m := by
  have hp := marks_pair hv hs hlo (first := first) hK (n := i + 1) (fun j hj => on_before_turn hf hK (show j ≤ i by omega) ho)
  rw [marks_succ, hm] at hp
  simp only at hp
  rw [List.pairwise_append] at hp
  intro x hx
  exact (hp.2.2 x hx m (List.mem_singleton_self _)).1
theorem marks_loop {c : Dapi_TraceCourse} (hv : Valid c) (hop : trace_opened c [] = some ((c, stripsQ c (c.2.2.2.length + 1)), 0)) (hcc : r9_CopyCourse c = some c) {s : Nat} (hs : s ≤ c.2.2.2.length) (hlo : Longer c s) {first K : Int}
    (hf : 0 ≤ first ∧ first ≤ 100000) (hK : 7 ≤ K ∧ K ≤ 100000) :
    ∃ k, k ≤ 20 ∧ (∀ i, i < k → OnStrip c s (turnQ first K i)) ∧ loopM (S := Int × Dapi_TraceMarks) (R := (Dapi_TraceMarks) ⊕ (Bool)) (fun st =>
          let i_1 : Int := st.1
          let x : Dapi_TraceMarks := st.2
          bif decide (i_1 < 20) then
            (r9_ReadingErr c ((s : Int), (wi64 (first + (wi64 (i_1 * K)))), false)).bind fun (t_8 : Int) =>
            bif (t_8 != 0) then
              some (.inr (.inl x))
            else
              (r9_CopyCourse c).bind fun (t_9 : Dapi_TraceCourse) =>
              (trace_PlaceOf t_9 ((s : Int), (wi64 (first + (wi64 (i_1 * K)))), false) (c.2.2.2.length : Int)).bind fun (r : Dapi_Frac × Int) =>
              bif (r.2 != 0) then
                bif ((r.2 == 12) || (r.2 == 8)) then
                  some (.inl (wi64 (i_1 + 1), x))
                else
                  Option.map Sum.inr (Option.map Sum.inr (
                    some false))
              else
                (b0_IsLowest r.1).bind fun (t_10 : Bool) =>
                (bif !t_10 then some true else
                  (b0_IsSmall r.1).bind fun (t_11 : Bool) =>
                  some (!t_11)).bind fun (c_6 : Bool) =>
                bif c_6 then
                  Option.map Sum.inr (Option.map Sum.inr (
                    some false))
                else
                  (b0_Floor r.1.1 r.1.2).bind fun (t_12 : Int) =>
                  (bif decide ((List.length x.1 : Int) > 0) then
                    chk (decide ((0 : Int) ≤ (wi64 ((List.length x.1 : Int) - 1))) && decide ((wi64 ((List.length x.1 : Int) - 1)) < (List.length x.1 : Int))) (
                      some (decide (t_12 ≤ (lget 0 x.1 (wi64 ((List.length x.1 : Int) - 1))))))
                  else some false).bind fun (c_7 : Bool) =>
                  bif c_7 then
                    Option.map Sum.inr (Option.map Sum.inr (
                      some false))
                  else
                    (app x.1 [t_12]).bind fun (t_13 : List Int) =>
                    some (.inl (wi64 (i_1 + 1), (t_13, x.2)))
          else
            some (.inr (.inl x))) (0, ([], 1)) = some (.inl (marksL c s first K k, 1)) := by
  have hst : ∀ i : Nat, ¬ (readErr c ((s : Int), (turnQ first K i, false)) ≠ 0) → OnStrip c s (turnQ first K i) := fun i hi => (readErr_on hs (b := false)).1 (Decidable.not_not.1 hi)
  have hre : ∀ i : Nat, i ≤ 20 → wi64 (first + (wi64 ((i : Int) * K))) = turnQ first K i := fun i hi => by
    obtain ⟨a, b, d, e⟩ := turn_bound hf hK hi
    rw [wi64_id (x := (i : Int) * K) (by omega) (by omega)]
    unfold turnQ at d e ⊢
    exact wi64_id (by omega) (by omega)
  refine (loop_brk (n := 20) (S := Int × Dapi_TraceMarks) (R := (Dapi_TraceMarks) ⊕ (Bool)) (fun i : Nat => ((i : Int), (marksL c s first K i, (1 : Int)))) (fun i => .inl (marksL c s first K i, 1))
    (fun i => readErr c ((s : Int), (turnQ first K i, false)) ≠ 0) (f := (fun st =>
          let i_1 : Int := st.1
          let x : Dapi_TraceMarks := st.2
          bif decide (i_1 < 20) then
            (r9_ReadingErr c ((s : Int), (wi64 (first + (wi64 (i_1 * K)))), false)).bind fun (t_8 : Int) =>
            bif (t_8 != 0) then
              some (.inr (.inl x))
            else
              (r9_CopyCourse c).bind fun (t_9 : Dapi_TraceCourse) =>
              (trace_PlaceOf t_9 ((s : Int), (wi64 (first + (wi64 (i_1 * K)))), false) (c.2.2.2.length : Int)).bind fun (r : Dapi_Frac × Int) =>
              bif (r.2 != 0) then
                bif ((r.2 == 12) || (r.2 == 8)) then
                  some (.inl (wi64 (i_1 + 1), x))
                else
                  Option.map Sum.inr (Option.map Sum.inr (
                    some false))
              else
                (b0_IsLowest r.1).bind fun (t_10 : Bool) =>
                (bif !t_10 then some true else
                  (b0_IsSmall r.1).bind fun (t_11 : Bool) =>
                  some (!t_11)).bind fun (c_6 : Bool) =>
                bif c_6 then
                  Option.map Sum.inr (Option.map Sum.inr (
                    some false))
                else
                  (b0_Floor r.1.1 r.1.2).bind fun (t_12 : Int) =>
                  (bif decide ((List.length x.1 : Int) > 0) then
                    chk (decide ((0 : Int) ≤ (wi64 ((List.length x.1 : Int) - 1))) && decide ((wi64 ((List.length x.1 : Int) - 1)) < (List.length x.1 : Int))) (
                      some (decide (t_12 ≤ (lget 0 x.1 (wi64 ((List.length x.1 : Int) - 1))))))
                  else some false).bind fun (c_7 : Bool) =>
                  bif c_7 then
                    Option.map Sum.inr (Option.map Sum.inr (
                      some false))
                  else
                    (app x.1 [t_12]).bind fun (t_13 : List Int) =>
                    some (.inl (wi64 (i_1 + 1), (t_13, x.2)))
          else
            some (.inr (.inl x)))) (fun i hi hns => ?_) (fun i hi hns => ?_) rfl).elim fun k hk => ⟨k, hk.1, fun i hi => hst i (hk.2.1 i hi), hk.2.2⟩
  · have hon := hst i hns
    obtain ⟨a, b, d, e⟩ := turn_bound hf hK (show i ≤ 20 by omega)
    have hml := marks_len (c := c) (s := s) (first := first) (K := K) (n := i)
    have hz : readErr c ((s : Int), (turnQ first K i, false)) = 0 := Decidable.not_not.1 hns
    simp only
    refine (bif_t (dec_true (show (i : Int) < 20 by omega))).trans ?_
    rw [hre i (by omega), rreadErr_ok hv (by show _ ≤ turnQ first K i; omega) (by show turnQ first K i < _; omega), Option.bind_some, hz, show ((0 : Int) != 0) = false from rfl, cond_false, hcc, Option.bind_some, PlaceOf_coil hv hop hs hon (by omega), Option.bind_some, wi64_id (x := (i : Int) + 1) (by omega) (by omega)]
    have hsucc := marks_succ (c := c) (s := s) (first := first) (K := K) (n := i)
    cases hco : coilAt c s (turnQ first K i) with
    | none =>
      have hmk : markAt c s (turnQ first K i) = none := by unfold markAt; rw [hco]; rfl
      rw [hmk] at hsucc
      rw [hsucc]
      rfl
    | some q =>
      by_cases hsm : smallQ q = true
      · have hmk : markAt c s (turnQ first K i) = some (q.num / (q.den : Int)) := by unfold markAt; rw [hco]; simp only [Option.bind_some]; rw [if_pos hsm]
        rw [hmk] at hsucc
        obtain ⟨b1, b2⟩ := small_parts hsm
        have hd := q.den_pos
        simp only
        rw [fracE_fq hsm]
        simp only
        have hfl : b0_Floor (fq q).1 (fq q).2 = some (q.num / (q.den : Int)) := Floor_ok (by show (0 : Int) < (q.den : Int); omega) (by show q.num.natAbs ≤ _; omega)
        rw [show ((0 : Int) != 0) = false from rfl, cond_false, fq_low hsm, Option.bind_some, Bool.not_true, cond_false, fq_small hsm, Option.bind_some, Option.bind_some, Bool.not_true, cond_false, hfl, Option.bind_some]
        have hlast := marks_last hv hs hlo hf.1 hK.1 hon hmk
        have hc7 : (bif decide ((List.length (marksL c s first K i) : Int) > 0) then
                    chk (decide ((0 : Int) ≤ (wi64 ((List.length (marksL c s first K i) : Int) - 1))) && decide ((wi64 ((List.length (marksL c s first K i) : Int) - 1)) < (List.length (marksL c s first K i) : Int))) (
                      some (decide ((q.num / (q.den : Int)) ≤ (lget 0 (marksL c s first K i) (wi64 ((List.length (marksL c s first K i) : Int) - 1))))))
                  else some false) = some false := by
          by_cases h0 : (marksL c s first K i).length = 0
          · rw [dec_false (show ¬ ((marksL c s first K i).length : Int) > 0 by omega), cond_false]
          · rw [dec_true (show ((marksL c s first K i).length : Int) > 0 by omega), cond_true, wi64_id (by omega) (by omega), chk_true (and_true' (dec_true (by omega)) (dec_true (by omega)))]
            have hmem := lget_mem (d := 0) (l := marksL c s first K i) (i := (marksL c s first K i).length - 1) (by omega)
            rw [show (((marksL c s first K i).length - 1 : Nat) : Int) = ((marksL c s first K i).length : Int) - 1 by omega] at hmem
            have := hlast _ hmem
            rw [dec_false (by omega)]
        rw [hc7, Option.bind_some, cond_false, app_ok (by rw [List.length_singleton]; omega), Option.bind_some, hsucc]
        rfl
      · have hmk : markAt c s (turnQ first K i) = none := by unfold markAt; rw [hco]; simp only [Option.bind_some]; rw [if_neg hsm]
        rw [hmk] at hsucc
        simp only
        rw [frac_big hsm, hsucc]
        rfl
  · obtain ⟨a, b, d, e⟩ := turn_bound hf hK (show i ≤ 20 by omega)
    simp only
    refine (bif_t (dec_true (show (i : Int) < 20 by omega))).trans ?_
    rw [hre i (by omega), rreadErr_ok hv (by show _ ≤ turnQ first K i; omega) (by show turnQ first K i < _; omega), Option.bind_some, show (readErr c ((s : Int), (turnQ first K i, false)) != 0) = true by rw [bne_iff_ne]; exact hns, cond_true]
theorem TopTraceMarks_ok {c : Dapi_TraceCourse} {roll : Dapi_TraceRoll} {first : Int} (hawake : cobbletop_traceAwake = some true) (hc : okv Tapi_TraceCourse c) (hr : okv Tapi_TraceRoll roll) : cobbletop_TopTraceMarks c roll first = some true := by
  unfold cobbletop_TopTraceMarks
  rw [hawake, Option.bind_some, Bool.not_true, cond_false]
  obtain ⟨b, hb, hb2⟩ := Few_ok (c := c)
  rw [hb, Option.bind_some]
  cases b with
  | false => rfl
  | true =>
    obtain ⟨h1, h2, h3, h5, h4⟩ := hb2 rfl
    have hin := courseIn_of hc h1 h2 h3 h5 h4
    have hsz : roll.1.size ≤ 9223372036854775807 := by
      have : roll.1.size ≤ maxLen := hr.1
      unfold maxLen at this
      omega
    obtain ⟨e, strips, q1, q2, q3⟩ := opened_ok hin
    rw [Bool.not_true, cond_false, q2, Option.bind_some, Option.bind_some]
    by_cases he : e = 0
    · subst he
      obtain ⟨rfl, hv⟩ := q3 rfl
      rw [show ((0 : Int) != 0) = false from rfl, cond_false, rstepsErr_ok, Option.bind_some, Option.bind_some]
      by_cases hs0 : 0 ≤ roll.2.1 ∧ roll.2.1 ≤ (c.2.2.2.length : Int)
      · rw [if_pos hs0, show ((0 : Int) != 0) = false from rfl, cond_false, IsName_ok hsz, Option.bind_some, Option.bind_some]
        by_cases hnm : nameB roll.1 = true
        · rw [hnm, Bool.not_true, cond_false, Within_ok, Option.bind_some, Option.bind_some]
          by_cases hK : 7 ≤ roll.2.2 ∧ roll.2.2 ≤ 100000
          · rw [dec_true hK, Bool.not_true, cond_false, Within_ok, Option.bind_some, Option.bind_some]
            by_cases hf : 0 ≤ first ∧ first ≤ 100000
            · rw [dec_true hf, Bool.not_true, cond_false]
              obtain ⟨s, hs⟩ : ∃ s : Nat, roll.2.1 = (s : Int) := ⟨roll.2.1.toNat, by omega⟩
              have hsl : s ≤ c.2.2.2.length := by omega
              have hcc := CopyCourse_ok h1 h2 h3 h4
              simp only
              refine Option.bind_eq_some_iff.2 ⟨_, by rw [hs]; exact longer_loop hv hsl, ?_⟩
              cases hfb : findF (bigO c) s (c.2.2.2.length - s) with
              | some v =>
                obtain ⟨k, _, _, hk, _⟩ := findF_some hfb
                unfold bigO at hk
                obtain ⟨_, _, hk2⟩ := Option.map_eq_some_iff.1 hk
                rw [← hk2]
                rfl
              | none =>
                have hlo := longer_of hv hfb
                obtain ⟨k, k1, k2, k3⟩ := marks_loop hv q1 hcc hsl hlo hf hK
                simp only [outF]
                refine Option.bind_eq_some_iff.2 ⟨_, by rw [hs]; exact k3, ?_⟩
                simp only
                have hml := marks_len (c := c) (s := s) (first := first) (K := roll.2.2) (n := k)
                obtain ⟨m1, m2, m3⟩ := marks_ok (c := c) (l := marksL c s first roll.2.2 k) hs (by omega) (marks_on hv hsl hlo k2) (marks_pair hv hsl hlo hK.1 k2)
                have hre := roll_ok (c := c) hnm hs0 hK
                obtain ⟨r1, r2⟩ := rolls_ok (l := marksL c s first roll.2.2 k) hre (by rw [m3])
                have hcm : r9_CopyMarks (marksL c s first roll.2.2 k, 1) = some (marksL c s first roll.2.2 k, 1) := by
                  unfold r9_CopyMarks
                  rw [CopyInts_ok (by show (marksL c s first roll.2.2 k).length ≤ _; omega), Option.bind_some]
                obtain ⟨ms, o1, o2⟩ := openMarks_ok hv q1 (x := (marksL c s first roll.2.2 k, 1)) m2 (by show (marksL c s first roll.2.2 k).length ≤ _; omega)
                have hn64 : Names64 [roll] := fun r hr => by rw [List.mem_singleton.1 hr]; exact hsz
                rw [hcc, Option.bind_some, hcm, Option.bind_some, tRollsOf_ok hv o1 o2 m2 hn64, Option.bind_some, Option.bind_some, Option.bind_some, tRollPair_ok hv o1 o2 m2 hsz, Option.bind_some]
                simp only
                rw [m1, r1, hre, if_neg (fun h : (0 : Int) ≠ 0 => h rfl), if_neg (fun h : (0 : Int) ≠ 0 => h rfl), if_neg (fun h : (0 : Int) ≠ 0 => h rfl), if_neg (fun h : (0 : Int) ≠ 0 => h rfl), m3]
                simp only
                rw [show ((0 : Int) == 0) = true from rfl, cond_true, show [roll].length = 1 from rfl, r2, Texts_ok (by simp), Option.bind_some, Option.bind_some]
                rfl
            · rw [dec_false hf]
              rfl
          · rw [dec_false hK]
            rfl
        · rw [show nameB roll.1 = false by rw [Bool.eq_false_iff]; exact hnm]
          rfl
      · rw [if_neg hs0]
        rfl
    · rw [show (e != 0) = true by rw [bne_iff_ne]; exact he]
      rfl
end Go.Lift
