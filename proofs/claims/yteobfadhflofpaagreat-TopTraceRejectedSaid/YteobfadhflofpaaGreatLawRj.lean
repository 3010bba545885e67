/-
  The law of rejected causes holds of the plain functions.
-/
import Derived.Test.YteobfadhflofpaaGreatPlainV
import Derived.Test.YteobfadhflofpaaGreatFunRj
set_option linter.unusedSectionVars false
set_option linter.unusedVariables false
set_option linter.unusedSimpArgs false
namespace Go.Lift
open Go
theorem CausesErr_of {c : Dapi_TraceCourse} {l : List Dapi_TraceCause} {i e : Int} (h : r9_CheckCauses c l = some (i, e)) : r9_CausesErr c l = some e := by
  unfold r9_CausesErr
  rw [h, Option.bind_some]
noncomputable def fitsB (c : Dapi_TraceCourse) (l : List Dapi_TraceCause) (r : List Dapi_TraceReading) (i : Nat) : Bool := agreeB (tabB c l r) (presB r) r.length (2 ^ r.length - 1) (2 ^ i)
theorem fits_iff {c : Dapi_TraceCourse} {l : List Dapi_TraceCause} {r : List Dapi_TraceReading} {i : Nat} (hi : i ≤ 5) : fitsB c l r i = true ↔ ∀ j, j < r.length → predB c (lget d0 l (i : Int)) (lget r0 r (j : Int)) = presB r j := by
  unfold fitsB
  rw [agree_iff]
  constructor
  · intro h j hj
    have := h j hj (by rw [ones_bit]; exact decide_eq_true hj)
    rw [← this]
    exact (hit_one (l := l) hi (p := fun o => predB c o (lget r0 r (j : Int)))).symm
  · intro h j hj _
    rw [← h j hj]
    exact hit_one (l := l) hi (p := fun o => predB c o (lget r0 r (j : Int)))
theorem clash_none {c : Dapi_TraceCourse} {l : List Dapi_TraceCause} {r : List Dapi_TraceReading} {i : Nat} : clashAt (tabB c l r) (presB r) (allL l.length) i = none ↔ (l.any fun o => predB c o (lget r0 r (i : Int))) = presB r i := by
  have e : ((allL l.length).any fun k => tabB c l r i k.toNat) = l.any fun o => predB c o (lget r0 r (i : Int)) := by
    rw [any_all (g := fun o => predB c o (lget r0 r (i : Int)))]
    refine Bool.eq_iff_iff.2 ?_
    rw [List.any_eq_true, List.any_eq_true]
    constructor
    · rintro ⟨k, hk, h⟩
      have := (allL_mem k hk).1
      refine ⟨k, hk, ?_⟩
      unfold tabB at h
      rwa [show ((k.toNat : Nat) : Int) = k by omega] at h
    · rintro ⟨k, hk, h⟩
      have := (allL_mem k hk).1
      refine ⟨k, hk, ?_⟩
      unfold tabB
      rwa [show ((k.toNat : Nat) : Int) = k by omega]
  unfold clashAt
  rw [e]
  by_cases h : (l.any fun o => predB c o (lget r0 r (i : Int))) = presB r i
  · rw [if_neg (fun q => q h)]; exact ⟨fun _ => h, fun _ => rfl⟩
  · rw [if_pos h]; exact ⟨(fun q => by cases q), fun q => absurd q h⟩
theorem clash_val {T : Nat → Nat → Bool} {pr : Nat → Bool} {set : List Int} {i : Nat} {v : Int × Bool} (h : clashAt T pr set i = some v) : v = ((i : Int), true) := by
  unfold clashAt at h
  split at h
  · exact (Option.some.inj h).symm
  · cases h
theorem TopTraceRejected_ok {c : Dapi_TraceCourse} {l : List Dapi_TraceCause} {r : List Dapi_TraceReading} (hawake : cobbletop_traceAwake = some true) (hc : okv Tapi_TraceCourse c) (hl : okv (.slice Tapi_TraceCause) l) (hr : okv (.slice Tapi_TraceReading) r) :
    cobbletop_TopTraceRejected c l r = some true := by
  unfold cobbletop_TopTraceRejected
  rw [hawake, Option.bind_some, Bool.not_true, cond_false]
  obtain ⟨b, hb, hb2⟩ := Few_ok (c := c)
  rw [hb, Option.bind_some]
  cases b with
  | false => rfl
  | true =>
    obtain ⟨h1, h2, h3, h5, h4⟩ := hb2 rfl
    have hin := courseIn_of hc h1 h2 h3 h5 h4
    have hri : ∀ x, x ∈ r → ReadIn x := fun x hx => readIn_of (hr.2 x hx)
    have hls := size_of_okv hl
    obtain ⟨e, strips, q1, q2, q3⟩ := opened_ok hin
    have a1 := openCauses_ok q1 hls
    have a2 := CheckCauses_ok q2 hls
    obtain ⟨p, hp⟩ : ∃ p : Int × Int, p = (if e ≠ 0 then (0, e) else if l.length ≤ 5 then (findF (causeR c l) 0 l.length).getD (0, 0) else (0, 8)) := ⟨_, rfl⟩
    rw [← hp] at a1 a2
    rw [Bool.not_true, cond_false, CausesErr_of (i := p.1) (e := p.2) a2, Option.bind_some, Option.bind_some]
    by_cases hp0 : p.2 = 0
    · 
      have he : e = 0 := by
        by_cases h0 : e = 0
        · exact h0
        · rw [if_pos h0] at hp; rw [hp] at hp0; exact absurd hp0 h0
      subst he
      obtain ⟨rfl, hv⟩ := q3 rfl
      rw [if_neg (show ¬ (0 : Int) ≠ 0 from fun h => h rfl)] at hp
      have hl5 : l.length ≤ 5 := by
        by_cases h : l.length ≤ 5
        · exact h
        · rw [if_neg h] at hp; rw [hp] at hp0; exact absurd hp0 (by decide)
      rw [if_pos hl5] at hp
      have hz : ∀ i, i < l.length → causeE c l i = 0 := by
        cases hf : findF (causeR c l) 0 l.length with
        | none =>
          intro i hi
          have := findF_none.1 hf i (by omega) (by omega)
          unfold causeR at this
          split at this
          · assumption
          · cases this
        | some v =>
          exfalso
          rw [hf] at hp
          obtain ⟨i, _, _, hi, _⟩ := findF_some hf
          unfold causeR at hi
          split at hi
          · cases hi
          · rename_i hz
            cases hi
            rw [hp] at hp0
            exact hz hp0
      rw [hp0, show ((0 : Int) != 0) = false from rfl, Bool.false_or]
      by_cases h7 : r.length > 7
      · rw [dec_true (show (r.length : Int) > 7 by omega)]; rfl
      rw [dec_false (show ¬ (r.length : Int) > 7 by omega), cond_false, ReadingsErr_ok hv hri, Option.bind_some, Option.bind_some]
      by_cases hre : readsE c r = 0
      · obtain ⟨_, hrr⟩ := readsE_zero hre
        rw [hre, show ((0 : Int) != 0) = false from rfl, cond_false]
        obtain ⟨m, hm⟩ : ∃ m, m = (l.length + 1) / 2 := ⟨_, rfl⟩
        obtain ⟨M, hM⟩ : ∃ M, M = pickC l (fun k => 2 * k) m := ⟨_, rfl⟩
        have hMl : M.length = m := by rw [hM, pickC_len]
        obtain ⟨hoM, hcM⟩ := openC_pick (l := l) (m := m) q1 (f := fun k => 2 * k) (fun k hk => by omega) (fun j k _ _ => by omega) (by omega) hls hz
        rw [← hM] at hoM hcM
        have hloop1 : loopM (S := (List Dapi_TraceCause) × Int) (R := (List Dapi_TraceCause)) (fun s =>
            let made : (List Dapi_TraceCause) := s.1
            let i : Int := s.2
            bif decide (i < (List.length l : Int)) then
              chk (decide ((0 : Int) ≤ i) && decide (i < (List.length l : Int))) (
                (app made [lget (ByteArray.empty, (0, (0, (0, 0)))) l i]).bind fun (t_4 : List Dapi_TraceCause) =>
                some (.inl (t_4, wi64 (i + 2))))
            else
              some (.inr made)) ([], 0) = some M := by
          rw [hM]
          refine loopM_upto (fun k => (pickC l (fun k => 2 * k) k, ((2 * k : Nat) : Int))) m rfl (fun k hk => ?_) ?_
          · simp only
            rw [dec_true (show ((2 * k : Nat) : Int) < (l.length : Int) by omega), cond_true, chk_true (and_true' (dec_true (by omega)) rfl), app_ok (by rw [pickC_len, List.length_singleton]; omega), Option.bind_some, wi64_id (by omega) (by omega)]
            have e1 : pickC l (fun k => 2 * k) k ++ [lget (ByteArray.empty, (0, (0, (0, 0)))) l ((2 * k : Nat) : Int)] = pickC l (fun k => 2 * k) (k + 1) := by
              unfold pickC
              rw [range_map_succ]
            rw [e1, show ((2 * k : Nat) : Int) + 2 = ((2 * (k + 1) : Nat) : Int) by omega]
          · simp only
            rw [dec_false (show ¬ ((2 * m : Nat) : Int) < (l.length : Int) by omega), cond_false]
        refine Option.bind_eq_some_iff.2 ⟨M, hloop1, ?_⟩
        rw [CopyReadings_ok (by omega), Option.bind_some]
        obtain ⟨own, hown⟩ : ∃ own, own = madeR c M r r.length := ⟨_, rfl⟩
        have hol : own.length = r.length := by rw [hown, madeR_len]
        have hog : ∀ j, j < r.length → lget r0 own (j : Int) = ((lget r0 r (j : Int)).1, ((lget r0 r (j : Int)).2.1, M.any fun o => predB c o (lget r0 r (j : Int)))) := fun j hj => by
          rw [hown, madeR_get hj, if_pos hj]
        have hoerr : ∀ j, j < r.length → readErr c (lget r0 own (j : Int)) = 0 := fun j hj => by rw [hog j hj]; exact hrr j hj
        have hoin1 : ∀ j, j < r.length → ReadIn (lget r0 own (j : Int)) := fun j hj => by
          have := hri _ (lget_mem (d := r0) hj)
          rw [hog j hj]
          exact this
        have hoin : ∀ x, x ∈ own → ReadIn x := fun x hx => by
          obtain ⟨j, hj, rfl⟩ := List.getElem_of_mem hx
          rw [← lget_getD (d := r0) hj]
          exact hoin1 j (by omega)
        have hore : readsE c own = 0 := by
          unfold readsE
          rw [if_neg (by omega), findF_none.2 fun i _ hi => ?_]
          · rfl
          · unfold readR
            rw [if_pos (hoerr i (by omega))]
        have hpred : ∀ (o : Dapi_TraceCause) j, j < r.length → predB c o (lget r0 own (j : Int)) = predB c o (lget r0 r (j : Int)) := fun o j hj => by
          rw [hog j hj]
          exact predB_pres (p := M.any fun o => predB c o (lget r0 r (j : Int))) (q := (lget r0 r (j : Int)).2.2)
        have hpres : ∀ j, j < r.length → presB own j = M.any fun o => predB c o (lget r0 own (j : Int)) := fun j hj => by
          have e : (M.any fun o => predB c o (lget r0 own (j : Int))) = M.any fun o => predB c o (lget r0 r (j : Int)) := by
            congr 1; funext o; exact hpred o j hj
          rw [e]
          unfold presB
          rw [hog j hj]
        refine Option.bind_eq_some_iff.2 ⟨.inl own, ?_, ?_⟩
        · rw [hown]
          refine loopM_upto (fun i => ((i : Int), madeR c M r i)) r.length (by rw [madeR_zero]; rfl) (fun i hi => ?_) ?_
          · simp only
            have hg : lget (0, (0, false)) (madeR c M r i) (i : Int) = lget r0 r (i : Int) := by
              have := madeR_get (c := c) (m := M) (n := i) hi
              rwa [if_neg (by omega)] at this
            have hread := hri _ (lget_mem (d := r0) hi)
            rw [madeR_len, dec_true (show (i : Int) < (r.length : Int) by omega), cond_true, CopyCourse_ok h1 h2 h3 h4, Option.bind_some, CopyCauses_ok (by omega), Option.bind_some, dec_true (show (0 : Int) ≤ (i : Int) by omega), Bool.and_self, chk_true rfl, hg]
            rw [tPredicts_ok hv hoM (by omega) hcM hread, Option.bind_some, if_pos (hrr i hi)]
            simp only
            rw [show ((0 : Int) != 0) = false from rfl, cond_false, chk_true rfl, madeR_set, wi64_id (by omega) (by omega)]
            rfl
          · simp only
            rw [madeR_len, dec_false (show ¬ (r.length : Int) < (r.length : Int) by omega), cond_false]
        · simp only
          have hfM : firstR c M own = none := by
            unfold firstR
            refine findF_none.2 fun i _ hi => clash_none.2 ?_
            exact (hpres i (by omega)).symm
          rw [CopyCourse_ok h1 h2 h3 h4, Option.bind_some, CopyCauses_ok (by omega), Option.bind_some, CopyReadings_ok (by omega), Option.bind_some, Contra_ok hv hoM (by omega) hcM hoin, Option.bind_some, if_pos hore, hfM]
          simp only
          rw [show ((12 : Int) != 12) = false from rfl, cond_false, Option.bind_some, CopyCauses_ok (by omega), Option.bind_some, Option.bind_some]
          have hcl : ∀ k, k < l.length → CauseOk c (lget d0 l (k : Int)) := fun k hk => causeOk_of (hz k hk)
          have hol0 : trace_openCauses c l = some ((c, stripsQ c (c.2.2.2.length + 1)), (0, 0)) := by
            rw [a1]
            have : p.1 = 0 ∧ p.2 = 0 := by
              have : findF (causeR c l) 0 l.length = none := findF_none.2 fun i _ hi => by
                unfold causeR
                rw [if_pos (hz i (by omega))]
              rw [this] at hp
              rw [hp]
              exact ⟨rfl, rfl⟩
            obtain ⟨e1, e2⟩ := this
            rw [show p = (p.1, p.2) from rfl, e1, e2]
          obtain ⟨E, hE, hx⟩ := (tExplanations_ok hv hol0 hl5 hcl hoin).2 hore
          rw [hx, Option.bind_some]
          have hev := evenS_ok hl5
          have hagree : agreeB (tabB c l own) (presB own) own.length (2 ^ own.length - 1) (evenS l.length) = true := agree_iff.2 fun j hj _ => by
            have e1 := hit_even (l := l) hl5 (p := fun o => predB c o (lget r0 own (j : Int)))
            rw [← hm, ← hM] at e1
            rw [show tabB c l own j = fun (k : Nat) => predB c (lget d0 l (k : Int)) (lget r0 own (j : Int)) from rfl, e1, hpres j (by omega)]
          have hEne : E ≠ [] := fun e => by
            have := (isE_nil hE).1 e _ hev.2
            rw [hagree] at this
            cases this
          have h32 : 2 ^ l.length ≤ 32 := Nat.pow_le_pow_right (n := 2) (by decide) hl5
          have hnd : E.Nodup := hE.srt.imp fun {a b} h e => by subst e; exact less_asymm h h
          have hE32 : E.length ≤ 32 := by
            have := nodup_len (N := 2 ^ l.length) hnd fun s hs => ((hE.mem s).1 hs).1
            omega
          have hE0 : 0 < E.length := List.length_pos_iff.2 hEne
          rw [if_neg hEne]
          simp only
          rw [List.length_map, show ((0 : Int) != 0) = false from rfl, show ((E.length : Int) == 0) = false by rw [beq_eq_false_iff_ne]; omega, dec_false (show ¬ (E.length : Int) > 32 by omega), show ((false || false) || false) = false from rfl, cond_false]
          have hsl : ((List.range l.length).filter (fitsB c l own)).length ≤ 5 := by
            have := List.length_filter_le (fitsB c l own) (List.range l.length)
            rw [List.length_range] at this
            omega
          refine Option.bind_eq_some_iff.2 ⟨.inl (((List.range l.length).filter (fitsB c l own)).length : Int), ?_, ?_⟩
          · refine loopM_upto (fun i => ((((List.range i).filter (fitsB c l own)).length : Int), (i : Int))) l.length rfl (fun i hi => ?_) ?_
            · simp only
              have hpk : [lget (ByteArray.empty, (0, (0, (0, 0)))) l (i : Int)] = pickC l (fun _ => i) 1 := rfl
              obtain ⟨hoO, hcO⟩ := openC_pick (l := l) (m := 1) q1 (f := fun _ => i) (fun _ _ => hi) (fun j k hjk hk => by omega) (by omega) hls hz
              have hfle : ((List.range i).filter (fitsB c l own)).length ≤ 5 := by
                have := List.length_filter_le (fitsB c l own) (List.range i)
                rw [List.length_range] at this
                omega
              have hany : ∀ x, ((pickC l (fun _ => i) 1).any fun o => predB c o x) = predB c (lget d0 l (i : Int)) x := fun x => by
                rw [← hpk]
                simp
              rw [dec_true (show (i : Int) < (l.length : Int) by omega), cond_true, chk_true (and_true' (dec_true (by omega)) rfl), hpk, Option.bind_some, Option.bind_some, Contra_ok hv hoO (by rw [pickC_len]; omega) hcO hoin, Option.bind_some, if_pos hore]
              cases hfo : firstR c (pickC l (fun _ => i) 1) own with
              | none =>
                have hfit : fitsB c l own i = true := (fits_iff (by omega)).2 fun j hj => by
                  have := clash_none.1 (findF_none.1 hfo j (by omega) (by omega))
                  rwa [hany] at this
                simp only
                rw [show ((12 : Int) == 12) = true from rfl, cond_true, wi64_id (by omega) (by omega), wi64_id (by omega) (by omega), filter_range_succ, if_pos hfit, List.length_append, List.length_singleton]
                rfl
              | some v =>
                obtain ⟨j, hj1, hj2, hj3, _⟩ := findF_some hfo
                have hjr : j < r.length := by omega
                obtain rfl := clash_val hj3
                have hcj : predB c (lget d0 l (i : Int)) (lget r0 own (j : Int)) ≠ presB own j := fun e => by
                  have := clash_none.2 ((hany (lget r0 own (j : Int))).trans e)
                  rw [this] at hj3
                  cases hj3
                have hfit : fitsB c l own i = false := by
                  cases hb : fitsB c l own i with
                  | false => rfl
                  | true => exact absurd ((fits_iff (by omega)).1 hb j (by omega)) hcj
                simp only
                rw [show ((0 : Int) == 12) = false from rfl, cond_false, show ((0 : Int) != 0) = false from rfl, cond_false, Within_ok, Option.bind_some, Option.bind_some, wi64_id (x := (own.length : Int) - 1) (by omega) (by omega), dec_true (show (0 : Int) ≤ (j : Int) ∧ (j : Int) ≤ (own.length : Int) - 1 by omega), Bool.not_true, cond_false, Option.bind_some, chk_idx (by omega)]
                rw [tPredicts_ok hv hoO (by rw [pickC_len]; omega) hcO (hoin1 j hjr), Option.bind_some, if_pos (hoerr j hjr)]
                simp only
                rw [show ((0 : Int) != 0) = false from rfl, cond_false, chk_idx (by omega), Option.bind_some, hany]
                have hne : (predB c (lget d0 l (i : Int)) (lget r0 own (j : Int)) == (lget (0, (0, false)) own (j : Int)).2.2) = false := by
                  rw [beq_eq_false_iff_ne]
                  exact hcj
                rw [hne, cond_false, wi64_id (by omega) (by omega), filter_range_succ, if_neg (by rw [hfit]; decide), List.append_nil]
                rfl
            · simp only
              rw [dec_false (show ¬ (l.length : Int) < (l.length : Int) by omega), cond_false]
          · simp only
            refine Option.bind_eq_some_iff.2 ⟨.inl (), ?_, rfl⟩
            refine loopM_upto (fun i => (i : Int)) E.length rfl (fun i hi => ?_) ?_
            · have hgi : lget [] (E.map memL) (i : Int) = memL E[i] := by
                rw [lget_getD (by rw [List.length_map]; exact hi), List.getElem_map]
              have hmi : E[i] ∈ E := List.getElem_mem hi
              obtain ⟨b1, b2, b3⟩ := (hE.mem E[i]).1 hmi
              have hsz := b3 _ hev.2 hagree
              have hszM : sizeN (evenS l.length) = m := by
                unfold sizeN
                rw [hev.1, List.length_map, List.length_range, hm]
              have hle : (memL E[i]).length ≤ m := by
                have : sizeN E[i] = (memL E[i]).length := rfl
                omega
              rw [dec_true (show (i : Int) < (E.length : Int) by omega), cond_true, chk_true (and_true' (dec_true (by omega)) rfl), hgi, hMl, dec_false (show ¬ ((memL E[i]).length : Int) > (m : Int) by omega), cond_false, chk_true (and_true' (dec_true (by omega)) rfl), Option.bind_some]
              have hcond : (((memL E[i]).length : Int) == 1 && ((((List.range l.length).filter (fitsB c l own)).length : Int) != (E.length : Int))) = false := by
                by_cases h1 : (memL E[i]).length = 1
                · have := alone_len hl5 hE hmi h1
                  rw [show ((List.range l.length).filter (fitsB c l own)).length = E.length from this, bne_self_eq_false, Bool.and_false]
                · rw [show (((memL E[i]).length : Int) == 1) = false by rw [beq_eq_false_iff_ne]; omega, Bool.false_and]
              rw [hcond, cond_false, wi64_id (by omega) (by omega)]
              rfl
            · rw [dec_false (show ¬ (E.length : Int) < (E.length : Int) by omega), cond_false]
      · rw [show (readsE c r != 0) = true by rw [bne_iff_ne]; exact hre]
        rfl
    · rw [show (p.2 != 0) = true by rw [bne_iff_ne]; exact hp0, Bool.true_or]
      rfl
end Go.Lift
