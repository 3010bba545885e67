/-
  Numbers of so many digits; the rules of passes.
-/
import Derived.Test.YtkoojmbkjgbdgaaGreatDoorPlainB
set_option linter.unusedSectionVars false
set_option linter.unusedVariables false
set_option linter.unusedSimpArgs false
set_option linter.unusedVariables false
set_option linter.unusedSimpArgs false
namespace Go.Lift
open Go
theorem wu8_dig {b : UInt8} (h : isD b = true) : wu8 ((b.toNat : Int) - 48) = ((b.toNat - 48 : Nat) : Int) := by
  have hb := isD_iff.1 h
  have : wu8 ((b.toNat : Int) - 48) = ((b.toNat : Int) - 48) % 256 := wrap_u .u8 rfl _
  omega
theorem loop_num {s : ByteArray} (hs : s.size ≤ 60000) {rest pre : List UInt8} {n k : Nat} (h : s.data.toList = pre ++ rest) (hn : n < 10 ^ k) (hk : k + rest.length ≤ 14) :
    loopM (S := Int × Int) (R := (Int) ⊕ (Int × Bool)) (fun s_1 =>
      let n : Int := s_1.1
      let i : Int := s_1.2
      bif decide (i < (ByteArray.size s : Int)) then
        chk (decide ((0 : Int) ≤ i) && decide (i < (ByteArray.size s : Int))) (
          (bif decide ((sget s i) < 48) then some true else
            chk (decide ((0 : Int) ≤ i) && decide (i < (ByteArray.size s : Int))) (
              some (decide ((sget s i) > 57)))).bind fun (c_2 : Bool) =>
          bif c_2 then
            Option.map Sum.inr (Option.map Sum.inr (
              some (0, false)))
          else
            chk (decide ((0 : Int) ≤ i) && decide (i < (ByteArray.size s : Int))) (
              let n_1 : Int := wi64 ((wi64 (10 * n)) + (wi64 (wu8 ((sget s i) - 48))))
              some (.inl (n_1, wi64 (i + 1)))))
      else
        some (.inr (.inl n))) ((n : Int), (pre.length : Int)) = some (if rest.all isD = true then .inl ((valL n rest : Nat) : Int) else .inr (0, false)) := by
  have hsz := size_len s
  refine loopM_list_eq (X := UInt8) (fun r st => ∃ (p : List UInt8) (m j : Nat), st = ((m : Int), (p.length : Int)) ∧ s.data.toList = p ++ r ∧ m < 10 ^ j ∧ j + r.length ≤ 14 ∧ (if r.all isD = true then (.inl ((valL m r : Nat) : Int) : Int ⊕ (Int × Bool)) else .inr (0, false)) = if rest.all isD = true then .inl ((valL n rest : Nat) : Int) else .inr (0, false)) ?_ ?_ ⟨pre, n, k, rfl, h, hn, hk, rfl⟩
  · rintro b r _ ⟨p, m, j, rfl, h1, h2, h3, h4⟩
    have hl := congrArg List.length h1
    rw [List.length_append, List.length_cons] at hl
    rw [List.length_cons] at h3
    have hg : sget s (p.length : Int) = (b.toNat : Int) := sget_mid h1
    have hck : (decide ((0 : Int) ≤ (p.length : Int)) && decide ((p.length : Int) < (s.size : Int))) = true := and_true' (dec_true (by omega)) (dec_true (by omega))
    have hj : (10 : Nat) ^ j ≤ 10 ^ 14 := Nat.pow_le_pow_right (by decide) (by omega)
    rw [show (10 : Nat) ^ 14 = 100000000000000 from rfl] at hj
    simp only [hg]
    rw [dec_true (show (p.length : Int) < (s.size : Int) by omega), cond_true, chk_true (and_true' (dec_true (by omega)) rfl)]
    have hck' : (decide ((0 : Int) ≤ (p.length : Int)) && true) = true := and_true' (dec_true (by omega)) rfl
    rw [chk_true hck', chk_true hck']
    by_cases hd : isD b = true
    · have hb := isD_iff.1 hd
      refine Or.inl ⟨(((m * 10 + (b.toNat - 48) : Nat) : Int), ((p ++ [b]).length : Int)), ?_, p ++ [b], m * 10 + (b.toNat - 48), j + 1, rfl, by rw [h1]; simp, by rw [Nat.pow_succ]; omega, by omega, ?_⟩
      · rw [dec_false (show ¬ (b.toNat : Int) < 48 by omega), cond_false, dec_false (show ¬ (b.toNat : Int) > 57 by omega), Option.bind_some, cond_false, wu8_dig hd, wi64_id (x := ((b.toNat - 48 : Nat) : Int)) (by omega) (by omega), wi64_id (x := 10 * (m : Int)) (by omega) (by omega), wi64_id (by omega) (by omega), wi64_id (by omega) (by omega), List.length_append, List.length_singleton]
        congr 3
        omega
      · rw [← h4]
        have e1 : (b :: r).all isD = r.all isD := by rw [List.all_cons, hd, Bool.true_and]
        rw [e1]; rfl
    · refine Or.inr ?_
      have e1 : (b :: r).all isD = false := by rw [List.all_cons]; simp [hd]
      rw [← h4, e1]
      have hor : ¬ (48 ≤ b.toNat ∧ b.toNat ≤ 57) := fun e => hd (isD_iff.2 e)
      by_cases h48 : (b.toNat : Int) < 48
      · rw [dec_true h48, cond_true, Option.bind_some, cond_true]; rfl
      · rw [dec_false h48, cond_false, dec_true (show (b.toNat : Int) > 57 by omega), Option.bind_some, cond_true]; rfl
  · rintro _ ⟨p, m, j, rfl, h1, h2, h3, h4⟩
    have hl := congrArg List.length h1
    rw [List.length_append, List.length_nil] at hl
    simp only []
    rw [dec_false (show ¬ (p.length : Int) < (s.size : Int) by omega), cond_false, ← h4]
    rfl
theorem atoiAll_range {l : List UInt8} {v : Int} (h : Lib.atoiAll l = .ok v) : -9223372036854775808 ≤ v ∧ v ≤ 9223372036854775807 := by
  unfold Lib.atoiAll at h
  split at h
  · cases h
  · simp only at h
    split at h
    · cases h
    · cases h
    · split at h
      · cases h
      · split at h
        · cases h
        · rename_i h1 h2
          injection h with h
          subst h
          split <;> omega
theorem atoiN_range {l : List UInt8} (h : (atoiN l).2 = true) : -9223372036854775808 ≤ (atoiN l).1 ∧ (atoiN l).1 ≤ 9223372036854775807 := by
  unfold atoiN at h ⊢
  split at h
  · rename_i v hv; exact atoiAll_range hv
  · cases h
  · cases h
theorem Atoi_ok {s : ByteArray} (hs : s.size ≤ 60000) : strconv_Atoi s = some (atoiN s.data.toList) := by
  show atoiF s = _
  unfold atoiF
  rw [dec_true (show s.size ≤ 4294967280 by omega), cond_true]
theorem back_num {D : Nat} (hD : D ≤ 14) {s : ByteArray} (hs : s.size ≤ 60000) (hc : (atoiN s.data.toList).2 = true ∧ (atoiN s.data.toList).1 ≥ 0) : strconv_Itoa (atoiN s.data.toList).1 = some (bof (Lib.itoa (atoiN s.data.toList).1)) ∧ (∀ n, numD D s.data.toList = some n → (seqb (bof (Lib.itoa (atoiN s.data.toList).1)) s && decide (s.size ≤ D)) = true) ∧ (numD D s.data.toList = none → (seqb (bof (Lib.itoa (atoiN s.data.toList).1)) s && decide (s.size ≤ D)) = false) := by
  have hsz := size_len s
  have hr := atoiN_range hc.1
  refine ⟨Itoa_ok hr.1 hr.2, fun n hn => ?_, fun hn => ?_⟩
  · have h1 := atoi_num hD hn
    obtain ⟨h2, h3⟩ := numD_iff.1 hn
    rw [h1, seqb_data, data_bof, itoa_nat, ← h2, beq_self_eq_true, dec_true (by omega)]
    rfl
  · rw [Bool.eq_false_iff]
    intro h
    rw [Bool.and_eq_true, decide_eq_true_eq, seqb_data, data_bof, beq_iff_eq] at h
    obtain ⟨v, hv⟩ : ∃ v : Nat, (atoiN s.data.toList).1 = (v : Int) := ⟨(atoiN s.data.toList).1.toNat, by omega⟩
    rw [hv, itoa_nat] at h
    rw [numD_iff.2 ⟨h.1.symm, by omega⟩] at hn
    cases hn
theorem model_number_ok {s : ByteArray} (hs : s.size ≤ 60000) : ∃ r : Int × Bool, model_number s = some r ∧ (∀ n, numD 7 s.data.toList = some n → r = ((n : Int), true)) ∧ (numD 7 s.data.toList = none → r.2 = false) := by
  unfold model_number
  rw [Atoi_ok hs, Option.bind_some]
  have e7 : decide ((s.size : Int) ≤ 7) = decide (s.size ≤ 7) := by rw [decide_eq_decide]; omega
  by_cases hc : ((atoiN s.data.toList).2 && decide ((atoiN s.data.toList).1 ≥ 0)) = true
  · rw [hc, cond_true]
    rw [Bool.and_eq_true, decide_eq_true_eq] at hc
    obtain ⟨h1, h2, h3⟩ := back_num (D := 7) (by decide) hs hc
    rw [h1, Option.bind_some, Option.bind_some]
    refine ⟨_, rfl, fun n hn => ?_, fun hn => ?_⟩
    · rw [e7, h2 n hn, atoi_num (by decide) hn]
    · show (_ && _) = false
      rw [e7]; exact h3 hn
  · rw [Bool.not_eq_true] at hc
    rw [hc, cond_false, Option.bind_some]
    refine ⟨_, rfl, fun n hn => ?_, fun _ => rfl⟩
    rw [atoi_num (by decide) hn] at hc
    simp only [Bool.true_and, decide_eq_false_iff_not] at hc
    omega
theorem numD_minus {D : Nat} {l : List UInt8} : numD D (45 :: l) = none := by
  unfold numD
  rw [if_neg]
  rintro ⟨_, _, h, _⟩
  rw [List.all_cons, Bool.and_eq_true] at h
  exact absurd h.1 (by decide)
theorem Number_ok {D : Nat} (hD : D ≤ 14) (hD1 : 1 ≤ D) {s : ByteArray} (hs : s.size ≤ 60000) : ∃ r : Int × Bool, b0_Number s (D : Int) = some r ∧ (∀ n, numD D s.data.toList = some n → r = ((n : Int), true)) ∧ (numD D s.data.toList = none → (r.2 && decide (r.1 ≥ 0)) = false) := by
  have hsz := size_len s
  have hN : ∃ r : Int × Bool, b0_Number s (D : Int) = some r ∧ (∀ n, numD D s.data.toList = some n → r = ((n : Int), true)) ∧ (numD D s.data.toList = none → (r.2 && decide (r.1 ≥ 0)) = false) := by
    unfold b0_Number
    cases hl : s.data.toList with
    | nil =>
      rw [hl, List.length_nil] at hsz
      rw [hsz]
      refine ⟨(0, false), rfl, fun n hn => ?_, fun _ => rfl⟩
      unfold numD at hn
      rw [if_neg (fun e => e.1 rfl)] at hn
      cases hn
    | cons b l =>
      have h0 : sget s 0 = (b.toNat : Int) := sget_mid (pre := []) hl
      rw [hl, List.length_cons] at hsz
      rw [dec_true (show (s.size : Int) > 0 by omega), cond_true, chk_true (and_true' (dec_true (by omega)) rfl), h0, Option.bind_some]
      by_cases hb : b = 45
      · subst hb
        rw [show (((45 : UInt8).toNat : Int) == 45) = true from rfl, cond_true, Option.bind_some]
        cases hc : (((ByteArray.size s : Int) == 1) || (decide ((wi64 ((ByteArray.size s : Int) - 1)) > (D : Int)))) with
        | true =>
          rw [cond_true, Option.bind_some, cond_true]
          refine ⟨_, rfl, fun n hn => ?_, fun _ => rfl⟩
          rw [numD_minus] at hn; cases hn
        | false =>
          rw [Bool.or_eq_false_iff, beq_eq_false_iff_ne, decide_eq_false_iff_not, wi64_id (by omega) (by omega)] at hc
          have hll := loop_num hs (pre := [45]) (rest := l) (n := 0) (k := 0) hl (by decide) (by omega)
          rw [cond_false, chk_true (and_true' (dec_true (by omega)) (dec_true (by omega))), Option.bind_some]
          cases h48 : ((sget s 1 == 48) && (decide ((ByteArray.size s : Int) > 1))) with
          | true =>
            rw [cond_true]
            refine ⟨_, rfl, fun n hn => ?_, fun _ => rfl⟩
            rw [numD_minus] at hn; cases hn
          | false =>
            rw [cond_false]
            rw [show ((0 : Nat) : Int) = 0 from rfl, show (([45] : List UInt8).length : Int) = 1 from rfl] at hll
            rw [hll, Option.bind_some]
            by_cases hd : l.all isD = true
            · rw [if_pos hd]
              simp only []
              rw [show ((1 : Int) == 1) = true from rfl, cond_true, Option.bind_some]
              refine ⟨_, rfl, fun n hn => ?_, fun _ => ?_⟩
              · rw [numD_minus] at hn; cases hn
              · have hne : l ≠ [] := fun e => by rw [e] at hsz; simp only [List.length_nil] at hsz; omega
                have hh : l.head? ≠ some 48 := by
                  cases l with
                  | nil => exact absurd rfl hne
                  | cons x r =>
                    intro e
                    have ex : x = 48 := by simpa using e
                    subst ex
                    have h1 : sget s 1 = ((48 : UInt8).toNat : Int) := sget_mid (pre := [45]) (post := r) hl
                    rw [h1, dec_true (show (ByteArray.size s : Int) > 1 by omega)] at h48
                    cases h48
                have hv := (digits_val l.length rfl hne hd (Or.inr hh)).2 hh
                have hlt := valL_lt (a := 0) (k := 0) hd (by decide)
                rw [Nat.zero_add] at hlt
                have hlt : valL 0 l < 10 ^ 14 := Nat.lt_of_lt_of_le hlt (Nat.pow_le_pow_right (by decide) (by omega))
                rw [show (10 : Nat) ^ 14 = 100000000000000 from rfl] at hlt
                show (true && decide (wi64 (0 - ((valL 0 l : Nat) : Int)) ≥ 0)) = false
                rw [wi64_id (by omega) (by omega), dec_false (by omega)]
                rfl
            · rw [if_neg hd]
              refine ⟨_, rfl, fun n hn => ?_, fun _ => rfl⟩
              rw [numD_minus] at hn; cases hn
      · have hne : ((b.toNat : Int) == 45) = false := by
          rw [beq_eq_false_iff_ne]; intro e; exact hb (UInt8.toNat_inj.1 (by show b.toNat = 45; omega))
        rw [hne, cond_false, Option.bind_some, show ((s.size : Int) == 0) = false by rw [beq_eq_false_iff_ne]; omega, Bool.false_or, Int.sub_zero, wi64_id (by omega) (by omega)]
        by_cases h7 : s.size ≤ D
        · rw [dec_false (show ¬ (s.size : Int) > (D : Int) by omega), cond_false, chk_true (and_true' (dec_true (by omega)) (dec_true (by omega))), h0, Option.bind_some]
          have hll := loop_num hs (pre := []) (rest := b :: l) (n := 0) (k := 0) hl (by decide) (by rw [List.length_cons]; omega)
          rw [show ((0 : Nat) : Int) = 0 from rfl, show (([] : List UInt8).length : Int) = 0 from rfl] at hll
          by_cases h0s : b = 48 ∧ 1 < s.size
          · rw [h0s.1, show (((48 : UInt8).toNat : Int) == 48) = true from rfl, dec_true (show (s.size : Int) > 1 by omega), Bool.true_and, cond_true]
            refine ⟨_, rfl, fun n hn => ?_, fun _ => rfl⟩
            unfold numD at hn
            rw [if_neg (fun e => by
              rcases e.2.2.2 with e | e
              · rw [List.length_cons] at e; omega
              · exact e rfl)] at hn
            cases hn
          · have hc : (((b.toNat : Int) == 48) && decide ((s.size : Int) > 1)) = false := by
              cases hx : (((b.toNat : Int) == 48) && decide ((s.size : Int) > 1)) with
              | false => rfl
              | true =>
                rw [Bool.and_eq_true, beq_iff_eq, decide_eq_true_iff] at hx
                exact absurd ⟨UInt8.toNat_inj.1 (by show b.toNat = 48; omega), by omega⟩ h0s
            rw [hc, cond_false, hll, Option.bind_some]
            have hnum : numD D (b :: l) = if (b :: l).all isD = true then some (valL 0 (b :: l)) else none := by
              unfold numD
              by_cases hd : (b :: l).all isD = true
              · have hx : (b :: l).length = 1 ∨ (b :: l).head? ≠ some 48 := by
                  rw [List.length_cons]
                  by_cases hb48 : b = 48
                  · exact Or.inl (by have : ¬ 1 < s.size := fun e => h0s ⟨hb48, e⟩; omega)
                  · exact Or.inr (fun e => hb48 (by simpa using e))
                rw [if_pos hd, if_pos ⟨List.cons_ne_nil _ _, by rw [List.length_cons]; omega, hd, hx⟩]
              · rw [if_neg hd, if_neg (fun e => hd e.2.2.1)]
            rw [hnum]
            by_cases hd : (b :: l).all isD = true
            · rw [if_pos hd, if_pos hd]
              refine ⟨_, rfl, fun n hn => (by cases hn; rfl), fun e => (by cases e)⟩
            · rw [if_neg hd, if_neg hd]
              refine ⟨_, rfl, fun n hn => (by cases hn), fun _ => rfl⟩
        · rw [dec_true (show (s.size : Int) > (D : Int) by omega), cond_true, Option.bind_some, cond_true]
          refine ⟨_, rfl, fun n hn => ?_, fun _ => rfl⟩
          unfold numD at hn
          rw [if_neg (fun e => by have := e.2.1; rw [List.length_cons] at this; omega)] at hn
          cases hn
  exact hN
end Go.Lift
set_option linter.unusedVariables false
set_option linter.unusedSimpArgs false
namespace Go.Lift
open Go
def numsL (D : Nat) : List (List UInt8) → Option (List Int)
  | [] => some []
  | w :: l => (numD D w).bind fun n => (numsL D l).map fun r => (n : Int) :: r
def resN : Option (List Int) → List Int ⊕ (List Int × Bool)
  | some l => .inl l
  | none => .inr ([], false)
theorem nums_loop {F : List Int × Int → Option ((List Int × Int) ⊕ ((List Int) ⊕ (List Int × Bool)))} {ws : List (List UInt8)}
    (hstep : ∀ pre w post out, ws = pre ++ w :: post → out.length = pre.length → F (out, (pre.length : Int)) = match numD 13 w with | some n => some (.inl (out ++ [(n : Int)], (pre.length : Int) + 1)) | none => some (.inr (.inr ([], false))))
    (hend : ∀ out, F (out, (ws.length : Int)) = some (.inr (.inl out))) : loopM F ([], 0) = some (resN (numsL 13 ws)) := by
  refine loopM_list_eq (X := List UInt8) (l := ws) (fun l' s => ∃ pre out, ws = pre ++ l' ∧ s = (out, (pre.length : Int)) ∧ out.length = pre.length ∧ numsL 13 ws = (numsL 13 l').map fun r => out ++ r) ?_ ?_ ⟨[], [], rfl, rfl, rfl, by cases numsL 13 ws <;> rfl⟩
  · rintro w l' _ ⟨pre, out, e1, rfl, e2, e3⟩
    have h := hstep pre w l' out e1 e2
    cases hn : numD 13 w with
    | none =>
      right
      rw [h, e3, hn]
      show _ = some (Sum.inr (resN (((numD 13 w).bind _).map _)))
      rw [hn]; rfl
    | some n =>
      left
      rw [hn] at h
      refine ⟨_, h, pre ++ [w], out ++ [(n : Int)], by rw [e1]; simp, by rw [List.length_append, List.length_singleton]; rfl, by rw [List.length_append, List.length_append, List.length_singleton, List.length_singleton, e2], ?_⟩
      rw [e3]
      show (((numD 13 w).bind _).map _) = _
      rw [hn, Option.bind_some]
      cases numsL 13 l' with
      | none => rfl
      | some r => simp
  · rintro _ ⟨pre, out, e1, rfl, e2, e3⟩
    rw [List.append_nil] at e1
    subst e1
    rw [hend, e3]
    simp [resN, numsL]
theorem pass_numbers_ok {ws : List (List UInt8)} (hl : ws.length ≤ 60000) (hw : ∀ w ∈ ws, w.length ≤ 60000) : pass_numbers (ws.map bof) = some (match numsL 13 ws with | some l => (l, true) | none => ([], false)) := by
  unfold pass_numbers
  refine Option.bind_eq_some_iff.2 ⟨_, nums_loop (ws := ws) ?_ ?_, by cases numsL 13 ws <;> rfl⟩
  · intro pre w post out e1 e2
    have hL : ws.length = pre.length + (post.length + 1) := by rw [e1, List.length_append, List.length_cons]
    have g1 : lget ByteArray.empty (ws.map bof) (pre.length : Int) = bof w := by rw [e1]; exact lget_map
    have hs : (bof w).size ≤ 60000 := hw w (by rw [e1]; simp)
    simp only
    rw [List.length_map, dec_true (show (pre.length : Int) < (ws.length : Int) by omega), cond_true, chk_true (and_true' (dec_true (by omega)) rfl), g1, Atoi_ok hs, Option.bind_some]
    have e7 : decide ((bof w).size ≤ 13) = !decide (((bof w).size : Int) > 13) := by
      rw [← decide_not, decide_eq_decide]; omega
    by_cases hc : (atoiN w).2 = true ∧ (atoiN w).1 ≥ 0
    · obtain ⟨h1, h2, h3⟩ := back_num (D := 13) (by decide) hs hc
      rw [data_bof] at h1 h2 h3 ⊢
      rw [show (!(atoiN w).2 || decide ((atoiN w).1 < 0)) = false by rw [hc.1, dec_false (by omega)]; rfl, cond_false, h1, Option.bind_some, Option.bind_some]
      cases hn : numD 13 w with
      | none =>
        have := h3 hn
        rw [e7] at this
        have h4 : (!seqb (bof (Lib.itoa (atoiN w).1)) (bof w) || decide (((bof w).size : Int) > 13)) = true := by
          revert this; cases seqb (bof (Lib.itoa (atoiN w).1)) (bof w) <;> cases decide (((bof w).size : Int) > 13) <;> simp
        rw [h4, cond_true]; rfl
      | some n =>
        have := h2 n hn
        rw [e7] at this
        have h4 : (!seqb (bof (Lib.itoa (atoiN w).1)) (bof w) || decide (((bof w).size : Int) > 13)) = false := by
          revert this; cases seqb (bof (Lib.itoa (atoiN w).1)) (bof w) <;> cases decide (((bof w).size : Int) > 13) <;> simp
        rw [h4, cond_false, app_ok (by rw [List.length_singleton]; omega), Option.bind_some, wi64_id (by omega) (by omega), atoi_num (by decide) hn]
    · rw [data_bof, show (!(atoiN w).2 || decide ((atoiN w).1 < 0)) = true by
        cases h : (atoiN w).2 with
        | false => rfl
        | true => rw [dec_true (by have : ¬ (atoiN w).1 ≥ 0 := fun e => hc ⟨h, e⟩; omega)]; rfl, cond_true, Option.bind_some, Bool.true_or, cond_true]
      cases hn : numD 13 w with
      | none => rfl
      | some n => exact absurd (by rw [atoi_num (by decide) hn]; exact ⟨rfl, by simp⟩) hc
  · intro out
    simp only
    rw [List.length_map, dec_false (by omega), cond_false]
theorem parsed_ok {ws : List (List UInt8)} (hl : ws.length ≤ 60000) (hw : ∀ w ∈ ws, w.length ≤ 60000) : cobbleref03_parsed (ws.map bof) = some (match numsL 13 ws with | some l => (l, true) | none => ([], false)) := by
  unfold cobbleref03_parsed
  refine Option.bind_eq_some_iff.2 ⟨_, nums_loop (ws := ws) ?_ ?_, by cases numsL 13 ws <;> rfl⟩
  · intro pre w post out e1 e2
    have hL : ws.length = pre.length + (post.length + 1) := by rw [e1, List.length_append, List.length_cons]
    have g1 : lget ByteArray.empty (ws.map bof) (pre.length : Int) = bof w := by rw [e1]; exact lget_map
    have hs : (bof w).size ≤ 60000 := hw w (by rw [e1]; simp)
    simp only
    obtain ⟨r, h1, h2, h3⟩ := Number_ok (D := 13) (by decide) (by decide) hs
    rw [data_bof] at h2 h3
    rw [List.length_map, dec_true (show (pre.length : Int) < (ws.length : Int) by omega), cond_true, chk_true (and_true' (dec_true (by omega)) rfl), g1, show (13 : Int) = ((13 : Nat) : Int) from rfl, h1, Option.bind_some]
    cases hn : numD 13 w with
    | none =>
      have := h3 hn
      rw [show (!r.2 || decide (r.1 < 0)) = true by
        have e : decide (r.1 ≥ 0) = !decide (r.1 < 0) := by rw [← decide_not, decide_eq_decide]; omega
        rw [e] at this
        revert this; cases r.2 <;> cases decide (r.1 < 0) <;> simp, cond_true]
      rfl
    | some n =>
      rw [h2 n hn]
      simp only
      rw [dec_false (show ¬ (n : Int) < 0 by omega), Bool.not_true, Bool.false_or, cond_false, app_ok (by rw [List.length_singleton]; omega), Option.bind_some, wi64_id (by omega) (by omega)]
  · intro out
    simp only
    rw [List.length_map, dec_false (by omega), cond_false]
def inB (n lo hi : Int) : Bool := decide (lo ≤ n ∧ n ≤ hi)
def ordR (r : Int × Int) : Bool := decide (r.1 ≤ r.2)
theorem ordered_ok {l : List (Int × Int)} (hl : l.length ≤ 1000) : pass_ordered l = some (l.all ordR) := by
  have key : ∃ r, loopM (S := Int) (R := (Unit) ⊕ (Int)) (fun t =>
    bif decide (t < (List.length l : Int)) then
      chk (decide ((0 : Int) ≤ t) && decide (t < (List.length l : Int))) (
        (pass_ordered_1 (lget (0, 0) l t)).bind fun (t_1 : Bool) =>
        bif t_1 then
          Option.map Sum.inr (Option.map Sum.inr (
            some t))
        else
          some (.inl (wi64 (t + 1))))
    else
      some (.inr (.inl ()))) 0 = some r ∧ ((l.all ordR = true ∧ r = .inl ()) ∨ (l.all ordR = false ∧ ∃ n : Nat, r = .inr (n : Int))) := by
    refine loopM_list (X := Int × Int) (l := l) (fun l' s => ∃ pre, l = pre ++ l' ∧ s = (pre.length : Int) ∧ l.all ordR = l'.all ordR) _ ?_ ?_ ⟨[], rfl, rfl, rfl⟩
    · rintro x l' _ ⟨pre, e1, rfl, e2⟩
      have hL : l.length = pre.length + (l'.length + 1) := by rw [e1, List.length_append, List.length_cons]
      have g1 : ∀ d, lget d l (pre.length : Int) = x := fun d => by rw [e1]; exact lget_mid
      rw [dec_true (show (pre.length : Int) < (l.length : Int) by omega), cond_true, chk_true (and_true' (dec_true (by omega)) rfl), g1]
      unfold pass_ordered_1
      rw [Option.bind_some]
      have e3 : decide (x.1 > x.2) = !ordR x := by unfold ordR; rw [← decide_not, decide_eq_decide]; omega
      rw [e3]
      rw [List.all_cons] at e2
      cases h : ordR x with
      | true =>
        left
        rw [h, Bool.true_and] at e2
        rw [Bool.not_true, cond_false, wi64_id (by omega) (by omega)]
        exact ⟨_, rfl, pre ++ [x], by rw [e1]; simp, by rw [List.length_append, List.length_singleton]; rfl, e2⟩
      | false =>
        right
        rw [h, Bool.false_and] at e2
        exact ⟨_, rfl, .inr ⟨e2, _, rfl⟩⟩
    · rintro _ ⟨pre, e1, rfl, e2⟩
      rw [List.append_nil] at e1
      subst e1
      rw [dec_false (by omega), cond_false]
      exact ⟨_, rfl, .inl ⟨e2, rfl⟩⟩
  unfold pass_ordered slices_ContainsFunc_apiRange slices_IndexFunc_apiRange
  obtain ⟨r, h1, ⟨h2, rfl⟩ | ⟨h2, n, rfl⟩⟩ := key
  · rw [h1, h2]; rfl
  · rw [h1, h2]
    show some (!decide ((n : Int) ≥ 0)) = _
    rw [dec_true (by omega)]; rfl
def rngB (r : Dapi_PassRules) : Bool := inB r.1 1 2500 && inB r.2.1 1 1000 && inB r.2.2.1 1 1000 && inB r.2.2.2.1.1 0 20000 && inB r.2.2.2.1.2 0 20000 && inB r.2.2.2.2.1 0 20000 && inB r.2.2.2.2.2.2.1.1 1 100 && inB r.2.2.2.2.2.2.1.2 1 100 && inB r.2.2.2.2.2.2.2.1 0 100 && inB r.2.2.2.2.2.2.2.2 0 100
def ordB (r : Dapi_PassRules) : Bool := decide (r.2.2.1 ≤ r.2.1) && [r.2.2.2.1, r.2.2.2.2.2.2.1, r.2.2.2.2.2.2.2].all ordR
def srgB (s : Dapi_PassStand) : Bool := inB s.1 1 1000 && inB s.2.1 0 1000000000000 && inB s.2.2.1 0 1000000000000 && inB s.2.2.2.1 0 1000 && inB s.2.2.2.2 0 1000
def stE : Nat → List Dapi_PassStand → Int × Int
  | _, [] => (0, 0)
  | i, s :: l => if srgB s = false then ((i : Int), 2) else if ordR s.2.2.2 = false then ((i : Int), 9) else stE (i + 1) l
theorem stE_cons (i : Nat) (s : Dapi_PassStand) (l : List Dapi_PassStand) : stE i (s :: l) = if srgB s = false then ((i : Int), 2) else if ordR s.2.2.2 = false then ((i : Int), 9) else stE (i + 1) l := rfl
def prE (r : Dapi_PassRules) : Int × Int := if rngB r = false then (0, 2) else if ordB r = false then (0, 9) else if r.2.2.2.2.2.1.length = 0 then (0, 10) else if 6 < r.2.2.2.2.2.1.length then (0, 8) else stE 0 r.2.2.2.2.2.1
theorem st_loop {F : Int → Option (Int ⊕ (Unit ⊕ (Int × Int)))} {l : List Dapi_PassStand}
    (hstep : ∀ pre s post, l = pre ++ s :: post → F (pre.length : Int) = if srgB s = false then some (.inr (.inr ((pre.length : Int), 2))) else if ordR s.2.2.2 = false then some (.inr (.inr ((pre.length : Int), 9))) else some (.inl ((pre.length : Int) + 1)))
    (hend : F (l.length : Int) = some (.inr (.inl ()))) : ((loopM F 0).bind fun j => match j with
    | .inl _ => (
      some (0, 0))
    | .inr r => some r) = some (stE 0 l) := by
  have key : ∃ r, loopM F 0 = some r ∧ (match r with | .inl _ => (0, 0) | .inr r => r) = stE 0 l := by
    refine loopM_list (X := Dapi_PassStand) (l := l) (fun l' s => ∃ pre, l = pre ++ l' ∧ s = (pre.length : Int) ∧ stE 0 l = stE pre.length l') _ ?_ ?_ ⟨[], rfl, rfl, rfl⟩
    · rintro s l' _ ⟨pre, e1, rfl, e2⟩
      have h := hstep pre s l' e1
      rw [stE_cons] at e2
      rw [e2]
      by_cases h1 : srgB s = false
      · rw [if_pos h1] at h ⊢; exact .inr ⟨_, h, rfl⟩
      · rw [if_neg h1] at h ⊢
        by_cases h2 : ordR s.2.2.2 = false
        · rw [if_pos h2] at h ⊢; exact .inr ⟨_, h, rfl⟩
        · rw [if_neg h2] at h ⊢
          refine .inl ⟨_, h, pre ++ [s], by rw [e1]; simp, by rw [List.length_append, List.length_singleton]; rfl, ?_⟩
          rw [List.length_append, List.length_singleton]
    · rintro _ ⟨pre, e1, rfl, e2⟩
      rw [List.append_nil] at e1
      subst e1
      exact ⟨_, hend, by rw [e2]; rfl⟩
  obtain ⟨r, h1, h2⟩ := key
  rw [h1, Option.bind_some, ← h2]
  cases r <;> rfl
theorem cond_and {a b : Bool} : (bif a then some b else some false) = some (a && b) := by cases a <;> rfl
theorem cond_or {a b : Bool} : (bif a then some true else some b) = some (a || b) := by cases a <;> rfl
theorem holds_ok (b r : Int × Int) : pass_bounds_holds b r = some (inB r.1 b.1 b.2 && inB r.2 b.1 b.2) := by
  unfold pass_bounds_holds
  rw [pass_within_ok, Option.bind_some, pass_within_ok, Option.bind_some, cond_and, Option.bind_some]; rfl
theorem thick_ok (n : Int) : pass_isThickness n = some (inB n 1 1000) := by unfold pass_isThickness; rw [pass_within_ok]; rfl
theorem firstE_cons (x : Int) (l : List Int) : firstE (x :: l) = if x = 0 then firstE l else x := rfl
theorem pass_CheckRules_ok {r : Dapi_PassRules} (h : r.2.2.2.2.2.1.length ≤ 60000) : pass_CheckRules r = some (prE r) := by
  unfold pass_CheckRules
  have ho := ordered_ok (l := [r.2.2.2.1, r.2.2.2.2.2.2.1, r.2.2.2.2.2.2.2]) (by simp)
  simp only [pass_within_ok, thick_ok, holds_ok, Option.bind_some, cond_and, pass_unless_ok, ho]
  rw [pass_first_ok (by simp), Option.bind_some]
  have e1 : (inB r.1 1 2500 && inB r.2.1 1 1000 && inB r.2.2.1 1 1000 && (inB r.2.2.2.1.1 0 20000 && inB r.2.2.2.1.2 0 20000) && inB r.2.2.2.2.1 0 20000 && (inB r.2.2.2.2.2.2.1.1 1 100 && inB r.2.2.2.2.2.2.1.2 1 100) && (inB r.2.2.2.2.2.2.2.1 0 100 && inB r.2.2.2.2.2.2.2.2 0 100)) = rngB r := by
    unfold rngB; simp only [Bool.and_assoc]
  have e2 : (decide (r.2.2.1 ≤ r.2.1) && [r.2.2.2.1, r.2.2.2.2.2.2.1, r.2.2.2.2.2.2.2].all ordR) = ordB r := rfl
  simp only [inB] at e1
  simp only [inB]
  rw [e1, e2]
  unfold prE
  cases rngB r with
  | false => rfl
  | true =>
    cases ordB r with
    | false => rfl
    | true =>
      simp only [firstE_cons, cond_true, if_true, reduceCtorEq, if_false]
      by_cases h0 : r.2.2.2.2.2.1.length = 0
      · rw [dec_false (show ¬ (r.2.2.2.2.2.1.length : Int) > 0 by omega), if_pos h0]; rfl
      · rw [dec_true (show (r.2.2.2.2.2.1.length : Int) > 0 by omega), if_neg h0]
        by_cases h6 : 6 < r.2.2.2.2.2.1.length
        · rw [dec_false (show ¬ (r.2.2.2.2.2.1.length : Int) ≤ 6 by omega), if_pos h6]; rfl
        · rw [dec_true (show (r.2.2.2.2.2.1.length : Int) ≤ 6 by omega), if_neg h6]
          generalize r.2.2.2.2.2.1 = l at *
          show ((loopM _ 0).bind _) = _
          refine st_loop ?_ ?_
          · intro pre s post e1
            have hL : l.length = pre.length + (post.length + 1) := by rw [e1, List.length_append, List.length_cons]
            have g1 : ∀ d, lget d l (pre.length : Int) = s := fun d => by rw [e1]; exact lget_mid
            rw [dec_true (show (pre.length : Int) < (l.length : Int) by omega), cond_true, chk_true (and_true' (dec_true (by omega)) rfl)]
            simp only [g1]
            rw [ordered_ok (by simp), Option.bind_some, pass_first_ok (by simp), Option.bind_some]
            have e3 : (decide (1 ≤ s.1 ∧ s.1 ≤ 1000) && decide (0 ≤ s.2.1 ∧ s.2.1 ≤ 1000000000000) && decide (0 ≤ s.2.2.1 ∧ s.2.2.1 ≤ 1000000000000) && (decide (0 ≤ s.2.2.2.1 ∧ s.2.2.2.1 ≤ 1000) && decide (0 ≤ s.2.2.2.2 ∧ s.2.2.2.2 ≤ 1000))) = srgB s := by unfold srgB inB; simp only [Bool.and_assoc]
            rw [e3, show [s.2.2.2].all ordR = ordR s.2.2.2 by simp]
            rw [wi64_id (by omega) (by omega)]
            cases srgB s <;> cases ordR s.2.2.2 <;> rfl
          · rw [dec_false (by omega), cond_false]
theorem ref_CheckRules_ok {r : Dapi_PassRules} (h : r.2.2.2.2.2.1.length ≤ 60000) : cobbleref03_CheckRules r = some (prE r) := by
  unfold cobbleref03_CheckRules cobbleref03_isThickness cobbleref03_isHeat
  simp only [Within_ok, Option.bind_some, cond_or]
  have e1 : (!decide (1 ≤ r.1 ∧ r.1 ≤ 2500) || !decide (1 ≤ r.2.1 ∧ r.2.1 ≤ 1000) || !decide (1 ≤ r.2.2.1 ∧ r.2.2.1 ≤ 1000) || !decide (0 ≤ r.2.2.2.1.1 ∧ r.2.2.2.1.1 ≤ 20000) || !decide (0 ≤ r.2.2.2.1.2 ∧ r.2.2.2.1.2 ≤ 20000) || !decide (0 ≤ r.2.2.2.2.1 ∧ r.2.2.2.2.1 ≤ 20000) || !decide (1 ≤ r.2.2.2.2.2.2.1.1 ∧ r.2.2.2.2.2.2.1.1 ≤ 100) || !decide (1 ≤ r.2.2.2.2.2.2.1.2 ∧ r.2.2.2.2.2.2.1.2 ≤ 100) || !decide (0 ≤ r.2.2.2.2.2.2.2.1 ∧ r.2.2.2.2.2.2.2.1 ≤ 100) || !decide (0 ≤ r.2.2.2.2.2.2.2.2 ∧ r.2.2.2.2.2.2.2.2 ≤ 100)) = !rngB r := by
    unfold rngB inB; simp only [Bool.not_and]
  rw [e1]
  have e2 : (decide (r.2.2.1 > r.2.1) || decide (r.2.2.2.1.1 > r.2.2.2.1.2) || decide (r.2.2.2.2.2.2.1.1 > r.2.2.2.2.2.2.1.2) || decide (r.2.2.2.2.2.2.2.1 > r.2.2.2.2.2.2.2.2)) = !ordB r := by
    unfold ordB ordR
    simp only [List.all_cons, List.all_nil, Bool.and_true, Bool.not_and, ← decide_not, Int.not_le, Bool.or_assoc, gt_iff_lt]
  rw [e2]
  unfold prE
  cases rngB r with
  | false => rfl
  | true =>
    cases ordB r with
    | false => rfl
    | true =>
      simp only [Bool.not_true, cond_false, reduceCtorEq, if_false]
      by_cases h0 : r.2.2.2.2.2.1.length = 0
      · rw [show ((r.2.2.2.2.2.1.length : Int) == 0) = true by rw [h0]; rfl, if_pos h0]; rfl
      · rw [show ((r.2.2.2.2.2.1.length : Int) == 0) = false by rw [beq_eq_false_iff_ne]; omega, if_neg h0, cond_false]
        by_cases h6 : 6 < r.2.2.2.2.2.1.length
        · rw [dec_true (show (r.2.2.2.2.2.1.length : Int) > 6 by omega), if_pos h6]; rfl
        · rw [dec_false (show ¬ (r.2.2.2.2.2.1.length : Int) > 6 by omega), if_neg h6, cond_false]
          generalize r.2.2.2.2.2.1 = l at *
          refine st_loop ?_ ?_
          · intro pre s post e1
            have hL : l.length = pre.length + (post.length + 1) := by rw [e1, List.length_append, List.length_cons]
            have g1 : ∀ d, lget d l (pre.length : Int) = s := fun d => by rw [e1]; exact lget_mid
            rw [dec_true (show (pre.length : Int) < (l.length : Int) by omega), cond_true, chk_true (and_true' (dec_true (by omega)) rfl)]
            simp only [g1]
            have e3 : (!decide (1 ≤ s.1 ∧ s.1 ≤ 1000) || !decide (0 ≤ s.2.1 ∧ s.2.1 ≤ 1000000000000) || !decide (0 ≤ s.2.2.1 ∧ s.2.2.1 ≤ 1000000000000) || !decide (0 ≤ s.2.2.2.1 ∧ s.2.2.2.1 ≤ 1000) || !decide (0 ≤ s.2.2.2.2 ∧ s.2.2.2.2 ≤ 1000)) = !srgB s := by unfold srgB inB; simp only [Bool.not_and]
            have e4 : decide (s.2.2.2.1 > s.2.2.2.2) = !ordR s.2.2.2 := by unfold ordR; rw [← decide_not, decide_eq_decide]; omega
            rw [e3, e4, wi64_id (by omega) (by omega)]
            cases srgB s <;> cases ordR s.2.2.2 <;> rfl
          · rw [dec_false (by omega), cond_false]
end Go.Lift
