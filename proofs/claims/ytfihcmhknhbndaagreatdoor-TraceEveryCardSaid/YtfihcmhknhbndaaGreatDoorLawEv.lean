/-
  The law of pieces in order holds of the plain functions.
-/
import Derived.Test.YtfihcmhknhbndaaGreatDoorPlainI
set_option linter.unusedSectionVars false
set_option linter.unusedVariables false
set_option linter.unusedSimpArgs false
namespace Go.Lift
open Go

theorem mul_bound {a b : Int} {A B : Nat} (ha : a.natAbs ≤ A) (hb : b.natAbs ≤ B) : (a * b).natAbs ≤ A * B := by
  rw [Int.natAbs_mul]; exact Nat.mul_le_mul ha hb

theorem Cmp_ok {p q : Rat} (hp : smallQ p = true) (hq : smallQ q = true) : cobblebase_Cmp (fq p) (fq q) = some (if p < q then -1 else if q < p then 1 else 0) := by
  obtain ⟨p1, p2⟩ := small_parts hp
  obtain ⟨q1, q2⟩ := small_parts hq
  have b1 := mul_bound p1 (show ((q.den : Int)).natAbs ≤ 1000000000 by omega)
  have b2 := mul_bound q1 (show ((p.den : Int)).natAbs ≤ 1000000000 by omega)
  have w1 : wi64 (p.num * (q.den : Int)) = p.num * (q.den : Int) := wi64_id (by omega) (by omega)
  have w2 : wi64 (q.num * (p.den : Int)) = q.num * (p.den : Int) := wi64_id (by omega) (by omega)
  unfold cobblebase_Cmp fq
  simp only
  rw [w1, w2]
  have l1 := Rat.lt_iff p q
  have l2 := Rat.lt_iff q p
  by_cases h : p < q
  · rw [dec_true (l1.1 h), if_pos h]; rfl
  · rw [dec_false (fun e => h (l1.2 e)), if_neg h, cond_false]
    by_cases h' : q < p
    · rw [dec_true (show p.num * (q.den : Int) > q.num * (p.den : Int) from l2.1 h'), if_pos h']; rfl
    · rw [dec_false (show ¬ p.num * (q.den : Int) > q.num * (p.den : Int) from fun e => h' (l2.2 e)), if_neg h']; rfl

theorem Floor_ok {n b : Int} (hb : 0 < b) (h1 : n.natAbs ≤ 4611686018427387904) : cobblebase_Floor n b = some (n / b) := by
  have e1 := Int.mul_tdiv_add_tmod n b
  have e2 : (Int.tmod n b).natAbs = n.natAbs % b.natAbs := Int.natAbs_tmod n b
  have e3 := Nat.mod_lt n.natAbs (show 0 < b.natAbs by omega)
  have e4 : (Int.tdiv n b).natAbs ≤ n.natAbs := by rw [Int.natAbs_tdiv]; exact Nat.div_le_self _ _
  have w : wi64 (Int.tdiv n b) = Int.tdiv n b := wi64_id (by omega) (by omega)
  unfold cobblebase_Floor
  have hb0 : (b != 0) = true := by rw [bne_iff_ne]; omega
  rw [chk_true hb0, w]
  simp only
  rw [chk_true hb0]
  by_cases h : Int.tmod n b < 0
  · rw [dec_true h, cond_true, Option.bind_some, wi64_id (by omega) (by omega)]
    congr 1
    refine ((Int.ediv_emod_unique (r := Int.tmod n b + b) hb).2 ⟨?_, by omega, by omega⟩).1.symm
    rw [Int.mul_sub, Int.mul_one]
    omega
  · rw [dec_false h, cond_false, Option.bind_some]
    congr 1
    exact ((Int.ediv_emod_unique (r := Int.tmod n b) hb).2 ⟨by omega, by omega, by omega⟩).1.symm

theorem Ceil_ok {n b : Int} (hb : 0 < b) (h0 : 0 ≤ n) (h1 : n.natAbs ≤ 4611686018427387904) : cobblebase_Ceil n b = some (-(-n / b)) := by
  have e : -n ≤ -n / b := by
    rw [Int.le_ediv_iff_mul_le hb]
    have := Int.mul_le_mul_of_nonneg_left (show (1 : Int) ≤ b by omega) h0
    rw [Int.mul_one] at this
    rw [Int.neg_mul]
    omega
  have e' : -n / b ≤ 0 := by
    have := Int.ediv_lt_iff_lt_mul (a := -n) (b := 1) hb
    omega
  unfold cobblebase_Ceil
  rw [wi64_id (by omega) (by omega), Int.zero_sub, Floor_ok hb (by omega), Option.bind_some, wi64_id (by omega) (by omega), Int.zero_sub]

/-- A whole position of the coil, on the slab. -/
theorem place0_ok {c : Dapi_TraceCourse} (hv : Valid c) (hop : trace_opened c [] = some ((c, stripsQ c (c.2.2.2.length + 1)), 0)) {at_ : Int} {pr : Bool} (h0 : 0 ≤ at_) (h1 : (at_ : Rat) ≤ endM c) (h2 : at_ < 9223372036854775808) :
    trace_PlaceOf c ((c.2.2.2.length : Int), (at_, pr)) 0 = some (fracE (endA c (at_ : Rat))) := by
  obtain ⟨o, p1, _, p3, p4, p5⟩ := place_ok hv (r := ((c.2.2.2.length : Int), (at_, pr))) (n := c.2.2.2.length) (to := 0) rfl (Nat.le_refl _) (Nat.zero_le _) h0 h1 h2
  have hr0 : readErr c ((c.2.2.2.length : Int), (at_, pr)) = 0 := by
    unfold readErr
    rw [if_pos (show 0 ≤ (c.2.2.2.length : Int) ∧ (c.2.2.2.length : Int) ≤ (c.2.2.2.length : Int) by omega)]
    rw [if_pos]
    exact ⟨h0, by rw [Int.toNat_natCast]; exact h1⟩
  unfold trace_PlaceOf
  rw [hop, Option.bind_some]
  simp only
  rw [show ((0 : Int) == 0) = true from rfl, cond_true, treadErr_ok hv (by show _ ≤ at_; omega) h2, Option.bind_some, tstepsErr_ok, Option.bind_some, hr0, if_pos (by omega), first_ok (by simp), Option.bind_some, Option.bind_some, show firstE [(0 : Int), 0] = 0 from rfl, show ((0 : Int) != 0) = false from rfl, cond_false]
  rw [show (0 : Int) = ((0 : Nat) : Int) from rfl, p1, Option.bind_some]
  cases o with
  | none =>
    obtain ⟨Q, hQ⟩ := on_before hv (k := 0) (d := c.2.2.2.length) (by omega) (by rw [Nat.zero_add]; exact p5)
    exact absurd hQ (p4 rfl Q)
  | some q =>
    obtain ⟨f1, _, f3⟩ := p3 q rfl
    have hq : q = endA c (at_ : Rat) := (on_slab hv f3).symm
    subst hq
    unfold atR
    simp only
    rw [Bool.not_true, cond_false, small_ok f1 (by decide), Option.bind_some]
    rfl

theorem M_parts {c : Dapi_TraceCourse} {a : Nat} : (endM c ≤ cst a ↔ (endM c).num ≤ (a : Int) * ((endM c).den : Int)) ∧ (cst a < endM c ↔ (a : Int) * ((endM c).den : Int) < (endM c).num) := by
  unfold cst
  rw [Rat.le_iff, Rat.lt_iff, Rat.num_intCast, Rat.den_intCast]
  constructor
  · constructor <;> intro h <;> omega
  · constructor <;> intro h <;> omega

theorem TraceEvery_ok {c : Dapi_TraceCourse} {n at_ : Int} (hawake : cobblelaw09_awake = some true) (hc : okv Tapi_TraceCourse c) : cobblelaw09_TraceEvery c n at_ = some true := by
  unfold cobblelaw09_TraceEvery
  rw [hawake, Option.bind_some, Bool.not_true, cond_false]
  obtain ⟨b, hb, hb2⟩ := Few_ok (c := c)
  rw [hb, Option.bind_some]
  cases b with
  | false => rfl
  | true =>
    obtain ⟨h1, h2, h3, h5, h4⟩ := hb2 rfl
    have hin := courseIn_of hc h1 h2 h3 h5 h4
    obtain ⟨e, i, strips, o1, o2, o3⟩ := open_ok hin
    obtain ⟨e', strips', q1, q2, q3⟩ := opened_ok hin
    have hce : cobbleref09_CourseErr c = some e := by
      unfold cobbleref09_CourseErr
      rw [o2, Option.bind_some]
    obtain rfl : e' = e := by rw [hce] at q2; exact (Option.some.inj q2).symm
    rw [Bool.not_true, cond_false, hce, Option.bind_some, Option.bind_some]
    by_cases he : e' = 0
    · subst he
      obtain ⟨rfl, rfl, hv⟩ := o3 rfl
      obtain ⟨rfl, _⟩ := q3 rfl
      have hst := hv.steps
      rw [show ((0 : Int) != 0) = false from rfl, cond_false, Within_ok, Option.bind_some, Option.bind_some]
      by_cases hn : 1 ≤ n ∧ n ≤ 1000000
      · obtain ⟨k, rfl⟩ : ∃ k : Nat, n = (k : Int) := ⟨n.toNat, by omega⟩
        have hk1 : 1 ≤ k := by omega
        have hk2 : k ≤ 1000000 := by omega
        rw [dec_true hn, Bool.not_true, cond_false, CopyCourse_ok h1 h2 h3 h4, Option.bind_some]
        obtain ⟨L, e, r1, r2⟩ := Pieces_ok hv q1 hk1 hk2
        rw [r1, Option.bind_some]
        simp only
        rcases r2 with ⟨r2, rfl⟩ | ⟨rfl, hpc, hL51, hM1, hM50⟩
        · rcases r2 with rfl | rfl <;> rfl
        · have hM0 := endM_pos hv
          have hMs := endM_small hv
          obtain ⟨m1, m2⟩ := small_parts hMs
          have hden := (endM c).den_pos
          have hL0 : L.length ≠ 0 := fun e => by rw [e, Nat.zero_mul, cst_zero] at hM1; grind
          have hget : ∀ i, i < L.length → ∃ x, L[i]? = some x ∧ PcOk c k i x := fun i hi => ⟨L[i], List.getElem?_eq_getElem hi, hpc i _ (List.getElem?_eq_getElem hi)⟩
          have hlast : cst ((L.length - 1) * k) < endM c := by
            obtain ⟨x, _, hx⟩ := hget (L.length - 1) (by omega)
            exact hx.1
          have hL50 : L.length ≤ 50 := by
            have h1 : cst ((L.length - 1) * k) < cst (50 * k) := by grind
            rw [cst_lt] at h1
            have := Nat.lt_of_mul_lt_mul_right h1
            omega
          have hlg : ∀ i, i < L.length → ∀ d, ∃ x, lget d L (i : Int) = x ∧ PcOk c k i x := fun i hi d => by
            obtain ⟨x, h1, h2⟩ := hget i hi
            refine ⟨x, ?_, h2⟩
            unfold lget
            rw [Int.toNat_natCast, List.getD_eq_getElem?_getD, h1]; rfl
          rw [show ((0 : Int) != 0) = false from rfl, cond_false, show ((L.length : Int) == 0) = false by rw [beq_eq_false_iff_ne]; omega, dec_false (show ¬ (L.length : Int) > 50 by omega), Bool.or_false, cond_false]
          refine Option.bind_eq_some_iff.2 ⟨.inl (), ?_, ?_⟩
          · refine loopM_count (fun i => (i : Int)) L.length (fun i hi => ?_) ?_
            · obtain ⟨x, g1, x1, x2, x3, x4⟩ := hlg i hi ((0, 0), (0, 0))
              have hik : cst (i * k) < pcEnd (endM c) k i := pcEnd_gt hk1 x1
              have h0i := cst_nonneg (i * k)
              have hlt : endA c (cst (i * k)) < endA c (pcEnd (endM c) k i) := by
                have := A_mono hv (q := pcEnd (endM c) k i) (q' := cst (i * k)) (by grind) pcEnd_le h0i (by grind)
                grind
              rw [dec_true (show (i : Int) < (L.length : Int) by omega), cond_true, chk_true (and_true' (dec_true (by omega)) rfl), g1, x4]
              simp only
              rw [fq_low x2, Option.bind_some, Bool.not_true, cond_false, chk_true (and_true' (dec_true (by omega)) rfl), fq_low x3, Option.bind_some, Option.bind_some, Bool.not_true, cond_false, chk_true (and_true' (dec_true (by omega)) rfl), fq_small x2, Option.bind_some, Option.bind_some, Bool.not_true, cond_false, chk_true (and_true' (dec_true (by omega)) rfl), fq_small x3, Option.bind_some, Option.bind_some, Bool.not_true, cond_false]
              rw [chk_true (and_true' (dec_true (by omega)) rfl), chk_true (and_true' (dec_true (by omega)) rfl), Cmp_ok x2 x3, if_pos hlt, Option.bind_some, Option.bind_some, dec_false (show ¬ (-1 : Int) ≥ 0 by decide), cond_false]
              have hprev : (bif decide ((i : Int) > 0) then chk (decide ((0 : Int) ≤ (i : Int)) && true) (chk (decide ((0 : Int) ≤ wi64 ((i : Int) - 1)) && decide (wi64 ((i : Int) - 1) < (L.length : Int))) (some (!(Ty.eqb Tapi_Frac (fq (endA c (cst (i * k)))) ((lget ((0, 0), (0, 0)) L (wi64 ((i : Int) - 1))).2))))) else some false) = some false := by
                cases i with
                | zero => rfl
                | succ j =>
                  have hw : wi64 (((j + 1 : Nat) : Int) - 1) = (j : Int) := by rw [wi64_id (by omega) (by omega)]; omega
                  obtain ⟨y, g2, y1, y2, y3, y4⟩ := hlg j (by omega) ((0, 0), (0, 0))
                  rw [dec_true (show ((j + 1 : Nat) : Int) > 0 by omega), cond_true, chk_true (and_true' (dec_true (by omega)) rfl), hw, chk_true (and_true' (dec_true (by omega)) (dec_true (by omega))), g2, y4]
                  have hE : pcEnd (endM c) k j = cst ((j + 1) * k) := by unfold pcEnd; rw [if_neg (by grind)]
                  simp only
                  rw [hE, eqb_frac]
                  rfl
              rw [hprev, Option.bind_some, Option.bind_some, cond_false, wi64_id (by omega) (by omega)]
              rfl
            · rw [dec_false (show ¬ (L.length : Int) < (L.length : Int) by omega), cond_false]
          · simp only
            have hz : (((0 : Int)) : Rat) = cst 0 := rfl
            rw [Option.bind_some, place0_ok hv q1 (Int.le_refl 0) (by rw [hz, cst_zero]; exact endM_nonneg hv) (by decide), Option.bind_some, hz]
            obtain ⟨x, g1, x1, x2, x3, x4⟩ := hlg 0 (by omega) ((0, 0), (0, 0))
            rw [Nat.zero_mul] at x1 x2 x4
            rw [fracE_fq x2]
            simp only
            rw [show ((0 : Int) != 0) = false from rfl, cond_false, chk_true (and_true' (dec_true (by omega)) (dec_true (by omega))), show lget ((0, 0), (0, 0)) L 0 = x from g1, x4, eqb_frac, Option.bind_some, Bool.not_true, cond_false]
            rw [Option.bind_some, LengthAfter_ok hv o1 (Nat.le_refl _), Option.bind_some, show lastV 0 (stS c c.2.2.2.length) = endM c from rfl, fracE_fq hMs]
            simp only
            rw [show ((0 : Int) != 0) = false from rfl, cond_false, fq_low hMs, Option.bind_some, Option.bind_some, Bool.not_true, cond_false, fq_small hMs, Option.bind_some, Option.bind_some, Bool.not_true, cond_false]
            have hdk : ((endM c).den : Int) * (k : Int) ≤ 1000000000 * 1000000 := Int.mul_le_mul (by omega) (by omega) (by omega) (by omega)
            have hdk0 : 0 < ((endM c).den : Int) * (k : Int) := Int.mul_pos (by omega) (by omega)
            have hnum0 : 0 ≤ (endM c).num := Rat.num_nonneg.2 (endM_nonneg hv)
            have hw : wi64 ((fq (endM c)).2 * (k : Int)) = ((endM c).den : Int) * (k : Int) := wi64_id (by show _ ≤ ((endM c).den : Int) * (k : Int); omega) (by show ((endM c).den : Int) * (k : Int) < _; omega)
            have hceil : -(-(endM c).num / (((endM c).den : Int) * (k : Int))) = (L.length : Int) := by
              have a1 := M_parts.1.1 hM1
              have a2 := M_parts.2.1 hlast
              have e1 : (((L.length - 1) * k : Nat) : Int) * ((endM c).den : Int) = ((L.length : Int) - 1) * (((endM c).den : Int) * (k : Int)) := by
                rw [Int.natCast_mul, Int.natCast_sub (by omega), Int.mul_assoc, Int.mul_comm (k : Int)]; rfl
              have e2 : ((L.length * k : Nat) : Int) * ((endM c).den : Int) = (L.length : Int) * (((endM c).den : Int) * (k : Int)) := by
                rw [Int.natCast_mul, Int.mul_assoc, Int.mul_comm (k : Int)]
              rw [e1] at a2
              rw [e2] at a1
              generalize ((endM c).den : Int) * (k : Int) = D at *
              have hu : -(endM c).num / D = -(L.length : Int) := by
                refine ((Int.ediv_emod_unique (r := -(endM c).num + D * (L.length : Int)) hdk0).2 ⟨?_, ?_, ?_⟩).1
                · rw [Int.mul_neg]; omega
                · rw [Int.mul_comm]; omega
                · rw [Int.sub_mul, Int.one_mul] at a2
                  rw [Int.mul_comm]; omega
              rw [hu]; omega
            rw [hw, show (fq (endM c)).1 = (endM c).num from rfl, Ceil_ok hdk0 hnum0 (by omega), hceil, Option.bind_some, Option.bind_some, Within_ok, Option.bind_some, Option.bind_some, dec_true (show (L.length : Int) ≤ (L.length : Int) ∧ (L.length : Int) ≤ (L.length : Int) by omega), Bool.not_true, cond_false]
            rw [show (fq (endM c)).2 = ((endM c).den : Int) from rfl, Floor_ok (show (0 : Int) < ((endM c).den : Int) by omega) (by omega), Option.bind_some, Within_ok, Option.bind_some]
            by_cases hat : 0 ≤ at_ ∧ at_ ≤ (endM c).num / ((endM c).den : Int)
            · obtain ⟨a, rfl⟩ : ∃ a : Nat, at_ = (a : Int) := ⟨at_.toNat, by omega⟩
              have haM : cst a ≤ endM c := by
                have := (Int.le_ediv_iff_mul_le (show (0 : Int) < ((endM c).den : Int) by omega)).1 hat.2
                have h := @M_parts c a
                rw [← Rat.not_lt]
                intro e
                have e2 : endM c ≤ cst a := Rat.le_of_lt e
                have := h.1.1 e2
                have e3 : ¬ cst a ≤ endM c := Rat.not_le.2 e
                apply e3
                unfold cst
                rw [Rat.le_iff, Rat.num_intCast, Rat.den_intCast]
                omega
              have ha9 : (a : Int) ≤ 1000000000 := by
                have := Int.ediv_le_self ((endM c).den : Int) hnum0
                omega
              rw [dec_true hat, Bool.not_true, cond_false, Option.bind_some, place0_ok hv q1 (show (0 : Int) ≤ (a : Int) by omega) haM (by omega), Option.bind_some, show (((a : Int)) : Rat) = cst a from rfl]
              by_cases hsm : smallQ (endA c (cst a)) = true
              · rw [fracE_fq hsm]
                simp only
                rw [show ((0 : Int) != 0) = false from rfl, cond_false, Floor_ok (show (0 : Int) < (k : Int) by omega) (by omega), Option.bind_some, fq_low hsm, Option.bind_some, cond_true, fq_small hsm, Option.bind_some, Option.bind_some]
                obtain ⟨j, hj, hj1, hj2, hj3⟩ : ∃ j : Nat, imin ((a : Int) / (k : Int)) (wi64 ((L.length : Int) - 1)) = (j : Int) ∧ j < L.length ∧ cst (j * k) ≤ cst a ∧ cst a ≤ pcEnd (endM c) k j := by
                  have hdiv : (a : Int) / (k : Int) = ((a / k : Nat) : Int) := by omega
                  have hw1 : wi64 ((L.length : Int) - 1) = ((L.length - 1 : Nat) : Int) := by rw [wi64_id (by omega) (by omega)]; omega
                  have hmod := Nat.div_add_mod a k
                  have hml := Nat.mod_lt a (show 0 < k by omega)
                  rw [hdiv, hw1]
                  by_cases hle : a / k ≤ L.length - 1
                  · refine ⟨a / k, by unfold imin; rw [if_neg (fun e => by have := Int.ofNat_lt.1 e; omega)], by omega, cst_le.2 (by rw [Nat.mul_comm]; omega), ?_⟩
                    unfold pcEnd
                    split
                    · exact haM
                    · rw [cst_le, Nat.add_mul, Nat.one_mul, Nat.mul_comm]; omega
                  · have hge : L.length * k ≤ a := by
                      have : L.length ≤ a / k := by omega
                      have := Nat.mul_le_mul_right k this
                      rw [Nat.mul_comm (a / k)] at this
                      omega
                    refine ⟨L.length - 1, by unfold imin; rw [if_pos (Int.ofNat_lt.2 (by omega))], by omega, ?_, ?_⟩
                    · exact cst_le.2 (Nat.le_trans (Nat.mul_le_mul_right k (Nat.sub_le _ _)) hge)
                    · have := cst_le.2 hge
                      have he : (L.length - 1 + 1) * k = L.length * k := by rw [Nat.sub_add_cancel (by omega)]
                      unfold pcEnd
                      rw [he]
                      split <;> grind
                rw [hj]
                obtain ⟨x, g1, x1, x2, x3, x4⟩ := hlg j hj1 ((0, 0), (0, 0))
                have m1 := (A_mono hv (q := cst (j * k)) (q' := cst a) (cst_nonneg _) (Rat.le_of_lt x1) (cst_nonneg _) haM).2 hj2
                have m2 := (A_mono hv (q := cst a) (q' := pcEnd (endM c) k j) (cst_nonneg _) haM (Rat.le_trans (cst_nonneg a) hj3) pcEnd_le).2 hj3
                rw [cond_true, chk_true (and_true' (dec_true (by omega)) (dec_true (by omega))), g1, x4]
                simp only
                rw [Cmp_ok x2 hsm, Option.bind_some, Option.bind_some, dec_true (show (if endA c (cst (j * k)) < endA c (cst a) then (-1 : Int) else if endA c (cst a) < endA c (cst (j * k)) then 1 else 0) ≤ 0 by split; decide; rw [if_neg (by grind)]; decide), cond_true, chk_true (and_true' (dec_true (by omega)) (dec_true (by omega))), Cmp_ok hsm x3, Option.bind_some, Option.bind_some, dec_true (show (if endA c (cst a) < endA c (pcEnd (endM c) k j) then (-1 : Int) else if endA c (pcEnd (endM c) k j) < endA c (cst a) then 1 else 0) ≤ 0 by split; decide; rw [if_neg (by grind)]; decide)]
              · have hf : fracQ (endA c (cst a)) = ((0, 0), false) := by unfold fracQ; rw [if_neg hsm]
                unfold fracE
                rw [hf]
                rfl
            · rw [dec_false hat]
              rfl
      · rw [dec_false hn, Bool.not_false, cond_true]
    · rw [show (e' != 0) = true by rw [bne_iff_ne]; exact he, cond_true, Option.bind_some, cond_true]
end Go.Lift
