/-
  Fractions in lowest terms.
-/
import Derived.Test.YteobfadhflofpaaGreatFunVo
import Derived.Test.YteobfadhflofpaaGreatPlainB
set_option linter.unusedSectionVars false
set_option linter.unusedVariables false
set_option linter.unusedSimpArgs false
namespace Go.Lift
open Go
theorem gcd_loop : ∀ (n : Nat) {a b : Int}, b.natAbs ≤ n →
    ∃ r : Int, loopM (S := Int × Int) (R := Int) (fun s =>
    let a_1 : Int := s.1
    let b_1 : Int := s.2
    bif (b_1 != 0) then
      chk (b_1 != 0) (
        some (.inl (b_1, Int.tmod a_1 b_1)))
    else
      some (.inr a_1)) (a, b) = some r ∧ r.natAbs = Nat.gcd a.natAbs b.natAbs
  | n, a, b, hn => by
    by_cases hb : b = 0
    · subst hb
      refine ⟨a, loopM_done ?_, ?_⟩
      · simp only
        rw [show ((0 : Int) != 0) = false from rfl, cond_false]
      · rw [Int.natAbs_zero, Nat.gcd_zero_right]
    · cases n with
      | zero => exact absurd (Int.natAbs_eq_zero.1 (by omega)) hb
      | succ n =>
        have hm : (Int.tmod a b).natAbs = a.natAbs % b.natAbs := Int.natAbs_tmod a b
        have hpos : 0 < b.natAbs := by omega
        have hlt := Nat.mod_lt a.natAbs hpos
        obtain ⟨r, h1, h2⟩ := gcd_loop n (a := b) (b := Int.tmod a b) (by omega)
        refine ⟨r, ?_, ?_⟩
        · rw [loopM_next (s' := (b, Int.tmod a b))]
          · exact h1
          · simp only
            rw [show (b != 0) = true by rw [bne_iff_ne]; exact hb, cond_true]
            rfl
        · rw [h2, hm, Nat.gcd_comm b.natAbs, ← Nat.gcd_rec, Nat.gcd_comm]
theorem Gcd_ok {a b : Int} (h1 : a.natAbs < 9223372036854775808) (h2 : b.natAbs < 9223372036854775808) : b0_Gcd a b = some ((Nat.gcd a.natAbs b.natAbs : Nat) : Int) := by
  obtain ⟨r, e1, e2⟩ := gcd_loop b.natAbs (a := a) (b := b) (Nat.le_refl _)
  have hr : r.natAbs < 9223372036854775808 := by
    rw [e2]
    by_cases ha : a.natAbs = 0
    · rw [ha, Nat.gcd_zero_left]; exact h2
    · exact Nat.lt_of_le_of_lt (Nat.gcd_le_left _ (by omega)) h1
  unfold b0_Gcd
  refine Option.bind_eq_some_iff.2 ⟨r, e1, ?_⟩
  rw [size_ok (by omega) (by omega), Option.bind_some, e2]
def lowB (f : Dapi_Frac) : Bool := decide (f.2 > 0) && (Nat.gcd f.1.natAbs f.2.natAbs == 1)
theorem IsLowest_ok {f : Dapi_Frac} (h1 : f.1.natAbs < 9223372036854775808) (h2 : f.2.natAbs < 9223372036854775808) : b0_IsLowest f = some (lowB f) := by
  unfold b0_IsLowest lowB
  rw [Gcd_ok h1 h2, Option.bind_some]
  cases decide (f.2 > 0) with
  | false => rfl
  | true =>
    rw [cond_true, Option.bind_some, Bool.true_and]
    congr 1
    rw [Bool.eq_iff_iff, beq_iff_eq, beq_iff_eq]
    omega
def fq (q : Rat) : Dapi_Frac := (q.num, (q.den : Int))
theorem fracQ_fq {q : Rat} (h : smallQ q = true) : fracQ q = (fq q, true) := by unfold fracQ fq; rw [if_pos h]
theorem fracE_fq {q : Rat} (h : smallQ q = true) : fracE q = (fq q, 0) := by unfold fracE; rw [fracQ_fq h]; rfl
theorem small_parts {q : Rat} (h : smallQ q = true) : q.num.natAbs ≤ 1000000000 ∧ q.den ≤ 1000000000 := by
  unfold smallQ at h
  simpa only [Bool.and_eq_true, decide_eq_true_eq] using h
theorem fq_low {q : Rat} (h : smallQ q = true) : b0_IsLowest (fq q) = some true := by
  obtain ⟨h1, h2⟩ := small_parts h
  rw [IsLowest_ok (by show q.num.natAbs < _; omega) (by show (q.den : Int).natAbs < _; omega)]
  unfold lowB fq
  simp only
  have hd := q.den_pos
  rw [dec_true (show (q.den : Int) > 0 by omega), Bool.true_and, Int.natAbs_natCast, q.reduced]
  rfl
theorem fq_small {q : Rat} (h : smallQ q = true) : b0_IsSmall (fq q) = some true := by
  obtain ⟨h1, h2⟩ := small_parts h
  have hd := q.den_pos
  unfold b0_IsSmall fq
  simp only
  rw [Within_ok, Option.bind_some, dec_true (show -1000000000 ≤ q.num ∧ q.num ≤ 1000000000 by omega), cond_true, Within_ok, Option.bind_some, dec_true (show (1 : Int) ≤ (q.den : Int) ∧ (q.den : Int) ≤ 1000000000 by omega)]
  rfl
end Go.Lift
