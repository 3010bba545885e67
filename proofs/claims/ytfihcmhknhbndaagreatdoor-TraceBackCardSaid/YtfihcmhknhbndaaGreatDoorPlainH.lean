/-
  Fractions in lowest terms.
-/
import Derived.Test.YtfihcmhknhbndaaGreatDoorFunVo
import Derived.Test.YtfihcmhknhbndaaGreatDoorPlainB
set_option linter.unusedSectionVars false
set_option linter.unusedVariables false
set_option linter.unusedSimpArgs false
namespace Go.Lift
open Go
theorem gcd_loop : ∀ (n : Nat) {a b : Int}, b.natAbs ≤ n →
    ∃ r : Int, loopM (S := Int × Int) (R := Int) (fun s =>
    let a_1 : Int := s.1
    let b_1 : Int := s.2
    bif (b_1 != 0) then
      chk (b_1 != 0) (
        some (.inl (b_1, Int.tmod a_1 b_1)))
    else
      some (.inr a_1)) (a, b) = some r ∧ r.natAbs = Nat.gcd a.natAbs b.natAbs
  | n, a, b, hn => by
    by_cases hb : b = 0
    · subst hb
      refine ⟨a, loopM_done ?_, ?_⟩
      · simp only
        rw [show ((0 : Int) != 0) = false from rfl, cond_false]
      · rw [Int.natAbs_zero, Nat.gcd_zero_right]
    · cases n with
      | zero => exact absurd (Int.natAbs_eq_zero.1 (by omega)) hb
      | succ n =>
        have hm : (Int.tmod a b).natAbs = a.natAbs % b.natAbs := Int.natAbs_tmod a b
        have hpos : 0 < b.natAbs := by omega
        have hlt := Nat.mod_lt a.natAbs hpos
        obtain ⟨r, h1, h2⟩ := gcd_loop n (a := b) (b := Int.tmod a b) (by omega)
        refine ⟨r, ?_, ?_⟩
        · rw [loopM_next (s' := (b, Int.tmod a b))]
          · exact h1
          · simp only
            rw [show (b != 0) = true by rw [bne_iff_ne]; exact hb, cond_true]
            rfl
        · rw [h2, hm, Nat.gcd_comm b.natAbs, ← Nat.gcd_rec, Nat.gcd_comm]
def lowB (f : Dapi_Frac) : Bool := decide (f.2 > 0) && (Nat.gcd f.1.natAbs f.2.natAbs == 1)
def fq (q : Rat) : Dapi_Frac := (q.num, (q.den : Int))
theorem fracQ_fq {q : Rat} (h : smallQ q = true) : fracQ q = (fq q, true) := by unfold fracQ fq; rw [if_pos h]
theorem fracE_fq {q : Rat} (h : smallQ q = true) : fracE q = (fq q, 0) := by unfold fracE; rw [fracQ_fq h]; rfl
theorem small_parts {q : Rat} (h : smallQ q = true) : q.num.natAbs ≤ 1000000000 ∧ q.den ≤ 1000000000 := by
  unfold smallQ at h
  simpa only [Bool.and_eq_true, decide_eq_true_eq] using h
theorem divInt_self (q : Rat) : Rat.divInt q.num (q.den : Int) = q := Rat.num_divInt_den q
end Go.Lift
