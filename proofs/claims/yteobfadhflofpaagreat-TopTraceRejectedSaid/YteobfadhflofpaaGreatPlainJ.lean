/-
  Sets as bits; loops that look for the first.
-/
import Derived.Test.YteobfadhflofpaaGreatPlainB
set_option linter.unusedSectionVars false
set_option linter.unusedVariables false
set_option linter.unusedSimpArgs false
namespace Go.Lift
open Go
def findF {R : Type} (g : Nat → Option R) : Nat → Nat → Option R
  | _, 0 => none
  | k, m + 1 => match g k with
    | some r => some r
    | none => findF g (k + 1) m
def outF {R : Type} : Option R → Unit ⊕ R
  | none => .inl ()
  | some r => .inr r
theorem loop_find {R : Type} {F : Int → Option (Int ⊕ (Unit ⊕ R))} {g : Nat → Option R} {n : Nat} (h0 : ∀ i, i < n → g i = none → F (i : Int) = some (.inl ((i + 1 : Nat) : Int)))
    (h1 : ∀ i, i < n → ∀ r, g i = some r → F (i : Int) = some (.inr (.inr r))) (hend : F (n : Int) = some (.inr (.inl ()))) : ∀ (m k : Nat), k + m = n → loopM F (k : Int) = some (outF (findF g k m))
  | 0, k, hk => by
    have : k = n := by omega
    subst this
    exact loopM_done hend
  | m + 1, k, hk => by
    unfold findF
    cases hg : g k with
    | none =>
      rw [loopM_next (h0 k (by omega) hg)]
      exact loop_find h0 h1 hend m (k + 1) (by omega)
    | some r => exact loopM_done (h1 k (by omega) r hg)
theorem findF_none {R : Type} {g : Nat → Option R} : ∀ {m k : Nat}, findF g k m = none ↔ ∀ i, k ≤ i → i < k + m → g i = none
  | 0, k => ⟨fun _ i h1 h2 => by omega, fun _ => rfl⟩
  | m + 1, k => by
    unfold findF
    cases hg : g k with
    | none =>
      rw [findF_none]
      constructor
      · intro h i h1 h2
        by_cases hi : i = k
        · rw [hi]; exact hg
        · exact h i (by omega) (by omega)
      · intro h i h1 h2
        exact h i (by omega) (by omega)
    | some r =>
      constructor
      · intro h; cases h
      · intro h
        rw [h k (Nat.le_refl _) (by omega)] at hg
        cases hg
theorem findF_some {R : Type} {g : Nat → Option R} : ∀ {m k : Nat} {r : R}, findF g k m = some r → ∃ i, k ≤ i ∧ i < k + m ∧ g i = some r ∧ ∀ j, k ≤ j → j < i → g j = none
  | 0, _, _, h => by cases h
  | m + 1, k, r, h => by
    unfold findF at h
    cases hg : g k with
    | some r' =>
      rw [hg] at h
      cases h
      exact ⟨k, Nat.le_refl _, by omega, hg, fun j h1 h2 => by omega⟩
    | none =>
      rw [hg] at h
      obtain ⟨i, h1, h2, h3, h4⟩ := findF_some h
      refine ⟨i, by omega, by omega, h3, fun j h5 h6 => ?_⟩
      by_cases hj : j = k
      · rw [hj]; exact hg
      · exact h4 j (by omega) h6
theorem findF_congr {R : Type} {g g' : Nat → Option R} : ∀ {m k : Nat}, (∀ i, k ≤ i → i < k + m → g i = g' i) → findF g k m = findF g' k m
  | 0, _, _ => rfl
  | m + 1, k, h => by
    unfold findF
    rw [h k (Nat.le_refl _) (by omega)]
    cases g' k with
    | none => exact findF_congr fun i h1 h2 => h i (by omega) (by omega)
    | some r => rfl
def W64 : Nat := 18446744073709551616
theorem wrap64_nat {n : Nat} (h : n < W64) : IntKind.u64.wrap (n : Int) = (n : Int) := wu64_id (x := (n : Int)) (by omega) (by unfold W64 at h; omega)
theorem toNat64 {n : Nat} (h : n < W64) : (BitVec.ofNat 64 n).toNat = n := by
  rw [BitVec.toNat_ofNat]
  exact Nat.mod_eq_of_lt h
theorem pow64 : W64 = 2 ^ 64 := by decide
theorem iand_nat {a b : Nat} (ha : a < W64) (hb : b < W64) : iand .u64 (a : Int) (b : Int) = ((a &&& b : Nat) : Int) := by
  have h64 : IntKind.u64.bits = 64 := rfl
  unfold iand
  rw [h64]
  have e2 : (BitVec.ofInt 64 (a : Int) &&& BitVec.ofInt 64 (b : Int)).toNat = a &&& b := by
    rw [BitVec.toNat_and, BitVec.ofInt_natCast, BitVec.ofInt_natCast, toNat64 ha, toNat64 hb]
  rw [e2]
  exact wrap64_nat (by rw [pow64] at *; exact Nat.and_lt_two_pow _ hb)
theorem ior_nat {a b : Nat} (ha : a < W64) (hb : b < W64) : ior .u64 (a : Int) (b : Int) = ((a ||| b : Nat) : Int) := by
  have h64 : IntKind.u64.bits = 64 := rfl
  unfold ior
  rw [h64]
  have e2 : (BitVec.ofInt 64 (a : Int) ||| BitVec.ofInt 64 (b : Int)).toNat = a ||| b := by
    rw [BitVec.toNat_or, BitVec.ofInt_natCast, BitVec.ofInt_natCast, toNat64 ha, toNat64 hb]
  rw [e2]
  exact wrap64_nat (by rw [pow64] at *; exact Nat.or_lt_two_pow ha hb)
theorem ishl_one {i : Nat} (h : i < 64) : ishl .u64 1 (i : Int) = ((2 ^ i : Nat) : Int) := by
  unfold ishl
  rw [Int.one_mul, Int.toNat_natCast, show IntKind.u64.bits = 64 from rfl, Nat.min_eq_left (by omega)]
  have : (2 : Int) ^ i = ((2 ^ i : Nat) : Int) := by rw [Int.natCast_pow]; rfl
  rw [this]
  exact wrap64_nat (by rw [pow64]; exact Nat.pow_lt_pow_right (by decide) h)
theorem ishr_nat {a i : Nat} (h : i ≤ 64) : ishr .u64 (a : Int) (i : Int) = ((a / 2 ^ i : Nat) : Int) := by
  unfold ishr
  rw [Int.toNat_natCast, show IntKind.u64.bits = 64 from rfl, Nat.min_eq_left h]
  have : (2 : Int) ^ i = ((2 ^ i : Nat) : Int) := by rw [Int.natCast_pow]; rfl
  rw [this, Int.fdiv_eq_ediv_of_nonneg _ (Int.natCast_nonneg _)]
  exact (Int.natCast_ediv a (2 ^ i)).symm
theorem has_bit {s i : Nat} (hs : s < W64) (hi : i ≤ 64) : trace_set_has (s : Int) (i : Int) = some (s.testBit i) := by
  unfold trace_set_has
  have hlt : s / 2 ^ i < W64 := Nat.lt_of_le_of_lt (Nat.div_le_self _ _) hs
  rw [chk_true (dec_true (by omega)), ishr_nat hi]
  have h1 : iand .u64 ((s / 2 ^ i : Nat) : Int) 1 = ((s / 2 ^ i &&& 1 : Nat) : Int) := iand_nat hlt (by decide)
  simp only
  rw [h1]
  congr 1
  rw [Nat.testBit_eq_decide_div_mod_eq, Nat.and_one_is_mod]
  rw [Bool.eq_iff_iff, beq_iff_eq, decide_eq_true_eq]
  omega
def setN (f : Nat → Bool) : Nat → Nat
  | 0 => 0
  | n + 1 => setN f n ||| (if f n then 2 ^ n else 0)
theorem setN_lt (f : Nat → Bool) : ∀ n, setN f n < 2 ^ n
  | 0 => Nat.pow_pos (by decide)
  | n + 1 => by
    have h := setN_lt f n
    unfold setN
    refine Nat.or_lt_two_pow (Nat.lt_of_lt_of_le h (Nat.pow_le_pow_right (by decide) (by omega))) ?_
    split
    · exact Nat.pow_lt_pow_right (by decide) (by omega)
    · exact Nat.pow_pos (by decide)
theorem setN_bit (f : Nat → Bool) : ∀ (n i : Nat), (setN f n).testBit i = (decide (i < n) && f i)
  | 0, i => by simp [setN]
  | n + 1, i => by
    unfold setN
    rw [Nat.testBit_or, setN_bit f n i]
    by_cases hi : i = n
    · subst hi
      by_cases hf : f i = true
      · rw [if_pos hf, Nat.testBit_two_pow_self, hf]; simp
      · rw [if_neg hf, Nat.zero_testBit]
        rw [Bool.not_eq_true] at hf
        rw [hf]; simp
    · have h2 : (if f n = true then 2 ^ n else 0).testBit i = false := by
        split
        · rw [Nat.testBit_two_pow]; simp; omega
        · exact Nat.zero_testBit i
      rw [h2, Bool.or_false]
      congr 1
      rw [decide_eq_decide]; omega
theorem setN_64 {f : Nat → Bool} {n : Nat} (h : n ≤ 64) : setN f n < W64 := by
  rw [pow64]; exact Nat.lt_of_lt_of_le (setN_lt f n) (Nat.pow_le_pow_right (by decide) h)
theorem ones_bit {n i : Nat} : (2 ^ n - 1).testBit i = decide (i < n) := Nat.testBit_two_pow_sub_one n i
theorem ones_ok {n : Nat} (h : n < 64) : wu64 (ishl .u64 1 (n : Int) - 1) = ((2 ^ n - 1 : Nat) : Int) := by
  rw [ishl_one h]
  have h1 : 1 ≤ 2 ^ n := Nat.pow_pos (by decide)
  have h2 : 2 ^ n ≤ 2 ^ 63 := Nat.pow_le_pow_right (by decide) (by omega)
  rw [wu64_id (by omega) (by have : (2 : Nat) ^ 63 = 9223372036854775808 := by decide
                             omega)]
  omega
theorem ones_64 {n : Nat} (h : n < 64) : 2 ^ n - 1 < W64 := by
  have h2 : 2 ^ n ≤ 2 ^ 63 := Nat.pow_le_pow_right (by decide) (by omega)
  have : (2 : Nat) ^ 63 = 9223372036854775808 := by decide
  unfold W64; omega
theorem meet_zero {a b : Nat} : a &&& b = 0 ↔ ∀ i, ¬ (a.testBit i = true ∧ b.testBit i = true) := by
  constructor
  · intro h i ⟨h1, h2⟩
    have : (a &&& b).testBit i = true := by rw [Nat.testBit_and, h1, h2]; rfl
    rw [h, Nat.zero_testBit] at this
    cases this
  · intro h
    apply Nat.eq_of_testBit_eq
    intro i
    rw [Nat.testBit_and, Nat.zero_testBit]
    have := h i
    cases ha : a.testBit i <;> cases hb : b.testBit i <;> simp_all
def wrongAt (by_ : Nat → Nat) (present : Nat → Bool) (s R : Nat) (i : Nat) : Option Int := if R.testBit i = true ∧ decide (s &&& by_ i ≠ 0) ≠ present i then some (i : Int) else none
theorem firstWrong_ok {n : Int} {k : Nat} {by_ : Nat → Nat} {present : Nat → Bool} {s R : Nat} (hk : k ≤ 60) (hby : ∀ i, i < k → by_ i < W64) (hs : s < W64) (hR : R < W64) :
    trace_evidence_firstWrong (n, ((List.range k).map fun i => (by_ i : Int), (List.range k).map present)) (s : Int) (R : Int) = some (match findF (wrongAt by_ present s R) 0 k with | none => -1 | some i => i) := by
  have l1 : ((List.range k).map fun i => (by_ i : Int)).length = k := by rw [List.length_map, List.length_range]
  have l2 : ((List.range k).map present).length = k := by rw [List.length_map, List.length_range]
  have g1 : ∀ i, i < k → ∀ d, lget d ((List.range k).map fun i => (by_ i : Int)) (i : Int) = (by_ i : Int) := fun i hi d => by
    unfold lget
    rw [Int.toNat_natCast, List.getD_eq_getElem?_getD, List.getElem?_map, List.getElem?_range hi]; rfl
  have g2 : ∀ i, i < k → ∀ d, lget d ((List.range k).map present) (i : Int) = present i := fun i hi d => by
    unfold lget
    rw [Int.toNat_natCast, List.getD_eq_getElem?_getD, List.getElem?_map, List.getElem?_range hi]; rfl
  have step : ∀ i, i < k → (bif decide ((i : Int) < (k : Int)) then
      chk (decide ((0 : Int) ≤ (i : Int)) && decide ((i : Int) < (k : Int))) (
        (trace_set_has (R : Int) (i : Int)).bind fun (t_1 : Bool) =>
        (bif t_1 then
          chk (decide ((0 : Int) ≤ (i : Int)) && decide ((i : Int) < (k : Int))) (
            some (((iand .u64 (s : Int) (lget 0 ((List.range k).map fun i => (by_ i : Int)) (i : Int))) != 0) != (lget false ((List.range k).map present) (i : Int))))
        else some false).bind fun (c : Bool) =>
        bif c then
          Option.map Sum.inr (Option.map Sum.inr (
            some (i : Int)))
        else
          some (.inl (wi64 ((i : Int) + 1))))
    else
      some (.inr (.inl ()))) = some (match wrongAt by_ present s R i with | none => (.inl ((i + 1 : Nat) : Int) : Int ⊕ (Unit ⊕ Int)) | some r => .inr (.inr r)) := by
    intro i hi
    rw [dec_true (show (i : Int) < (k : Int) by omega), cond_true, chk_true (and_true' (dec_true (by omega)) rfl), has_bit hR (by omega), Option.bind_some, chk_true (and_true' (dec_true (by omega)) rfl), g1 i hi, g2 i hi, iand_nat hs (hby i hi), wi64_id (by omega) (by omega)]
    have e : (((s &&& by_ i : Nat) : Int) != 0) = decide (s &&& by_ i ≠ 0) := by
      rw [Bool.eq_iff_iff, bne_iff_ne, decide_eq_true_eq]; omega
    rw [e]
    unfold wrongAt
    by_cases hb : R.testBit i = true
    · rw [hb, cond_true, Option.bind_some]
      by_cases hw : decide (s &&& by_ i ≠ 0) ≠ present i
      · rw [if_pos ⟨rfl, hw⟩, show (decide (s &&& by_ i ≠ 0) != present i) = true by rw [bne_iff_ne]; exact hw]; rfl
      · rw [if_neg (fun e => hw e.2), show (decide (s &&& by_ i ≠ 0) != present i) = false by rw [bne_eq_false_iff_eq]; exact Decidable.of_not_not hw]; rfl
    · rw [if_neg (fun e => hb e.1), Bool.not_eq_true] at *
      rw [hb]; rfl
  unfold trace_evidence_firstWrong
  simp only
  rw [l1, l2]
  refine Option.bind_eq_some_iff.2 ⟨outF (findF (wrongAt by_ present s R) 0 k), loop_find (g := wrongAt by_ present s R) (n := k) (fun i hi hg => ?_) (fun i hi r hg => ?_) ?_ k 0 (by omega), ?_⟩
  · rw [step i hi, hg]
  · rw [step i hi, hg]
  · rw [dec_false (show ¬ (k : Int) < (k : Int) by omega), cond_false]
  · cases findF (wrongAt by_ present s R) 0 k with
    | none => rfl
    | some i => rfl
end Go.Lift
