/-
  Sets as bits; causes are checked.
-/
import Derived.Test.YtfihcmhknhbndaaGreatDoorPlainC
import Derived.Test.YtfihcmhknhbndaaGreatDoorFunCa
import Derived.Test.YtfihcmhknhbndaaGreatDoorPlainE
import Derived.Test.YtfihcmhknhbndaaGreatDoorPlainF
set_option linter.unusedSectionVars false
set_option linter.unusedVariables false
set_option linter.unusedSimpArgs false
namespace Go.Lift
open Go

/-! ### The first one -/
def findF {R : Type} (g : Nat → Option R) : Nat → Nat → Option R
  | _, 0 => none
  | k, m + 1 => match g k with
    | some r => some r
    | none => findF g (k + 1) m
def outF {R : Type} : Option R → Unit ⊕ R
  | none => .inl ()
  | some r => .inr r

theorem loop_find {R : Type} {F : Int → Option (Int ⊕ (Unit ⊕ R))} {g : Nat → Option R} {n : Nat} (h0 : ∀ i, i < n → g i = none → F (i : Int) = some (.inl ((i + 1 : Nat) : Int)))
    (h1 : ∀ i, i < n → ∀ r, g i = some r → F (i : Int) = some (.inr (.inr r))) (hend : F (n : Int) = some (.inr (.inl ()))) : ∀ (m k : Nat), k + m = n → loopM F (k : Int) = some (outF (findF g k m))
  | 0, k, hk => by
    have : k = n := by omega
    subst this
    exact loopM_done hend
  | m + 1, k, hk => by
    unfold findF
    cases hg : g k with
    | none =>
      rw [loopM_next (h0 k (by omega) hg)]
      exact loop_find h0 h1 hend m (k + 1) (by omega)
    | some r => exact loopM_done (h1 k (by omega) r hg)

theorem findF_none {R : Type} {g : Nat → Option R} : ∀ {m k : Nat}, findF g k m = none ↔ ∀ i, k ≤ i → i < k + m → g i = none
  | 0, k => ⟨fun _ i h1 h2 => by omega, fun _ => rfl⟩
  | m + 1, k => by
    unfold findF
    cases hg : g k with
    | none =>
      rw [findF_none]
      constructor
      · intro h i h1 h2
        by_cases hi : i = k
        · rw [hi]; exact hg
        · exact h i (by omega) (by omega)
      · intro h i h1 h2
        exact h i (by omega) (by omega)
    | some r =>
      constructor
      · intro h; cases h
      · intro h
        rw [h k (Nat.le_refl _) (by omega)] at hg
        cases hg
theorem findF_some {R : Type} {g : Nat → Option R} : ∀ {m k : Nat} {r : R}, findF g k m = some r → ∃ i, k ≤ i ∧ i < k + m ∧ g i = some r ∧ ∀ j, k ≤ j → j < i → g j = none
  | 0, _, _, h => by cases h
  | m + 1, k, r, h => by
    unfold findF at h
    cases hg : g k with
    | some r' =>
      rw [hg] at h
      cases h
      exact ⟨k, Nat.le_refl _, by omega, hg, fun j h1 h2 => by omega⟩
    | none =>
      rw [hg] at h
      obtain ⟨i, h1, h2, h3, h4⟩ := findF_some h
      refine ⟨i, by omega, by omega, h3, fun j h5 h6 => ?_⟩
      by_cases hj : j = k
      · rw [hj]; exact hg
      · exact h4 j (by omega) h6
theorem findF_congr {R : Type} {g g' : Nat → Option R} : ∀ {m k : Nat}, (∀ i, k ≤ i → i < k + m → g i = g' i) → findF g k m = findF g' k m
  | 0, _, _ => rfl
  | m + 1, k, h => by
    unfold findF
    rw [h k (Nat.le_refl _) (by omega)]
    cases g' k with
    | none => exact findF_congr fun i h1 h2 => h i (by omega) (by omega)
    | some r => rfl

/-! ### Bits -/
def W64 : Nat := 18446744073709551616
theorem wrap64_nat {n : Nat} (h : n < W64) : IntKind.u64.wrap (n : Int) = (n : Int) := wu64_id (x := (n : Int)) (by omega) (by unfold W64 at h; omega)
theorem toNat64 {n : Nat} (h : n < W64) : (BitVec.ofNat 64 n).toNat = n := by
  rw [BitVec.toNat_ofNat]
  exact Nat.mod_eq_of_lt h
theorem pow64 : W64 = 2 ^ 64 := by decide
theorem iand_nat {a b : Nat} (ha : a < W64) (hb : b < W64) : iand .u64 (a : Int) (b : Int) = ((a &&& b : Nat) : Int) := by
  have h64 : IntKind.u64.bits = 64 := rfl
  unfold iand
  rw [h64]
  have e2 : (BitVec.ofInt 64 (a : Int) &&& BitVec.ofInt 64 (b : Int)).toNat = a &&& b := by
    rw [BitVec.toNat_and, BitVec.ofInt_natCast, BitVec.ofInt_natCast, toNat64 ha, toNat64 hb]
  rw [e2]
  exact wrap64_nat (by rw [pow64] at *; exact Nat.and_lt_two_pow _ hb)
theorem ior_nat {a b : Nat} (ha : a < W64) (hb : b < W64) : ior .u64 (a : Int) (b : Int) = ((a ||| b : Nat) : Int) := by
  have h64 : IntKind.u64.bits = 64 := rfl
  unfold ior
  rw [h64]
  have e2 : (BitVec.ofInt 64 (a : Int) ||| BitVec.ofInt 64 (b : Int)).toNat = a ||| b := by
    rw [BitVec.toNat_or, BitVec.ofInt_natCast, BitVec.ofInt_natCast, toNat64 ha, toNat64 hb]
  rw [e2]
  exact wrap64_nat (by rw [pow64] at *; exact Nat.or_lt_two_pow ha hb)
theorem ishl_one {i : Nat} (h : i < 64) : ishl .u64 1 (i : Int) = ((2 ^ i : Nat) : Int) := by
  unfold ishl
  rw [Int.one_mul, Int.toNat_natCast, show IntKind.u64.bits = 64 from rfl, Nat.min_eq_left (by omega)]
  have : (2 : Int) ^ i = ((2 ^ i : Nat) : Int) := by rw [Int.natCast_pow]; rfl
  rw [this]
  exact wrap64_nat (by rw [pow64]; exact Nat.pow_lt_pow_right (by decide) h)
theorem ishr_nat {a i : Nat} (h : i ≤ 64) : ishr .u64 (a : Int) (i : Int) = ((a / 2 ^ i : Nat) : Int) := by
  unfold ishr
  rw [Int.toNat_natCast, show IntKind.u64.bits = 64 from rfl, Nat.min_eq_left h]
  have : (2 : Int) ^ i = ((2 ^ i : Nat) : Int) := by rw [Int.natCast_pow]; rfl
  rw [this, Int.fdiv_eq_ediv_of_nonneg _ (Int.natCast_nonneg _)]
  exact (Int.natCast_ediv a (2 ^ i)).symm

theorem has_bit {s i : Nat} (hs : s < W64) (hi : i ≤ 64) : trace_set_has (s : Int) (i : Int) = some (s.testBit i) := by
  unfold trace_set_has
  have hlt : s / 2 ^ i < W64 := Nat.lt_of_le_of_lt (Nat.div_le_self _ _) hs
  rw [chk_true (dec_true (by omega)), ishr_nat hi]
  have h1 : iand .u64 ((s / 2 ^ i : Nat) : Int) 1 = ((s / 2 ^ i &&& 1 : Nat) : Int) := iand_nat hlt (by decide)
  simp only
  rw [h1]
  congr 1
  rw [Nat.testBit_eq_decide_div_mod_eq, Nat.and_one_is_mod]
  rw [Bool.eq_iff_iff, beq_iff_eq, decide_eq_true_eq]
  omega

/-- The set of all that have a property, below n. -/
def setN (f : Nat → Bool) : Nat → Nat
  | 0 => 0
  | n + 1 => setN f n ||| (if f n then 2 ^ n else 0)
theorem setN_lt (f : Nat → Bool) : ∀ n, setN f n < 2 ^ n
  | 0 => Nat.pow_pos (by decide)
  | n + 1 => by
    have h := setN_lt f n
    unfold setN
    refine Nat.or_lt_two_pow (Nat.lt_of_lt_of_le h (Nat.pow_le_pow_right (by decide) (by omega))) ?_
    split
    · exact Nat.pow_lt_pow_right (by decide) (by omega)
    · exact Nat.pow_pos (by decide)
theorem setN_bit (f : Nat → Bool) : ∀ (n i : Nat), (setN f n).testBit i = (decide (i < n) && f i)
  | 0, i => by simp [setN]
  | n + 1, i => by
    unfold setN
    rw [Nat.testBit_or, setN_bit f n i]
    by_cases hi : i = n
    · subst hi
      by_cases hf : f i = true
      · rw [if_pos hf, Nat.testBit_two_pow_self, hf]; simp
      · rw [if_neg hf, Nat.zero_testBit]
        rw [Bool.not_eq_true] at hf
        rw [hf]; simp
    · have h2 : (if f n = true then 2 ^ n else 0).testBit i = false := by
        split
        · rw [Nat.testBit_two_pow]; simp; omega
        · exact Nat.zero_testBit i
      rw [h2, Bool.or_false]
      congr 1
      rw [decide_eq_decide]; omega
theorem setN_64 {f : Nat → Bool} {n : Nat} (h : n ≤ 64) : setN f n < W64 := by
  rw [pow64]; exact Nat.lt_of_lt_of_le (setN_lt f n) (Nat.pow_le_pow_right (by decide) h)
theorem ones_bit {n i : Nat} : (2 ^ n - 1).testBit i = decide (i < n) := Nat.testBit_two_pow_sub_one n i
theorem ones_ok {n : Nat} (h : n < 64) : wu64 (ishl .u64 1 (n : Int) - 1) = ((2 ^ n - 1 : Nat) : Int) := by
  rw [ishl_one h]
  have h1 : 1 ≤ 2 ^ n := Nat.pow_pos (by decide)
  have h2 : 2 ^ n ≤ 2 ^ 63 := Nat.pow_le_pow_right (by decide) (by omega)
  rw [wu64_id (by omega) (by have : (2 : Nat) ^ 63 = 9223372036854775808 := by decide
                             omega)]
  omega
theorem ones_64 {n : Nat} (h : n < 64) : 2 ^ n - 1 < W64 := by
  have h2 : 2 ^ n ≤ 2 ^ 63 := Nat.pow_le_pow_right (by decide) (by omega)
  have : (2 : Nat) ^ 63 = 9223372036854775808 := by decide
  unfold W64; omega
theorem meet_zero {a b : Nat} : a &&& b = 0 ↔ ∀ i, ¬ (a.testBit i = true ∧ b.testBit i = true) := by
  constructor
  · intro h i ⟨h1, h2⟩
    have : (a &&& b).testBit i = true := by rw [Nat.testBit_and, h1, h2]; rfl
    rw [h, Nat.zero_testBit] at this
    cases this
  · intro h
    apply Nat.eq_of_testBit_eq
    intro i
    rw [Nat.testBit_and, Nat.zero_testBit]
    have := h i
    cases ha : a.testBit i <;> cases hb : b.testBit i <;> simp_all

/-- The first reading of some with which a set of causes does not agree. -/
def wrongAt (by_ : Nat → Nat) (present : Nat → Bool) (s R : Nat) (i : Nat) : Option Int := if R.testBit i = true ∧ decide (s &&& by_ i ≠ 0) ≠ present i then some (i : Int) else none

theorem firstWrong_ok {n : Int} {k : Nat} {by_ : Nat → Nat} {present : Nat → Bool} {s R : Nat} (hk : k ≤ 60) (hby : ∀ i, i < k → by_ i < W64) (hs : s < W64) (hR : R < W64) :
    trace_evidence_firstWrong (n, ((List.range k).map fun i => (by_ i : Int), (List.range k).map present)) (s : Int) (R : Int) = some (match findF (wrongAt by_ present s R) 0 k with | none => -1 | some i => i) := by
  have l1 : ((List.range k).map fun i => (by_ i : Int)).length = k := by rw [List.length_map, List.length_range]
  have l2 : ((List.range k).map present).length = k := by rw [List.length_map, List.length_range]
  have g1 : ∀ i, i < k → ∀ d, lget d ((List.range k).map fun i => (by_ i : Int)) (i : Int) = (by_ i : Int) := fun i hi d => by
    unfold lget
    rw [Int.toNat_natCast, List.getD_eq_getElem?_getD, List.getElem?_map, List.getElem?_range hi]; rfl
  have g2 : ∀ i, i < k → ∀ d, lget d ((List.range k).map present) (i : Int) = present i := fun i hi d => by
    unfold lget
    rw [Int.toNat_natCast, List.getD_eq_getElem?_getD, List.getElem?_map, List.getElem?_range hi]; rfl
  have step : ∀ i, i < k → (bif decide ((i : Int) < (k : Int)) then
      chk (decide ((0 : Int) ≤ (i : Int)) && decide ((i : Int) < (k : Int))) (
        (trace_set_has (R : Int) (i : Int)).bind fun (t_1 : Bool) =>
        (bif t_1 then
          chk (decide ((0 : Int) ≤ (i : Int)) && decide ((i : Int) < (k : Int))) (
            some (((iand .u64 (s : Int) (lget 0 ((List.range k).map fun i => (by_ i : Int)) (i : Int))) != 0) != (lget false ((List.range k).map present) (i : Int))))
        else some false).bind fun (c : Bool) =>
        bif c then
          Option.map Sum.inr (Option.map Sum.inr (
            some (i : Int)))
        else
          some (.inl (wi64 ((i : Int) + 1))))
    else
      some (.inr (.inl ()))) = some (match wrongAt by_ present s R i with | none => (.inl ((i + 1 : Nat) : Int) : Int ⊕ (Unit ⊕ Int)) | some r => .inr (.inr r)) := by
    intro i hi
    rw [dec_true (show (i : Int) < (k : Int) by omega), cond_true, chk_true (and_true' (dec_true (by omega)) rfl), has_bit hR (by omega), Option.bind_some, chk_true (and_true' (dec_true (by omega)) rfl), g1 i hi, g2 i hi, iand_nat hs (hby i hi), wi64_id (by omega) (by omega)]
    have e : (((s &&& by_ i : Nat) : Int) != 0) = decide (s &&& by_ i ≠ 0) := by
      rw [Bool.eq_iff_iff, bne_iff_ne, decide_eq_true_eq]; omega
    rw [e]
    unfold wrongAt
    by_cases hb : R.testBit i = true
    · rw [hb, cond_true, Option.bind_some]
      by_cases hw : decide (s &&& by_ i ≠ 0) ≠ present i
      · rw [if_pos ⟨rfl, hw⟩, show (decide (s &&& by_ i ≠ 0) != present i) = true by rw [bne_iff_ne]; exact hw]; rfl
      · rw [if_neg (fun e => hw e.2), show (decide (s &&& by_ i ≠ 0) != present i) = false by rw [bne_eq_false_iff_eq]; exact Decidable.of_not_not hw]; rfl
    · rw [if_neg (fun e => hb e.1), Bool.not_eq_true] at *
      rw [hb]; rfl
  unfold trace_evidence_firstWrong
  simp only
  rw [l1, l2]
  refine Option.bind_eq_some_iff.2 ⟨outF (findF (wrongAt by_ present s R) 0 k), loop_find (g := wrongAt by_ present s R) (n := k) (fun i hi hg => ?_) (fun i hi r hg => ?_) ?_ k 0 (by omega), ?_⟩
  · rw [step i hi, hg]
  · rw [step i hi, hg]
  · rw [dec_false (show ¬ (k : Int) < (k : Int) by omega), cond_false]
  · cases findF (wrongAt by_ present s R) 0 k with
    | none => rfl
    | some i => rfl

end Go.Lift

namespace Go.Lift
open Go

theorem containsC_ok {l : List Dapi_TraceCause} {f : Dapi_TraceCause → Option Bool} {g : Dapi_TraceCause → Bool} (hf : ∀ x, f x = some (g x)) (hl : l.length ≤ 1000) : slices_ContainsFunc_apiTraceCause l f = some (l.any g) := by
  unfold slices_ContainsFunc_apiTraceCause slices_IndexFunc_apiTraceCause
  have key : ∃ r : Unit ⊕ Int, loopM (S := Int) (R := (Unit) ⊕ (Int)) (fun t =>
    bif decide (t < (List.length l : Int)) then
      chk (decide ((0 : Int) ≤ t) && decide (t < (List.length l : Int))) (
        (f (lget (ByteArray.empty, (0, (0, (0, 0)))) l t)).bind fun (t_1 : Bool) =>
        bif t_1 then
          Option.map Sum.inr (Option.map Sum.inr (
            some t))
        else
          some (.inl (wi64 (t + 1))))
    else
      some (.inr (.inl ()))) 0 = some r ∧ ((r = .inl () ∧ l.any g = false) ∨ ∃ i : Nat, r = .inr (i : Int) ∧ l.any g = true) := by
    refine loopM_list (X := Dapi_TraceCause) (l := l) (fun l' s => ∃ pre, l = pre ++ l' ∧ s = (pre.length : Int) ∧ l.any g = l'.any g) _ ?_ ?_ ⟨[], rfl, rfl, rfl⟩
    · rintro x l' s ⟨pre, e1, rfl, e2⟩
      have hL : l.length = pre.length + (l'.length + 1) := by rw [e1, List.length_append, List.length_cons]
      have g1 : ∀ d, lget d l (pre.length : Int) = x := fun d => by rw [e1]; exact lget_mid
      rw [dec_true (show (pre.length : Int) < (l.length : Int) by omega), cond_true, chk_true (and_true' (dec_true (by omega)) rfl), g1, hf, Option.bind_some]
      rw [List.any_cons] at e2
      cases hx : g x with
      | false =>
        left
        rw [hx, Bool.false_or] at e2
        rw [cond_false, wi64_id (by omega) (by omega)]
        exact ⟨_, rfl, pre ++ [x], by rw [e1]; simp, by rw [List.length_append, List.length_singleton]; rfl, e2⟩
      | true =>
        right
        rw [hx, Bool.true_or] at e2
        exact ⟨_, rfl, Or.inr ⟨pre.length, rfl, e2⟩⟩
    · rintro s ⟨pre, e1, rfl, e2⟩
      have hL : l.length = pre.length := by rw [e1, List.append_nil]
      rw [dec_false (show ¬ (pre.length : Int) < (l.length : Int) by omega), cond_false]
      exact ⟨_, rfl, Or.inl ⟨rfl, e2⟩⟩
  obtain ⟨r, h1, h2⟩ := key
  rw [h1]
  rcases h2 with ⟨rfl, h2⟩ | ⟨i, rfl, h2⟩
  · rw [h2]; rfl
  · rw [h2, Option.bind_some]
    simp only
    rw [Option.bind_some, dec_true (show (i : Int) ≥ 0 by omega)]

abbrev d0 : Dapi_TraceCause := (ByteArray.empty, (0, (0, (0, 0))))
theorem and3 {a b d : Bool} {A : Type} {k : Bool → Option A} : ((bif a then (some b).bind fun (t_9 : Bool) => some t_9 else some false).bind fun (c_1 : Bool) => (bif c_1 then (some d).bind fun (t_10 : Bool) => some t_10 else some false).bind k) = k (a && b && d) := by
  cases a <;> cases b <;> cases d <;> rfl

/-- The error of the i-th cause. -/
def causeE (c : Dapi_TraceCourse) (l : List Dapi_TraceCause) (i : Nat) : Int :=
  let x := lget d0 l (i : Int)
  firstE [if nameB x.1 then 0 else 4, if !((l.take i).any fun o => seqb o.1 x.1) then 0 else 5, if 0 ≤ x.2.1 ∧ x.2.1 ≤ (c.2.2.2.length : Int) then 0 else 2,
    if decide (0 ≤ x.2.2.1 ∧ x.2.2.1 ≤ 1000000) && decide (0 ≤ x.2.2.2.1 ∧ x.2.2.2.1 ≤ 1000000) && decide (0 ≤ x.2.2.2.2 ∧ x.2.2.2.2 ≤ 1000000) then 0 else 2,
    if decide (x.2.2.1 ≤ x.2.2.2.1) then 0 else 9, if (x.2.2.2.2 == 0) || decide (x.2.2.2.2 > wi64 (x.2.2.2.1 - x.2.2.1)) then 0 else 13]

def causeR (c : Dapi_TraceCourse) (l : List Dapi_TraceCause) (i : Nat) : Option (Int × Int) := if causeE c l i = 0 then none else some ((i : Int), causeE c l i)

theorem openCauses_ok {c : Dapi_TraceCourse} {strips : List (List Dtrace_section)} {e : Int} {l : List Dapi_TraceCause} (hop : trace_opened c [] = some ((c, strips), e)) (hl : ∀ x, x ∈ l → x.1.size ≤ 9223372036854775807) :
    trace_openCauses c l = some ((c, strips), if e ≠ 0 then (0, e) else if l.length ≤ 5 then (findF (causeR c l) 0 l.length).getD (0, 0) else (0, 8)) := by
  unfold trace_openCauses
  rw [hop, Option.bind_some, unless_ok, Option.bind_some, first_ok (by simp), Option.bind_some, first2]
  simp only
  by_cases he : e = 0
  · subst he
    rw [if_neg (show ¬ (0 : Int) ≠ 0 from fun h => h rfl), if_pos rfl]
    by_cases h5 : l.length ≤ 5
    · rw [dec_true (show (l.length : Int) ≤ 5 by omega), if_pos rfl, show ((0 : Int) != 0) = false from rfl, cond_false, if_pos h5]
      have step : ∀ i, i < l.length → ∀ d, lget d l (i : Int) ∈ l := fun i hi d => by
        unfold lget
        rw [Int.toNat_natCast, List.getD_eq_getElem?_getD, List.getElem?_eq_getElem hi]
        exact List.getElem_mem hi
      refine Option.bind_eq_some_iff.2 ⟨outF ((findF (causeR c l) 0 l.length).map fun r => ((c, strips), r)), ?_, ?_⟩
      · have hmap : ∀ m k, (findF (causeR c l) k m).map (fun r => ((c, strips), r)) = findF (fun i => (causeR c l i).map fun r => ((c, strips), r)) k m := by
          intro m
          induction m with
          | zero => intro k; rfl
          | succ m ih =>
            intro k
            unfold findF
            cases causeR c l k with
            | none => exact ih (k + 1)
            | some r => rfl
        rw [hmap]
        have body : ∀ i, i < l.length → (slices_ContainsFunc_apiTraceCause (l.take i) fun x => trace_openCauses_1 x (lget d0 l (i : Int))) = some ((l.take i).any fun o => seqb o.1 (lget d0 l (i : Int)).1) := fun i hi =>
          containsC_ok (g := fun o => seqb o.1 (lget d0 l (i : Int)).1) (fun x => rfl) (by rw [List.length_take]; omega)
        refine loop_find (n := l.length) (fun i hi hg => ?_) (fun i hi r hg => ?_) ?_ l.length 0 (by omega)
        · have hz : causeE c l i = 0 := by
            unfold causeR at hg
            split at hg
            · assumption
            · cases hg
          rw [dec_true (show (i : Int) < (l.length : Int) by omega), cond_true, chk_true (and_true' (dec_true (by omega)) rfl), chk_true (by rw [dec_true (show (0 : Int) ≤ 0 by decide), dec_true (show (0 : Int) ≤ (i : Int) by omega), dec_true (show (i : Int) ≤ (l.length : Int) by omega)]; rfl)]
          rw [show List.drop (Int.toNat 0) (List.take (Int.toNat (i : Int)) l) = l.take i by rw [Int.toNat_natCast]; rfl, body i hi, Option.bind_some, isName_ok (hl _ (step i hi _)), Option.bind_some, unless_ok, Option.bind_some, unless_ok, Option.bind_some, tstepsErr_ok, Option.bind_some, isPosition_ok, Option.bind_some, isPosition_ok, isPosition_ok, and3, unless_ok, Option.bind_some, unless_ok, Option.bind_some, unless_ok, Option.bind_some, first_ok (by simp), Option.bind_some]
          rw [show firstE _ = (0 : Int) from hz, wi64_id (x := (i : Int) + 1) (by omega) (by omega)]
          rfl
        · obtain ⟨hz, hr⟩ : causeE c l i ≠ 0 ∧ r = ((c, strips), ((i : Int), causeE c l i)) := by
            unfold causeR at hg
            split at hg
            · cases hg
            · rename_i hz
              exact ⟨hz, (Option.some.inj hg).symm⟩
          rw [dec_true (show (i : Int) < (l.length : Int) by omega), cond_true, chk_true (and_true' (dec_true (by omega)) rfl), chk_true (by rw [dec_true (show (0 : Int) ≤ 0 by decide), dec_true (show (0 : Int) ≤ (i : Int) by omega), dec_true (show (i : Int) ≤ (l.length : Int) by omega)]; rfl)]
          rw [show List.drop (Int.toNat 0) (List.take (Int.toNat (i : Int)) l) = l.take i by rw [Int.toNat_natCast]; rfl, body i hi, Option.bind_some, isName_ok (hl _ (step i hi _)), Option.bind_some, unless_ok, Option.bind_some, unless_ok, Option.bind_some, tstepsErr_ok, Option.bind_some, isPosition_ok, Option.bind_some, isPosition_ok, isPosition_ok, and3, unless_ok, Option.bind_some, unless_ok, Option.bind_some, unless_ok, Option.bind_some, first_ok (by simp), Option.bind_some]
          have hne : (causeE c l i != 0) = true := by rw [bne_iff_ne]; exact hz
          rw [show firstE _ = causeE c l i from rfl, hne, cond_true, hr]
          rfl
        · rw [dec_false (show ¬ (l.length : Int) < (l.length : Int) by omega), cond_false]
      · cases findF (causeR c l) 0 l.length with
        | none => rfl
        | some r => rfl
    · rw [dec_false (show ¬ (l.length : Int) ≤ 5 by omega), if_neg h5]
      rfl
  · rw [if_pos he, if_neg he, show (e != 0) = true by rw [bne_iff_ne]; exact he, cond_true]

/-! ### The reference -/
theorem lget_getD {A : Type} {d : A} {l : List A} {i : Nat} (hi : i < l.length) : lget d l (i : Int) = l[i] := by
  unfold lget
  rw [Int.toNat_natCast, List.getD_eq_getElem?_getD, List.getElem?_eq_getElem hi]; rfl

theorem same_loop {R : Type} {l : List Dapi_TraceCause} {i : Nat} (hi : i < l.length) (h7 : l.length ≤ 1000) {s : ByteArray} {r : R} :
    loopM (S := Int) (R := Unit ⊕ R) (fun k =>
                bif decide (k < (i : Int)) then
                  chk (decide ((0 : Int) ≤ k) && decide (k < (List.length l : Int))) (
                    bif seqb ((lget (ByteArray.empty, (0, (0, (0, 0)))) l k).1) s then
                      some (.inr (.inr r))
                    else
                      some (.inl (wi64 (k + 1))))
                else
                  some (.inr (.inl ()))) 0 = some (if (l.take i).any (fun o => seqb o.1 s) then .inr r else .inl ()) := by
  refine (loop_find (g := fun k => if seqb ((lget d0 l (k : Int)).1) s then some r else none) (n := i) (fun k hk hg => ?_) (fun k hk r' hg => ?_) ?_ i 0 (by omega)).trans ?_
  rotate_left 3
  · congr 1
    by_cases h : (l.take i).any (fun o => seqb o.1 s) = true
    · rw [if_pos h]
      obtain ⟨o, ho, hs⟩ := List.any_eq_true.1 h
      obtain ⟨k, hk, rfl⟩ := List.getElem_of_mem ho
      rw [List.length_take] at hk
      rw [List.getElem_take] at hs
      cases hf : findF (fun k => if seqb ((lget d0 l (k : Int)).1) s then some r else none) 0 i with
      | none =>
        have := findF_none.1 hf k (by omega) (by omega)
        rw [lget_getD (by omega), if_pos hs] at this
        cases this
      | some r' =>
        obtain ⟨j, _, _, hj, _⟩ := findF_some hf
        split at hj
        · cases hj; rfl
        · cases hj
    · rw [if_neg h]
      have : findF (fun k => if seqb ((lget d0 l (k : Int)).1) s then some r else none) 0 i = none := by
        rw [findF_none]
        intro k _ hk
        rw [Bool.not_eq_true, List.any_eq_false] at h
        have hm : l[k]'(by omega) ∈ l.take i := by
          rw [List.mem_take_iff_getElem]
          exact ⟨k, by omega, rfl⟩
        rw [lget_getD (by omega), if_neg (h _ hm)]
      rw [this]; rfl
  · rw [dec_true (show (k : Int) < (i : Int) by omega), cond_true, chk_true (and_true' (dec_true (by omega)) (dec_true (by omega)))]
    split at hg
    · cases hg
    · rename_i h
      rw [Bool.not_eq_true] at h
      rw [h, cond_false, wi64_id (by omega) (by omega)]
      rfl
  · rw [dec_true (show (k : Int) < (i : Int) by omega), cond_true, chk_true (and_true' (dec_true (by omega)) (dec_true (by omega)))]
    split at hg
    · rename_i h
      cases hg
      rw [h, cond_true]
    · cases hg
  · rw [dec_false (show ¬ (i : Int) < (i : Int) by omega), cond_false]

theorem fE0 {l : List Int} : firstE (0 :: l) = firstE l := by conv => lhs; unfold firstE
                                                              rw [if_pos rfl]
theorem fEn {n : Int} {l : List Int} (h : n ≠ 0) : firstE (n :: l) = n := by unfold firstE; rw [if_neg h]

theorem causeR_of {c : Dapi_TraceCourse} {l : List Dapi_TraceCause} {i : Nat} {e : Int} (h : causeE c l i = e) : causeR c l i = if e = 0 then none else some ((i : Int), e) := by unfold causeR; rw [h]

theorem CheckCauses_ok {c : Dapi_TraceCourse} {e : Int} {l : List Dapi_TraceCause} (hce : cobbleref09_CourseErr c = some e) (hl : ∀ x, x ∈ l → x.1.size ≤ 9223372036854775807) :
    cobbleref09_CheckCauses c l = some (if e ≠ 0 then (0, e) else if l.length ≤ 5 then (findF (causeR c l) 0 l.length).getD (0, 0) else (0, 8)) := by
  unfold cobbleref09_CheckCauses
  rw [hce, Option.bind_some]
  by_cases he : e = 0
  · subst he
    rw [show ((0 : Int) != 0) = false from rfl, cond_false, if_neg (show ¬ (0 : Int) ≠ 0 from fun h => h rfl)]
    by_cases h5 : l.length ≤ 5
    · rw [dec_false (show ¬ (l.length : Int) > 5 by omega), cond_false, if_pos h5]
      refine Option.bind_eq_some_iff.2 ⟨outF (findF (causeR c l) 0 l.length), ?_, ?_⟩
      · have key : ∀ i, i < l.length → ∀ F : Option (Int ⊕ (Unit ⊕ (Int × Int))), F = (
            let x : Dapi_TraceCause := lget (ByteArray.empty, (0, (0, (0, 0)))) l (i : Int)
            (cobblebase_IsName x.1).bind fun (t_1 : Bool) =>
            bif !t_1 then
              Option.map Sum.inr (Option.map Sum.inr (
                some ((i : Int), (4 : Int))))
            else
              (loopM (S := Int) (R := (Unit) ⊕ ((Int) ⊕ ((Unit) ⊕ (Int × Int)))) (fun k =>
                bif decide (k < (i : Int)) then
                  chk (decide ((0 : Int) ≤ k) && decide (k < (List.length l : Int))) (
                    bif seqb ((lget (ByteArray.empty, (0, (0, (0, 0)))) l k).1) x.1 then
                      Option.map Sum.inr (Option.map Sum.inr (
                        Option.map Sum.inr (Option.map Sum.inr (
                          some ((i : Int), 5)))))
                    else
                      some (.inl (wi64 (k + 1))))
                else
                  some (.inr (.inl ()))) 0).bind fun j => match j with
              | .inl _ => (
                (cobbleref09_StepsErr c x.2.1).bind fun (t_2 : Int) =>
                bif (t_2 != 0) then
                  Option.map Sum.inr (Option.map Sum.inr (
                    some ((i : Int), t_2)))
                else
                  (cobblebase_Within x.2.2.1 0 1000000).bind fun (t_3 : Bool) =>
                  (bif !t_3 then some true else
                    (cobblebase_Within x.2.2.2.1 0 1000000).bind fun (t_4 : Bool) =>
                    some (!t_4)).bind fun (c_1 : Bool) =>
                  (bif c_1 then some true else
                    (cobblebase_Within x.2.2.2.2 0 1000000).bind fun (t_5 : Bool) =>
                    some (!t_5)).bind fun (c_2 : Bool) =>
                  bif c_2 then
                    Option.map Sum.inr (Option.map Sum.inr (
                      some ((i : Int), 2)))
                  else
                    bif decide (x.2.2.1 > x.2.2.2.1) then
                      Option.map Sum.inr (Option.map Sum.inr (
                        some ((i : Int), 9)))
                    else
                      bif ((x.2.2.2.2 != 0) && (decide (x.2.2.2.2 ≤ (wi64 (x.2.2.2.1 - x.2.2.1))))) then
                        Option.map Sum.inr (Option.map Sum.inr (
                          some ((i : Int), 13)))
                      else
                        some (.inl (wi64 ((i : Int) + 1))))
              | .inr r => some r) → F = some (match causeR c l i with | none => .inl ((i + 1 : Nat) : Int) | some r => .inr (.inr r)) := by
          rintro i hi F rfl
          have hm : lget d0 l (i : Int) ∈ l := by rw [lget_getD hi]; exact List.getElem_mem hi
          have hn := IsName_ok (hl _ hm)
          have hloop := fun (s : ByteArray) => same_loop (R := Int ⊕ (Unit ⊕ (Int × Int))) hi (show l.length ≤ 1000 by omega) (s := s) (r := .inr (.inr ((i : Int), 5)))
          simp only
          change (cobblebase_IsName (lget d0 l (i : Int)).1).bind _ = _
          obtain ⟨x, hx⟩ : ∃ x, lget d0 l (i : Int) = x := ⟨_, rfl⟩
          have hE : causeE c l i = firstE [if nameB x.1 then 0 else 4, if !((l.take i).any fun o => seqb o.1 x.1) then 0 else 5, if 0 ≤ x.2.1 ∧ x.2.1 ≤ (c.2.2.2.length : Int) then 0 else 2,
              if decide (0 ≤ x.2.2.1 ∧ x.2.2.1 ≤ 1000000) && decide (0 ≤ x.2.2.2.1 ∧ x.2.2.2.1 ≤ 1000000) && decide (0 ≤ x.2.2.2.2 ∧ x.2.2.2.2 ≤ 1000000) then 0 else 2,
              if decide (x.2.2.1 ≤ x.2.2.2.1) then 0 else 9, if (x.2.2.2.2 == 0) || decide (x.2.2.2.2 > wi64 (x.2.2.2.1 - x.2.2.1)) then 0 else 13] := by rw [← hx]; rfl
          have hgx : lget (ByteArray.empty, (0, (0, (0, 0)))) l (i : Int) = x := hx
          rw [hx] at hn ⊢
          rw [hn, Option.bind_some]
          by_cases h1 : nameB x.1 = true
          · rw [if_pos h1, fE0] at hE
            rw [h1, Bool.not_true, cond_false]
            by_cases h2 : (l.take i).any (fun o => seqb o.1 x.1) = true
            · rw [h2, show (if (!true) = true then (0 : Int) else 5) = 5 from rfl, fEn (by decide)] at hE
              rw [causeR_of hE, if_neg (by decide)]
              refine Option.bind_eq_some_iff.2 ⟨_, hloop x.1, ?_⟩
              rw [if_pos h2]
            · rw [Bool.not_eq_true] at h2
              rw [h2, show (if (!false) = true then (0 : Int) else 5) = 0 from rfl, fE0] at hE
              refine Option.bind_eq_some_iff.2 ⟨_, hloop x.1, ?_⟩
              rw [if_neg (by rw [h2]; decide)]
              simp only
              rw [rstepsErr_ok, Option.bind_some]
              by_cases h3 : 0 ≤ x.2.1 ∧ x.2.1 ≤ (c.2.2.2.length : Int)
              · rw [if_pos h3, fE0] at hE
                rw [if_pos h3, show ((0 : Int) != 0) = false from rfl, cond_false, Within_ok, Option.bind_some, Within_ok, Option.bind_some, Within_ok, Option.bind_some]
                have h4 : ((bif !decide (0 ≤ x.2.2.1 ∧ x.2.2.1 ≤ 1000000) then some true else some (!decide (0 ≤ x.2.2.2.1 ∧ x.2.2.2.1 ≤ 1000000))).bind fun c_1 => bif c_1 then some true else some (!decide (0 ≤ x.2.2.2.2 ∧ x.2.2.2.2 ≤ 1000000))) =
                    some (!(decide (0 ≤ x.2.2.1 ∧ x.2.2.1 ≤ 1000000) && decide (0 ≤ x.2.2.2.1 ∧ x.2.2.2.1 ≤ 1000000) && decide (0 ≤ x.2.2.2.2 ∧ x.2.2.2.2 ≤ 1000000))) := by
                  cases decide (0 ≤ x.2.2.1 ∧ x.2.2.1 ≤ 1000000) <;> cases decide (0 ≤ x.2.2.2.1 ∧ x.2.2.2.1 ≤ 1000000) <;> cases decide (0 ≤ x.2.2.2.2 ∧ x.2.2.2.2 ≤ 1000000) <;> rfl
                generalize hb4 : (decide (0 ≤ x.2.2.1 ∧ x.2.2.1 ≤ 1000000) && decide (0 ≤ x.2.2.2.1 ∧ x.2.2.2.1 ≤ 1000000) && decide (0 ≤ x.2.2.2.2 ∧ x.2.2.2.2 ≤ 1000000)) = b4 at *
                obtain ⟨c1, hc1, hc2⟩ := Option.bind_eq_some_iff.1 h4
                rw [hc1, Option.bind_some, hc2, Option.bind_some]
                cases b4 with
                | false =>
                  rw [show (if false = true then (0 : Int) else 2) = 2 from rfl, fEn (by decide)] at hE
                  rw [causeR_of hE, if_neg (by decide)]
                  rfl
                | true =>
                  rw [if_pos rfl, fE0] at hE
                  rw [Bool.not_true, cond_false]
                  by_cases h5 : x.2.2.1 ≤ x.2.2.2.1
                  · rw [dec_true h5, if_pos rfl, fE0] at hE
                    rw [dec_false (show ¬ x.2.2.1 > x.2.2.2.1 by omega), cond_false]
                    by_cases h6 : ((x.2.2.2.2 == 0) || decide (x.2.2.2.2 > wi64 (x.2.2.2.1 - x.2.2.1))) = true
                    · rw [if_pos h6, fE0] at hE
                      have h7 : ((x.2.2.2.2 != 0) && (decide (x.2.2.2.2 ≤ (wi64 (x.2.2.2.1 - x.2.2.1))))) = false := by
                        rw [Bool.or_eq_true, beq_iff_eq, decide_eq_true_eq] at h6
                        rw [Bool.and_eq_false_iff, bne_eq_false_iff_eq, decide_eq_false_iff_not]
                        omega
                      rw [h7, cond_false, causeR_of (show causeE c l i = 0 from hE), if_pos rfl, wi64_id (x := (i : Int) + 1) (by omega) (by omega)]
                      rfl
                    · rw [if_neg h6, fEn (by decide)] at hE
                      have h7 : ((x.2.2.2.2 != 0) && (decide (x.2.2.2.2 ≤ (wi64 (x.2.2.2.1 - x.2.2.1))))) = true := by
                        rw [Bool.not_eq_true, Bool.or_eq_false_iff, beq_eq_false_iff_ne, decide_eq_false_iff_not] at h6
                        rw [Bool.and_eq_true, bne_iff_ne, decide_eq_true_eq]
                        exact ⟨h6.1, by omega⟩
                      rw [h7, cond_true, causeR_of hE, if_neg (by decide)]
                      rfl
                  · rw [dec_false h5, show (if false = true then (0 : Int) else 9) = 9 from rfl, fEn (by decide)] at hE
                    rw [dec_true (show x.2.2.1 > x.2.2.2.1 by omega), cond_true, causeR_of hE, if_neg (by decide)]
                    rfl
              · rw [if_neg h3, fEn (by decide)] at hE
                rw [if_neg h3, show ((2 : Int) != 0) = true from rfl, cond_true, causeR_of hE, if_neg (by decide)]
                rfl
          · rw [if_neg h1, fEn (by decide)] at hE
            rw [Bool.not_eq_true] at h1
            rw [h1, Bool.not_false, cond_true, causeR_of hE, if_neg (by decide)]
            rfl
        refine loop_find (n := l.length) (fun i hi hg => ?_) (fun i hi r hg => ?_) ?_ l.length 0 (by omega)
        · rw [dec_true (show (i : Int) < (l.length : Int) by omega), cond_true, chk_true (and_true' (dec_true (by omega)) rfl)]
          refine (key i hi _ rfl).trans ?_
          rw [hg]
        · rw [dec_true (show (i : Int) < (l.length : Int) by omega), cond_true, chk_true (and_true' (dec_true (by omega)) rfl)]
          refine (key i hi _ rfl).trans ?_
          rw [hg]
        · rw [dec_false (show ¬ (l.length : Int) < (l.length : Int) by omega), cond_false]
      · cases findF (causeR c l) 0 l.length with
        | none => rfl
        | some r => rfl
    · rw [dec_true (show (l.length : Int) > 5 by omega), if_neg h5]
      rfl
  · rw [if_pos he, show (e != 0) = true by rw [bne_iff_ne]; exact he, cond_true]

end Go.Lift
