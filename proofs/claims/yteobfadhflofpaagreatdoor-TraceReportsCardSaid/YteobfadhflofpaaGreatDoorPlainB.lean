/-
  The document's wide numbers and fractions.
-/
import Derived.Test.YteobfadhflofpaaGreatDoorPlainA
set_option linter.unusedSectionVars false
set_option linter.unusedVariables false
set_option linter.unusedSimpArgs false
namespace Go.Lift
open Go
abbrev T9 : Nat := 1000000000
theorem hT : 2 ≤ T9 := by decide
abbrev td (n : Nat) : List Int := dig T9 n
abbrev tw (n : Nat) : Nat := wd T9 n
theorem td_len (n : Nat) : (td n).length = tw n := dig_len _ _
theorem tw_lt (n : Nat) : n < T9 ^ tw n := wd_lt hT n
theorem tw_of_lt {n k : Nat} (h : n < T9 ^ k) : tw n ≤ k := wd_of_lt hT h
theorem tw_beyond {n i : Nat} (h : tw n ≤ i) : n / T9 ^ i % T9 = 0 := digit_beyond hT h
theorem tw_mono {m n : Nat} (h : m ≤ n) : tw m ≤ tw n := wd_mono hT h
theorem pow_posT (k : Nat) : 0 < T9 ^ k := Nat.pow_pos (by decide)
theorem dltT (n i : Nat) : n / T9 ^ i % T9 < 1000000000 := digit_lt hT n i
theorem td_zero : td 0 = [] := dig_zero _
def carryT (a b k : Nat) : Nat := (a % T9 ^ k + b % T9 ^ k) / T9 ^ k
theorem carryT_step (a b k : Nat) : carryT a b k + (a / T9 ^ k % T9 + b / T9 ^ k % T9) = carryT a b (k + 1) * T9 + (a + b) / T9 ^ k % T9 ∧ carryT a b k ≤ 1 := by
  have hp : 0 < T9 ^ k := pow_posT k
  have ha := mod_succ T9 a k
  have hb := mod_succ T9 b k
  have hA := Nat.mod_lt a hp
  have hB := Nat.mod_lt b hp
  have e1 : (a + b) / T9 ^ k % T9 = (carryT a b k + (a / T9 ^ k % T9 + b / T9 ^ k % T9)) % T9 := by
    unfold carryT
    have : a + b = (a % T9 ^ k + b % T9 ^ k) + T9 ^ k * (a / T9 ^ k + b / T9 ^ k) := by
      have h1 := Nat.mod_add_div a (T9 ^ k)
      have h2 := Nat.mod_add_div b (T9 ^ k)
      rw [Nat.mul_add]; omega
    rw [this, Nat.add_mul_div_left _ _ hp]
    simp only [Nat.add_mod, Nat.mod_mod]
  have e2 : carryT a b (k + 1) = (carryT a b k + (a / T9 ^ k % T9 + b / T9 ^ k % T9)) / T9 := by
    unfold carryT
    rw [ha, hb, Nat.pow_succ, ← Nat.div_div_eq_div_mul]
    congr 1
    rw [show a % T9 ^ k + T9 ^ k * (a / T9 ^ k % T9) + (b % T9 ^ k + T9 ^ k * (b / T9 ^ k % T9)) = (a % T9 ^ k + b % T9 ^ k) + T9 ^ k * (a / T9 ^ k % T9 + b / T9 ^ k % T9) by rw [Nat.mul_add]; omega]
    rw [Nat.add_mul_div_left _ _ hp]
  constructor
  · rw [e1, e2]
    have := Nat.mod_add_div (carryT a b k + (a / T9 ^ k % T9 + b / T9 ^ k % T9)) T9
    rw [Nat.mul_comm T9] at this
    omega
  · unfold carryT
    rw [← Nat.lt_succ_iff, Nat.div_lt_iff_lt_mul hp]
    omega
def borT (a b k : Nat) : Nat := if a % T9 ^ k < b % T9 ^ k then 1 else 0
theorem borT_step {a b : Nat} (h : b ≤ a) (k : Nat) : a / T9 ^ k % T9 + 1000000000 * borT a b (k + 1) = b / T9 ^ k % T9 + borT a b k + (a - b) / T9 ^ k % T9 ∧ borT a b k ≤ 1 ∧ borT a b (k + 1) ≤ 1 := by
  have hp := pow_posT k
  have hA := Nat.mod_lt a hp
  have hB := Nat.mod_lt b hp
  have ea := Nat.div_add_mod a (T9 ^ k)
  have eb := Nat.div_add_mod b (T9 ^ k)
  have hbk : borT a b k ≤ 1 := by unfold borT; split <;> omega
  have hbk1 : borT a b (k + 1) ≤ 1 := by unfold borT; split <;> omega
  have key : ∃ R, R < T9 ^ k ∧ a - b = R + T9 ^ k * (a / T9 ^ k - b / T9 ^ k - borT a b k) ∧ b / T9 ^ k + borT a b k ≤ a / T9 ^ k := by
    have hq : b / T9 ^ k ≤ a / T9 ^ k := Nat.div_le_div_right h
    unfold borT
    split
    · rename_i hlt
      have hq2 : b / T9 ^ k + 1 ≤ a / T9 ^ k := by
        rcases Nat.lt_or_ge (b / T9 ^ k) (a / T9 ^ k) with h1 | h1
        · exact h1
        · have : a / T9 ^ k = b / T9 ^ k := by omega
          rw [this] at ea; omega
      refine ⟨a % T9 ^ k + T9 ^ k - b % T9 ^ k, by omega, ?_, hq2⟩
      obtain ⟨D, hD⟩ : ∃ D, a / T9 ^ k = D + (b / T9 ^ k + 1) := ⟨a / T9 ^ k - (b / T9 ^ k + 1), by omega⟩
      rw [show a / T9 ^ k - b / T9 ^ k - 1 = D by omega]
      rw [hD, Nat.mul_add, Nat.mul_add, Nat.mul_one] at ea
      generalize T9 ^ k * D = p1 at *
      generalize T9 ^ k * (b / T9 ^ k) = p2 at *
      generalize a % T9 ^ k = A at *
      generalize b % T9 ^ k = B at *
      omega
    · refine ⟨a % T9 ^ k - b % T9 ^ k, Nat.lt_of_le_of_lt (Nat.sub_le _ _) hA, ?_, hq⟩
      obtain ⟨D, hD⟩ : ∃ D, a / T9 ^ k = D + b / T9 ^ k := ⟨a / T9 ^ k - b / T9 ^ k, by omega⟩
      rw [show a / T9 ^ k - b / T9 ^ k - 0 = D by omega]
      rw [hD, Nat.mul_add] at ea
      generalize T9 ^ k * D = p1 at *
      generalize T9 ^ k * (b / T9 ^ k) = p2 at *
      generalize a % T9 ^ k = A at *
      generalize b % T9 ^ k = B at *
      omega
  obtain ⟨R, hR, e, hq⟩ := key
  have ed : (a - b) / T9 ^ k = a / T9 ^ k - b / T9 ^ k - borT a b k := by
    rw [e, Nat.add_mul_div_left _ _ hp, Nat.div_eq_of_lt hR, Nat.zero_add]
  have eb1 : borT a b (k + 1) = if a / T9 ^ k % T9 < b / T9 ^ k % T9 + borT a b k then 1 else 0 := by
    unfold borT
    rw [mod_succ, mod_succ]
    generalize a / T9 ^ k % T9 = x
    generalize b / T9 ^ k % T9 = y
    generalize a % T9 ^ k = A at *
    generalize b % T9 ^ k = B at *
    generalize T9 ^ k = p at *
    have hxy : x < y → p * x + p ≤ p * y := fun h => by
      have := Nat.mul_le_mul_left p (show x + 1 ≤ y from h)
      rw [Nat.mul_add, Nat.mul_one] at this
      exact this
    have hyx : y < x → p * y + p ≤ p * x := fun h => by
      have := Nat.mul_le_mul_left p (show y + 1 ≤ x from h)
      rw [Nat.mul_add, Nat.mul_one] at this
      exact this
    rcases Nat.lt_trichotomy x y with hc | hc | hc
    · have := hxy hc
      rw [if_pos (by omega), if_pos (by omega)]
    · subst hc
      split <;> split <;> split <;> omega
    · have := hyx hc
      rw [if_neg (by omega)]
      split <;> rw [if_neg (by omega)]
  refine ⟨?_, hbk, hbk1⟩
  rw [ed, eb1]
  clear e ea eb hR ed eb1 hbk1 hA hB hp
  generalize borT a b k = c at *
  generalize a / T9 ^ k = qa at *
  generalize b / T9 ^ k = qb at *
  rw [show T9 = 1000000000 from rfl]
  clear h
  split <;> omega
def carryN (p c b k : Nat) : Nat := (p % T9 ^ k + c * (b % T9 ^ k)) / T9 ^ k
theorem carryN_zero (p c b : Nat) : carryN p c b 0 = 0 := by
  unfold carryN
  rw [Nat.pow_zero, Nat.mod_one, Nat.mod_one, Nat.mul_zero]
theorem carryN_step (p c b k : Nat) : carryN p c b k + p / T9 ^ k % T9 + c * (b / T9 ^ k % T9) = carryN p c b (k + 1) * 1000000000 + (p + c * b) / T9 ^ k % T9 := by
  have hp := pow_posT k
  have h1 := Nat.div_add_mod p (T9 ^ k)
  have h2 := Nat.div_add_mod b (T9 ^ k)
  have e1 : (p + c * b) / T9 ^ k % T9 = (carryN p c b k + p / T9 ^ k % T9 + c * (b / T9 ^ k % T9)) % T9 := by
    have e : p + c * b = (p % T9 ^ k + c * (b % T9 ^ k)) + T9 ^ k * (p / T9 ^ k + c * (b / T9 ^ k)) := by
      conv => lhs; rw [← h1, ← h2]
      rw [Nat.mul_add, Nat.mul_add, Nat.mul_left_comm c]
      omega
    have e3 : (p + c * b) / T9 ^ k = carryN p c b k + (p / T9 ^ k + c * (b / T9 ^ k)) := by
      rw [e, Nat.add_mul_div_left _ _ hp]; rfl
    rw [e3]
    rw [← Nat.add_assoc]
    simp only [Nat.add_mod, Nat.mul_mod, Nat.mod_mod]
  have e2 : carryN p c b (k + 1) = (carryN p c b k + p / T9 ^ k % T9 + c * (b / T9 ^ k % T9)) / T9 := by
    unfold carryN
    rw [mod_succ T9 p k, mod_succ T9 b k, Nat.pow_succ, ← Nat.div_div_eq_div_mul]
    congr 1
    rw [show p % T9 ^ k + T9 ^ k * (p / T9 ^ k % T9) + c * (b % T9 ^ k + T9 ^ k * (b / T9 ^ k % T9)) = (p % T9 ^ k + c * (b % T9 ^ k)) + T9 ^ k * (p / T9 ^ k % T9 + c * (b / T9 ^ k % T9)) by
      rw [Nat.mul_add, Nat.mul_add, Nat.mul_left_comm c]; omega]
    rw [Nat.add_mul_div_left _ _ hp, Nat.add_assoc]
  rw [e1, e2]
  have := Nat.mod_add_div (carryN p c b k + p / T9 ^ k % T9 + c * (b / T9 ^ k % T9)) T9
  have e : T9 = 1000000000 := rfl
  rw [e] at this ⊢
  omega
theorem carryN_lt {p c b k : Nat} (hc : c < 1000000000) : carryN p c b k < 1000000000 := by
  have hp := pow_posT k
  unfold carryN
  rw [Nat.div_lt_iff_lt_mul hp]
  have h1 := Nat.mod_lt p hp
  have h2 := Nat.mod_lt b hp
  have h3 : c * (b % T9 ^ k) ≤ 999999999 * (T9 ^ k - 1) := Nat.mul_le_mul (by omega) (by omega)
  omega
def mixT (n j x y : Nat) : List Int := (List.range n).map fun i => if i < j then ((x / T9 ^ i % T9 : Nat) : Int) else ((y / T9 ^ i % T9 : Nat) : Int)
theorem mixT_len (n j x y : Nat) : (mixT n j x y).length = n := by simp [mixT]
theorem mixT_get {n j x y : Nat} (h : j < n) : lget 0 (mixT n j x y) (j : Int) = ((y / T9 ^ j % T9 : Nat) : Int) := by
  unfold lget mixT
  rw [Int.toNat_natCast, List.getD_eq_getElem?_getD]
  simp [h]
theorem mixT_set {n j x y : Nat} : lset (mixT n j x y) (j : Int) ((x / T9 ^ j % T9 : Nat) : Int) = mixT n (j + 1) x y := by
  unfold lset mixT
  rw [Int.toNat_natCast, set_map]
  refine List.map_congr_left fun i _ => ?_
  rcases Nat.lt_trichotomy i j with h | h | h
  · rw [if_neg (by omega), if_pos h, if_pos (by omega)]
  · subst h; rw [if_pos rfl, if_pos (by omega)]
  · rw [if_neg (by omega), if_neg (by omega), if_neg (by omega)]
theorem lt_pow_mulT {x y i j : Nat} (hx : x < T9 ^ i) (hy : y < T9 ^ j) : x * y < T9 ^ (i + j) := by
  rw [Nat.pow_add]
  exact Nat.mul_lt_mul'' hx hy
theorem tdigit_ok (n i : Nat) : b0_digit (td n) (i : Int) = some ((n / T9 ^ i % T9 : Nat) : Int) := by
  unfold b0_digit
  have hl : ((td n).length : Int) = (tw n : Int) := by rw [td_len]
  by_cases h : i < tw n
  · have c : (decide ((0 : Int) ≤ (i : Int)) && decide ((i : Int) < ((td n).length : Int))) = true := and_true' (dec_true (by omega)) (dec_true (by omega))
    rw [chk_true c, dec_true (show (i : Int) < ((td n).length : Int) by omega), cond_true]
    have e : lget 0 (td n) (i : Int) = ((n / T9 ^ i % T9 : Nat) : Int) := lget_dgs h
    rw [e]
  · rw [dec_false (show ¬ (i : Int) < ((td n).length : Int) by omega), cond_false, tw_beyond (by omega)]
    rfl
theorem ttrim_ok {k n : Nat} (hk : k ≤ 1099511627776) (h : n < T9 ^ k) : b0_trimmed (dgs T9 k n) = some (td n) := by
  unfold b0_trimmed
  have hl : ((dgs T9 k n).length : Int) = (k : Int) := by rw [dgs_len]
  simp only [hl]
  refine Option.bind_eq_some_iff.2 ⟨(tw n : Int), ?_, ?_⟩
  · have hle := tw_of_lt h
    have key : ∀ d, loopM (S := Int) (R := Int) (fun n_1 =>
      (bif decide (n_1 > 0) then
        chk (decide ((0 : Int) ≤ (wi64 (n_1 - 1))) && decide ((wi64 (n_1 - 1)) < (k : Int))) (
          some ((lget 0 (dgs T9 k n) (wi64 (n_1 - 1))) == 0))
      else some false).bind fun (c : Bool) =>
      bif c then
        some (.inl (wi64 (n_1 - 1)))
      else
        some (.inr n_1)) ((tw n + d : Nat) : Int) = some (tw n : Int) ∨ k < tw n + d := by
      intro d
      induction d with
      | zero =>
        left
        refine loopM_done ?_
        by_cases h0 : tw n = 0
        · rw [h0]; rfl
        · have e1 : wi64 (((tw n + 0 : Nat) : Int) - 1) = ((tw n - 1 : Nat) : Int) := by rw [wi64_id] <;> omega
          rw [e1, chk_true (and_true' (dec_true (by omega)) (dec_true (by omega))), dec_true (by omega), cond_true, show lget 0 (dgs T9 k n) ((tw n - 1 : Nat) : Int) = _ from lget_dgs (by omega)]
          have hne : n / T9 ^ (tw n - 1) % T9 ≠ 0 := by
            have hn0 : n ≠ 0 := fun e => h0 ((wd_eq_zero hT).2 e)
            have h1 := wd_le hT hn0
            have h2 : n / T9 ^ (tw n - 1) < T9 := by
              rw [Nat.div_lt_iff_lt_mul (pow_posT _), ← Nat.pow_succ']
              have := tw_lt n
              rwa [show (tw n - 1).succ = tw n by omega]
            rw [Nat.mod_eq_of_lt h2]
            exact Nat.ne_of_gt (Nat.div_pos h1 (pow_posT _))
          have : (((n / T9 ^ (tw n - 1) % T9 : Nat) : Int) == 0) = false := by rw [beq_eq_false_iff_ne]; omega
          simp only [Option.bind_some, this, cond_false]
          rfl
      | succ d ih =>
        by_cases hk2 : k < tw n + (d + 1)
        · exact .inr hk2
        · left
          rcases ih with ih | ih
          · rw [loopM_next (s' := ((tw n + d : Nat) : Int))]
            · exact ih
            · have e1 : wi64 (((tw n + (d + 1) : Nat) : Int) - 1) = ((tw n + d : Nat) : Int) := by rw [wi64_id] <;> omega
              rw [e1, chk_true (and_true' (dec_true (by omega)) (dec_true (by omega))), dec_true (by omega), cond_true, show lget 0 (dgs T9 k n) ((tw n + d : Nat) : Int) = _ from lget_dgs (by omega), tw_beyond (by omega)]
              rfl
          · omega
    rcases key (k - tw n) with h1 | h1
    · rw [show ((k : Nat) : Int) = ((tw n + (k - tw n) : Nat) : Int) by omega]
      rw [show ((tw n + (k - tw n) : Nat) : Int) = ((tw n + (k - tw n) : Nat) : Int) from rfl] at h1
      have e : ((tw n + (k - tw n) : Nat) : Int) = (k : Int) := by omega
      rw [e] at h1 ⊢
      exact h1
    · omega
  · have hle := tw_of_lt h
    rw [chk_true (and_true' (and_true' (dec_true (Int.le_refl 0)) (dec_true (by omega))) (dec_true (by omega)))]
    have e : List.drop (Int.toNat 0) (List.take (Int.toNat (tw n : Int)) (dgs T9 k n)) = td n := by
      rw [Int.toNat_natCast]
      show List.drop 0 _ = _
      rw [List.drop_zero]
      unfold dgs
      rw [← List.map_take, List.take_range, Nat.min_eq_left hle]
      rfl
    rw [e]
theorem tcmp_ok {a b : Nat} (ha : tw a ≤ 1073741824) (hb : tw b ≤ 1073741824) : b0_cmpDigits (td a) (td b) = some (if a = b then 0 else if a < b then -1 else 1) := by
  unfold b0_cmpDigits
  have l1 : ((td a).length : Int) = (tw a : Int) := by rw [td_len]
  have l2 : ((td b).length : Int) = (tw b : Int) := by rw [td_len]
  by_cases hl : tw a = tw b
  · have e : (((td a).length : Int) != ((td b).length : Int)) = false := by rw [l1, l2, hl]; simp
    rw [e, cond_false]
    obtain ⟨r, hr, hq⟩ := loopM_inv (S := Int) (R := (Unit) ⊕ (Int)) (f := (fun i_1 =>
      bif decide (i_1 ≥ 0) then
        chk (decide ((0 : Int) ≤ i_1) && decide (i_1 < (List.length (td a) : Int))) (
          chk (decide ((0 : Int) ≤ i_1) && decide (i_1 < (List.length (td b) : Int))) (
            bif decide ((lget 0 (td a) i_1) < (lget 0 (td b) i_1)) then
              Option.map Sum.inr (Option.map Sum.inr (
                some (-1)))
            else
              chk (decide ((0 : Int) ≤ i_1) && decide (i_1 < (List.length (td a) : Int))) (
                chk (decide ((0 : Int) ≤ i_1) && decide (i_1 < (List.length (td b) : Int))) (
                  bif decide ((lget 0 (td a) i_1) > (lget 0 (td b) i_1)) then
                    Option.map Sum.inr (Option.map Sum.inr (
                      some 1))
                  else
                    some (.inl (wi64 (i_1 - 1)))))))
      else
        some (.inr (.inl ()))))
      (fun s => ∃ j : Nat, s = (j : Int) - 1 ∧ j ≤ tw a ∧ a / T9 ^ j = b / T9 ^ j) (fun s => (s + 1).toNat)
      (fun r => match r with | .inl _ => a = b | .inr c => (c = -1 ∧ a < b) ∨ (c = 1 ∧ b < a))
      (s := wi64 (((td a).length : Int) - 1)) (fun s hs => by
        obtain ⟨j, rfl, hj, he⟩ := hs
        cases j with
        | zero =>
          right
          refine ⟨.inl (), by rw [dec_false (by omega), cond_false], ?_⟩
          simpa using he
        | succ j =>
          have c1 : (decide ((0 : Int) ≤ ((j + 1 : Nat) : Int) - 1) && decide (((j + 1 : Nat) : Int) - 1 < ((td a).length : Int))) = true := and_true' (dec_true (by omega)) (dec_true (by omega))
          have c2 : (decide ((0 : Int) ≤ ((j + 1 : Nat) : Int) - 1) && decide (((j + 1 : Nat) : Int) - 1 < ((td b).length : Int))) = true := and_true' (dec_true (by omega)) (dec_true (by omega))
          have ej : ((j + 1 : Nat) : Int) - 1 = (j : Int) := by omega
          have g1 : lget 0 (td a) (j : Int) = ((a / T9 ^ j % T9 : Nat) : Int) := lget_dgs (show j < tw a by omega)
          have g2 : lget 0 (td b) (j : Int) = ((b / T9 ^ j % T9 : Nat) : Int) := lget_dgs (show j < tw b by omega)
          have qa : a / T9 ^ (j + 1) = a / T9 ^ j / T9 := by rw [Nat.pow_succ, Nat.div_div_eq_div_mul]
          have qb : b / T9 ^ (j + 1) = b / T9 ^ j / T9 := by rw [Nat.pow_succ, Nat.div_div_eq_div_mul]
          rw [qa, qb] at he
          rw [chk_true c1, chk_true c2, chk_true c1, chk_true c2, dec_true (show ((j + 1 : Nat) : Int) - 1 ≥ 0 by omega), cond_true]
          rw [ej, g1, g2]
          have hle1 : a ≤ b → a / T9 ^ j ≤ b / T9 ^ j := fun h => Nat.div_le_div_right h
          have hle2 : b ≤ a → b / T9 ^ j ≤ a / T9 ^ j := fun h => Nat.div_le_div_right h
          clear g1 g2 qa qb c1 c2
          obtain ⟨X, hX⟩ : ∃ X, a / T9 ^ j = X := ⟨_, rfl⟩
          obtain ⟨Y, hY⟩ : ∃ Y, b / T9 ^ j = Y := ⟨_, rfl⟩
          rw [hX, hY] at he hle1 hle2
          simp only [hX, hY]
          have he : X / 1000000000 = Y / 1000000000 := he
          rw [show T9 = 1000000000 from rfl]
          rcases Nat.lt_trichotomy (X % 1000000000) (Y % 1000000000) with hd | hd | hd
          · right
            refine ⟨.inr (-1), by rw [dec_true (by omega), cond_true]; rfl, .inl ⟨rfl, by omega⟩⟩
          · left
            refine ⟨(j : Int) - 1, ?_, ⟨j, rfl, by omega, ?_⟩, by omega⟩
            · rw [dec_false (by omega), cond_false, dec_false (by omega), cond_false, wi64_id (by omega) (by omega)]
            · rw [show (1000000000 : Nat) = T9 from rfl, hX, hY]; omega
          · right
            refine ⟨.inr 1, by rw [dec_false (by omega), cond_false, dec_true (by omega), cond_true]; rfl, .inr ⟨rfl, by omega⟩⟩) ⟨tw a, by rw [l1, wi64_id] <;> omega, Nat.le_refl _, by rw [Nat.div_eq_of_lt (tw_lt a), Nat.div_eq_of_lt (by rw [hl]; exact tw_lt b)]⟩
    simp only at hr ⊢
    rw [hr]
    cases r with
    | inl u =>
      have : a = b := hq
      rw [if_pos this]; rfl
    | inr c =>
      rcases hq with ⟨rfl, h⟩ | ⟨rfl, h⟩
      · rw [if_neg (by omega), if_pos h]; rfl
      · rw [if_neg (by omega), if_neg (by omega)]; rfl
  · have e : (((td a).length : Int) != ((td b).length : Int)) = true := by rw [l1, l2]; simp; omega
    rw [e, cond_true, l1, l2]
    have h1 : b ≤ a → tw b ≤ tw a := tw_mono
    have h2 : a ≤ b → tw a ≤ tw b := tw_mono
    rcases Nat.lt_or_ge (tw a) (tw b) with h | h
    · rw [dec_true (by omega), cond_true, if_neg (by omega), if_pos (by omega)]
    · rw [dec_false (by omega), cond_false, if_neg (by omega), if_neg (by omega)]
theorem tw_add {x y N : Nat} (hx : tw x ≤ N) (hy : tw y ≤ N) : tw (x + y) ≤ N + 1 := by
  refine tw_of_lt ?_
  have h1 : x < T9 ^ N := Nat.lt_of_lt_of_le (tw_lt x) (Nat.pow_le_pow_right (by decide) hx)
  have h2 : y < T9 ^ N := Nat.lt_of_lt_of_le (tw_lt y) (Nat.pow_le_pow_right (by decide) hy)
  rw [Nat.pow_succ]
  have : T9 ^ N * 2 ≤ T9 ^ N * T9 := Nat.mul_le_mul_left _ (by decide)
  omega
theorem tadd_ok {a b : Nat} (ha : tw a ≤ 1073741824) (hb : tw b ≤ 1073741824) : b0_addDigits (td a) (td b) = some (td (a + b)) := by
  unfold b0_addDigits
  have l1 : ((td a).length : Int) = (tw a : Int) := by rw [td_len]
  have l2 : ((td b).length : Int) = (tw b : Int) := by rw [td_len]
  have hm : tw (a + b) ≤ 1073741825 := tw_add ha hb
  refine Option.bind_eq_some_iff.2 ⟨dgs T9 (tw (a + b)) (a + b), ?_, rfl⟩
  have hcond : ∀ k : Nat, ((decide ((k : Int) < (tw a : Int)) || decide ((k : Int) < (tw b : Int))) || decide (((carryT a b k : Nat) : Int) > 0)) = decide (k < tw (a + b)) := fun k => by
    by_cases hk : k < tw (a + b)
    · rw [dec_true hk]
      by_cases h1 : k < tw a
      · rw [dec_true (show (k : Int) < (tw a : Int) by omega)]; rfl
      · by_cases h2 : k < tw b
        · rw [dec_true (show (k : Int) < (tw b : Int) by omega), Bool.or_true]; rfl
        · have ha' : a < T9 ^ k := Nat.lt_of_lt_of_le (tw_lt a) (Nat.pow_le_pow_right (by decide) (by omega))
          have hb' : b < T9 ^ k := Nat.lt_of_lt_of_le (tw_lt b) (Nat.pow_le_pow_right (by decide) (by omega))
          have hs : T9 ^ k ≤ a + b := by
            rcases Nat.lt_or_ge (a + b) (T9 ^ k) with h | h
            · have := tw_of_lt h; omega
            · exact h
          have : 0 < carryT a b k := by
            unfold carryT
            rw [Nat.mod_eq_of_lt ha', Nat.mod_eq_of_lt hb']
            exact Nat.div_pos hs (pow_posT k)
          rw [dec_true (show ((carryT a b k : Nat) : Int) > 0 by omega), Bool.or_true]
    · rw [dec_false hk]
      have hab : a + b < T9 ^ k := Nat.lt_of_lt_of_le (tw_lt _) (Nat.pow_le_pow_right (by decide) (by omega))
      have h1 := tw_mono (show a ≤ a + b by omega)
      have h2 := tw_mono (show b ≤ a + b by omega)
      have : carryT a b k = 0 := by
        unfold carryT
        rw [Nat.mod_eq_of_lt (by omega), Nat.mod_eq_of_lt (by omega), Nat.div_eq_of_lt hab]
      rw [dec_false (by omega), dec_false (by omega), this]
      rfl
  refine loopM_upto (fun k => ((dgs T9 k (a + b), (carryT a b k : Int), (k : Int)) : List Int × Int × Int)) (tw (a + b)) (by simp [carryT, dgs_zero, Nat.mod_one]) (fun k hk => ?_) ?_
  · obtain ⟨s1, s2⟩ := carryT_step a b k
    have d1 := dltT a k
    have d2 := dltT b k
    have d3 := dltT (a + b) k
    simp only [l1, l2]
    rw [hcond, dec_true hk, cond_true, tdigit_ok, tdigit_ok]
    simp only [Option.bind_some]
    have s1 : carryT a b k + (a / T9 ^ k % T9 + b / T9 ^ k % T9) = carryT a b (k + 1) * 1000000000 + (a + b) / T9 ^ k % T9 := s1
    have c0 : wi64 (wi64 (((a / T9 ^ k % T9 : Nat) : Int) + ((b / T9 ^ k % T9 : Nat) : Int)) + (carryT a b k : Int)) = ((carryT a b (k + 1) * 1000000000 + (a + b) / T9 ^ k % T9 : Nat) : Int) := by
      rw [wi64_id (x := ((a / T9 ^ k % T9 : Nat) : Int) + _) (by omega) (by omega), wi64_id (by omega) (by omega)]
      omega
    rw [c0, chk_true (by rfl), app_ok (by rw [dgs_len]; simp only [List.length_singleton]; omega)]
    simp only [Option.bind_some]
    rw [chk_true (by rfl), wi64_id (x := (k : Int) + 1) (by omega) (by omega), dgs_succ]
    have e1 : Int.tmod ((carryT a b (k + 1) * 1000000000 + (a + b) / T9 ^ k % T9 : Nat) : Int) 1000000000 = (((a + b) / T9 ^ k % T9 : Nat) : Int) := by
      rw [Int.tmod_eq_emod_of_nonneg (by omega)]; omega
    have e2 : wi64 (Int.tdiv ((carryT a b (k + 1) * 1000000000 + (a + b) / T9 ^ k % T9 : Nat) : Int) 1000000000) = ((carryT a b (k + 1) : Nat) : Int) := by
      rw [Int.tdiv_eq_ediv_of_nonneg (by omega), wi64_id (by omega) (by omega)]; omega
    rw [e1, e2]
    rfl
  · simp only [l1, l2]
    rw [hcond, dec_false (by omega), cond_false]
theorem tsub_ok {a b : Nat} (h : b ≤ a) (ha : tw a ≤ 1073741824) : b0_subDigits (td a) (td b) = some (td (a - b)) := by
  unfold b0_subDigits
  have l1 : ((td a).length : Int) = (tw a : Int) := by rw [td_len]
  refine Option.bind_eq_some_iff.2 ⟨dgs T9 (tw a) (a - b), ?_, ?_⟩
  · refine loopM_upto (fun k => ((dgs T9 k (a - b), (borT a b k : Int), (k : Int)) : List Int × Int × Int)) (tw a) (by simp [borT, dgs_zero, Nat.mod_one]) (fun k hk => ?_) ?_
    · obtain ⟨s1, s2, s3⟩ := borT_step h k
      have d1 := dltT a k
      have d2 := dltT b k
      have d3 := dltT (a - b) k
      simp only [l1]
      rw [chk_true (and_true' (dec_true (by omega)) (dec_true (by omega))), dec_true (show (k : Int) < (tw a : Int) by omega), cond_true, tdigit_ok, show lget 0 (td a) (k : Int) = ((a / T9 ^ k % T9 : Nat) : Int) from lget_dgs hk]
      simp only [Option.bind_some]
      rw [dgs_succ]
      generalize a / T9 ^ k % T9 = x at *
      generalize b / T9 ^ k % T9 = y at *
      generalize (a - b) / T9 ^ k % T9 = z at *
      have c0 : wi64 (wi64 ((x : Int) - (y : Int)) - (borT a b k : Int)) = (z : Int) - 1000000000 * (borT a b (k + 1) : Int) := by
        rw [wi64_id (x := (x : Int) - (y : Int)) (by omega) (by omega), wi64_id (by omega) (by omega)]
        omega
      rw [c0]
      by_cases hb : borT a b (k + 1) = 0
      · rw [dec_false (by omega), cond_false]
        simp only [Option.bind_some]
        rw [app_ok (by rw [dgs_len]; simp only [List.length_singleton]; omega)]
        simp only [Option.bind_some]
        rw [wi64_id (by omega) (by omega), hb]
        simp
      · have hb1 : borT a b (k + 1) = 1 := by omega
        rw [dec_true (by omega), cond_true]
        simp only [Option.bind_some]
        rw [app_ok (by rw [dgs_len]; simp only [List.length_singleton]; omega)]
        simp only [Option.bind_some]
        rw [wi64_id (x := (k : Int) + 1) (by omega) (by omega), hb1, wi64_id (by omega) (by omega)]
        congr 5
        omega
    · simp only [l1]
      rw [dec_false (by omega), cond_false]
  · rw [ttrim_ok (by omega) (Nat.lt_of_le_of_lt (Nat.sub_le a b) (tw_lt a))]; rfl
end Go.Lift
namespace Go.Lift
open Go
def sgn (z : Int) : Int := if z = 0 then 0 else if z < 0 then -1 else 1
def wideZ (z : Int) : Db0_Wide := (sgn z, td z.natAbs)
theorem sgn_zero : sgn 0 = 0 := rfl
theorem wideZ_zero : wideZ 0 = (0, []) := by unfold wideZ; rw [sgn_zero]; rw [show (0 : Int).natAbs = 0 from rfl, td_zero]
theorem wideOf_ok {k n : Nat} (s : Int) (hk : k ≤ 1099511627776) (h : n < T9 ^ k) : b0_wideOf s (dgs T9 k n) = some (if n = 0 then 0 else s, td n) := by
  unfold b0_wideOf
  rw [ttrim_ok hk h]
  simp only [Option.bind_some]
  have h1 : tw n = 0 ↔ n = 0 := wd_eq_zero hT
  by_cases h0 : n = 0
  · rw [if_pos h0, show (((td n).length : Int) == 0) = true by rw [td_len, h1.2 h0]; rfl]; rfl
  · rw [if_neg h0, show (((td n).length : Int) == 0) = false by rw [td_len, beq_eq_false_iff_ne]; omega]; rfl
theorem wideOf_td {n : Nat} (s : Int) (hn : tw n ≤ 1073741830) : b0_wideOf s (td n) = some (if n = 0 then 0 else s, td n) := wideOf_ok s (Nat.le_trans hn (by decide)) (tw_lt n)
theorem size_ok {n : Int} (h1 : -9223372036854775808 < n) (h2 : n < 9223372036854775808) : b0_Size n = some (n.natAbs : Int) := by
  unfold b0_Size imax
  rw [wi64_id (by omega) (by omega)]
  simp only [Option.some.injEq]
  split <;> omega
theorem div_pow_succ (n k : Nat) : n / T9 ^ (k + 1) = n / T9 ^ k / T9 := by rw [Nat.pow_succ, Nat.div_div_eq_div_mul]
theorem tdiv_abs (n : Int) (m : Nat) : Int.tdiv (n.sign * (m : Int)) 1000000000 = n.sign * ((m / 1000000000 : Nat) : Int) := by
  rcases Int.lt_trichotomy n 0 with h | h | h
  · rw [Int.sign_eq_neg_one_of_neg h, Int.neg_one_mul, Int.neg_one_mul, Int.neg_tdiv]; rfl
  · subst h; simp
  · rw [Int.sign_eq_one_of_pos h, Int.one_mul, Int.one_mul]; rfl
theorem tmod_abs (n : Int) (m : Nat) : (Int.tmod (n.sign * (m : Int)) 1000000000).natAbs = if n = 0 then 0 else m % 1000000000 := by
  rcases Int.lt_trichotomy n 0 with h | h | h
  · rw [Int.sign_eq_neg_one_of_neg h, Int.neg_one_mul, Int.neg_tmod, if_neg (by omega)]
    rw [Int.natAbs_neg]; rfl
  · subst h; simp
  · rw [Int.sign_eq_one_of_pos h, Int.one_mul, if_neg (by omega)]; rfl
theorem WideOf_ok {n : Int} (h1 : -9223372036854775808 ≤ n) (h2 : n < 9223372036854775808) : b0_WideOf n = some (wideZ n) := by
  unfold b0_WideOf
  have e0 : (bif decide (n < 0) then some (-1 : Int) else some 1) = some (if n < 0 then -1 else 1) := by
    by_cases h : n < 0
    · rw [dec_true h, if_pos h]; rfl
    · rw [dec_false h, if_neg h]; rfl
  rw [e0]
  simp only [Option.bind_some]
  have hw : tw n.natAbs ≤ 3 := tw_of_lt (by
    have : (T9 : Nat) ^ 3 = 1000000000000000000000000000 := by decide
    rw [this]; omega)
  have hs := Int.sign_mul_natAbs n
  refine Option.bind_eq_some_iff.2 ⟨td n.natAbs, ?_, ?_⟩
  · refine loopM_upto (fun k => ((n.sign * ((n.natAbs / T9 ^ k : Nat) : Int), dgs T9 k n.natAbs) : Int × List Int)) (tw n.natAbs) (by simp [dgs_zero, hs]) (fun k hk => ?_) ?_
    · have hn0 : n ≠ 0 := by rintro rfl; rw [show (0 : Int).natAbs = 0 from rfl, show tw 0 = 0 from wd_zero _] at hk; omega
      have hq : 0 < n.natAbs / T9 ^ k := by
        have h3 := wd_le hT (show n.natAbs ≠ 0 by omega)
        have h4 : T9 ^ k ≤ T9 ^ (tw n.natAbs - 1) := Nat.pow_le_pow_right (by decide) (by omega)
        exact Nat.div_pos (Nat.le_trans h4 h3) (pow_posT k)
      have hql : n.natAbs / T9 ^ k ≤ n.natAbs := Nat.div_le_self _ _
      have hne : (n.sign * ((n.natAbs / T9 ^ k : Nat) : Int) != 0) = true := by
        rw [bne_iff_ne]
        intro e
        rcases Int.mul_eq_zero.1 e with e | e
        · rw [Int.sign_eq_zero_iff_zero] at e; exact hn0 e
        · omega
      simp only [hne, cond_true]
      rw [chk_true (by rfl), tdiv_abs]
      generalize hX : n.natAbs / T9 ^ k = X at *
      have hm := tmod_abs n X
      rw [if_neg hn0] at hm
      have hml : X % 1000000000 < 1000000000 := Nat.mod_lt _ (by decide)
      rw [size_ok (by omega) (by omega)]
      simp only [Option.bind_some]
      rw [app_ok (by rw [dgs_len]; simp only [List.length_singleton]; omega)]
      simp only [Option.bind_some]
      have hsg : n.sign = -1 ∨ n.sign = 1 := by
        rcases Int.lt_trichotomy n 0 with h | h | h
        · exact .inl (Int.sign_eq_neg_one_of_neg h)
        · exact absurd h hn0
        · exact .inr (Int.sign_eq_one_of_pos h)
      rw [chk_true (by rfl), hm, dgs_succ, hX, div_pow_succ, hX]
      have hw64 : wi64 (n.sign * ((X / 1000000000 : Nat) : Int)) = n.sign * ((X / T9 : Nat) : Int) := by
        rcases hsg with e | e <;> rw [e] <;> rw [wi64_id] <;> first | rfl | omega
      rw [hw64]
    · have : n.natAbs / T9 ^ tw n.natAbs = 0 := Nat.div_eq_of_lt (tw_lt _)
      simp only [this]
      rw [show (n.sign * ((0 : Nat) : Int) != 0) = false by simp]
      rfl
  · rw [wideOf_td _ (by omega)]
    simp only [Option.bind_some]
    unfold wideZ sgn
    congr 2
    by_cases h : n = 0
    · subst h; rfl
    · rw [if_neg (by omega), if_neg h]
theorem sgn_neg (z : Int) : sgn (-z) = -sgn z := by
  unfold sgn
  split <;> split <;> (try split) <;> (try split) <;> omega
theorem WideNeg_ok (z : Int) : b0_WideNeg (wideZ z) = some (wideZ (-z)) := by
  unfold b0_WideNeg wideZ
  rw [sgn_neg, Int.natAbs_neg]
  have : wi64 (0 - sgn z) = -sgn z := by
    have : sgn z = 0 ∨ sgn z = -1 ∨ sgn z = 1 := by unfold sgn; split <;> (try split) <;> simp
    rw [wi64_id] <;> omega
  simp only [this]
theorem wideSize_ok (z : Int) : b0_wideSize (wideZ z) = some (wideZ (z.natAbs : Int)) := by
  unfold b0_wideSize
  by_cases h : z < 0
  · rw [dec_true (show (wideZ z).1 < 0 by show sgn z < 0; unfold sgn; rw [if_neg (by omega), if_pos h]; decide), cond_true, WideNeg_ok]
    simp only [Option.bind_some]
    rw [show -z = (z.natAbs : Int) by omega]
  · rw [dec_false (show ¬ (wideZ z).1 < 0 by show ¬ sgn z < 0; unfold sgn; split <;> (try split) <;> simp_all), cond_false]
    rw [show (z.natAbs : Int) = z by omega]
theorem WideAdd_ok {a b : Int} {N : Nat} (ha : tw a.natAbs ≤ N) (hb : tw b.natAbs ≤ N) (hN : N ≤ 1073741824) : b0_WideAdd (wideZ a) (wideZ b) = some (wideZ (a + b)) ∧ tw (a + b).natAbs ≤ N + 1 := by
  have hz : tw (a + b).natAbs ≤ N + 1 := Nat.le_trans (tw_mono (Int.natAbs_add_le a b)) (tw_add ha hb)
  refine ⟨?_, hz⟩
  unfold b0_WideAdd
  by_cases ha0 : a = 0
  · subst ha0
    rw [show ((wideZ 0).1 == 0) = true by rw [wideZ_zero]; rfl, cond_true, Int.zero_add]
  have hsa : (wideZ a).1 = if a < 0 then -1 else 1 := by unfold wideZ sgn; rw [if_neg ha0]
  rw [show ((wideZ a).1 == 0) = false by rw [hsa, beq_eq_false_iff_ne]; split <;> decide, cond_false]
  by_cases hb0 : b = 0
  · subst hb0
    rw [show ((wideZ 0).1 == 0) = true by rw [wideZ_zero]; rfl, cond_true, Int.add_zero]
  have hsb : (wideZ b).1 = if b < 0 then -1 else 1 := by unfold wideZ sgn; rw [if_neg hb0]
  rw [show ((wideZ b).1 == 0) = false by rw [hsb, beq_eq_false_iff_ne]; split <;> decide, cond_false]
  have d1 : (wideZ a).2 = td a.natAbs := rfl
  have d2 : (wideZ b).2 = td b.natAbs := rfl
  rw [d1, d2]
  by_cases hs : (a < 0 ↔ b < 0)
  · rw [show ((wideZ a).1 == (wideZ b).1) = true by rw [hsa, hsb]; by_cases h : a < 0 <;> simp [h, hs.symm] <;> simp_all, cond_true, tadd_ok (by omega) (by omega)]
    simp only [Option.bind_some]
    have hab : a.natAbs + b.natAbs = (a + b).natAbs := by omega
    rw [hab, wideOf_td _ (by omega), hsa]
    simp only [Option.bind_some]
    unfold wideZ sgn
    congr 2
    (repeat' split) <;> omega
  · rw [show ((wideZ a).1 == (wideZ b).1) = false by rw [hsa, hsb, beq_eq_false_iff_ne]; by_cases h : a < 0 <;> by_cases h' : b < 0 <;> simp_all, cond_false, tcmp_ok (by omega) (by omega)]
    simp only [Option.bind_some]
    by_cases h1 : a.natAbs = b.natAbs
    · rw [if_pos h1, show ((0 : Int) == 0) = true from rfl, cond_true, show a + b = 0 by omega, wideZ_zero]
    · rw [if_neg h1]
      by_cases h2 : a.natAbs < b.natAbs
      · rw [if_pos h2, show (((-1 : Int)) == 0) = false from rfl, cond_false, dec_false (by decide), cond_false, tsub_ok (by omega) (by omega)]
        simp only [Option.bind_some]
        have hab : b.natAbs - a.natAbs = (a + b).natAbs := by omega
        rw [hab, wideOf_td _ (by omega), hsb]
        simp only [Option.bind_some]
        unfold wideZ sgn
        congr 2
        (repeat' split) <;> omega
      · rw [if_neg h2, show (((1 : Int)) == 0) = false from rfl, cond_false, dec_true (by decide), cond_true, tsub_ok (by omega) (by omega)]
        simp only [Option.bind_some]
        have hab : a.natAbs - b.natAbs = (a + b).natAbs := by omega
        rw [hab, wideOf_td _ (by omega), hsa]
        simp only [Option.bind_some]
        unfold wideZ sgn
        congr 2
        (repeat' split) <;> omega
theorem WideSub_ok {a b : Int} {N : Nat} (ha : tw a.natAbs ≤ N) (hb : tw b.natAbs ≤ N) (hN : N ≤ 1073741824) : b0_WideSub (wideZ a) (wideZ b) = some (wideZ (a - b)) ∧ tw (a - b).natAbs ≤ N + 1 := by
  unfold b0_WideSub
  rw [WideNeg_ok]
  simp only [Option.bind_some]
  obtain ⟨h1, h2⟩ := WideAdd_ok (b := -b) ha (by rw [Int.natAbs_neg]; exact hb) hN
  rw [h1, Int.sub_eq_add_neg]
  exact ⟨rfl, h2⟩
theorem WideCmp_ok {a b : Int} {N : Nat} (ha : tw a.natAbs ≤ N) (hb : tw b.natAbs ≤ N) (hN : N ≤ 1073741824) : b0_WideCmp (wideZ a) (wideZ b) = some (if a = b then 0 else if a < b then -1 else 1) := by
  unfold b0_WideCmp
  rw [(WideSub_ok ha hb hN).1]
  simp only [Option.bind_some]
  unfold wideZ sgn
  simp only [Option.some.injEq]
  by_cases h1 : a = b
  · rw [if_pos (by omega), if_pos h1]
  · rw [if_neg (by omega), if_neg h1]
    by_cases h2 : a < b
    · rw [if_pos (by omega), if_pos h2]
    · rw [if_neg (by omega), if_neg h2]
theorem tw_mul {x y : Nat} : tw (x * y) ≤ tw x + tw y := tw_of_lt (lt_pow_mulT (tw_lt x) (tw_lt y))
theorem sgn_mul (a b : Int) : wi64 (sgn a * sgn b) = sgn a * sgn b ∧ (a * b ≠ 0 → sgn a * sgn b = sgn (a * b)) := by
  have h : ∀ z, sgn z = 0 ∨ sgn z = -1 ∨ sgn z = 1 := fun z => by unfold sgn; split <;> (try split) <;> simp
  constructor
  · rcases h a with e | e | e <;> rcases h b with e' | e' | e' <;> rw [e, e'] <;> rfl
  · intro hne
    have ha : a ≠ 0 := by rintro rfl; simp at hne
    have hb : b ≠ 0 := by rintro rfl; simp at hne
    unfold sgn
    rw [if_neg ha, if_neg hb, if_neg hne]
    by_cases h1 : a < 0 <;> by_cases h2 : b < 0
    · rw [if_pos h1, if_pos h2, if_neg (by have := Int.mul_pos_of_neg_of_neg h1 h2; omega)]; rfl
    · rw [if_pos h1, if_neg h2, if_pos (Int.mul_neg_of_neg_of_pos h1 (by omega))]; rfl
    · rw [if_neg h1, if_pos h2, if_pos (Int.mul_neg_of_pos_of_neg (by omega) h2)]; rfl
    · rw [if_neg h1, if_neg h2, if_neg (by have := Int.mul_pos (show 0 < a by omega) (show 0 < b by omega); omega)]; rfl
theorem mul_digits {s t : Int} {a b : Nat} (ha : tw a ≤ 1073741824) (hb : tw b ≤ 1073741824) (hst : wi64 (s * t) = s * t) :
    b0_WideMul (s, td a) (t, td b) = some (if a * b = 0 then 0 else s * t, td (a * b)) := by
  unfold b0_WideMul
  simp only
  have l1 : ((td a).length : Int) = (tw a : Int) := by rw [td_len]
  have l2 : ((td b).length : Int) = (tw b : Int) := by rw [td_len]
  have ln : wi64 (wi64 (((td a).length : Int) + ((td b).length : Int)) + 1) = ((tw a + tw b + 1 : Nat) : Int) := by
    rw [l1, l2, wi64_id (x := (tw a : Int) + (tw b : Int)) (by omega) (by omega), wi64_id] <;> omega
  rw [ln]
  rw [chk_true (and_true' (and_true' (dec_true (by omega)) (dec_true (by omega))) (beq_self_eq_true _))]
  generalize hn : tw a + tw b + 1 = n
  rw [Int.toNat_natCast]
  have hlt : a * b < T9 ^ n := by
    refine Nat.lt_of_lt_of_le (lt_pow_mulT (tw_lt a) (tw_lt b)) (Nat.pow_le_pow_right (by decide) (by omega))
  have hzero : List.replicate n (0 : Int) = dgs T9 n (a % T9 ^ 0 * b) := by
    rw [Nat.pow_zero, Nat.mod_one, Nat.zero_mul]
    unfold dgs
    simp only [Nat.zero_div, Nat.zero_mod]
    rw [List.map_const']
    simp
  refine Option.bind_eq_some_iff.2 ⟨dgs T9 n (a * b), ?_, ?_⟩
  · refine loopM_upto (fun i => (((i : Int), dgs T9 n (a % T9 ^ i * b)) : Int × List Int)) (tw a) (by rw [hzero]; rfl) (fun i hi => ?_) ?_
    · simp only [l1, l2]
      rw [dec_true (show (i : Int) < (tw a : Int) by omega), cond_true]
      have hP : a % T9 ^ (i + 1) * b = a % T9 ^ i * b + T9 ^ i * (a / T9 ^ i % T9 * b) := by
        rw [mod_succ, Nat.add_mul, Nat.mul_assoc]
      have hci : lget 0 (td a) (i : Int) = ((a / T9 ^ i % T9 : Nat) : Int) := lget_dgs hi
      generalize hc : a / T9 ^ i % T9 = c at *
      have hcl : c < 1000000000 := by rw [← hc]; exact dltT a i
      generalize hPo : a % T9 ^ i * b = P at *
      generalize hPn : a % T9 ^ (i + 1) * b = P' at *
      have hPl : P < T9 ^ (i + tw b) := by rw [← hPo]; exact lt_pow_mulT (Nat.mod_lt _ (pow_posT i)) (tw_lt b)
      have hPl' : P' < T9 ^ (i + 1 + tw b) := by rw [← hPn]; exact lt_pow_mulT (Nat.mod_lt _ (pow_posT _)) (tw_lt b)
      have hdiv : P' / T9 ^ i = P / T9 ^ i + c * b := by rw [hP, Nat.add_mul_div_left _ _ (pow_posT i)]
      have hsame : ∀ j, j < i → P' / T9 ^ j % T9 = P / T9 ^ j % T9 := fun j hj => by
        rw [hP, ← mod_digit (n := P + T9 ^ i * (c * b)) hj, Nat.add_mul_mod_self_left, mod_digit hj]
      have hstart : dgs T9 n P = mixT n i P' P := by
        unfold dgs mixT
        refine List.map_congr_left fun j _ => ?_
        split
        · rename_i hj; rw [hsame j hj]
        · rfl
      have hend : mixT n (i + tw b + 1) P' P = dgs T9 n P' := by
        unfold dgs mixT
        refine List.map_congr_left fun j _ => ?_
        split
        · rfl
        · rename_i hj
          have h1 : P < T9 ^ j := Nat.lt_of_lt_of_le hPl (Nat.pow_le_pow_right (by decide) (by omega))
          have h2 : P' < T9 ^ j := Nat.lt_of_lt_of_le hPl' (Nat.pow_le_pow_right (by decide) (by omega))
          rw [Nat.div_eq_of_lt h1, Nat.div_eq_of_lt h2]
      refine Option.bind_eq_some_iff.2 ⟨((carryN (P / T9 ^ i) c b (tw b) : Nat), mixT n (i + tw b) P' P), ?_, ?_⟩
      · refine loopM_upto (fun k => (((carryN (P / T9 ^ i) c b k : Int), (k : Int), mixT n (i + k) P' P) : Int × Int × List Int)) (tw b) (by rw [hstart, carryN_zero]; rfl) (fun k hk => ?_) ?_
        · have hs := carryN_step (P / T9 ^ i) c b k
          have hc1 := carryN_lt (p := P / T9 ^ i) (b := b) (k := k) hcl
          have hc2 := carryN_lt (p := P / T9 ^ i) (b := b) (k := k + 1) hcl
          have hik : wi64 ((i : Int) + (k : Int)) = ((i + k : Nat) : Int) := by rw [wi64_id] <;> omega
          have hin : i + k < n := by omega
          have c1 : (decide ((0 : Int) ≤ ((i + k : Nat) : Int)) && decide (((i + k : Nat) : Int) < ((mixT n (i + k) P' P).length : Int))) = true := and_true' (dec_true (by omega)) (dec_true (by rw [mixT_len]; omega))
          have c2 : (decide ((0 : Int) ≤ (i : Int)) && true) = true := and_true' (dec_true (by omega)) rfl
          have c3 : (decide ((0 : Int) ≤ (k : Int)) && decide ((k : Int) < (tw b : Int))) = true := and_true' (dec_true (by omega)) (dec_true (by omega))
          simp only [hik]
          rw [chk_true c1, chk_true c2, chk_true c3, dec_true (show (k : Int) < (tw b : Int) by omega), cond_true, chk_true (by rfl), chk_true (by rfl), chk_true c1, mixT_get hin, hci, show lget 0 (td b) (k : Int) = ((b / T9 ^ k % T9 : Nat) : Int) from lget_dgs hk]
          have dd : P / T9 ^ (i + k) = P / T9 ^ i / T9 ^ k := by rw [Nat.pow_add, Nat.div_div_eq_div_mul]
          have dd' : P' / T9 ^ (i + k) = (P / T9 ^ i + c * b) / T9 ^ k := by rw [Nat.pow_add, ← Nat.div_div_eq_div_mul, hdiv]
          have dl := dltT (P / T9 ^ i) k
          have dlb := dltT b k
          have dl' := dltT (P / T9 ^ i + c * b) k
          have hmul : c * (b / T9 ^ k % T9) ≤ 999999999 * 999999999 := Nat.mul_le_mul (by omega) (by omega)
          have hcast : ((c : Int) * ((b / T9 ^ k % T9 : Nat) : Int)) = ((c * (b / T9 ^ k % T9) : Nat) : Int) := (Int.natCast_mul _ _).symm
          rw [dd, hcast]
          generalize c * (b / T9 ^ k % T9) = m at *
          have hcar : wi64 (wi64 (((P / T9 ^ i / T9 ^ k % T9 : Nat) : Int) + wi64 (m : Int)) + (carryN (P / T9 ^ i) c b k : Int)) = ((carryN (P / T9 ^ i) c b (k + 1) * 1000000000 + (P / T9 ^ i + c * b) / T9 ^ k % T9 : Nat) : Int) := by
            rw [wi64_id (x := (m : Int)) (by omega) (by omega), wi64_id (x := ((P / T9 ^ i / T9 ^ k % T9 : Nat) : Int) + (m : Int)) (by omega) (by omega), wi64_id] <;> omega
          rw [hcar, wi64_id (x := (k : Int) + 1) (by omega) (by omega)]
          have e1 : Int.tmod ((carryN (P / T9 ^ i) c b (k + 1) * 1000000000 + (P / T9 ^ i + c * b) / T9 ^ k % T9 : Nat) : Int) 1000000000 = ((P' / T9 ^ (i + k) % T9 : Nat) : Int) := by
            rw [dd', Int.tmod_eq_emod_of_nonneg (by omega)]; omega
          have e2 : wi64 (Int.tdiv ((carryN (P / T9 ^ i) c b (k + 1) * 1000000000 + (P / T9 ^ i + c * b) / T9 ^ k % T9 : Nat) : Int) 1000000000) = ((carryN (P / T9 ^ i) c b (k + 1) : Nat) : Int) := by
            rw [Int.tdiv_eq_ediv_of_nonneg (by omega), wi64_id (by omega) (by omega)]; omega
          rw [e1, e2, mixT_set]
          rfl
        · simp only
          rw [dec_false (by omega), cond_false]
      · 
        simp only
        have hib : wi64 ((i : Int) + (tw b : Int)) = ((i + tw b : Nat) : Int) := by rw [wi64_id] <;> omega
        have hin : i + tw b < n := by omega
        have c1 : (decide ((0 : Int) ≤ ((i + tw b : Nat) : Int)) && decide (((i + tw b : Nat) : Int) < ((mixT n (i + tw b) P' P).length : Int))) = true := and_true' (dec_true (by omega)) (dec_true (by rw [mixT_len]; omega))
        rw [hib, chk_true c1, chk_true c1, mixT_get hin]
        have hold : P / T9 ^ (i + tw b) = 0 := Nat.div_eq_of_lt hPl
        have hs := carryN_step (P / T9 ^ i) c b (tw b)
        have hbz : b / T9 ^ tw b % T9 = 0 := tw_beyond (Nat.le_refl _)
        have hpz : P / T9 ^ i / T9 ^ tw b = 0 := by rw [Nat.div_div_eq_div_mul, ← Nat.pow_add, hold]
        have hnz : carryN (P / T9 ^ i) c b (tw b) < 1000000000 := carryN_lt hcl
        have dd' : P' / T9 ^ (i + tw b) = (P / T9 ^ i + c * b) / T9 ^ tw b := by rw [Nat.pow_add, ← Nat.div_div_eq_div_mul, hdiv]
        rw [hbz, hpz, Nat.mul_zero, Nat.zero_mod] at hs
        have dl' := dltT (P / T9 ^ i + c * b) (tw b)
        have hval : wi64 (((P / T9 ^ (i + tw b) % T9 : Nat) : Int) + ((carryN (P / T9 ^ i) c b (tw b) : Nat) : Int)) = ((P' / T9 ^ (i + tw b) % T9 : Nat) : Int) := by
          rw [hold, dd', Nat.zero_mod, wi64_id (by omega) (by omega)]
          omega
        rw [hval, mixT_set, hend, wi64_id (by omega) (by omega)]
        rfl
    · simp only [l1]
      rw [dec_false (by omega), cond_false, Nat.mod_eq_of_lt (tw_lt a)]
  · rw [hst, wideOf_ok _ (by omega) hlt]; rfl
theorem WideMul_ok {a b : Int} {N M : Nat} (ha : tw a.natAbs ≤ N) (hb : tw b.natAbs ≤ M) (hN : N + M ≤ 1073741824) : b0_WideMul (wideZ a) (wideZ b) = some (wideZ (a * b)) ∧ tw (a * b).natAbs ≤ N + M := by
  obtain ⟨s1, s2⟩ := sgn_mul a b
  constructor
  · unfold wideZ
    rw [mul_digits (by omega) (by omega) s1, Int.natAbs_mul]
    congr 2
    by_cases h : a * b = 0
    · rw [if_pos (by rw [← Int.natAbs_mul, h]; rfl), h]; rfl
    · rw [if_neg (by rw [← Int.natAbs_mul]; omega), s2 h]
  · rw [Int.natAbs_mul]
    exact Nat.le_trans tw_mul (by omega)
end Go.Lift
namespace Go.Lift
open Go
theorem cons_dgs {B k n x : Nat} (hB : 2 ≤ B) (hx : x < B) : (x : Int) :: dgs B k n = dgs B (k + 1) (n * B + x) := by
  unfold dgs
  rw [List.range_succ_eq_map, List.map_cons, List.map_map]
  congr 1
  · rw [Nat.pow_zero, Nat.div_one, Nat.mul_comm, Nat.mul_add_mod, Nat.mod_eq_of_lt hx]
  · refine List.map_congr_left fun i _ => ?_
    simp only [Function.comp]
    rw [Nat.succ_eq_add_one, Nat.pow_succ', ← Nat.div_div_eq_div_mul, Nat.mul_comm n, Nat.mul_add_div (by omega), Nat.div_eq_of_lt hx, Nat.add_zero]
theorem search_ok {s : Int} {b l : Nat} (hb : b ≠ 0) (hl : l < b * 1000000000) (hbw : tw b ≤ 1073741800) (hlw : tw l ≤ 1073741824) :
    loopM (S := Int × Int) (R := Int) (fun s_1 =>
              let lo : Int := s_1.1
              let hi : Int := s_1.2
              bif decide (lo < hi) then
                chk (2 != 0) (
                  let t_3 : Int := wi64 (Int.tdiv (wi64 ((wi64 (lo + hi)) + 1)) 2)
                  (b0_wideOf 1 (wideZ s).2).bind fun (t_4 : Db0_Wide) =>
                  (b0_WideOf t_3).bind fun (t_5 : Db0_Wide) =>
                  (b0_WideMul t_4 t_5).bind fun (t_6 : Db0_Wide) =>
                  (b0_cmpDigits t_6.2 (td l)).bind fun (t_7 : Int) =>
                  (bif decide (t_7 ≤ 0) then
                    some (t_3, hi)
                  else
                    some (lo, wi64 (t_3 - 1))).bind fun (j : Int × Int) =>
                  let lo_1 : Int := j.1
                  let hi_1 : Int := j.2
                  some (.inl (lo_1, hi_1)))
              else
                some (.inr lo)) (0, 999999999) = some ((l / b : Nat) : Int) ∨ s.natAbs ≠ b := by
  by_cases hs : s.natAbs = b
  · left
    have hs2 : (wideZ s).2 = td b := by unfold wideZ; rw [hs]
    rw [hs2]
    obtain ⟨r, hr, hq⟩ := loopM_inv (S := Int × Int) (R := Int) (f := (fun s_1 =>
              let lo : Int := s_1.1
              let hi : Int := s_1.2
              bif decide (lo < hi) then
                chk (2 != 0) (
                  let t_3 : Int := wi64 (Int.tdiv (wi64 ((wi64 (lo + hi)) + 1)) 2)
                  (b0_wideOf 1 (td b)).bind fun (t_4 : Db0_Wide) =>
                  (b0_WideOf t_3).bind fun (t_5 : Db0_Wide) =>
                  (b0_WideMul t_4 t_5).bind fun (t_6 : Db0_Wide) =>
                  (b0_cmpDigits t_6.2 (td l)).bind fun (t_7 : Int) =>
                  (bif decide (t_7 ≤ 0) then
                    some (t_3, hi)
                  else
                    some (lo, wi64 (t_3 - 1))).bind fun (j : Int × Int) =>
                  let lo_1 : Int := j.1
                  let hi_1 : Int := j.2
                  some (.inl (lo_1, hi_1)))
              else
                some (.inr lo))) (fun s => ∃ lo hi : Nat, s = ((lo : Int), (hi : Int)) ∧ lo ≤ hi ∧ hi ≤ 999999999 ∧ b * lo ≤ l ∧ l < b * (hi + 1)) (fun s => (s.2 - s.1).toNat) (fun r => r = ((l / b : Nat) : Int)) (s := (0, 999999999)) (fun s hI => by
        obtain ⟨lo, hi, rfl, h1, h2, h3, h4⟩ := hI
        by_cases hlt : lo < hi
        · left
          have hm : wi64 (Int.tdiv (wi64 (wi64 ((lo : Int) + (hi : Int)) + 1)) 2) = (((lo + hi + 1) / 2 : Nat) : Int) := by
            rw [wi64_id (x := (lo : Int) + (hi : Int)) (by omega) (by omega), wi64_id (x := (lo : Int) + (hi : Int) + 1) (by omega) (by omega), Int.tdiv_eq_ediv_of_nonneg (by omega), wi64_id (by omega) (by omega)]
            omega
          simp only [hm]
          generalize hmm : (lo + hi + 1) / 2 = m
          have hmb : lo < m ∧ m ≤ hi := by omega
          rw [dec_true (show (lo : Int) < (hi : Int) by omega), cond_true, chk_true (by rfl), wideOf_td 1 (by omega), if_neg hb]
          simp only [Option.bind_some]
          rw [WideOf_ok (by omega) (by omega)]
          simp only [Option.bind_some]
          have hmw : tw m ≤ 1 := tw_of_lt (by have : (T9 : Nat) ^ 1 = 1000000000 := by decide
                                              omega)
          have hmul : b0_WideMul (1, td b) (wideZ (m : Int)) = some (if b * m = 0 then 0 else 1 * sgn (m : Int), td (b * m)) := by
            have : wideZ (m : Int) = (sgn (m : Int), td m) := by unfold wideZ; rw [Int.natAbs_natCast]
            rw [this]
            exact mul_digits (by omega) (by omega) (by
              have h : sgn (m : Int) = 0 ∨ sgn (m : Int) = -1 ∨ sgn (m : Int) = 1 := by unfold sgn; split <;> (try split) <;> simp
              rcases h with e | e | e <;> rw [e] <;> rfl)
          rw [hmul]
          simp only [Option.bind_some]
          rw [tcmp_ok (Nat.le_trans tw_mul (by omega)) (by omega)]
          simp only [Option.bind_some]
          by_cases hle : b * m ≤ l
          · have : (if b * m = l then (0 : Int) else if b * m < l then -1 else 1) ≤ 0 := by (repeat' split) <;> omega
            rw [dec_true this, cond_true]
            exact ⟨_, rfl, ⟨m, hi, rfl, by omega, h2, hle, h4⟩, by simp only; omega⟩
          · have : ¬ (if b * m = l then (0 : Int) else if b * m < l then -1 else 1) ≤ 0 := by (repeat' split) <;> omega
            rw [dec_false this, cond_false, wi64_id (x := (m : Int) - 1) (by omega) (by omega)]
            refine ⟨_, rfl, ⟨lo, m - 1, by simp only [Option.bind_some]; congr 1; omega, by omega, by omega, h3, ?_⟩, by simp only [Option.bind_some]; omega⟩
            rw [show m - 1 + 1 = m by omega]; omega
        · right
          refine ⟨(lo : Int), by simp only; rw [dec_false (by omega), cond_false], ?_⟩
          have : lo = hi := by omega
          subst this
          congr 1
          have h5 : lo ≤ l / b := (Nat.le_div_iff_mul_le (by omega)).2 (by rw [Nat.mul_comm]; exact h3)
          have h6 : l / b < lo + 1 := (Nat.div_lt_iff_lt_mul (by omega)).2 (by rw [Nat.mul_comm]; exact h4)
          omega) ⟨0, 999999999, rfl, by omega, by omega, by omega, hl⟩
    simp only at hr ⊢
    rw [hr, hq]
  · exact .inr hs
theorem cons_lt {B L x : Nat} (hB : 2 ≤ B) (hx : x < B) : L * B + x < B ^ (wd B L + 1) := by
  rw [Nat.pow_succ]
  have h5 := wd_lt hB L
  have h7 : (L + 1) * B ≤ B ^ wd B L * B := Nat.mul_le_mul_right _ h5
  rw [Nat.add_mul, Nat.one_mul] at h7
  exact Nat.lt_of_lt_of_le (Nat.add_lt_add_left hx _) h7
theorem trim_cons {L x : Nat} (hx : x < T9) (hL : tw L ≤ 1073741000) : b0_trimmed ((x : Int) :: td L) = some (td (L * T9 + x)) := by
  have e : (x : Int) :: td L = dgs T9 (tw L + 1) (L * T9 + x) := cons_dgs hT hx
  rw [e]
  exact ttrim_ok (Nat.le_trans (Nat.add_le_add_right hL 1) (by decide)) (cons_lt hT hx)
theorem long_step {A b j : Nat} (hb : b ≠ 0) : (A / T9 ^ (j + 1) % b * T9 + A / T9 ^ j % T9) / b = A / b / T9 ^ j % T9 ∧ (A / T9 ^ (j + 1) % b * T9 + A / T9 ^ j % T9) % b = A / T9 ^ j % b ∧ A / T9 ^ (j + 1) % b * T9 + A / T9 ^ j % T9 < b * 1000000000 := by
  rw [div_pow_succ]
  have e : A / b / T9 ^ j = A / T9 ^ j / b := by rw [Nat.div_div_eq_div_mul, Nat.div_div_eq_div_mul, Nat.mul_comm]
  rw [e]
  generalize A / T9 ^ j = X
  have h1 := Nat.div_add_mod X T9
  have h2 := Nat.div_add_mod (X / T9) b
  have h3 := Nat.mod_lt (X / T9) (show 0 < b by omega)
  have h4 := Nat.mod_lt X (show 0 < T9 by decide)
  generalize hQ : X / T9 / b = Q at *
  generalize hR : X / T9 % b = R at *
  generalize hx : X % T9 = x at *
  have hX : X = (R * T9 + x) + b * (Q * T9) := by
    rw [← h1, ← h2]
    have : T9 * (b * Q + R) = b * (Q * T9) + R * T9 := by rw [Nat.mul_add, Nat.mul_left_comm, Nat.mul_comm T9 Q, Nat.mul_comm T9 R]
    omega
  have hlt : R * T9 + x < b * T9 := by
    have : (R + 1) * T9 ≤ b * T9 := Nat.mul_le_mul_right _ (by omega)
    rw [Nat.add_mul, Nat.one_mul] at this
    omega
  refine ⟨?_, ?_, hlt⟩
  · have hd : X / b = (R * T9 + x) / b + Q * T9 := by
      conv => lhs; rw [hX]
      rw [Nat.add_mul_div_left _ _ (by omega)]
    rw [hd, Nat.add_mul_mod_self_right, Nat.mod_eq_of_lt]
    exact (Nat.div_lt_iff_lt_mul (by omega)).2 (by rw [Nat.mul_comm T9]; exact hlt)
  · conv => rhs; rw [hX]
    rw [Nat.add_mul_mod_self_left]
theorem floor_neg {A b : Nat} (hb : b ≠ 0) : (-(A : Int)) / (b : Int) = if A % b = 0 then -((A / b : Nat) : Int) else -((A / b : Nat) : Int) - 1 := by
  have h := Nat.div_add_mod A b
  have hm := Nat.mod_lt A (show 0 < b by omega)
  generalize A / b = q at *
  generalize A % b = r at *
  have hA : (A : Int) = (b : Int) * (q : Int) + (r : Int) := by rw [← h, Int.natCast_add, Int.natCast_mul]
  split
  · rename_i hr
    subst hr
    rw [hA, show -((b : Int) * (q : Int) + ((0 : Nat) : Int)) = (b : Int) * (-(q : Int)) by rw [Int.mul_neg]; omega, Int.mul_ediv_cancel_left _ (by omega)]
  · have e : -(A : Int) = ((b : Int) - (r : Int)) + (b : Int) * (-(q : Int) - 1) := by
      rw [hA, Int.mul_sub, Int.mul_neg, Int.mul_one]; omega
    rw [e, Int.add_mul_ediv_left _ _ (by omega), Int.ediv_eq_zero_of_lt (by omega) (by omega)]
    omega
theorem floor_loop {b : Int} {A B : Nat} (hB : b.natAbs = B) (hB0 : B ≠ 0) (ha : tw A ≤ 1073741000) (hbw : tw B ≤ 1073741000) :
    loopM (S := (List Int) × Int × (List Int)) (R := (List Int) × (List Int)) (fun s =>
        let left_ : (List Int) := s.1
        let i_1 : Int := s.2.1
        let t : (List Int) := s.2.2
        bif decide (i_1 ≥ 0) then
          chk (decide ((0 : Int) ≤ i_1) && decide (i_1 < (tw A : Int))) (
            (app [lget 0 (td A) i_1] left_).bind fun (t_1 : List Int) =>
            (b0_trimmed t_1).bind fun (t_2 : (List Int)) =>
            (loopM (S := Int × Int) (R := Int) (fun s_1 =>
              let lo : Int := s_1.1
              let hi : Int := s_1.2
              bif decide (lo < hi) then
                chk (2 != 0) (
                  let t_3 : Int := wi64 (Int.tdiv (wi64 ((wi64 (lo + hi)) + 1)) 2)
                  (b0_wideOf 1 (wideZ b).2).bind fun (t_4 : Db0_Wide) =>
                  (b0_WideOf t_3).bind fun (t_5 : Db0_Wide) =>
                  (b0_WideMul t_4 t_5).bind fun (t_6 : Db0_Wide) =>
                  (b0_cmpDigits t_6.2 t_2).bind fun (t_7 : Int) =>
                  (bif decide (t_7 ≤ 0) then
                    some (t_3, hi)
                  else
                    some (lo, wi64 (t_3 - 1))).bind fun (j : Int × Int) =>
                  let lo_1 : Int := j.1
                  let hi_1 : Int := j.2
                  some (.inl (lo_1, hi_1)))
              else
                some (.inr lo)) (0, 999999999)).bind fun (lo_2 : Int) =>
            chk (decide ((0 : Int) ≤ i_1) && decide (i_1 < (List.length t : Int))) (
              (b0_wideOf 1 (wideZ b).2).bind fun (t_8 : Db0_Wide) =>
              (b0_WideOf lo_2).bind fun (t_9 : Db0_Wide) =>
              (b0_WideMul t_8 t_9).bind fun (t_10 : Db0_Wide) =>
              (b0_subDigits t_2 t_10.2).bind fun (t_11 : (List Int)) =>
              some (.inl (t_11, wi64 (i_1 - 1), lset t i_1 lo_2))))
        else
          some (.inr (left_, t))) ([], (tw A : Int) - 1, List.replicate (tw A) 0) = some (td (A % B), dgs T9 (tw A) (A / B)) := by
  have d2 : (wideZ b).2 = td B := by rw [← hB]; rfl
  let q : Nat → List Int := fun j => (List.range (tw A)).map fun i => if j ≤ i then ((A / B / T9 ^ i % T9 : Nat) : Int) else 0
  have hq0 : q (tw A) = List.replicate (tw A) 0 := by
    show (List.range (tw A)).map _ = _
    rw [List.map_congr_left (g := fun _ => (0 : Int)) fun i hi => ?_, List.map_const']
    · simp
    · rw [List.mem_range] at hi; rw [if_neg (by omega)]
  have hqe : q 0 = dgs T9 (tw A) (A / B) := by
    show (List.range (tw A)).map _ = (List.range (tw A)).map _
    refine List.map_congr_left fun i _ => ?_
    rw [if_pos (by omega)]
  have hqlen : ∀ j, (q j).length = tw A := fun j => by show ((List.range (tw A)).map _).length = _; simp
  have hqset : ∀ j, lset (q (j + 1)) (j : Int) ((A / B / T9 ^ j % T9 : Nat) : Int) = q j := fun j => by
    show lset ((List.range (tw A)).map _) _ _ = (List.range (tw A)).map _
    unfold lset
    rw [Int.toNat_natCast, set_map]
    refine List.map_congr_left fun i _ => ?_
    rcases Nat.lt_trichotomy i j with h | h | h
    · rw [if_neg (by omega), if_neg (by omega), if_neg (by omega)]
    · subst h; rw [if_pos rfl, if_pos (by omega)]
    · rw [if_neg (by omega), if_pos (by omega), if_pos (by omega)]
  refine loopM_upto (fun k => (td (A / T9 ^ (tw A - k) % B), ((tw A - k : Nat) : Int) - 1, q (tw A - k))) (tw A) 
    (by rw [Nat.sub_zero, Nat.div_eq_of_lt (tw_lt A), Nat.zero_mod, td_zero, hq0]) (fun k hk => by
      obtain ⟨j, hj⟩ : ∃ j, tw A - k = j + 1 := ⟨tw A - k - 1, by omega⟩
      have hj2 : tw A - (k + 1) = j := by omega
      have hjA : j < tw A := by omega
      simp only [hj, hj2]
      rw [show ((j + 1 : Nat) : Int) - 1 = (j : Int) by omega]
      rw [chk_true (and_true' (dec_true (by omega)) (dec_true (by omega))), dec_true (show (j : Int) ≥ 0 by omega), cond_true]
      obtain ⟨s1, s2, s3⟩ := long_step (A := A) (b := B) (j := j) hB0
      have hlen : tw (A / T9 ^ (j + 1) % B) ≤ 1073741000 := Nat.le_trans (tw_mono (Nat.le_of_lt (Nat.mod_lt _ (by omega)))) hbw
      rw [show lget 0 (td A) (j : Int) = ((A / T9 ^ j % T9 : Nat) : Int) from lget_dgs hjA, app_ok (by rw [td_len]; simp only [List.length_singleton]; omega)]
      simp only [Option.bind_some, List.singleton_append]
      rw [trim_cons (digit_lt hT A j) hlen]
      simp only [Option.bind_some]
      generalize hl : A / T9 ^ (j + 1) % B * T9 + A / T9 ^ j % T9 = l at *
      have hlw : tw l ≤ 1073741001 := by
        have h8 := tw_lt B
        have h9 : B * 1000000000 ≤ T9 ^ tw B * T9 := Nat.mul_le_mul (Nat.le_of_lt h8) (Nat.le_refl _)
        rw [← Nat.pow_succ] at h9
        have := tw_of_lt (Nat.lt_of_lt_of_le s3 h9)
        omega
      rcases search_ok (s := b) hB0 s3 (by omega) (by omega) with hse | hse
      · simp only at hse
        rw [hse]
        simp only [Option.bind_some]
        have c3 : decide ((j : Int) < ((q (j + 1)).length : Int)) = true := by rw [hqlen]; exact dec_true (by omega)
        rw [c3, Bool.true_and, chk_true rfl]
        rw [d2]
        rw [wideOf_td 1 (Nat.le_trans hbw (by decide))]
        rw [if_neg hB0, Option.bind_some]
        have hlo : l / B < 1000000000 := (Nat.div_lt_iff_lt_mul (by omega)).2 (by rw [Nat.mul_comm]; exact s3)
        rw [WideOf_ok (by omega) (by omega)]
        rw [Option.bind_some]
        have hmw : tw (l / B) ≤ 1 := tw_of_lt (by have : (T9 : Nat) ^ 1 = 1000000000 := by decide
                                                  omega)
        have hmul : b0_WideMul (1, td B) (wideZ ((l / B : Nat) : Int)) = some (if B * (l / B) = 0 then 0 else 1 * sgn ((l / B : Nat) : Int), td (B * (l / B))) := by
          have : wideZ ((l / B : Nat) : Int) = (sgn ((l / B : Nat) : Int), td (l / B)) := by unfold wideZ; rw [Int.natAbs_natCast]
          rw [this]
          exact mul_digits (by omega) (by omega) (by
            have h : sgn ((l / B : Nat) : Int) = 0 ∨ sgn ((l / B : Nat) : Int) = -1 ∨ sgn ((l / B : Nat) : Int) = 1 := by unfold sgn; split <;> (try split) <;> simp
            rcases h with e | e | e <;> rw [e] <;> rfl)
        rw [hmul]
        rw [Option.bind_some]
        have hdm := Nat.div_add_mod l B
        rw [tsub_ok (by omega) (by omega)]
        rw [Option.bind_some]
        rw [show l - B * (l / B) = l % B by omega, s2, s1, hqset, wi64_id (by omega) (by omega)]
      · exact absurd hB hse) (by
      simp only [Nat.sub_self, Nat.pow_zero, Nat.div_one]
      rw [dec_false (by omega), cond_false, hqe])
theorem WideFloor_ok {a b : Int} (hb : 0 < b) (ha : tw a.natAbs ≤ 1073741000) (hbw : tw b.natAbs ≤ 1073741000) : b0_WideFloor (wideZ a) (wideZ b) = some (wideZ (a / b)) := by
  unfold b0_WideFloor
  by_cases ha0 : a = 0
  · subst ha0
    rw [show ((wideZ 0).1 == 0) = true by rw [wideZ_zero]; rfl, cond_true, Int.zero_ediv, wideZ_zero]
  have hsa : (wideZ a).1 = if a < 0 then -1 else 1 := by unfold wideZ sgn; rw [if_neg ha0]
  rw [show ((wideZ a).1 == 0) = false by rw [hsa, beq_eq_false_iff_ne]; split <;> decide, cond_false]
  have d1 : (wideZ a).2 = td a.natAbs := rfl
  have d2 : (wideZ b).2 = td b.natAbs := rfl
  generalize hA : a.natAbs = A at *
  generalize hB : b.natAbs = B at *
  have hB0 : B ≠ 0 := by omega
  have l1 : ((td A).length : Int) = (tw A : Int) := by rw [td_len]
  simp only [d1, l1]
  rw [chk_true (and_true' (and_true' (dec_true (by omega)) (dec_true (by omega))) (beq_self_eq_true _)), Int.toNat_natCast, wi64_id (by omega) (by omega)]
  have hloop := floor_loop hB hB0 ha hbw
  refine Option.bind_eq_some_iff.2 ⟨_, hloop, ?_⟩
  simp only
  rw [wideOf_ok _ (by omega) (Nat.lt_of_le_of_lt (Nat.div_le_self A B) (tw_lt A))]
  simp only [Option.bind_some]
  have hbB : b = (B : Int) := by omega
  have hz : (((td (A % B)).length : Int) > 0) ↔ A % B ≠ 0 := by
    rw [td_len]
    have h1 : tw (A % B) = 0 ↔ A % B = 0 := wd_eq_zero hT
    omega
  by_cases hneg : a < 0
  · have haA : a = -(A : Int) := by omega
    have hfl := floor_neg (A := A) hB0
    rw [← haA, ← hbB] at hfl
    have hw1 : ((if A / B = 0 then 0 else (wideZ a).1), td (A / B)) = wideZ (-((A / B : Nat) : Int)) := by
      rw [hsa, if_pos hneg]
      unfold wideZ sgn
      rw [Int.natAbs_neg, Int.natAbs_natCast]
      congr 1
      generalize A / B = D
      (repeat' split) <;> omega
    rw [hw1]
    by_cases hr : A % B = 0
    · rw [dec_false (fun e => hz.1 e hr), Bool.and_false, cond_false, hfl, if_pos hr]
      rfl
    · rw [dec_true (hz.2 hr), Bool.and_true, dec_true (show (wideZ a).1 < 0 by rw [hsa, if_pos hneg]; decide), cond_true, WideOf_ok (by decide) (by decide)]
      simp only [Option.bind_some]
      have hone : tw (1 : Int).natAbs ≤ 1073741000 := by
        have : tw 1 ≤ 1 := tw_of_lt (by decide)
        show tw 1 ≤ _
        omega
      rw [(WideSub_ok (a := -((A / B : Nat) : Int)) (b := 1) (N := 1073741000) (by rw [Int.natAbs_neg, Int.natAbs_natCast]; exact Nat.le_trans (tw_mono (Nat.div_le_self A B)) ha) hone (by decide)).1]
      simp only [Option.bind_some]
      rw [hfl, if_neg hr]
  · have haA : a = (A : Int) := by omega
    rw [dec_false (show ¬ (wideZ a).1 < 0 by rw [hsa, if_neg hneg]; decide), Bool.false_and, cond_false]
    simp only [Option.bind_some]
    rw [haA, hbB, ← Int.natCast_ediv]
    congr 1
    unfold wideZ sgn
    rw [Int.natAbs_natCast, Int.natAbs_natCast]
    congr 1
    generalize A / B = D
    (repeat' split) <;> omega
end Go.Lift
namespace Go.Lift
open Go
theorem wideGcd_ok {a b : Int} {N : Nat} (ha : tw a.natAbs ≤ N) (hb : tw b.natAbs ≤ N) (hN : N ≤ 536870000) : b0_wideGcd (wideZ a) (wideZ b) = some (wideZ ((Nat.gcd a.natAbs b.natAbs : Nat) : Int)) := by
  unfold b0_wideGcd
  rw [wideSize_ok, Option.bind_some, wideSize_ok, Option.bind_some]
  generalize a.natAbs = x at *
  generalize b.natAbs = y at *
  refine Option.bind_eq_some_iff.2 ⟨_, ?_, rfl⟩
  induction y using Nat.strongRecOn generalizing x with
  | _ y ih =>
    by_cases h0 : y = 0
    · subst h0
      refine loopM_done ?_
      simp only
      unfold b0_WideSign
      rw [Option.bind_some, Nat.gcd_zero_right]
      rw [show ((wideZ ((0 : Nat) : Int)).1 != 0) = false by rw [show ((0 : Nat) : Int) = 0 from rfl, wideZ_zero]; rfl, cond_false]
    · have hm := Nat.mod_lt x (show y > 0 by omega)
      have hs : ((wideZ ((y : Nat) : Int)).1 != 0) = true := by
        show (sgn (y : Int) != 0) = true
        unfold sgn
        rw [if_neg (by omega), if_neg (by omega)]; rfl
      rw [loopM_next (s' := (wideZ (y : Int), wideZ ((x % y : Nat) : Int)))]
      · rw [ih (x % y) hm y hb (Nat.le_trans (tw_mono (Nat.mod_le x y)) ha)]
        congr 3
        rw [Nat.gcd_comm y, ← Nat.gcd_rec, Nat.gcd_comm]
      · simp only
        unfold b0_WideSign
        rw [Option.bind_some, hs, cond_true]
        rw [WideFloor_ok (by omega) (by rw [Int.natAbs_natCast]; omega) (by rw [Int.natAbs_natCast]; omega), Option.bind_some, ← Int.natCast_ediv]
        have hdl : tw (x / y) ≤ N := Nat.le_trans (tw_mono (Nat.div_le_self x y)) ha
        obtain ⟨m1, m2⟩ := WideMul_ok (a := ((x / y : Nat) : Int)) (b := (y : Int)) (N := N) (M := N) (by rw [Int.natAbs_natCast]; exact hdl) (by rw [Int.natAbs_natCast]; exact hb) (by omega)
        rw [m1, Option.bind_some]
        rw [(WideSub_ok (a := (x : Int)) (N := N + N) (by rw [Int.natAbs_natCast]; omega) m2 (by omega)).1, Option.bind_some]
        congr 4
        have hdm := Nat.div_add_mod x y
        have : (x : Int) = (y : Int) * ((x / y : Nat) : Int) + ((x % y : Nat) : Int) := by
          rw [← Int.natCast_mul, ← Int.natCast_add, hdm]
        rw [Int.mul_comm] at this
        omega
def ratioW (q : Rat) : Db0_Ratio := (wideZ q.num, wideZ (q.den : Int))
def FitT (N : Nat) (q : Rat) : Prop := tw q.num.natAbs ≤ N ∧ tw q.den ≤ N
theorem FitT.mono {N M : Nat} {q : Rat} (h : FitT N q) (hm : N ≤ M) : FitT M q := ⟨Nat.le_trans h.1 hm, Nat.le_trans h.2 hm⟩
theorem mkRat_parts {n : Int} {d : Nat} (hd : d ≠ 0) : (mkRat n d).num = n / ((Nat.gcd n.natAbs d : Nat) : Int) ∧ (mkRat n d).den = d / Nat.gcd n.natAbs d := by
  have e : mkRat n d = Rat.normalize n d hd := by unfold mkRat; rw [dif_neg hd]
  rw [e, Rat.normalize_eq]
  exact ⟨rfl, rfl⟩
theorem natAbs_div_le (n : Int) (g : Nat) (hg : ((g : Nat) : Int) ∣ n) (h0 : 0 < g) : (n / (g : Int)).natAbs ≤ n.natAbs := by
  obtain ⟨k, hk⟩ := hg
  rw [hk, Int.mul_ediv_cancel_left _ (by omega), Int.natAbs_mul, Int.natAbs_natCast]
  exact Nat.le_mul_of_pos_left _ h0
theorem fitT_mk {n : Int} {d N : Nat} (hd : d ≠ 0) (h1 : tw n.natAbs ≤ N) (h2 : tw d ≤ N) : FitT N (mkRat n d) := by
  obtain ⟨p1, p2⟩ := mkRat_parts (n := n) hd
  have hg : 0 < Nat.gcd n.natAbs d := Nat.gcd_pos_of_pos_right _ (by omega)
  constructor
  · rw [p1]
    exact Nat.le_trans (tw_mono (natAbs_div_le n _ (Int.ofNat_dvd_left.2 (Nat.gcd_dvd_left _ _)) hg)) h1
  · rw [p2]; exact Nat.le_trans (tw_mono (Nat.div_le_self _ _)) h2
theorem RatioMake_pos {n : Int} {d N : Nat} (hd : d ≠ 0) (h1 : tw n.natAbs ≤ N) (h2 : tw d ≤ N) (hN : N ≤ 536870000) : b0_RatioMake (wideZ n) (wideZ (d : Int)) = some (ratioW (mkRat n d)) := by
  unfold b0_RatioMake b0_WideSign
  rw [Option.bind_some]
  rw [dec_false (show ¬ (wideZ (d : Int)).1 < 0 by show ¬ sgn (d : Int) < 0; unfold sgn; rw [if_neg (by omega), if_neg (by omega)]; decide), cond_false, Option.bind_some]
  simp only
  rw [wideGcd_ok h1 (by rw [Int.natAbs_natCast]; exact h2) hN, Option.bind_some, Int.natAbs_natCast, WideOf_ok (by decide) (by decide), Option.bind_some]
  obtain ⟨p1, p2⟩ := mkRat_parts (n := n) hd
  have hg : 0 < Nat.gcd n.natAbs d := Nat.gcd_pos_of_pos_right _ (by omega)
  have hgl : tw (Nat.gcd n.natAbs d) ≤ N := Nat.le_trans (tw_mono (Nat.le_of_dvd (by omega) (Nat.gcd_dvd_right _ _))) h2
  have hone : tw (1 : Int).natAbs ≤ N + 1 := by
    have : tw 1 ≤ 1 := tw_of_lt (by decide)
    show tw 1 ≤ _
    omega
  rw [WideCmp_ok (N := N + 1) (by rw [Int.natAbs_natCast]; omega) hone (by omega), Option.bind_some]
  have hr : ratioW (mkRat n d) = (wideZ (n / ((Nat.gcd n.natAbs d : Nat) : Int)), wideZ (((d / Nat.gcd n.natAbs d : Nat)) : Int)) := by
    unfold ratioW; rw [p1, p2]
  rw [hr]
  generalize Nat.gcd n.natAbs d = g at *
  by_cases h : g = 1
  · subst h
    rw [if_pos (show ((1 : Nat) : Int) = 1 from rfl), show ((0 : Int) == 0) = true from rfl, cond_true, Nat.div_one, show ((1 : Nat) : Int) = 1 from rfl, Int.ediv_one]
  · rw [if_neg (by omega), if_neg (by omega), show ((1 : Int) == 0) = false from rfl, cond_false]
    rw [WideFloor_ok (by omega) (by omega) (by rw [Int.natAbs_natCast]; omega), Option.bind_some, WideFloor_ok (by omega) (by rw [Int.natAbs_natCast]; omega) (by rw [Int.natAbs_natCast]; omega), Option.bind_some, Int.natCast_ediv]
theorem RatioMake_ok {n d : Int} {N : Nat} (hd : d ≠ 0) (h1 : tw n.natAbs ≤ N) (h2 : tw d.natAbs ≤ N) (hN : N ≤ 536870000) : b0_RatioMake (wideZ n) (wideZ d) = some (ratioW (Rat.divInt n d)) ∧ FitT N (Rat.divInt n d) := by
  by_cases h : 0 < d
  · have e : d = ((d.natAbs : Nat) : Int) := by omega
    rw [e, Rat.divInt_ofNat]
    exact ⟨RatioMake_pos (by omega) h1 h2 hN, fitT_mk (by omega) h1 h2⟩
  · have e : d = -((d.natAbs : Nat) : Int) := by omega
    have e2 : Rat.divInt n d = mkRat (-n) d.natAbs := by
      conv => lhs; rw [e]
      rw [Rat.divInt_neg', Rat.divInt_ofNat]
    rw [e2]
    refine ⟨?_, fitT_mk (by omega) (by rw [Int.natAbs_neg]; exact h1) h2⟩
    rw [← RatioMake_pos (n := -n) (d := d.natAbs) (N := N) (by omega) (by rw [Int.natAbs_neg]; exact h1) h2 hN]
    have hneg : (wideZ d).1 < 0 := by show sgn d < 0; unfold sgn; rw [if_neg hd, if_pos (by omega)]; decide
    have hpos : ¬ (wideZ ((d.natAbs : Nat) : Int)).1 < 0 := by show ¬ sgn _ < 0; unfold sgn; rw [if_neg (by omega), if_neg (by omega)]; decide
    unfold b0_RatioMake b0_WideSign
    rw [Option.bind_some, Option.bind_some, dec_true hneg, dec_false hpos, cond_true, cond_false, WideNeg_ok, Option.bind_some, WideNeg_ok, Option.bind_some]
    rw [show -d = ((d.natAbs : Nat) : Int) by omega]
theorem RatioOf_ok {n d : Int} (hd : d ≠ 0) (h1 : -9223372036854775808 ≤ n) (h2 : n < 9223372036854775808) (h3 : -9223372036854775808 ≤ d) (h4 : d < 9223372036854775808) : b0_RatioOf n d = some (ratioW (Rat.divInt n d)) ∧ FitT 3 (Rat.divInt n d) := by
  unfold b0_RatioOf
  have hb : ∀ z : Int, -9223372036854775808 ≤ z → z < 9223372036854775808 → tw z.natAbs ≤ 3 := fun z a b => tw_of_lt (by
    have : (T9 : Nat) ^ 3 = 1000000000000000000000000000 := by decide
    rw [this]; omega)
  rw [WideOf_ok h1 h2, Option.bind_some, WideOf_ok h3 h4, Option.bind_some]
  obtain ⟨r1, r2⟩ := RatioMake_ok hd (hb n h1 h2) (hb d h3 h4) (by decide)
  rw [r1, Option.bind_some]
  exact ⟨rfl, r2⟩
theorem RatioInt_ok {n : Int} (h1 : -9223372036854775808 ≤ n) (h2 : n < 9223372036854775808) : b0_RatioInt n = some (ratioW (n : Rat)) := by
  unfold b0_RatioInt
  rw [WideOf_ok h1 h2, Option.bind_some, WideOf_ok (by decide) (by decide), Option.bind_some]
  unfold ratioW
  rw [Rat.num_intCast, Rat.den_intCast]
  rfl
theorem den_int_ne (q : Rat) : (q.den : Int) ≠ 0 := by have := q.den_nz; omega
theorem RatioMul_ok {a b : Rat} {N M : Nat} (ha : FitT N a) (hb : FitT M b) (h : N + M ≤ 536870000) : b0_RatioMul (ratioW a) (ratioW b) = some (ratioW (a * b)) ∧ FitT (N + M) (a * b) := by
  unfold b0_RatioMul ratioW
  simp only
  obtain ⟨m1, m2⟩ := WideMul_ok ha.1 hb.1 (by omega)
  obtain ⟨m3, m4⟩ := WideMul_ok (a := (a.den : Int)) (b := (b.den : Int)) (by rw [Int.natAbs_natCast]; exact ha.2) (by rw [Int.natAbs_natCast]; exact hb.2) (by omega)
  rw [m1, Option.bind_some, m3, Option.bind_some]
  obtain ⟨r1, r2⟩ := RatioMake_ok (Int.mul_ne_zero (den_int_ne a) (den_int_ne b)) m2 m4 (by omega)
  have e : Rat.divInt (a.num * b.num) ((a.den : Int) * (b.den : Int)) = a * b := by
    rw [← Rat.divInt_mul_divInt, Rat.num_divInt_den, Rat.num_divInt_den]
  rw [e] at r1 r2
  rw [r1, Option.bind_some]
  exact ⟨rfl, r2⟩
theorem RatioAdd_ok {a b : Rat} {N M : Nat} (ha : FitT N a) (hb : FitT M b) (h : N + M ≤ 536860000) : b0_RatioAdd (ratioW a) (ratioW b) = some (ratioW (a + b)) ∧ FitT (N + M + 1) (a + b) := by
  unfold b0_RatioAdd ratioW
  simp only
  obtain ⟨m1, m2⟩ := WideMul_ok (a := a.num) (b := (b.den : Int)) ha.1 (by rw [Int.natAbs_natCast]; exact hb.2) (by omega)
  obtain ⟨m3, m4⟩ := WideMul_ok (a := b.num) (b := (a.den : Int)) hb.1 (by rw [Int.natAbs_natCast]; exact ha.2) (by omega)
  obtain ⟨m5, m6⟩ := WideMul_ok (a := (a.den : Int)) (b := (b.den : Int)) (by rw [Int.natAbs_natCast]; exact ha.2) (by rw [Int.natAbs_natCast]; exact hb.2) (by omega)
  obtain ⟨s1, s2⟩ := WideAdd_ok (N := N + M) m2 (by rw [Nat.add_comm]; exact m4) (by omega)
  rw [m1, Option.bind_some, m3, Option.bind_some, s1, Option.bind_some, m5, Option.bind_some]
  obtain ⟨r1, r2⟩ := RatioMake_ok (Int.mul_ne_zero (den_int_ne a) (den_int_ne b)) s2 (Nat.le_trans m6 (Nat.le_succ _)) (by omega)
  have e : Rat.divInt (a.num * (b.den : Int) + b.num * (a.den : Int)) ((a.den : Int) * (b.den : Int)) = a + b := by
    rw [← Int.natCast_mul, Rat.divInt_ofNat, ← Rat.add_def']
  rw [e] at r1 r2
  rw [r1, Option.bind_some]
  exact ⟨rfl, r2⟩
theorem fitT_neg {N : Nat} {a : Rat} (h : FitT N a) : FitT N (-a) := by
  unfold FitT
  rw [Rat.neg_num, Rat.neg_den, Int.natAbs_neg]; exact h
theorem RatioSub_ok {a b : Rat} {N M : Nat} (ha : FitT N a) (hb : FitT M b) (h : N + M ≤ 536860000) : b0_RatioSub (ratioW a) (ratioW b) = some (ratioW (a - b)) ∧ FitT (N + M + 1) (a - b) := by
  unfold b0_RatioSub b0_RatioNeg
  have e : b0_WideNeg (ratioW b).1 = some (wideZ (-b).num) := by
    show b0_WideNeg (wideZ b.num) = _
    rw [WideNeg_ok, Rat.neg_num]
  rw [e, Option.bind_some, Option.bind_some]
  have e2 : ((wideZ (-b).num, (ratioW b).2) : Db0_Ratio) = ratioW (-b) := by unfold ratioW; rw [Rat.neg_den]
  rw [e2]
  obtain ⟨h1, h2⟩ := RatioAdd_ok ha (fitT_neg hb) h
  rw [h1, Option.bind_some, Rat.sub_eq_add_neg]
  exact ⟨rfl, h2⟩
theorem RatioCmp_ok {a b : Rat} {N M : Nat} (ha : FitT N a) (hb : FitT M b) (h : N + M ≤ 536860000) : b0_RatioCmp (ratioW a) (ratioW b) = some (if a = b then 0 else if a < b then -1 else 1) := by
  unfold b0_RatioCmp ratioW
  simp only
  obtain ⟨m1, m2⟩ := WideMul_ok (a := a.num) (b := (b.den : Int)) ha.1 (by rw [Int.natAbs_natCast]; exact hb.2) (by omega)
  obtain ⟨m3, m4⟩ := WideMul_ok (a := b.num) (b := (a.den : Int)) hb.1 (by rw [Int.natAbs_natCast]; exact ha.2) (by omega)
  rw [m1, Option.bind_some, m3, Option.bind_some, WideCmp_ok (N := N + M) m2 (by rw [Nat.add_comm]; exact m4) (by omega), Option.bind_some]
  have hle : a < b ↔ a.num * (b.den : Int) < b.num * (a.den : Int) := Rat.lt_iff a b
  have hle2 : b < a ↔ b.num * (a.den : Int) < a.num * (b.den : Int) := Rat.lt_iff b a
  by_cases h1 : a = b
  · subst h1; rw [if_pos rfl, if_pos rfl]
  · by_cases h2 : a < b
    · have := hle.1 h2
      rw [if_neg (by omega), if_pos this, if_neg h1, if_pos h2]
    · have h3 : b < a := by grind
      have := hle2.1 h3
      rw [if_neg (by omega), if_neg (by omega), if_neg h1, if_neg h2]
theorem RatioDiv_ok {a b : Rat} {N M : Nat} (ha : FitT N a) (hb : FitT M b) (hb0 : b ≠ 0) (h : N + M ≤ 536860000) : b0_RatioDiv (ratioW a) (ratioW b) = some (ratioW (a / b)) ∧ FitT (N + M) (a / b) := by
  unfold b0_RatioDiv ratioW
  simp only
  obtain ⟨m1, m2⟩ := WideMul_ok (a := a.num) (b := (b.den : Int)) ha.1 (by rw [Int.natAbs_natCast]; exact hb.2) (by omega)
  obtain ⟨m3, m4⟩ := WideMul_ok (a := (a.den : Int)) (b := b.num) (by rw [Int.natAbs_natCast]; exact ha.2) hb.1 (by omega)
  rw [m1, Option.bind_some, m3, Option.bind_some]
  have hbn : b.num ≠ 0 := fun e => hb0 (Rat.num_eq_zero.1 e)
  obtain ⟨r1, r2⟩ := RatioMake_ok (Int.mul_ne_zero (den_int_ne a) hbn) m2 m4 (by omega)
  have e : Rat.divInt (a.num * (b.den : Int)) ((a.den : Int) * b.num) = a / b := by
    rw [← Rat.divInt_mul_divInt, Rat.num_divInt_den, ← Rat.inv_def, Rat.div_def]
  rw [e] at r1 r2
  rw [r1, Option.bind_some]
  exact ⟨rfl, r2⟩
def smallQ (q : Rat) : Bool := decide (q.num.natAbs ≤ 1000000000) && decide (q.den ≤ 1000000000)
def fracQ (q : Rat) : Dapi_Frac × Bool := if smallQ q then ((q.num, (q.den : Int)), true) else ((0, 0), false)
end Go.Lift
namespace Go.Lift
open Go
theorem WideInt_ok (z : Int) (hz : tw z.natAbs ≤ 1073741824) : b0_WideInt (wideZ z) = some (if tw z.natAbs ≤ 2 then (z, true) else (0, false)) := by
  unfold b0_WideInt
  have d1 : (wideZ z).2 = td z.natAbs := rfl
  have d0 : (wideZ z).1 = sgn z := rfl
  rw [d1, d0]
  have l1 : ((td z.natAbs).length : Int) = (tw z.natAbs : Int) := by rw [td_len]
  by_cases h : tw z.natAbs ≤ 2
  · rw [dec_false (by omega), cond_false, if_pos h]
    simp only
    have hw : z.natAbs < T9 ^ 2 := Nat.lt_of_lt_of_le (tw_lt _) (Nat.pow_le_pow_right (by decide) h)
    have hw2 : (T9 : Nat) ^ 2 = 1000000000000000000 := by decide
    rw [hw2] at hw
    refine Option.bind_eq_some_iff.2 ⟨(z.natAbs : Int), ?_, ?_⟩
    · refine loopM_upto (fun k => (((z.natAbs / T9 ^ (tw z.natAbs - k) : Nat) : Int), ((tw z.natAbs - k : Nat) : Int) - 1)) (tw z.natAbs) (by rw [Nat.sub_zero, Nat.div_eq_of_lt (tw_lt _), l1, wi64_id (by omega) (by omega)]; rfl) (fun k hk => ?_) ?_
      · obtain ⟨j, hj⟩ : ∃ j, tw z.natAbs - k = j + 1 := ⟨tw z.natAbs - k - 1, by omega⟩
        have hj2 : tw z.natAbs - (k + 1) = j := by omega
        simp only [hj, hj2, l1]
        rw [show ((j + 1 : Nat) : Int) - 1 = (j : Int) by omega, chk_true (and_true' (dec_true (by omega)) (dec_true (by omega))), dec_true (show (j : Int) ≥ 0 by omega), cond_true, show lget 0 (td z.natAbs) (j : Int) = ((z.natAbs / T9 ^ j % T9 : Nat) : Int) from lget_dgs (show j < tw z.natAbs by omega), div_pow_succ]
        have hle : z.natAbs / T9 ^ j ≤ z.natAbs := Nat.div_le_self _ _
        generalize z.natAbs / T9 ^ j = X at *
        have hX := Nat.div_add_mod X 1000000000
        rw [show T9 = 1000000000 from rfl]
        generalize hq : X / 1000000000 = q at *
        generalize hr : X % 1000000000 = r at *
        rw [wi64_id (x := (q : Int) * 1000000000) (by omega) (by omega), wi64_id (by omega) (by omega), wi64_id (by omega) (by omega)]
        congr 3
        omega
      · simp only [Nat.sub_self, Nat.pow_zero, Nat.div_one]
        rw [dec_false (by omega), cond_false]
    · have : sgn z * (z.natAbs : Int) = z := by
        unfold sgn
        (repeat' split) <;> omega
      rw [this, wi64_id (by omega) (by omega)]
  · rw [dec_true (by omega), cond_true, if_neg h]
theorem Within_ok (n lo hi : Int) : b0_Within n lo hi = some (decide (lo ≤ n ∧ n ≤ hi)) := by
  unfold b0_Within
  simp only [Option.some.injEq]
  by_cases h1 : lo ≤ n <;> by_cases h2 : n ≤ hi <;> simp [h1, h2]
theorem within_ok (n lo hi : Int) : trace_within n lo hi = some (decide (lo ≤ n ∧ n ≤ hi)) := by
  unfold trace_within
  simp only [Option.some.injEq]
  by_cases h1 : lo ≤ n <;> by_cases h2 : n ≤ hi <;> simp [h1, h2]
theorem RatioFrac_ok {q : Rat} {N : Nat} (h : FitT N q) (hN : N ≤ 1073741824) : b0_RatioFrac (ratioW q) = some (fracQ q) := by
  unfold b0_RatioFrac ratioW
  simp only
  rw [WideInt_ok _ (Nat.le_trans h.1 hN), Option.bind_some, WideInt_ok _ (by rw [Int.natAbs_natCast]; exact Nat.le_trans h.2 hN), Option.bind_some, Int.natAbs_natCast]
  have hbig : ∀ n, n ≤ 1000000000 → tw n ≤ 2 := fun n hn => tw_of_lt (by
    have : (T9 : Nat) ^ 2 = 1000000000000000000 := by decide
    rw [this]; omega)
  have hden := q.den_nz
  unfold fracQ smallQ
  by_cases h1 : tw q.num.natAbs ≤ 2
  · by_cases h2 : tw q.den ≤ 2
    · rw [if_pos h1, if_pos h2]
      simp only [Bool.not_true, Bool.or_self, cond_false]
      unfold b0_IsSmall
      rw [Within_ok, Option.bind_some]
      simp only
      by_cases c1 : q.num.natAbs ≤ 1000000000
      · rw [dec_true (show (-1000000000 : Int) ≤ q.num ∧ q.num ≤ 1000000000 by omega), cond_true, Within_ok, Option.bind_some, Option.bind_some, Option.bind_some, Option.bind_some]
        by_cases c2 : q.den ≤ 1000000000
        · rw [dec_true (show (1 : Int) ≤ (q.den : Int) ∧ (q.den : Int) ≤ 1000000000 by omega), dec_true c1, dec_true c2]; rfl
        · rw [dec_false (show ¬ ((1 : Int) ≤ (q.den : Int) ∧ (q.den : Int) ≤ 1000000000) by omega), dec_false c2, Bool.and_false]; rfl
      · rw [dec_false (show ¬ ((-1000000000 : Int) ≤ q.num ∧ q.num ≤ 1000000000) by omega), cond_false, Option.bind_some, Option.bind_some, Option.bind_some, dec_false c1, Bool.false_and]; rfl
    · have c2 : ¬ q.den ≤ 1000000000 := fun e => h2 (hbig _ e)
      rw [if_pos h1, if_neg h2, dec_false c2, Bool.and_false]; rfl
  · have c1 : ¬ q.num.natAbs ≤ 1000000000 := fun e => h1 (hbig _ e)
    rw [if_neg h1, dec_false c1, Bool.false_and]; rfl
theorem tsize_ok {n : Int} (h1 : -9223372036854775808 ≤ n) (h2 : n < 9223372036854775808) : trace_size n = some ((n.natAbs : Nat) : Int) := by
  unfold trace_size
  by_cases h : n < 0
  · rw [dec_true h, cond_true]
    simp only [Option.some.injEq]
    rw [wu64_eq, wu64_eq]; omega
  · rw [dec_false h, cond_false, wu64_eq]
    congr 1
    omega
theorem naturalOf_ok {n : Nat} (h : n < 18446744073709551616) : trace_naturalOf (n : Int) = some (nd n) := by
  unfold trace_naturalOf
  have e : [wu32 (n : Int), wu32 (ishr .u64 (n : Int) 32)] = dgs W32 2 n := by
    rw [dgs_succ, dgs_succ, dgs_zero, ishr32, wu32_eq, wu32_eq]
    simp only [List.nil_append, List.singleton_append, Nat.pow_zero, Nat.div_one, Nat.pow_one]
    rw [show W32 = 4294967296 from rfl]
    congr 1
  rw [chk_true (by rfl), e, trim_ok (by decide) (by
    have : (W32 : Nat) ^ 2 = 18446744073709551616 := by decide
    rw [this]; exact h), Option.bind_some]
theorem nw64 {n : Nat} (h : n < 18446744073709551616) : nw n ≤ 2 := nw_of_lt (by
  have : (W32 : Nat) ^ 2 = 18446744073709551616 := by decide
  rw [this]; exact h)
theorem nw32 {n : Nat} (h : n < 4294967296) : nw n ≤ 1 := nw_of_lt (by
  have : (W32 : Nat) ^ 1 = 4294967296 := by decide
  rw [this]; exact h)
theorem whole_ok {n : Int} (h1 : -9223372036854775808 ≤ n) (h2 : n < 9223372036854775808) : trace_whole n = some (ratioQ (n : Rat)) := by
  unfold trace_whole
  rw [tsize_ok h1 h2, Option.bind_some, naturalOf_ok (by omega), Option.bind_some]
  unfold ratioQ
  rw [Rat.num_intCast, Rat.den_intCast, nd_one]
theorem fit_whole {n : Int} (h1 : -4294967296 < n) (h2 : n < 4294967296) : Fit 1 (n : Rat) := by
  unfold Fit
  rw [Rat.num_intCast, Rat.den_intCast]
  exact ⟨nw32 (by omega), nw32 (by decide)⟩
theorem quotient_ok {n d : Int} (hd : 0 < d) (h1 : -4294967296 < n) (h2 : n < 4294967296) (h3 : d < 4294967296) : trace_quotient n d = some (ratioQ ((n : Rat) / (d : Rat))) ∧ Fit 1 ((n : Rat) / (d : Rat)) := by
  have e : ((n : Rat) / (d : Rat)) = mkRat n d.natAbs := by
    rw [Rat.mkRat_eq_div]
    congr 2
    omega
  rw [e]
  constructor
  · unfold trace_quotient
    rw [tsize_ok (by omega) (by omega), Option.bind_some, naturalOf_ok (by omega), Option.bind_some, tsize_ok (by omega) (by omega), Option.bind_some, naturalOf_ok (by omega), Option.bind_some]
    rw [ratioOf_ok (by omega) (Nat.le_trans (nw64 (by omega)) (by decide)) (Nat.le_trans (nw64 (by omega)) (by decide)), Option.bind_some]
    congr 3
    by_cases h : n < 0
    · rw [dec_true h, if_pos rfl]; omega
    · rw [dec_false h, if_neg (by decide)]; omega
  · exact fit_mk (by omega) (nw32 (by omega)) (nw32 (by omega))
theorem digit0_ok {n : Nat} (h : n < 4294967296) : trace_natural_digit (nd n) 0 = some (n : Int) := by
  have := digit_ok n 0
  rw [Nat.pow_zero, Nat.div_one, Nat.mod_eq_of_lt (show n < W32 from h)] at this
  exact this
theorem frac_ok {q : Rat} {N : Nat} (h : Fit N q) (hN : N ≤ 1073741000) : trace_ratio_frac (ratioQ q) = some (fracQ q) := by
  unfold trace_ratio_frac
  have hb := naturalOf_ok (n := 1000000000) (by decide)
  rw [show ((1000000000 : Nat) : Int) = 1000000000 from rfl] at hb
  rw [hb, Option.bind_some]
  unfold ratioQ
  simp only
  have hm : nw 1000000000 ≤ 1 := nw32 (by decide)
  obtain ⟨c, hc, _, _, hc3⟩ := cmp_ok (a := q.num.natAbs) (b := 1000000000) (Nat.le_trans h.1 (by omega)) (by omega)
  obtain ⟨c', hc', _, _, hc3'⟩ := cmp_ok (a := q.den) (b := 1000000000) (Nat.le_trans h.2 (by omega)) (by omega)
  rw [hc, Option.bind_some]
  unfold fracQ smallQ
  by_cases c1 : q.num.natAbs ≤ 1000000000
  · rw [dec_false (show ¬ c > 0 by omega), cond_false, hc', Option.bind_some, Option.bind_some]
    by_cases c2 : q.den ≤ 1000000000
    · rw [dec_false (show ¬ c' > 0 by omega), cond_false, digit0_ok (by omega), Option.bind_some, digit0_ok (by omega), dec_true c1, dec_true c2]
      have w1 : wi64 (q.num.natAbs : Int) = (q.num.natAbs : Int) := wi64_id (by omega) (by omega)
      have w2 : wi64 (q.den : Int) = (q.den : Int) := wi64_id (by omega) (by omega)
      by_cases hn : q.num < 0
      · rw [dec_true hn, cond_true, Option.bind_some, Option.bind_some, w1, w2, wi64_id (by omega) (by omega), show (0 : Int) - (q.num.natAbs : Int) = q.num by omega]
        rfl
      · rw [dec_false hn, cond_false, Option.bind_some, Option.bind_some, w1, w2, show (q.num.natAbs : Int) = q.num by omega]
        rfl
    · rw [dec_true (show c' > 0 by omega), cond_true, dec_false c2, Bool.and_false]; rfl
  · rw [dec_true (show c > 0 by omega), cond_true, dec_false c1, Bool.false_and]; rfl
theorem unless_ok (b : Bool) (e : Int) : trace_unless b e = some (if b then 0 else e) := by
  unfold trace_unless; cases b <;> rfl
theorem small_ok {q : Rat} {N : Nat} (h : Fit N q) (hN : N ≤ 1073741000) : trace_small (ratioQ q) = some ((fracQ q).1, if (fracQ q).2 then 0 else 8) := by
  unfold trace_small
  rw [frac_ok h hN, Option.bind_some, unless_ok, Option.bind_some]
theorem fracQ_small {q : Rat} : (fracQ q).2 = smallQ q := by unfold fracQ; split <;> simp_all
theorem fit_small {q : Rat} (h : smallQ q = true) : Fit 1 q ∧ FitT 2 q := by
  unfold smallQ at h
  simp only [Bool.and_eq_true, decide_eq_true_eq] at h
  have hbig : ∀ n, n ≤ 1000000000 → tw n ≤ 2 := fun n hn => tw_of_lt (by
    have : (T9 : Nat) ^ 2 = 1000000000000000000 := by decide
    rw [this]; omega)
  exact ⟨⟨nw32 (by omega), nw32 (by omega)⟩, hbig _ h.1, hbig _ h.2⟩
end Go.Lift
namespace Go.Lift
open Go
theorem loopM_list {X S R : Type} {f : S → Option (S ⊕ R)} (I : List X → S → Prop) (Q : R → Prop)
    (hstep : ∀ x l s, I (x :: l) s → (∃ s', f s = some (.inl s') ∧ I l s') ∨ ∃ r, f s = some (.inr r) ∧ Q r)
    (hend : ∀ s, I [] s → ∃ r, f s = some (.inr r) ∧ Q r) : ∀ {l : List X} {s : S}, I l s → ∃ r, loopM f s = some r ∧ Q r
  | [], s, h => by
    obtain ⟨r, h1, h2⟩ := hend s h
    exact ⟨r, loopM_done h1, h2⟩
  | x :: l, s, h => by
    rcases hstep x l s h with ⟨s', h1, h2⟩ | ⟨r, h1, h2⟩
    · rw [loopM_next h1]
      exact loopM_list I Q hstep hend h2
    · exact ⟨r, loopM_done h1, h2⟩
theorem loopM_list_eq {X S R : Type} {f : S → Option (S ⊕ R)} {t : R} (I : List X → S → Prop)
    (hstep : ∀ x l s, I (x :: l) s → (∃ s', f s = some (.inl s') ∧ I l s') ∨ f s = some (.inr t))
    (hend : ∀ s, I [] s → f s = some (.inr t)) {l : List X} {s : S} (h : I l s) : loopM f s = some t := by
  obtain ⟨r, h1, h2⟩ := loopM_list I (fun r => r = t) (fun x l s hi => by
    rcases hstep x l s hi with h | h
    · exact Or.inl h
    · exact Or.inr ⟨t, h, rfl⟩) (fun s hi => ⟨t, hend s hi, rfl⟩) h
  rw [h1, h2]
theorem lget_mid {A : Type} {d x : A} {pre post : List A} : lget d (pre ++ x :: post) (pre.length : Int) = x := by
  unfold lget
  rw [Int.toNat_natCast]
  simp
theorem lget_map {A B : Type} {f : A → B} {d : B} {x : A} {pre post : List A} : lget d ((pre ++ x :: post).map f) (pre.length : Int) = f x := by
  unfold lget
  rw [Int.toNat_natCast]
  simp
def firstE : List Int → Int
  | [] => 0
  | x :: l => if x = 0 then firstE l else x
theorem first_ok {l : List Int} (hl : l.length ≤ 1000) : trace_first l = some (firstE l) := by
  unfold trace_first
  refine Option.bind_eq_some_iff.2 ⟨(if firstE l = 0 then .inl () else .inr (firstE l)), ?_, by
    by_cases h : firstE l = 0
    · rw [if_pos h, h]
    · rw [if_neg h]⟩
  refine loopM_list_eq (X := Int) (l := l) (fun l' s => ∃ pre, l = pre ++ l' ∧ s = (pre.length : Int) ∧ firstE l = firstE l') ?_ ?_ ⟨[], rfl, rfl, rfl⟩
  · rintro x l' s ⟨pre, e1, rfl, e2⟩
    have hL : l.length = pre.length + (l'.length + 1) := by rw [e1, List.length_append, List.length_cons]
    have g1 : ∀ d, lget d l (pre.length : Int) = x := fun d => by rw [e1]; exact lget_mid
    rw [dec_true (show (pre.length : Int) < (l.length : Int) by omega), cond_true, chk_true (and_true' (dec_true (by omega)) rfl), g1]
    by_cases h : x = 0
    · left
      have : firstE (x :: l') = firstE l' := if_pos h
      rw [this] at e2
      rw [h, show ((0 : Int) != 0) = false from rfl, cond_false, wi64_id (by omega) (by omega)]
      exact ⟨_, rfl, pre ++ [x], by rw [e1]; simp, by rw [List.length_append, List.length_singleton]; rfl, e2⟩
    · right
      have : firstE (x :: l') = x := if_neg h
      rw [e2, this, if_neg h, show (x != 0) = true by simpa using h, cond_true]
      rfl
  · rintro s ⟨pre, e1, rfl, e2⟩
    have hL : l.length = pre.length := by rw [e1, List.append_nil]
    rw [dec_false (show ¬ (pre.length : Int) < (l.length : Int) by omega), cond_false, e2]
    rfl
theorem fracQ_none {q : Rat} (h : (fracQ q).2 = false) : (fracQ q).1 = (0, 0) := by
  unfold fracQ at h ⊢
  split
  · rename_i h1
    rw [if_pos h1] at h
    cases h
  · rfl
end Go.Lift
