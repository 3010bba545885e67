/-
  Natural numbers and fractions as lists of digits.
-/
import Derived.Test.YteobfadhflofpaaGreatDoorFunF
set_option linter.unusedSectionVars false
set_option linter.unusedVariables false
set_option linter.unusedSimpArgs false
namespace Go.Lift
open Go
theorem loopN_more {S R : Type} {f : S → Option (S ⊕ R)} : ∀ {n m : Nat} {s : S} {r : R}, loopN f n s = some r → n ≤ m → loopN f m s = some r
 | 0, _, _, _, h, _ => by simp [loopN] at h
 | n + 1, 0, _, _, _, h => by omega
 | n + 1, m + 1, s, r, h, hm => by
  simp only [loopN] at h ⊢
  split at h
  ·exact loopN_more h (by omega)
  ·exact h
  ·cases h
theorem loopM_of {S R : Type} {f : S → Option (S ⊕ R)} {s : S} {r : R} {n : Nat} (h : loopN f n s = some r) : loopM f s = some r := by
 unfold loopM
 have hx : ∃ n r, loopN f n s = some r := ⟨n, r, h⟩
 rw [dif_pos hx]
 have h2 := Classical.choose_spec (Classical.choose_spec hx)
 have a := loopN_more h (Nat.le_max_left n (Classical.choose hx))
 have b := loopN_more h2 (Nat.le_max_right n (Classical.choose hx))
 rw [b] at a
 exact a
theorem loopM_iff {S R : Type} {f : S → Option (S ⊕ R)} {s : S} {r : R} : loopM f s = some r ↔ ∃ n, loopN f n s = some r := by
 constructor
 ·intro h
  unfold loopM at h
  split at h
  ·rename_i hx
   simp only [Option.some.injEq] at h
   subst h
   exact ⟨_, Classical.choose_spec (Classical.choose_spec hx)⟩
  ·cases h
 ·exact fun ⟨n, h⟩ => loopM_of h
theorem loopM_next {S R : Type} {f : S → Option (S ⊕ R)} {s s' : S} (h : f s = some (.inl s')) : loopM f s = loopM f s' := by
 have key : ∀ r, loopM f s = some r ↔ loopM f s' = some r := fun r => by
  rw [loopM_iff, loopM_iff]
  constructor
  ·rintro ⟨n, hn⟩
   cases n with
   | zero => simp [loopN] at hn
   | succ n => simp only [loopN, h] at hn; exact ⟨n, hn⟩
  ·rintro ⟨n, hn⟩
   exact ⟨n + 1, by simp only [loopN, h]; exact hn⟩
 cases h1 : loopM f s with
 | some r => exact ((key r).1 h1).symm
 | none =>
  cases h2 : loopM f s' with
  | some r => rw [(key r).2 h2] at h1; cases h1
  | none => rfl
theorem loopM_done {S R : Type} {f : S → Option (S ⊕ R)} {s : S} {r : R} (h : f s = some (.inr r)) : loopM f s = some r :=
 loopM_of (n := 1) (by simp only [loopN, h])
theorem loopM_count {S R : Type} {f : S → Option (S ⊕ R)} (g : Nat → S) (n : Nat) {r : R} (hstep : ∀ k, k < n → f (g k) = some (.inl (g (k + 1)))) (hend : f (g n) = some (.inr r)) : loopM f (g 0) = some r := by
 have key : ∀ k, k ≤ n → loopM f (g k) = some r := by
  intro k hk
  generalize hd : n - k = d
  induction d generalizing k with
  | zero =>
   have : k = n := by omega
   subst this
   exact loopM_done hend
  | succ d ih =>
   rw [loopM_next (hstep k (by omega))]
   exact ih (k + 1) (by omega) (by omega)
 exact key 0 (Nat.zero_le n)
theorem loopM_upto {S R : Type} {f : S → Option (S ⊕ R)} (g : Nat → S) (n : Nat) {s : S} {r : R} (h0 : s = g 0) (hstep : ∀ k, k < n → f (g k) = some (.inl (g (k + 1)))) (hend : f (g n) = some (.inr r)) : loopM f s = some r := by
 rw [h0]; exact loopM_count g n hstep hend
theorem loopM_inv {S R : Type} {f : S → Option (S ⊕ R)} (I : S → Prop) (μ : S → Nat) (Q : R → Prop)
  (hstep : ∀ s, I s → (∃ s', f s = some (.inl s') ∧ I s' ∧ μ s' < μ s) ∨ ∃ r, f s = some (.inr r) ∧ Q r) {s : S} (h : I s) : ∃ r, loopM f s = some r ∧ Q r := by
 generalize hd : μ s = d
 induction d using Nat.strongRecOn generalizing s with
 | _ d ih =>
  rcases hstep s h with ⟨s', h1, h2, h3⟩ | ⟨r, h1, h2⟩
  ·rw [loopM_next h1]
   exact ih (μ s') (by omega) h2 rfl
  ·exact ⟨r, loopM_done h1, h2⟩
theorem wrap_u (k : IntKind) (hk : k.signed = false) (x : Int) : k.wrap x = x % 2 ^ k.bits := by
 unfold IntKind.wrap
 simp [hk]
theorem wu64_eq (x : Int) : wu64 x = x % 18446744073709551616 := wrap_u .u64 rfl x
theorem wu32_eq (x : Int) : wu32 x = x % 4294967296 := wrap_u .u32 rfl x
theorem wu64_id {x : Int} (h0 : 0 ≤ x) (h1 : x < 18446744073709551616) : wu64 x = x := by rw [wu64_eq]; omega
theorem wi64_eq (x : Int) : wi64 x = if x % 18446744073709551616 ≥ 9223372036854775808 then x % 18446744073709551616 - 18446744073709551616 else x % 18446744073709551616 := by
 unfold wi64 IntKind.wrap
 have h1 : IntKind.i64.signed = true := rfl
 have h2 : IntKind.i64.bits = 64 := rfl
 have e1 : (2 : Int) ^ 64 = 18446744073709551616 := by decide
 have e2 : (2 : Int) ^ (64 - 1) = 9223372036854775808 := by decide
 simp only [h1, h2, Bool.true_and, e1, e2, decide_eq_true_eq]
theorem wi64_id {x : Int} (h0 : -9223372036854775808 ≤ x) (h1 : x < 9223372036854775808) : wi64 x = x := by
 rw [wi64_eq]; split <;> omega
theorem ishr32 (x : Int) : ishr .u64 x 32 = x / 4294967296 := by
 unfold ishr
 have : min (Int.toNat 32) IntKind.u64.bits = 32 := rfl
 rw [this, Int.fdiv_eq_ediv_of_nonneg _ (by decide)]
 rfl
theorem ishr63 (x : Int) : ishr .u64 x 63 = x / 9223372036854775808 := by
 unfold ishr
 have : min (Int.toNat 63) IntKind.u64.bits = 63 := rfl
 rw [this, Int.fdiv_eq_ediv_of_nonneg _ (by decide)]
 rfl
theorem app_ok {α : Type} {l m : List α} (h : l.length + m.length ≤ 4294967296) : app l m = some (l ++ m) := by unfold app; rw [if_pos h]
theorem chk_true {A : Type} {c : Bool} {k : Option A} (h : c = true) : chk c k = k := by subst h; rfl
end Go.Lift
namespace Go.Lift
open Go
def dgs (B k n : Nat) : List Int := (List.range k).map fun i => ((n / B ^ i % B : Nat) : Int)
theorem dgs_len (B k n : Nat) : (dgs B k n).length = k := by simp [dgs]
theorem dgs_zero (B n : Nat) : dgs B 0 n = [] := rfl
theorem dgs_succ (B k n : Nat) : dgs B (k + 1) n = dgs B k n ++ [((n / B ^ k % B : Nat) : Int)] := by
 simp [dgs, List.range_succ]
theorem dgs_get {B k n i : Nat} (h : i < k) : (dgs B k n)[i]? = some ((n / B ^ i % B : Nat) : Int) := by
 simp [dgs, h]
theorem lget_dgs {B k n i : Nat} (h : i < k) : lget 0 (dgs B k n) (i : Int) = ((n / B ^ i % B : Nat) : Int) := by
 unfold lget
 rw [Int.toNat_natCast, List.getD_eq_getElem?_getD, dgs_get h]; rfl
theorem pow_split (B k i : Nat) (h : i ≤ k) : B ^ k = B ^ i * B ^ (k - i) := by rw [← Nat.pow_add]; congr 1; omega
theorem mod_digit {B k n i : Nat} (h : i < k) : n % B ^ k / B ^ i % B = n / B ^ i % B := by
 have e : B ^ k = B ^ i * (B * B ^ (k - i - 1)) := by
  rw [pow_split B k i (by omega)]
  congr 1
  rw [← Nat.pow_succ']
  congr 1; omega
 rw [e, Nat.mod_mul_right_div_self, Nat.mod_mul_right_mod]
def wd (B n : Nat) : Nat := if h : n = 0 ∨ B ≤ 1 then 0 else wd B (n / B) + 1
termination_by n
decreasing_by exact Nat.div_lt_self (by omega) (by omega)
theorem wd_zero (B : Nat) : wd B 0 = 0 := by rw [wd]; simp
theorem wd_pos {B n : Nat} (hB : 2 ≤ B) (h : n ≠ 0) : wd B n = wd B (n / B) + 1 := by rw [wd, dif_neg (by omega)]
theorem wd_lt {B : Nat} (hB : 2 ≤ B) (n : Nat) : n < B ^ wd B n := by
 induction n using Nat.strongRecOn with
 | _ n ih =>
  by_cases h : n = 0
  ·subst h; rw [wd_zero]; simp
  ·rw [wd_pos hB h, Nat.pow_succ]
   have := ih (n / B) (Nat.div_lt_self (by omega) (by omega))
   rw [← Nat.div_lt_iff_lt_mul (by omega)]
   exact this
theorem wd_le {B : Nat} (hB : 2 ≤ B) {n : Nat} (h : n ≠ 0) : B ^ (wd B n - 1) ≤ n := by
 induction n using Nat.strongRecOn with
 | _ n ih =>
  rw [wd_pos hB h]
  by_cases h2 : n / B = 0
  ·rw [h2, wd_zero]; simp; omega
  ·have := ih (n / B) (Nat.div_lt_self (by omega) (by omega)) h2
   have hp : 1 ≤ wd B (n / B) := by rw [wd_pos hB h2]; omega
   have e : wd B (n / B) + 1 - 1 = (wd B (n / B) - 1) + 1 := by omega
   rw [e, Nat.pow_succ]
   exact Nat.le_trans (Nat.mul_le_mul_right B this) (Nat.div_mul_le_self n B)
theorem wd_of_lt {B : Nat} (hB : 2 ≤ B) {n k : Nat} (h : n < B ^ k) : wd B n ≤ k := by
 by_cases h0 : n = 0
 ·subst h0; rw [wd_zero]; omega
 ·have := wd_le hB h0
  have h2 : B ^ (wd B n - 1) < B ^ k := Nat.lt_of_le_of_lt this h
  have := (Nat.pow_lt_pow_iff_right (by omega : 1 < B)).1 h2
  omega
theorem wd_mono {B : Nat} (hB : 2 ≤ B) {m n : Nat} (h : m ≤ n) : wd B m ≤ wd B n := wd_of_lt hB (Nat.lt_of_le_of_lt h (wd_lt hB n))
def dig (B n : Nat) : List Int := dgs B (wd B n) n
theorem dig_len (B n : Nat) : (dig B n).length = wd B n := dgs_len _ _ _
theorem dig_zero (B : Nat) : dig B 0 = [] := by unfold dig; rw [wd_zero]; rfl
theorem wd_eq_zero {B : Nat} (hB : 2 ≤ B) {n : Nat} : wd B n = 0 ↔ n = 0 := by
 constructor
 ·intro h
  have := wd_lt hB n
  rw [h] at this
  simp at this; exact this
 ·rintro rfl; exact wd_zero B
theorem digit_beyond {B : Nat} (hB : 2 ≤ B) {n i : Nat} (h : wd B n ≤ i) : n / B ^ i % B = 0 := by
 have : n < B ^ i := Nat.lt_of_lt_of_le (wd_lt hB n) (Nat.pow_le_pow_right (by omega) h)
 rw [Nat.div_eq_of_lt this]; simp
theorem digit_lt {B : Nat} (hB : 2 ≤ B) (n i : Nat) : n / B ^ i % B < B := Nat.mod_lt _ (by omega)
theorem dig_of_dgs {B : Nat} (hB : 2 ≤ B) {k n : Nat} (h : n < B ^ k) : (n / B ^ (k - 1) % B ≠ 0 → dgs B k n = dig B n) ∧ (k ≠ 0 → n / B ^ (k - 1) % B = 0 → n < B ^ (k - 1)) := by
 constructor
 ·intro hd
  have hk : k ≤ wd B n := by
   rcases Nat.lt_or_ge (wd B n) k with hlt | hge
   ·exfalso
    exact hd (digit_beyond hB (by omega))
   ·exact hge
  have := wd_of_lt hB h
  unfold dig
  rw [show wd B n = k by omega]
 ·intro hk hd
  have e : B ^ k = B ^ (k - 1) * B := by rw [← Nat.pow_succ]; congr 1; omega
  have h1 : n / B ^ (k - 1) < B := by
   rw [Nat.div_lt_iff_lt_mul (Nat.pow_pos (by omega))]
   rw [Nat.mul_comm]; rw [← e]; exact h
  rw [Nat.mod_eq_of_lt h1] at hd
  rcases Nat.div_eq_zero_iff.1 hd with h | h
  ·have : 0 < B ^ (k - 1) := Nat.pow_pos (by omega)
   omega
  ·exact h
theorem mod_succ (B n k : Nat) : n % B ^ (k + 1) = n % B ^ k + B ^ k * (n / B ^ k % B) := by
 rw [Nat.pow_succ, Nat.mod_mul]
end Go.Lift
namespace Go.Lift
open Go
abbrev W32 : Nat := 4294967296
theorem hW : 2 ≤ W32 := by decide
abbrev nd (n : Nat) : List Int := dig W32 n
abbrev nw (n : Nat) : Nat := wd W32 n
theorem nd_len (n : Nat) : (nd n).length = nw n := dig_len _ _
theorem nw_lt (n : Nat) : n < W32 ^ nw n := wd_lt hW n
theorem nw_of_lt {n k : Nat} (h : n < W32 ^ k) : nw n ≤ k := wd_of_lt hW h
theorem nw_beyond {n i : Nat} (h : nw n ≤ i) : n / W32 ^ i % W32 = 0 := digit_beyond hW h
theorem nw_mono {m n : Nat} (h : m ≤ n) : nw m ≤ nw n := wd_mono hW h
theorem and_true' {a b : Bool} (ha : a = true) (hb : b = true) : (a && b) = true := by rw [ha, hb]; rfl
theorem dec_true {p : Prop} [Decidable p] (h : p) : decide p = true := decide_eq_true h
theorem dec_false {p : Prop} [Decidable p] (h : ¬ p) : decide p = false := decide_eq_false h
theorem trim_ok {k n : Nat} (hk : k ≤ 1099511627776) (h : n < W32 ^ k) : trace_trimmed (dgs W32 k n) = some (nd n) := by
 unfold trace_trimmed
 refine Option.bind_eq_some_iff.2 ⟨nd n, ?_, rfl⟩
 induction k with
 | zero =>
  have : n = 0 := by simpa using h
  subst this
  refine loopM_done ?_
  rw [show dgs W32 0 0 = ([] : List Int) from rfl, show nd 0 = ([] : List Int) from dig_zero _]
  rfl
 | succ k ih =>
  have e1 : wi64 (((dgs W32 (k + 1) n).length : Int) - 1) = (k : Int) := by rw [dgs_len, wi64_id] <;> omega
  have e2 : decide (((dgs W32 (k + 1) n).length : Int) > 0) = true := dec_true (by rw [dgs_len]; omega)
  have c1 : (decide ((0 : Int) ≤ (k : Int)) && decide ((k : Int) < ((dgs W32 (k + 1) n).length : Int))) = true := and_true' (dec_true (by omega)) (dec_true (by rw [dgs_len]; omega))
  have c2 : (decide ((0 : Int) ≤ 0) && decide ((0 : Int) ≤ (k : Int)) && decide ((k : Int) ≤ ((dgs W32 (k + 1) n).length : Int))) = true := and_true' (and_true' rfl (dec_true (by omega))) (dec_true (by rw [dgs_len]; omega))
  have e3 : lget 0 (dgs W32 (k + 1) n) (k : Int) = ((n / W32 ^ k % W32 : Nat) : Int) := lget_dgs (by omega)
  have e4 : List.drop (Int.toNat 0) (List.take (Int.toNat (k : Int)) (dgs W32 (k + 1) n)) = dgs W32 k n := by
   rw [dgs_succ, Int.toNat_natCast]
   simp [dgs_len]
  obtain ⟨d1, d2⟩ := dig_of_dgs hW h
  simp only [Nat.add_sub_cancel] at d1 d2
  by_cases hd : n / W32 ^ k % W32 = 0
  ·rw [loopM_next (s' := dgs W32 k n)]
   ·exact ih (by omega) (d2 (by omega) hd)
   ·simp only [e1, e2, cond_true, chk_true c1, chk_true c2, e3, hd, e4]
    rfl
  ·refine loopM_done ?_
   have hne : (((n / W32 ^ k % W32 : Nat) : Int) == 0) = false := by
    rw [beq_eq_false_iff_ne]; omega
   simp only [e1, e2, cond_true, chk_true c1, e3, hne, Option.bind_some, cond_false]
   rw [d1 hd]
theorem digit_ok (n i : Nat) : trace_natural_digit (nd n) (i : Int) = some ((n / W32 ^ i % W32 : Nat) : Int) := by
 unfold trace_natural_digit
 have hl : ((nd n).length : Int) = (nw n : Int) := by rw [nd_len]
 by_cases h : i < nw n
 ·have c : (decide ((0 : Int) ≤ (i : Int)) && decide ((i : Int) < ((nd n).length : Int))) = true := and_true' (dec_true (by omega)) (dec_true (by omega))
  rw [chk_true c, dec_true (show (i : Int) < ((nd n).length : Int) by omega), cond_true]
  have e : lget 0 (nd n) (i : Int) = ((n / W32 ^ i % W32 : Nat) : Int) := lget_dgs h
  rw [e, wu64_id]
  ·omega
  ·have := digit_lt hW n i
   have : (n / W32 ^ i % W32 : Nat) < 4294967296 := this
   omega
 ·rw [dec_false (show ¬ (i : Int) < ((nd n).length : Int) by omega), cond_false, nw_beyond (by omega)]
  rfl
def carryS (a b k : Nat) : Nat := (a % W32 ^ k + b % W32 ^ k) / W32 ^ k
theorem carry_step (a b k : Nat) : carryS a b k + (a / W32 ^ k % W32 + b / W32 ^ k % W32) = carryS a b (k + 1) * W32 + (a + b) / W32 ^ k % W32 ∧ carryS a b k ≤ 1 := by
 have hp : 0 < W32 ^ k := Nat.pow_pos (by decide)
 have ha := mod_succ W32 a k
 have hb := mod_succ W32 b k
 have hA := Nat.mod_lt a hp
 have hB := Nat.mod_lt b hp
 have e1 : (a + b) / W32 ^ k % W32 = (carryS a b k + (a / W32 ^ k % W32 + b / W32 ^ k % W32)) % W32 := by
  unfold carryS
  have : a + b = (a % W32 ^ k + b % W32 ^ k) + W32 ^ k * (a / W32 ^ k + b / W32 ^ k) := by
   have h1 := Nat.mod_add_div a (W32 ^ k)
   have h2 := Nat.mod_add_div b (W32 ^ k)
   rw [Nat.mul_add]; omega
  rw [this, Nat.add_mul_div_left _ _ hp]
  simp only [Nat.add_mod, Nat.mod_mod]
 have e2 : carryS a b (k + 1) = (carryS a b k + (a / W32 ^ k % W32 + b / W32 ^ k % W32)) / W32 := by
  unfold carryS
  rw [ha, hb, Nat.pow_succ, ← Nat.div_div_eq_div_mul]
  congr 1
  rw [show a % W32 ^ k + W32 ^ k * (a / W32 ^ k % W32) + (b % W32 ^ k + W32 ^ k * (b / W32 ^ k % W32)) = (a % W32 ^ k + b % W32 ^ k) + W32 ^ k * (a / W32 ^ k % W32 + b / W32 ^ k % W32) by rw [Nat.mul_add]; omega]
  rw [Nat.add_mul_div_left _ _ hp]
 constructor
 ·rw [e1, e2]
  have := Nat.mod_add_div (carryS a b k + (a / W32 ^ k % W32 + b / W32 ^ k % W32)) W32
  rw [Nat.mul_comm W32] at this
  omega
 ·unfold carryS
  rw [← Nat.lt_succ_iff, Nat.div_lt_iff_lt_mul hp]
  omega
theorem imax_nat (a b : Nat) : imax (a : Int) (b : Int) = ((max a b : Nat) : Int) := by
 unfold imax
 split <;> omega
theorem plus_ok {a b : Nat} (ha : nw a ≤ 1073741824) (hb : nw b ≤ 1073741824) : trace_natural_plus (nd a) (nd b) = some (nd (a + b)) := by
 unfold trace_natural_plus
 have hm : wi64 (imax ((nd a).length : Int) ((nd b).length : Int) + 1) = ((max (nw a) (nw b) + 1 : Nat) : Int) := by
  rw [nd_len, nd_len, imax_nat, wi64_id] <;> omega
 generalize hmx : max (nw a) (nw b) + 1 = m at hm
 have hlt : a + b < W32 ^ m := by
  have h1 : a < W32 ^ (m - 1) := Nat.lt_of_lt_of_le (nw_lt a) (Nat.pow_le_pow_right (by decide) (by omega))
  have h2 : b < W32 ^ (m - 1) := Nat.lt_of_lt_of_le (nw_lt b) (Nat.pow_le_pow_right (by decide) (by omega))
  have e : W32 ^ m = W32 ^ (m - 1) * W32 := by rw [← Nat.pow_succ]; congr 1; omega
  rw [e]
  have : W32 ^ (m - 1) * 2 ≤ W32 ^ (m - 1) * W32 := Nat.mul_le_mul_left _ (by decide)
  omega
 refine Option.bind_eq_some_iff.2 ⟨dgs W32 m (a + b), ?_, ?_⟩
 ·refine loopM_upto (fun k => ((dgs W32 k (a + b), (carryS a b k : Int), (k : Int)) : List Int × Int × Int)) m (by simp [carryS, dgs_zero, Nat.mod_one]) (fun k hk => ?_) ?_
  ·obtain ⟨s1, s2⟩ := carry_step a b k
   have d1 : (a / W32 ^ k % W32 : Nat) < 4294967296 := digit_lt hW a k
   have d2 : (b / W32 ^ k % W32 : Nat) < 4294967296 := digit_lt hW b k
   have d3 : ((a + b) / W32 ^ k % W32 : Nat) < 4294967296 := digit_lt hW (a + b) k
   simp only [hm]
   rw [dec_true (show (k : Int) < (m : Int) by omega), cond_true, digit_ok, digit_ok]
   simp only [Option.bind_some]
   have c0 : wu64 ((carryS a b k : Int) + wu64 (((a / W32 ^ k % W32 : Nat) : Int) + ((b / W32 ^ k % W32 : Nat) : Int))) = ((carryS a b (k + 1) * 4294967296 + (a + b) / W32 ^ k % W32 : Nat) : Int) := by
    rw [wu64_id (x := ((a / W32 ^ k % W32 : Nat) : Int) + _) (by omega) (by omega), wu64_id (by omega) (by omega)]
    have : carryS a b k + (a / W32 ^ k % W32 + b / W32 ^ k % W32) = carryS a b (k + 1) * 4294967296 + (a + b) / W32 ^ k % W32 := s1
    omega
   rw [c0, app_ok (by rw [dgs_len]; simp only [List.length_singleton]; omega)]
   simp only [Option.bind_some]
   rw [chk_true (by rfl), ishr32, wu32_eq, wi64_id (by omega) (by omega), dgs_succ]
   congr 5
   ·omega
   ·omega
  ·simp only [hm]
   rw [dec_false (by omega), cond_false]
 ·rw [trim_ok (by omega) hlt]; rfl
end Go.Lift
namespace Go.Lift
open Go
theorem pow_pos32 (k : Nat) : 0 < W32 ^ k := Nat.pow_pos (by decide)
theorem dlt (n i : Nat) : n / W32 ^ i % W32 < 4294967296 := digit_lt hW n i
theorem cmp_ok {a b : Nat} (ha : nw a ≤ 1073741824) (hb : nw b ≤ 1073741824) : ∃ c, trace_natural_cmp (nd a) (nd b) = some c ∧ (c < 0 ↔ a < b) ∧ (c = 0 ↔ a = b) ∧ (c > 0 ↔ b < a) := by
 unfold trace_natural_cmp
 have l1 : ((nd a).length : Int) = (nw a : Int) := by rw [nd_len]
 have l2 : ((nd b).length : Int) = (nw b : Int) := by rw [nd_len]
 by_cases hl : nw a = nw b
 ·have e : (((nd a).length : Int) != ((nd b).length : Int)) = false := by rw [l1, l2, hl]; simp
  rw [e, cond_false]
  have fin : ∀ r : Unit ⊕ Int, (match r with | .inl _ => a = b | .inr c => c ≠ 0 ∧ (c < 0 ↔ a < b) ∧ a ≠ b ∧ (c > 0 ↔ b < a)) →
    ∃ c, (match r with | .inl _ => some 0 | .inr r => some r) = some c ∧ (c < 0 ↔ a < b) ∧ (c = 0 ↔ a = b) ∧ (c > 0 ↔ b < a) := fun r hr => by
   cases r with
   | inl u => exact ⟨0, rfl, by have : a = b := hr; omega, by have : a = b := hr; simp [this], by have : a = b := hr; omega⟩
   | inr c =>
    obtain ⟨h1, h2, h3, h4⟩ := hr
    exact ⟨c, rfl, h2, ⟨fun h => absurd h h1, fun h => absurd h h3⟩, h4⟩
  obtain ⟨r, hr, hq⟩ := loopM_inv (S := Int) (R := (Unit) ⊕ (Int)) (f := (fun i_1 =>
   bif decide (i_1 ≥ 0) then
    chk (decide ((0 : Int) ≤ i_1) && decide (i_1 < (List.length (nd a) : Int))) (
     chk (decide ((0 : Int) ≤ i_1) && decide (i_1 < (List.length (nd b) : Int))) (
      bif ((lget 0 (nd a) i_1) != (lget 0 (nd b) i_1)) then
       chk (decide ((0 : Int) ≤ i_1) && decide (i_1 < (List.length (nd a) : Int))) (
        chk (decide ((0 : Int) ≤ i_1) && decide (i_1 < (List.length (nd b) : Int))) (
         let t_1 : Int := wi64 ((wi64 (lget 0 (nd a) i_1)) - (wi64 (lget 0 (nd b) i_1)))
         Option.map Sum.inr (Option.map Sum.inr (
          some t_1))))
      else
       some (.inl (wi64 (i_1 - 1)))))
   else
    some (.inr (.inl ()))))
   (fun s => ∃ j : Nat, s = (j : Int) - 1 ∧ j ≤ nw a ∧ a / W32 ^ j = b / W32 ^ j) (fun s => (s + 1).toNat)
   (fun r => match r with | .inl _ => a = b | .inr c => c ≠ 0 ∧ (c < 0 ↔ a < b) ∧ a ≠ b ∧ (c > 0 ↔ b < a))
   (s := wi64 (((nd a).length : Int) - 1)) (fun s hs => by
    obtain ⟨j, rfl, hj, he⟩ := hs
    cases j with
    | zero =>
     right
     refine ⟨.inl (), by rw [dec_false (by omega), cond_false], ?_⟩
     simpa using he
    | succ j =>
     have c1 : (decide ((0 : Int) ≤ ((j + 1 : Nat) : Int) - 1) && decide (((j + 1 : Nat) : Int) - 1 < ((nd a).length : Int))) = true := and_true' (dec_true (by omega)) (dec_true (by omega))
     have c2 : (decide ((0 : Int) ≤ ((j + 1 : Nat) : Int) - 1) && decide (((j + 1 : Nat) : Int) - 1 < ((nd b).length : Int))) = true := and_true' (dec_true (by omega)) (dec_true (by omega))
     have ej : ((j + 1 : Nat) : Int) - 1 = (j : Int) := by omega
     have g1 : lget 0 (nd a) (j : Int) = ((a / W32 ^ j % W32 : Nat) : Int) := lget_dgs (show j < nw a by omega)
     have g2 : lget 0 (nd b) (j : Int) = ((b / W32 ^ j % W32 : Nat) : Int) := lget_dgs (show j < nw b by omega)
     have da := dlt a j
     have db := dlt b j
     have qa : a / W32 ^ (j + 1) = a / W32 ^ j / W32 := by rw [Nat.pow_succ, Nat.div_div_eq_div_mul]
     have qb : b / W32 ^ (j + 1) = b / W32 ^ j / W32 := by rw [Nat.pow_succ, Nat.div_div_eq_div_mul]
     rw [qa, qb] at he
     rw [chk_true c1, chk_true c2, chk_true c1, chk_true c2, dec_true (show ((j + 1 : Nat) : Int) - 1 ≥ 0 by omega), cond_true]
     rw [ej, g1, g2]
     have hle1 : a ≤ b → a / W32 ^ j ≤ b / W32 ^ j := fun h => Nat.div_le_div_right h
     have hle2 : b ≤ a → b / W32 ^ j ≤ a / W32 ^ j := fun h => Nat.div_le_div_right h
     clear g1 g2 qa qb c1 c2
     obtain ⟨X, hX⟩ : ∃ X, a / W32 ^ j = X := ⟨_, rfl⟩
     obtain ⟨Y, hY⟩ : ∃ Y, b / W32 ^ j = Y := ⟨_, rfl⟩
     rw [hX, hY] at he hle1 hle2
     rw [hX] at da
     rw [hY] at db
     simp only [hX, hY]
     have he : X / 4294967296 = Y / 4294967296 := he
     have da : X % 4294967296 < 4294967296 := da
     have db : Y % 4294967296 < 4294967296 := db
     by_cases hd : X % 4294967296 = Y % 4294967296
     ·left
      refine ⟨(j : Int) - 1, ?_, ⟨j, rfl, by omega, by rw [hX, hY]; omega⟩, by omega⟩
      rw [show W32 = 4294967296 from rfl, hd, show ((((Y % 4294967296 : Nat) : Int)) != ((Y % 4294967296 : Nat) : Int)) = false by simp, cond_false, wi64_id (by omega) (by omega)]
     ·right
      refine ⟨.inr (((X % 4294967296 : Nat) : Int) - ((Y % 4294967296 : Nat) : Int)), ?_, ?_⟩
      ·rw [show W32 = 4294967296 from rfl, show ((((X % 4294967296 : Nat) : Int)) != ((Y % 4294967296 : Nat) : Int)) = true by rw [bne_iff_ne]; omega, cond_true, wi64_id (x := ((X % 4294967296 : Nat) : Int)) (by omega) (by omega), wi64_id (x := ((Y % 4294967296 : Nat) : Int)) (by omega) (by omega), wi64_id (by omega) (by omega)]
       rfl
      ·refine ⟨by omega, by omega, by omega, by omega⟩) ⟨nw a, by rw [l1, wi64_id] <;> omega, Nat.le_refl _, by rw [Nat.div_eq_of_lt (nw_lt a), Nat.div_eq_of_lt (by rw [hl]; exact nw_lt b)]⟩
  simp only at hr ⊢
  rw [hr]
  cases r with
  | inl u => exact fin (.inl u) hq
  | inr c => exact fin (.inr c) hq
 ·have e : (((nd a).length : Int) != ((nd b).length : Int)) = true := by rw [l1, l2]; simp; omega
  rw [e, cond_true, l1, l2, wi64_id (by omega) (by omega)]
  have h1 : b ≤ a → nw b ≤ nw a := nw_mono
  have h2 : a ≤ b → nw a ≤ nw b := nw_mono
  exact ⟨_, rfl, by omega, by omega, by omega⟩
def borr (a b k : Nat) : Nat := if a % W32 ^ k < b % W32 ^ k then 1 else 0
theorem borr_step {a b : Nat} (h : b ≤ a) (k : Nat) : a / W32 ^ k % W32 + 4294967296 * borr a b (k + 1) = b / W32 ^ k % W32 + borr a b k + (a - b) / W32 ^ k % W32 ∧ borr a b k ≤ 1 ∧ borr a b (k + 1) ≤ 1 := by
 have hp := pow_pos32 k
 have hA := Nat.mod_lt a hp
 have hB := Nat.mod_lt b hp
 have ea := Nat.div_add_mod a (W32 ^ k)
 have eb := Nat.div_add_mod b (W32 ^ k)
 have hbk : borr a b k ≤ 1 := by unfold borr; split <;> omega
 have hbk1 : borr a b (k + 1) ≤ 1 := by unfold borr; split <;> omega
 have key : ∃ R, R < W32 ^ k ∧ a - b = R + W32 ^ k * (a / W32 ^ k - b / W32 ^ k - borr a b k) ∧ b / W32 ^ k + borr a b k ≤ a / W32 ^ k := by
  have hq : b / W32 ^ k ≤ a / W32 ^ k := Nat.div_le_div_right h
  unfold borr
  split
  ·rename_i hlt
   have hq2 : b / W32 ^ k + 1 ≤ a / W32 ^ k := by
    rcases Nat.lt_or_ge (b / W32 ^ k) (a / W32 ^ k) with h1 | h1
    ·exact h1
    ·have : a / W32 ^ k = b / W32 ^ k := by omega
     rw [this] at ea; omega
   refine ⟨a % W32 ^ k + W32 ^ k - b % W32 ^ k, by omega, ?_, hq2⟩
   obtain ⟨D, hD⟩ : ∃ D, a / W32 ^ k = D + (b / W32 ^ k + 1) := ⟨a / W32 ^ k - (b / W32 ^ k + 1), by omega⟩
   rw [show a / W32 ^ k - b / W32 ^ k - 1 = D by omega]
   rw [hD, Nat.mul_add, Nat.mul_add, Nat.mul_one] at ea
   generalize W32 ^ k * D = p1 at *
   generalize W32 ^ k * (b / W32 ^ k) = p2 at *
   generalize a % W32 ^ k = A at *
   generalize b % W32 ^ k = B at *
   omega
  ·refine ⟨a % W32 ^ k - b % W32 ^ k, Nat.lt_of_le_of_lt (Nat.sub_le _ _) hA, ?_, hq⟩
   obtain ⟨D, hD⟩ : ∃ D, a / W32 ^ k = D + b / W32 ^ k := ⟨a / W32 ^ k - b / W32 ^ k, by omega⟩
   rw [show a / W32 ^ k - b / W32 ^ k - 0 = D by omega]
   rw [hD, Nat.mul_add] at ea
   generalize W32 ^ k * D = p1 at *
   generalize W32 ^ k * (b / W32 ^ k) = p2 at *
   generalize a % W32 ^ k = A at *
   generalize b % W32 ^ k = B at *
   omega
 obtain ⟨R, hR, e, hq⟩ := key
 have ed : (a - b) / W32 ^ k = a / W32 ^ k - b / W32 ^ k - borr a b k := by
  rw [e, Nat.add_mul_div_left _ _ hp, Nat.div_eq_of_lt hR, Nat.zero_add]
 have eb1 : borr a b (k + 1) = if a / W32 ^ k % W32 < b / W32 ^ k % W32 + borr a b k then 1 else 0 := by
  unfold borr
  rw [mod_succ, mod_succ]
  generalize a / W32 ^ k % W32 = x
  generalize b / W32 ^ k % W32 = y
  generalize a % W32 ^ k = A at *
  generalize b % W32 ^ k = B at *
  generalize W32 ^ k = p at *
  have hxy : x < y → p * x + p ≤ p * y := fun h => by
   have := Nat.mul_le_mul_left p (show x + 1 ≤ y from h)
   rw [Nat.mul_add, Nat.mul_one] at this
   exact this
  have hyx : y < x → p * y + p ≤ p * x := fun h => by
   have := Nat.mul_le_mul_left p (show y + 1 ≤ x from h)
   rw [Nat.mul_add, Nat.mul_one] at this
   exact this
  rcases Nat.lt_trichotomy x y with hc | hc | hc
  ·have := hxy hc
   rw [if_pos (by omega), if_pos (by omega)]
  ·subst hc
   split <;> split <;> split <;> omega
  ·have := hyx hc
   rw [if_neg (by omega)]
   split <;> rw [if_neg (by omega)]
 refine ⟨?_, hbk, hbk1⟩
 rw [ed, eb1]
 clear e ea eb hR ed eb1 hbk1 hA hB hp
 generalize borr a b k = c at *
 generalize a / W32 ^ k = qa at *
 generalize b / W32 ^ k = qb at *
 rw [show W32 = 4294967296 from rfl]
 clear h
 split <;> omega
theorem minus_ok {a b : Nat} (h : b ≤ a) (ha : nw a ≤ 1073741824) : trace_natural_minus (nd a) (nd b) = some (nd (a - b)) := by
 unfold trace_natural_minus
 have l1 : ((nd a).length : Int) = (nw a : Int) := by rw [nd_len]
 refine Option.bind_eq_some_iff.2 ⟨dgs W32 (nw a) (a - b), ?_, ?_⟩
 ·refine loopM_upto (fun k => ((dgs W32 k (a - b), (borr a b k : Int), (k : Int)) : List Int × Int × Int)) (nw a) (by simp [borr, dgs_zero, Nat.mod_one]) (fun k hk => ?_) ?_
  ·obtain ⟨s1, s2, s3⟩ := borr_step h k
   have d1 := dlt a k
   have d2 := dlt b k
   have d3 := dlt (a - b) k
   simp only [l1]
   rw [dec_true (show (k : Int) < (nw a : Int) by omega), cond_true, digit_ok, digit_ok]
   simp only [Option.bind_some]
   generalize a / W32 ^ k % W32 = x at *
   generalize b / W32 ^ k % W32 = y at *
   have c0 : wu64 (wu64 ((x : Int) - (y : Int)) - (borr a b k : Int)) = ((a - b) / W32 ^ k % W32 : Nat) - 4294967296 * (borr a b (k + 1) : Int) + 18446744073709551616 * (borr a b (k + 1) : Int) := by
    rw [wu64_eq, wu64_eq]
    omega
   rw [c0, app_ok (by rw [dgs_len]; simp only [List.length_singleton]; omega)]
   simp only [Option.bind_some]
   rw [chk_true (by rfl), ishr63, wu32_eq, wi64_id (by omega) (by omega), dgs_succ]
   congr 5
   ·omega
   ·omega
  ·simp only [l1]
   rw [dec_false (by omega), cond_false]
 ·rw [trim_ok (by omega) (Nat.lt_of_le_of_lt (Nat.sub_le a b) (nw_lt a))]; rfl
def carryM (p c b k : Nat) : Nat := (p % W32 ^ k + c * (b % W32 ^ k)) / W32 ^ k
theorem carryM_zero (p c b : Nat) : carryM p c b 0 = 0 := by
 unfold carryM
 rw [Nat.pow_zero, Nat.mod_one, Nat.mod_one, Nat.mul_zero]
theorem carryM_step (p c b k : Nat) : carryM p c b k + p / W32 ^ k % W32 + c * (b / W32 ^ k % W32) = carryM p c b (k + 1) * 4294967296 + (p + c * b) / W32 ^ k % W32 := by
 have hp := pow_pos32 k
 have h1 := Nat.div_add_mod p (W32 ^ k)
 have h2 := Nat.div_add_mod b (W32 ^ k)
 have e1 : (p + c * b) / W32 ^ k % W32 = (carryM p c b k + p / W32 ^ k % W32 + c * (b / W32 ^ k % W32)) % W32 := by
  have e : p + c * b = (p % W32 ^ k + c * (b % W32 ^ k)) + W32 ^ k * (p / W32 ^ k + c * (b / W32 ^ k)) := by
   conv => lhs; rw [← h1, ← h2]
   rw [Nat.mul_add, Nat.mul_add, Nat.mul_left_comm c]
   omega
  have e3 : (p + c * b) / W32 ^ k = carryM p c b k + (p / W32 ^ k + c * (b / W32 ^ k)) := by
   rw [e, Nat.add_mul_div_left _ _ hp]; rfl
  rw [e3]
  rw [← Nat.add_assoc]
  simp only [Nat.add_mod, Nat.mul_mod, Nat.mod_mod]
 have e2 : carryM p c b (k + 1) = (carryM p c b k + p / W32 ^ k % W32 + c * (b / W32 ^ k % W32)) / W32 := by
  unfold carryM
  rw [mod_succ W32 p k, mod_succ W32 b k, Nat.pow_succ, ← Nat.div_div_eq_div_mul]
  congr 1
  rw [show p % W32 ^ k + W32 ^ k * (p / W32 ^ k % W32) + c * (b % W32 ^ k + W32 ^ k * (b / W32 ^ k % W32)) = (p % W32 ^ k + c * (b % W32 ^ k)) + W32 ^ k * (p / W32 ^ k % W32 + c * (b / W32 ^ k % W32)) by
   rw [Nat.mul_add, Nat.mul_add, Nat.mul_left_comm c]; omega]
  rw [Nat.add_mul_div_left _ _ hp, Nat.add_assoc]
 rw [e1, e2]
 have := Nat.mod_add_div (carryM p c b k + p / W32 ^ k % W32 + c * (b / W32 ^ k % W32)) W32
 have e : W32 = 4294967296 := rfl
 rw [e] at this ⊢
 omega
theorem carryM_lt {p c b k : Nat} (hc : c < 4294967296) : carryM p c b k < 4294967296 := by
 have hp := pow_pos32 k
 unfold carryM
 rw [Nat.div_lt_iff_lt_mul hp]
 have h1 := Nat.mod_lt p hp
 have h2 := Nat.mod_lt b hp
 have h3 : c * (b % W32 ^ k) ≤ 4294967295 * (W32 ^ k - 1) := Nat.mul_le_mul (by omega) (by omega)
 omega
theorem set_map {n m : Nat} {f : Nat → Int} {v : Int} : ((List.range n).map f).set m v = (List.range n).map fun j => if j = m then v else f j := by
 refine List.ext_getElem? fun j => ?_
 rw [List.getElem?_set]
 by_cases hj : j < n
 ·by_cases hm : m = j
  ·subst hm; simp [hj]
  ·have : ¬ j = m := fun e => hm e.symm
   simp [hj, hm, this]
 ·by_cases hm : m = j
  ·subst hm; simp [hj]
  ·simp [hj, hm]
def mixed (n j x y : Nat) : List Int := (List.range n).map fun i => if i < j then ((x / W32 ^ i % W32 : Nat) : Int) else ((y / W32 ^ i % W32 : Nat) : Int)
theorem mixed_len (n j x y : Nat) : (mixed n j x y).length = n := by simp [mixed]
theorem mixed_get {n j x y : Nat} (h : j < n) : lget 0 (mixed n j x y) (j : Int) = ((y / W32 ^ j % W32 : Nat) : Int) := by
 unfold lget mixed
 rw [Int.toNat_natCast, List.getD_eq_getElem?_getD]
 simp [h]
theorem mixed_set {n j x y : Nat} : lset (mixed n j x y) (j : Int) ((x / W32 ^ j % W32 : Nat) : Int) = mixed n (j + 1) x y := by
 unfold lset mixed
 rw [Int.toNat_natCast, set_map]
 refine List.map_congr_left fun i _ => ?_
 rcases Nat.lt_trichotomy i j with h | h | h
 ·rw [if_neg (by omega), if_pos h, if_pos (by omega)]
 ·subst h; rw [if_pos rfl, if_pos (by omega)]
 ·rw [if_neg (by omega), if_neg (by omega), if_neg (by omega)]
theorem lt_pow_mul {x y i j : Nat} (hx : x < W32 ^ i) (hy : y < W32 ^ j) : x * y < W32 ^ (i + j) := by
 rw [Nat.pow_add]
 exact Nat.mul_lt_mul'' hx hy
theorem times_ok {a b : Nat} (ha : nw a ≤ 1073741824) (hb : nw b ≤ 1073741824) : trace_natural_times (nd a) (nd b) = some (nd (a * b)) := by
 unfold trace_natural_times
 have l1 : ((nd a).length : Int) = (nw a : Int) := by rw [nd_len]
 have l2 : ((nd b).length : Int) = (nw b : Int) := by rw [nd_len]
 have ln : wi64 (wi64 (((nd a).length : Int) + ((nd b).length : Int)) + 1) = ((nw a + nw b + 1 : Nat) : Int) := by
  rw [l1, l2, wi64_id (x := (nw a : Int) + (nw b : Int)) (by omega) (by omega), wi64_id] <;> omega
 have lb1 : wi64 (((nd b).length : Int) + 1) = ((nw b + 1 : Nat) : Int) := by rw [l2, wi64_id] <;> omega
 rw [ln]
 rw [chk_true (and_true' (and_true' (dec_true (by omega)) (dec_true (by omega))) (beq_self_eq_true _))]
 generalize hn : nw a + nw b + 1 = n
 rw [Int.toNat_natCast]
 have hlt : a * b < W32 ^ n := by
  refine Nat.lt_of_lt_of_le (lt_pow_mul (nw_lt a) (nw_lt b)) (Nat.pow_le_pow_right (by decide) (by omega))
 have hzero : List.replicate n (0 : Int) = dgs W32 n (a % W32 ^ 0 * b) := by
  rw [Nat.pow_zero, Nat.mod_one, Nat.zero_mul]
  unfold dgs
  simp only [Nat.zero_div, Nat.zero_mod]
  rw [List.map_const']
  simp
 refine Option.bind_eq_some_iff.2 ⟨dgs W32 n (a * b), ?_, ?_⟩
 ·refine loopM_upto (fun i => (((i : Int), dgs W32 n (a % W32 ^ i * b)) : Int × List Int)) (nw a) (by rw [hzero]; rfl) (fun i hi => ?_) ?_
  ·simp only [l1]
   rw [dec_true (show (i : Int) < (nw a : Int) by omega), cond_true]
   refine Option.bind_eq_some_iff.2 ⟨dgs W32 n (a % W32 ^ (i + 1) * b), ?_, ?_⟩
   ·
    have hP : a % W32 ^ (i + 1) * b = a % W32 ^ i * b + W32 ^ i * (a / W32 ^ i % W32 * b) := by
     rw [mod_succ, Nat.add_mul, Nat.mul_assoc]
    generalize hc : a / W32 ^ i % W32 = c at *
    have hcl : c < 4294967296 := by rw [← hc]; exact dlt a i
    generalize hPo : a % W32 ^ i * b = P at *
    generalize hPn : a % W32 ^ (i + 1) * b = P' at *
    have hPl : P < W32 ^ (i + nw b) := by rw [← hPo]; exact lt_pow_mul (Nat.mod_lt _ (pow_pos32 i)) (nw_lt b)
    have hPl' : P' < W32 ^ (i + 1 + nw b) := by rw [← hPn]; exact lt_pow_mul (Nat.mod_lt _ (pow_pos32 _)) (nw_lt b)
    have hdiv : P' / W32 ^ i = P / W32 ^ i + c * b := by rw [hP, Nat.add_mul_div_left _ _ (pow_pos32 i)]
    have hsame : ∀ j, j < i → P' / W32 ^ j % W32 = P / W32 ^ j % W32 := fun j hj => by
     rw [hP, ← mod_digit (n := P + W32 ^ i * (c * b)) hj, Nat.add_mul_mod_self_left, mod_digit hj]
    have hstart : dgs W32 n P = mixed n i P' P := by
     unfold dgs mixed
     refine List.map_congr_left fun j _ => ?_
     split
     ·rename_i hj; rw [hsame j hj]
     ·rfl
    have hend : mixed n (i + (nw b + 1)) P' P = dgs W32 n P' := by
     unfold dgs mixed
     refine List.map_congr_left fun j _ => ?_
     split
     ·rfl
     ·rename_i hj
      have h1 : P < W32 ^ j := Nat.lt_of_lt_of_le hPl (Nat.pow_le_pow_right (by decide) (by omega))
      have h2 : P' < W32 ^ j := Nat.lt_of_lt_of_le hPl' (Nat.pow_le_pow_right (by decide) (by omega))
      rw [Nat.div_eq_of_lt h1, Nat.div_eq_of_lt h2]
    refine loopM_upto (fun k => (((carryM (P / W32 ^ i) c b k : Int), (k : Int), mixed n (i + k) P' P) : Int × Int × List Int)) (nw b + 1) (by rw [hstart, carryM_zero]; rfl) (fun k hk => ?_) ?_
    ·simp only [lb1]
     have hs := carryM_step (P / W32 ^ i) c b k
     have hc1 := carryM_lt (p := P / W32 ^ i) (b := b) (k := k) hcl
     have hc2 := carryM_lt (p := P / W32 ^ i) (b := b) (k := k + 1) hcl
     have hik : wi64 ((i : Int) + (k : Int)) = ((i + k : Nat) : Int) := by rw [wi64_id] <;> omega
     have hin : i + k < n := by omega
     have c1 : (decide ((0 : Int) ≤ ((i + k : Nat) : Int)) && decide (((i + k : Nat) : Int) < ((mixed n (i + k) P' P).length : Int))) = true := and_true' (dec_true (by omega)) (dec_true (by rw [mixed_len]; omega))
     rw [dec_true (show (k : Int) < ((nw b + 1 : Nat) : Int) by omega), cond_true, hik, chk_true c1, digit_ok, digit_ok, hc]
     simp only [Option.bind_some]
     rw [chk_true c1, mixed_get hin, chk_true (by rfl)]
     have dd : P / W32 ^ (i + k) = P / W32 ^ i / W32 ^ k := by rw [Nat.pow_add, Nat.div_div_eq_div_mul]
     have dd' : P' / W32 ^ (i + k) = (P / W32 ^ i + c * b) / W32 ^ k := by rw [Nat.pow_add, ← Nat.div_div_eq_div_mul, hdiv]
     have dl := dlt (P / W32 ^ i) k
     have dlb := dlt b k
     have dl' := dlt (P / W32 ^ i + c * b) k
     have hmul : c * (b / W32 ^ k % W32) ≤ 4294967295 * 4294967295 := Nat.mul_le_mul (by omega) (by omega)
     have hcast : ((c : Int) * ((b / W32 ^ k % W32 : Nat) : Int)) = ((c * (b / W32 ^ k % W32) : Nat) : Int) := (Int.natCast_mul _ _).symm
     rw [dd, hcast]
     generalize c * (b / W32 ^ k % W32) = m at *
     have hcar : wu64 ((carryM (P / W32 ^ i) c b k : Int) + wu64 (wu64 ((P / W32 ^ i / W32 ^ k % W32 : Nat) : Int) + wu64 (m : Int))) = ((carryM (P / W32 ^ i) c b (k + 1) * 4294967296 + (P / W32 ^ i + c * b) / W32 ^ k % W32 : Nat) : Int) := by
      rw [wu64_id (x := (m : Int)) (by omega) (by omega), wu64_id (x := ((P / W32 ^ i / W32 ^ k % W32 : Nat) : Int)) (by omega) (by omega), wu64_id (x := ((P / W32 ^ i / W32 ^ k % W32 : Nat) : Int) + (m : Int)) (by omega) (by omega), wu64_id] <;> omega
     rw [hcar, ishr32, wu32_eq, wi64_id (by omega) (by omega)]
     have e1 : ((carryM (P / W32 ^ i) c b (k + 1) * 4294967296 + (P / W32 ^ i + c * b) / W32 ^ k % W32 : Nat) : Int) % 4294967296 = ((P' / W32 ^ (i + k) % W32 : Nat) : Int) := by rw [dd']; omega
     rw [e1, mixed_set]
     congr 3
     ·omega
    ·simp only [lb1]
     rw [dec_false (by omega), cond_false, hend]
   ·rw [wi64_id (by omega) (by omega)]; rfl
  ·simp only [l1]
   rw [dec_false (by omega), cond_false, Nat.mod_eq_of_lt (nw_lt a)]
 ·rw [trim_ok (by omega) hlt]; rfl
end Go.Lift
namespace Go.Lift
open Go
def bl (n : Nat) : Nat := if n = 0 then 0 else Nat.log2 n + 1
theorem bl_lt (n : Nat) : n < 2 ^ bl n := by
 unfold bl
 split
 ·omega
 ·exact Nat.lt_log2_self
theorem bl_le {n : Nat} (h : n ≠ 0) : 2 ^ (bl n - 1) ≤ n := by
 unfold bl
 rw [if_neg h]
 exact Nat.log2_self_le h
abbrev lenTab : List UInt8 := [0, 1, 2, 2, 3, 3, 3, 3, 4, 4, 4, 4, 4, 4, 4, 4, 5, 5, 5, 5, 5, 5, 5, 5, 5, 5, 5, 5, 5, 5, 5, 5, 6, 6, 6, 6, 6, 6, 6, 6, 6, 6, 6, 6, 6, 6, 6, 6, 6, 6, 6, 6, 6, 6, 6, 6, 6, 6, 6, 6, 6, 6, 6, 6, 7, 7, 7, 7, 7, 7, 7, 7, 7, 7, 7, 7, 7, 7, 7, 7, 7, 7, 7, 7, 7, 7, 7, 7, 7, 7, 7, 7, 7, 7, 7, 7, 7, 7, 7, 7, 7, 7, 7, 7, 7, 7, 7, 7, 7, 7, 7, 7, 7, 7, 7, 7, 7, 7, 7, 7, 7, 7, 7, 7, 7, 7, 7, 7, 8, 8, 8, 8, 8, 8, 8, 8, 8, 8, 8, 8, 8, 8, 8, 8, 8, 8, 8, 8, 8, 8, 8, 8, 8, 8, 8, 8, 8, 8, 8, 8, 8, 8, 8, 8, 8, 8, 8, 8, 8, 8, 8, 8, 8, 8, 8, 8, 8, 8, 8, 8, 8, 8, 8, 8, 8, 8, 8, 8, 8, 8, 8, 8, 8, 8, 8, 8, 8, 8, 8, 8, 8, 8, 8, 8, 8, 8, 8, 8, 8, 8, 8, 8, 8, 8, 8, 8, 8, 8, 8, 8, 8, 8, 8, 8, 8, 8, 8, 8, 8, 8, 8, 8, 8, 8, 8, 8, 8, 8, 8, 8, 8, 8, 8, 8, 8, 8, 8, 8, 8, 8, 8, 8, 8, 8, 8, 8]
theorem bl_shift {x k : Nat} (h : x / 2 ^ k ≠ 0) : bl x = k + bl (x / 2 ^ k) := by
 have h0 : x ≠ 0 := by rintro rfl; simp at h
 unfold bl
 rw [if_neg h0, if_neg h]
 have h1 := Nat.log2_self_le h
 have h2 := @Nat.lt_log2_self (x / 2 ^ k)
 generalize ht : x / 2 ^ k = t at *
 have hp : 0 < 2 ^ k := Nat.pow_pos (by decide)
 have hm := Nat.div_add_mod x (2 ^ k)
 have hr := Nat.mod_lt x hp
 rw [ht] at hm
 have h3 : Nat.log2 x = k + Nat.log2 t := by
  rw [Nat.log2_eq_iff h0]
  rw [Nat.pow_succ, Nat.pow_add]
  have a1 : 2 ^ k * 2 ^ Nat.log2 t ≤ 2 ^ k * t := Nat.mul_le_mul_left _ h1
  have a2 : 2 ^ k * (t + 1) ≤ 2 ^ k * 2 ^ (Nat.log2 t + 1) := Nat.mul_le_mul_left _ h2
  rw [Nat.pow_succ, ← Nat.mul_assoc, Nat.mul_add, Nat.mul_one] at a2
  constructor <;> omega
 omega
set_option maxRecDepth 100000 in
theorem len8_tab : ∀ i : Fin 256, sget (bytes lenTab) ((i.val : Nat) : Int) = ((bl i.val : Nat) : Int) := by decide
set_option maxRecDepth 100000 in
theorem len8_ok {x : Nat} (h : x < 256) : wi64 (sget (bytes lenTab) (wu8 (x : Int))) = ((bl x : Nat) : Int) := by
 have h1 : wu8 (x : Int) = (x : Int) := by
  have : wu8 (x : Int) = (x : Int) % 256 := wrap_u .u8 rfl _
  omega
 rw [h1, show sget (bytes lenTab) (x : Int) = ((bl x : Nat) : Int) from len8_tab ⟨x, h⟩]
 have : bl x ≤ 64 := by
  unfold bl
  split
  ·omega
  ·rename_i h0
   have := Nat.log2_self_le h0
   have : 2 ^ Nat.log2 x < 2 ^ 8 := by omega
   have := (Nat.pow_lt_pow_iff_right (a := 2) (by decide)).1 this
   omega
 rw [wi64_id (by omega) (by omega)]
set_option maxRecDepth 100000 in
theorem len32_ok {x : Nat} (hx : x < 4294967296) : bits_Len32 (x : Int) = some ((bl x : Nat) : Int) := by
 have i16 : ishr .u32 (x : Int) 16 = ((x / 65536 : Nat) : Int) := by
  unfold ishr
  rw [show min (Int.toNat 16) IntKind.u32.bits = 16 from rfl, Int.fdiv_eq_ediv_of_nonneg _ (by decide)]
  rfl
 have i8 : ∀ y : Nat, ishr .u32 (y : Int) 8 = ((y / 256 : Nat) : Int) := by
  intro y
  unfold ishr
  rw [show min (Int.toNat 8) IntKind.u32.bits = 8 from rfl, Int.fdiv_eq_ediv_of_nonneg _ (by decide)]
  rfl
 have fin : ∀ (y : Nat) (n : Int), y < 65536 → 0 ≤ n → n ≤ 16 → (do
   let j_1 ← (bif decide ((y : Int) ≥ 256) then chk (decide ((0 : Int) ≤ 8)) (some (ishr .u32 (y : Int) 8, wi64 (n + 8))) else some ((y : Int), n) : Option (Int × Int))
   chk (decide ((0 : Int) ≤ (wu8 j_1.1)) && decide ((wu8 j_1.1) < (ByteArray.size (bytes lenTab) : Int))) (some (wi64 (j_1.2 + (wi64 (sget (bytes lenTab) (wu8 j_1.1))))))) = some (n + ((bl y : Nat) : Int)) := by
  intro y n hy n0 n1
  have hck : ∀ z : Nat, z < 256 → (decide ((0 : Int) ≤ (wu8 (z : Int))) && decide ((wu8 (z : Int)) < (ByteArray.size (bytes lenTab) : Int))) = true := by
   intro z hz
   have h1 : wu8 (z : Int) = (z : Int) := by
    have : wu8 (z : Int) = (z : Int) % 256 := wrap_u .u8 rfl _
    omega
   have h2 : (ByteArray.size (bytes lenTab) : Int) = 256 := by rfl
   rw [h1, h2, dec_true (by omega), dec_true (by omega)]; rfl
  have hb : ∀ z : Nat, z < 256 → bl z ≤ 64 := by
   intro z hz
   have := len8_ok hz
   unfold bl
   split
   ·omega
   ·rename_i h0
    have := Nat.log2_self_le h0
    have : 2 ^ Nat.log2 z < 2 ^ 8 := by omega
    have := (Nat.pow_lt_pow_iff_right (a := 2) (by decide)).1 this
    omega
  by_cases h : y < 256
  ·rw [dec_false (by omega), cond_false]
   show chk _ _ = _
   rw [chk_true (hck y h), len8_ok h]
   have := hb y h
   rw [wi64_id (by omega) (by omega)]
  ·rw [dec_true (by omega), cond_true, chk_true (by rfl), i8, wi64_id (x := n + 8) (by omega) (by omega)]
   show chk _ _ = _
   have h2 : y / 256 < 256 := by omega
   rw [chk_true (hck _ h2), len8_ok h2]
   have := hb _ h2
   have e := bl_shift (x := y) (k := 8) (by show y / 256 ≠ 0; omega)
   rw [show (2 : Nat) ^ 8 = 256 from rfl] at e
   rw [wi64_id (by omega) (by omega)]
   congr 1
   omega
 unfold bits_Len32
 by_cases h : x < 65536
 ·rw [dec_false (show ¬ (x : Int) ≥ 65536 by omega), cond_false, Option.bind_some]
  have := fin x 0 h (by omega) (by omega)
  rw [show (0 : Int) + ((bl x : Nat) : Int) = ((bl x : Nat) : Int) by omega] at this
  exact this
 ·rw [dec_true (show (x : Int) ≥ 65536 by omega), cond_true, chk_true (by rfl), Option.bind_some, i16]
  have := fin (x / 65536) 16 (by omega) (by omega) (by omega)
  have e := bl_shift (x := x) (k := 16) (by show x / 65536 ≠ 0; omega)
  rw [show (2 : Nat) ^ 16 = 65536 from rfl] at e
  rw [show (16 : Int) + ((bl (x / 65536) : Nat) : Int) = ((bl x : Nat) : Int) by omega] at this
  exact this
theorem pow32 (k : Nat) : W32 ^ k = 2 ^ (32 * k) := by rw [Nat.pow_mul]
theorem nw_of_bits {n k : Nat} (h : n < 2 ^ (32 * k)) : nw n ≤ k := nw_of_lt (by rw [pow32]; exact h)
theorem length_ok {a : Nat} (ha : nw a ≤ 1073741824) : trace_natural_length (nd a) = some ((bl a : Nat) : Int) := by
 unfold trace_natural_length
 have l1 : ((nd a).length : Int) = (nw a : Int) := by rw [nd_len]
 by_cases h0 : a = 0
 ·subst h0
  rw [show nd 0 = ([] : List Int) from dig_zero _]
  rfl
 ·have hp : 1 ≤ nw a := by
   have : nw a ≠ 0 := fun e => h0 ((wd_eq_zero hW).1 e)
   omega
  have e : (((nd a).length : Int) == 0) = false := by rw [l1, beq_eq_false_iff_ne]; omega
  have ei : wi64 (((nd a).length : Int) - 1) = ((nw a - 1 : Nat) : Int) := by rw [l1, wi64_id] <;> omega
  have c1 : (decide ((0 : Int) ≤ ((nw a - 1 : Nat) : Int)) && decide (((nw a - 1 : Nat) : Int) < ((nd a).length : Int))) = true := and_true' (dec_true (by omega)) (dec_true (by omega))
  rw [e, cond_false, ei, chk_true c1, show lget 0 (nd a) ((nw a - 1 : Nat) : Int) = ((a / W32 ^ (nw a - 1) % W32 : Nat) : Int) from lget_dgs (show nw a - 1 < nw a by omega)]
  have ht : a / W32 ^ (nw a - 1) < W32 := by
   rw [Nat.div_lt_iff_lt_mul (pow_pos32 _), ← Nat.pow_succ']
   have := nw_lt a
   rwa [show (nw a - 1).succ = nw a by omega]
  rw [Nat.mod_eq_of_lt ht, len32_ok ht]
  have htop : a / W32 ^ (nw a - 1) ≠ 0 := by
   have := wd_le hW h0
   exact Nat.ne_of_gt (Nat.div_pos this (pow_pos32 _))
  have hbl : bl a = 32 * (nw a - 1) + bl (a / W32 ^ (nw a - 1)) := by
   unfold bl
   rw [if_neg h0, if_neg htop]
   have h1 := Nat.log2_self_le htop
   have h2 := @Nat.lt_log2_self (a / W32 ^ (nw a - 1))
   generalize ht2 : a / W32 ^ (nw a - 1) = t at *
   have h3 : Nat.log2 a = 32 * (nw a - 1) + Nat.log2 t := by
    rw [Nat.log2_eq_iff h0]
    have hm := Nat.div_add_mod a (W32 ^ (nw a - 1))
    rw [ht2] at hm
    have hr := Nat.mod_lt a (pow_pos32 (nw a - 1))
    have e1 : 2 ^ (32 * (nw a - 1) + t.log2) = W32 ^ (nw a - 1) * 2 ^ t.log2 := by rw [Nat.pow_add, pow32]
    have e2 : 2 ^ (32 * (nw a - 1) + t.log2 + 1) = W32 ^ (nw a - 1) * 2 ^ (t.log2 + 1) := by rw [Nat.add_assoc, Nat.pow_add, pow32]
    have m1 := Nat.mul_le_mul_left (W32 ^ (nw a - 1)) h1
    have m2 := Nat.mul_le_mul_left (W32 ^ (nw a - 1)) (show t + 1 ≤ 2 ^ (t.log2 + 1) by omega)
    rw [Nat.mul_add, Nat.mul_one] at m2
    rw [e1, e2]
    clear e1 e2 h1 h2
    revert hm hr m1 m2
    generalize a % W32 ^ (nw a - 1) = R
    generalize W32 ^ (nw a - 1) * 2 ^ t.log2 = p1
    generalize W32 ^ (nw a - 1) * 2 ^ (t.log2 + 1) = p2
    generalize W32 ^ (nw a - 1) * t = p3
    generalize W32 ^ (nw a - 1) = p4
    intro hm hr m1 m2
    omega
   rw [h3]; omega
  have hs : bl (a / W32 ^ (nw a - 1)) ≤ 32 := by
   unfold bl
   rw [if_neg htop]
   have := (Nat.log2_lt htop).2 (show a / W32 ^ (nw a - 1) < 2 ^ 32 from ht)
   omega
  simp only [Option.bind_some]
  rw [hbl]
  generalize bl (a / W32 ^ (nw a - 1)) = y at *
  rw [wi64_id (x := ((nw a - 1 : Nat) : Int) * 32) (by omega) (by omega), wi64_id (by omega) (by omega)]
  congr 1
  omega
theorem or_add {c r x : Nat} (hc : c < 2 ^ r) (hr : r < 32) (hx : x < 4294967296) : ior .u64 (c : Int) (ishl .u64 (x : Int) (r : Int)) = ((c + x * 2 ^ r : Nat) : Int) := by
 have h64 : IntKind.u64.bits = 64 := rfl
 have hp : 2 ^ r ≤ 2 ^ 31 := Nat.pow_le_pow_right (by decide) (by omega)
 have hm : x * 2 ^ r ≤ 4294967295 * 2 ^ 31 := Nat.mul_le_mul (by omega) hp
 have e1 : ishl .u64 (x : Int) (r : Int) = ((x * 2 ^ r : Nat) : Int) := by
  unfold ishl
  rw [Int.toNat_natCast, h64, Nat.min_eq_left (by omega)]
  have : (x : Int) * 2 ^ r = ((x * 2 ^ r : Nat) : Int) := by
   rw [Int.natCast_mul, Int.natCast_pow]; rfl
  rw [this]
  exact wu64_id (by omega) (by omega)
 rw [e1]
 unfold ior
 rw [h64]
 have e2 : (BitVec.ofInt 64 (c : Int) ||| BitVec.ofInt 64 ((x * 2 ^ r : Nat) : Int)).toNat = c + x * 2 ^ r := by
  rw [BitVec.toNat_or, BitVec.toNat_ofInt, BitVec.toNat_ofInt]
  have a1 : ((c : Int) % ((2 ^ 64 : Nat) : Int)).toNat = c := by omega
  have a2 : (((x * 2 ^ r : Nat) : Int) % ((2 ^ 64 : Nat) : Int)).toNat = x * 2 ^ r := by omega
  rw [a1, a2, Nat.or_comm, Nat.mul_comm x, ← Nat.two_pow_add_eq_or_of_lt hc, Nat.add_comm]
 rw [e2]
 exact wu64_id (by omega) (by omega)
theorem shifted_ok {a s : Nat} (ha : nw a ≤ 1073741824) (hs : s ≤ 34359738368) : trace_natural_shifted (nd a) (s : Int) = some (nd (a * 2 ^ s)) := by
 unfold trace_natural_shifted
 have l1 : wi64 (((nd a).length : Int) + 1) = ((nw a + 1 : Nat) : Int) := by rw [nd_len, wi64_id] <;> omega
 have eq1 : Int.tdiv (s : Int) 32 = ((s / 32 : Nat) : Int) := rfl
 have eq2 : Int.tmod (s : Int) 32 = ((s % 32 : Nat) : Int) := rfl
 generalize hq : s / 32 = q at *
 generalize hr : s % 32 = r at *
 have hs2 : a * 2 ^ s = (a * 2 ^ r) * W32 ^ q := by
  rw [pow32, Nat.mul_assoc, ← Nat.pow_add]
  congr 2; omega
 have ew : wi64 ((q : Nat) : Int) = (q : Int) := wi64_id (by omega) (by omega)
 rw [chk_true (by rfl), eq1, ew]
 rw [chk_true (and_true' (and_true' (dec_true (by omega)) (dec_true (by omega))) (beq_self_eq_true _)), Int.toNat_natCast, eq2]
 have hrep : List.replicate q (0 : Int) = dgs W32 q (a * 2 ^ s) := by
  unfold dgs
  rw [hs2, List.map_congr_left (g := fun _ => (0 : Int)) fun i hi => ?_, List.map_const']
  ·simp
  ·rw [List.mem_range] at hi
   rw [← mod_digit (k := q) hi, Nat.mul_mod_left]
   simp
 have hdig : ∀ k, a * 2 ^ s / W32 ^ (q + k) = (0 + 2 ^ r * a) / W32 ^ k := fun k => by
  rw [hs2, Nat.pow_add, ← Nat.div_div_eq_div_mul, Nat.mul_div_cancel _ (pow_pos32 q), Nat.zero_add, Nat.mul_comm]
 have hrl : 2 ^ r ≤ 2147483648 := Nat.pow_le_pow_right (show 2 > 0 by decide) (show r ≤ 31 by omega)
 refine Option.bind_eq_some_iff.2 ⟨dgs W32 (q + (nw a + 1)) (a * 2 ^ s), ?_, ?_⟩
 ·refine loopM_upto (fun k => ((dgs W32 (q + k) (a * 2 ^ s), (carryM 0 (2 ^ r) a k : Int), (k : Int)) : List Int × Int × Int)) (nw a + 1) (by rw [hrep, carryM_zero]; rfl) (fun k hk => ?_) ?_
  ·have st := carryM_step 0 (2 ^ r) a k
   have cl : carryM 0 (2 ^ r) a k < 2 ^ r := by
    unfold carryM
    rw [Nat.zero_mod, Nat.zero_add, Nat.div_lt_iff_lt_mul (pow_pos32 k)]
    exact Nat.mul_lt_mul_of_pos_left (Nat.mod_lt _ (pow_pos32 k)) (Nat.pow_pos (by decide))
   have cl1 : carryM 0 (2 ^ r) a (k + 1) < 4294967296 := carryM_lt (by omega)
   have d1 := dlt a k
   have d2 := dlt (0 + 2 ^ r * a) k
   simp only [l1]
   rw [dec_true (show (k : Int) < ((nw a + 1 : Nat) : Int) by omega), cond_true, digit_ok]
   simp only [Option.bind_some]
   rw [chk_true (by rfl), chk_true (dec_true (by omega)), or_add cl (by omega) d1]
   rw [Nat.zero_div, Nat.zero_mod, Nat.add_zero, Nat.mul_comm (2 ^ r)] at st
   rw [st, app_ok (by rw [dgs_len]; simp only [List.length_singleton]; omega)]
   simp only [Option.bind_some]
   rw [chk_true (by rfl), ishr32, wu32_eq, wi64_id (by omega) (by omega), show q + (k + 1) = (q + k) + 1 by omega, dgs_succ, hdig]
   generalize (0 + 2 ^ r * a) / W32 ^ k % W32 = y at *
   congr 5
   ·omega
   ·omega
  ·simp only [l1]
   rw [dec_false (by omega), cond_false]
 ·have hlt : a * 2 ^ s < W32 ^ (q + (nw a + 1)) := by
   rw [hs2, Nat.pow_add, Nat.mul_comm]
   refine Nat.mul_lt_mul_of_pos_left ?_ (pow_pos32 q)
   rw [Nat.pow_succ]
   exact Nat.mul_lt_mul'' (nw_lt a) (by have : W32 = 4294967296 := rfl; omega)
  rw [trim_ok (by omega) hlt]; rfl
end Go.Lift
namespace Go.Lift
open Go
theorem nd_one : nd 1 = [1] := by
 have : wd W32 1 = 1 := by rw [wd_pos hW (by decide)]; rw [show 1 / W32 = 0 from rfl, wd_zero]
 unfold nd dig
 rw [this, dgs_succ, dgs_zero]
 rfl
theorem nd_zero : nd 0 = [] := dig_zero _
theorem bl_le_nw (a : Nat) : bl a ≤ 32 * nw a := by
 by_cases h : a = 0
 ·subst h; unfold bl; simp
 ·have h1 := bl_le h
  have h2 := nw_lt a
  rw [pow32] at h2
  have := (Nat.pow_lt_pow_iff_right (show 1 < 2 by decide)).1 (Nat.lt_of_le_of_lt h1 h2)
  omega
theorem bl_zero : bl 0 = 0 := rfl
theorem bl_mono {a b : Nat} (h : a ≤ b) : bl a ≤ bl b := by
 by_cases h0 : a = 0
 ·subst h0; rw [bl_zero]; omega
 ·have h1 := bl_le h0
  have h2 := bl_lt b
  have := (Nat.pow_lt_pow_iff_right (show 1 < 2 by decide)).1 (Nat.lt_of_le_of_lt h1 (Nat.lt_of_le_of_lt h h2))
  omega
theorem half_step (a m : Nat) (hm : 0 < m) : a / m = 2 * (a / (m * 2)) + (if m ≤ a % (m * 2) then 1 else 0) ∧ a % m = (if m ≤ a % (m * 2) then a % (m * 2) - m else a % (m * 2)) := by
 have h1 := Nat.div_add_mod a (m * 2)
 have h2 := Nat.mod_lt a (show 0 < m * 2 by omega)
 generalize hq : a / (m * 2) = q at *
 generalize hr : a % (m * 2) = r at *
 split
 ·rename_i hle
  have e : a = (r - m) + m * (2 * q + 1) := by
   rw [Nat.mul_add, Nat.mul_one, ← Nat.mul_assoc]; omega
  constructor
  ·conv => lhs; rw [e]
   rw [Nat.add_mul_div_left _ _ hm, Nat.div_eq_of_lt (by omega), Nat.zero_add]
  ·conv => lhs; rw [e]
   rw [Nat.add_mul_mod_self_left, Nat.mod_eq_of_lt (by omega)]
 ·have e : a = r + m * (2 * q) := by rw [← Nat.mul_assoc]; omega
  constructor
  ·conv => lhs; rw [e]
   rw [Nat.add_mul_div_left _ _ hm, Nat.div_eq_of_lt (by omega), Nat.zero_add, Nat.add_zero]
  ·conv => lhs; rw [e]
   rw [Nat.add_mul_mod_self_left, Nat.mod_eq_of_lt (by omega)]
theorem divided_ok {a b : Nat} (hb0 : b ≠ 0) (ha : nw a ≤ 1073741823) (hb : nw b ≤ 1073741823) : trace_natural_divided (nd a) (nd b) = some (nd (a / b), nd (a % b)) := by
 unfold trace_natural_divided
 have e0 : slices_Clone_uint32 (nd a) = some (nd a) := by
  unfold slices_Clone_uint32
  rw [app_ok (by rw [List.length_nil, nd_len]; omega), List.nil_append]
 rw [e0, length_ok (by omega), length_ok (by omega)]
 simp only [Option.bind_some]
 have ba := bl_le_nw a
 have bb := bl_le_nw b
 rw [wi64_id (x := ((bl a : Nat) : Int) - ((bl b : Nat) : Int)) (by omega) (by omega)]
 refine Option.bind_eq_some_iff.2 ⟨(nd (a / b), nd (a % b)), ?_, rfl⟩
 by_cases hlt : bl a < bl b
 ·refine loopM_done ?_
  simp only
  rw [dec_false (by omega), cond_false]
  have : a < b := by
   rcases Nat.lt_or_ge a b with h | h
   ·exact h
   ·have := bl_mono h; omega
  rw [Nat.div_eq_of_lt this, Nat.mod_eq_of_lt this, nd_zero]
 ·have hfit : ∀ j, j ≤ bl a - bl b → b * 2 ^ j < 2 ^ bl a := fun j hj => by
   have h1 := bl_lt b
   have h2 : b * 2 ^ j < 2 ^ bl b * 2 ^ j := Nat.mul_lt_mul_of_pos_right h1 (Nat.pow_pos (by decide))
   rw [← Nat.pow_add] at h2
   exact Nat.lt_of_lt_of_le h2 (Nat.pow_le_pow_right (by decide) (by omega))
  have hnw : ∀ x, x < 2 ^ bl a → nw x ≤ nw a := fun x hx => nw_of_bits (Nat.lt_of_lt_of_le hx (Nat.pow_le_pow_right (by decide) ba))
  generalize hn : bl a - bl b + 1 = n
  have hbig : a < b * 2 ^ n := by
   have h1 := bl_lt a
   have h2 := bl_le hb0
   have hbp : 1 ≤ bl b := by unfold bl; rw [if_neg hb0]; omega
   have h3 := Nat.mul_le_mul_right (2 ^ n) h2
   rw [← Nat.pow_add] at h3
   exact Nat.lt_of_lt_of_le h1 (Nat.le_trans (Nat.pow_le_pow_right (by decide) (by omega)) h3)
  refine loopM_upto (fun k => ((nd (a / (b * 2 ^ (n - k))), nd (a % (b * 2 ^ (n - k))), ((n - k : Nat) : Int) - 1) : List Int × List Int × Int)) n ?_ (fun k hk => ?_) ?_
  ·rw [Nat.sub_zero, Nat.div_eq_of_lt hbig, Nat.mod_eq_of_lt hbig, nd_zero, show ((bl a : Nat) : Int) - ((bl b : Nat) : Int) = ((n : Nat) : Int) - 1 by omega]
  ·obtain ⟨j, hj⟩ : ∃ j, n - k = j + 1 := ⟨n - k - 1, by omega⟩
   have hj2 : n - (k + 1) = j := by omega
   simp only [hj, hj2]
   have hm : 0 < b * 2 ^ j := Nat.mul_pos (by omega) (Nat.pow_pos (by decide))
   obtain ⟨s1, s2⟩ := half_step a (b * 2 ^ j) hm
   have e2 : b * 2 ^ (j + 1) = b * 2 ^ j * 2 := by rw [Nat.pow_succ, Nat.mul_assoc]
   rw [e2]
   have hq : nw (a / (b * 2 ^ j * 2)) ≤ nw a := nw_mono (Nat.div_le_self _ _)
   have hr : nw (a % (b * 2 ^ j * 2)) ≤ nw a := nw_mono (Nat.mod_le _ _)
   have hq2 : nw (a / (b * 2 ^ j * 2) * 2 ^ 1) ≤ nw a := by
    refine nw_mono ?_
    have := Nat.div_mul_le_self a (b * 2 ^ j * 2)
    have h4 : a / (b * 2 ^ j * 2) * 2 ≤ a / (b * 2 ^ j * 2) * (b * 2 ^ j * 2) := Nat.mul_le_mul_left _ (by omega)
    omega
   have hp := hnw _ (hfit j (by omega))
   rw [show ((j + 1 : Nat) : Int) - 1 = (j : Int) by omega, dec_true (show (j : Int) ≥ 0 by omega), cond_true]
   rw [show trace_natural_shifted (nd (a / (b * 2 ^ j * 2))) 1 = _ from shifted_ok (s := 1) (by omega) (by decide)]
   simp only [Option.bind_some]
   rw [shifted_ok (by omega) (by omega)]
   simp only [Option.bind_some]
   obtain ⟨c, hc, _, _, hgt⟩ := cmp_ok (a := a % (b * 2 ^ j * 2)) (b := b * 2 ^ j) (by omega) (by omega)
   obtain ⟨c', hc', hlt', _, _⟩ := cmp_ok (a := a % (b * 2 ^ j * 2)) (b := b * 2 ^ j) (by omega) (by omega)
   rw [hc] at hc'
   cases hc'
   rw [hc]
   simp only [Option.bind_some]
   by_cases hle : b * 2 ^ j ≤ a % (b * 2 ^ j * 2)
   ·rw [if_pos hle] at s1 s2
    rw [dec_true (show c ≥ 0 by omega), cond_true, minus_ok hle (by omega)]
    simp only [Option.bind_some]
    rw [← nd_one, plus_ok (by omega) (by have : nw 1 ≤ 1 := nw_of_lt (by decide); omega)]
    simp only [Option.bind_some]
    rw [wi64_id (by omega) (by omega), s1, s2, show a / (b * 2 ^ j * 2) * 2 ^ 1 + 1 = 2 * (a / (b * 2 ^ j * 2)) + 1 by omega]
   ·rw [if_neg hle] at s1 s2
    rw [dec_false (show ¬ c ≥ 0 by omega), cond_false]
    simp only [Option.bind_some]
    rw [wi64_id (by omega) (by omega), s1, s2, show a / (b * 2 ^ j * 2) * 2 ^ 1 = 2 * (a / (b * 2 ^ j * 2)) + 0 by omega]
  ·simp only [Nat.sub_self, Nat.pow_zero, Nat.mul_one]
   rw [dec_false (by omega), cond_false]
theorem divisor_ok {a b : Nat} (ha : nw a ≤ 1073741823) (hb : nw b ≤ 1073741823) : trace_divisor (nd a) (nd b) = some (nd (Nat.gcd a b)) := by
 unfold trace_divisor
 refine Option.bind_eq_some_iff.2 ⟨nd (Nat.gcd a b), ?_, rfl⟩
 induction b using Nat.strongRecOn generalizing a with
 | _ b ih =>
  by_cases h0 : b = 0
  ·subst h0
   refine loopM_done ?_
   rw [nd_zero, Nat.gcd_zero_right]
   rfl
  ·have hl : 0 < nw b := by
    have : nw b ≠ 0 := fun e => h0 ((wd_eq_zero hW).1 e)
    omega
   have hm := Nat.mod_lt a (show b > 0 by omega)
   rw [loopM_next (s' := (nd b, nd (a % b)))]
   ·have := ih (a % b) hm hb (Nat.le_trans (nw_mono (Nat.mod_le a b)) ha)
    rw [this]
    congr 2
    rw [Nat.gcd_comm b, ← Nat.gcd_rec, Nat.gcd_comm]
   ·simp only
    rw [dec_true (show ((nd b).length : Int) > 0 by rw [nd_len]; omega), cond_true, divided_ok h0 ha hb]
    rfl
def ratioQ (q : Rat) : Dtrace_ratio := (decide (q.num < 0), nd q.num.natAbs, nd q.den)
theorem ratioQ_of {n : Int} {d : Nat} (hd : d ≠ 0) : ratioQ (mkRat n d) = (decide (n < 0), nd (n.natAbs / Nat.gcd n.natAbs d), nd (d / Nat.gcd n.natAbs d)) := by
 have e : mkRat n d = Rat.normalize n d hd := by unfold mkRat; rw [dif_neg hd]
 rw [e, Rat.normalize_eq]
 have hg : 0 < Nat.gcd n.natAbs d := Nat.gcd_pos_of_pos_right _ (by omega)
 have hdvd : ((Nat.gcd n.natAbs d : Nat) : Int) ∣ n := Int.ofNat_dvd_left.2 (Nat.gcd_dvd_left _ _)
 show (decide (n / ((Nat.gcd n.natAbs d : Nat) : Int) < 0), nd (n / ((Nat.gcd n.natAbs d : Nat) : Int)).natAbs, nd (d / Nat.gcd n.natAbs d)) = _
 generalize Nat.gcd n.natAbs d = g at *
 obtain ⟨k, hk⟩ := hdvd
 have hdiv : n / (g : Int) = k := by rw [hk, Int.mul_ediv_cancel_left _ (by omega)]
 have habs : n.natAbs / g = k.natAbs := by rw [hk, Int.natAbs_mul, Int.natAbs_natCast, Nat.mul_div_cancel_left _ hg]
 rw [hdiv, habs]
 congr 1
 refine decide_eq_decide.2 ?_
 rw [hk]
 have hg' : (0 : Int) < (g : Int) := by omega
 constructor
 ·exact fun h => Int.mul_neg_of_pos_of_neg hg' h
 ·intro h
  apply Decidable.byContradiction
  intro h1
  have := Int.mul_nonneg (Int.le_of_lt hg') (show 0 ≤ k by omega)
  omega
theorem ratioOf_ok {neg : Bool} {n d : Nat} (hd : d ≠ 0) (hn : nw n ≤ 1073741823) (hdl : nw d ≤ 1073741823) :
  trace_ratioOf neg (nd n) (nd d) = some (ratioQ (mkRat (if neg then -(n : Int) else n) d)) := by
 unfold trace_ratioOf
 have hg : Nat.gcd n d ≠ 0 := by
  have := Nat.gcd_pos_of_pos_right n (show 0 < d by omega)
  omega
 have hgl : nw (Nat.gcd n d) ≤ 1073741823 := Nat.le_trans (nw_mono (Nat.le_of_dvd (by omega) (Nat.gcd_dvd_right n d))) hdl
 rw [divisor_ok hn hdl]
 simp only [Option.bind_some]
 rw [divided_ok hg hn hgl]
 simp only [Option.bind_some]
 rw [divided_ok hg hdl hgl]
 simp only [Option.bind_some]
 rw [ratioQ_of hd]
 have habs : (if neg then -(n : Int) else (n : Int)).natAbs = n := by split <;> omega
 rw [habs, nd_len]
 congr 2
 have hz : (((nw (n / Nat.gcd n d) : Nat) : Int) > 0) ↔ n ≠ 0 := by
  have h1 : nw (n / Nat.gcd n d) = 0 ↔ n / Nat.gcd n d = 0 := wd_eq_zero hW
  have h2 : n / Nat.gcd n d = 0 ↔ n = 0 := by
   constructor
   ·intro h
    have := Nat.div_mul_cancel (Nat.gcd_dvd_left n d)
    rw [h] at this
    omega
   ·rintro rfl; simp
  omega
 cases neg with
 | false => simp
 | true =>
  simp only [Bool.true_and, if_true]
  refine decide_eq_decide.2 ?_
  rw [hz]; omega
end Go.Lift
namespace Go.Lift
open Go
def Fit (N : Nat) (q : Rat) : Prop := nw q.num.natAbs ≤ N ∧ nw q.den ≤ N
theorem Fit.mono {N M : Nat} {q : Rat} (h : Fit N q) (hm : N ≤ M) : Fit M q := ⟨Nat.le_trans h.1 hm, Nat.le_trans h.2 hm⟩
theorem nw_mul {x y : Nat} : nw (x * y) ≤ nw x + nw y := nw_of_lt (lt_pow_mul (nw_lt x) (nw_lt y))
theorem nw_add {x y N : Nat} (hx : nw x ≤ N) (hy : nw y ≤ N) : nw (x + y) ≤ N + 1 := by
 refine nw_of_lt ?_
 have h1 : x < W32 ^ N := Nat.lt_of_lt_of_le (nw_lt x) (Nat.pow_le_pow_right (by decide) hx)
 have h2 : y < W32 ^ N := Nat.lt_of_lt_of_le (nw_lt y) (Nat.pow_le_pow_right (by decide) hy)
 rw [Nat.pow_succ]
 have : W32 ^ N * 2 ≤ W32 ^ N * W32 := Nat.mul_le_mul_left _ (by decide)
 omega
theorem fit_mk {n : Int} {d N : Nat} (hd : d ≠ 0) (h1 : nw n.natAbs ≤ N) (h2 : nw d ≤ N) : Fit N (mkRat n d) := by
 have e := ratioQ_of (n := n) hd
 unfold ratioQ at e
 simp only [Prod.mk.injEq] at e
 obtain ⟨_, e1, e2⟩ := e
 have e1 := congrArg List.length e1
 have e2 := congrArg List.length e2
 rw [nd_len, nd_len] at e1 e2
 constructor
 ·rw [e1]; exact Nat.le_trans (nw_mono (Nat.div_le_self _ _)) h1
 ·rw [e2]; exact Nat.le_trans (nw_mono (Nat.div_le_self _ _)) h2
theorem num_sign (q : Rat) : q.num = if decide (q.num < 0) then -(q.num.natAbs : Int) else (q.num.natAbs : Int) := by
 by_cases h : q.num < 0
 ·rw [dec_true h, if_pos rfl]; omega
 ·rw [dec_false h, if_neg (by simp)]; omega
theorem den_ne (q : Rat) : q.den ≠ 0 := q.den_nz
theorem mul_ne {x y : Nat} (hx : x ≠ 0) (hy : y ≠ 0) : x * y ≠ 0 := Nat.mul_ne_zero hx hy
theorem plus_parts (a b : Rat) (x y : Nat) (hx : x = a.num.natAbs * b.den) (hy : y = b.num.natAbs * a.den) :
  a.num * b.den + b.num * a.den = (if decide (a.num < 0) then -(x : Int) else x) + (if decide (b.num < 0) then -(y : Int) else y) := by
 subst hx hy
 rw [Int.natCast_mul, Int.natCast_mul]
 have ha := num_sign a
 have hb := num_sign b
 generalize (a.num.natAbs : Int) = p at *
 generalize (b.num.natAbs : Int) = r at *
 conv => lhs; rw [ha, hb]
 split <;> split <;> simp [Int.neg_mul]
theorem rplus_ok {a b : Rat} {N M : Nat} (ha : Fit N a) (hb : Fit M b) (h : N + M ≤ 1073741000) : trace_ratio_plus (ratioQ a) (ratioQ b) = some (ratioQ (a + b)) ∧ Fit (N + M + 1) (a + b) := by
 have hd : a.den * b.den ≠ 0 := mul_ne (den_ne a) (den_ne b)
 obtain ⟨a1, a2⟩ := ha
 obtain ⟨b1, b2⟩ := hb
 have l1 : nw (a.num.natAbs * b.den) ≤ N + M := Nat.le_trans nw_mul (by omega)
 have l2 : nw (b.num.natAbs * a.den) ≤ N + M := Nat.le_trans nw_mul (by omega)
 have l3 : nw (a.den * b.den) ≤ N + M := Nat.le_trans nw_mul (by omega)
 have hp := plus_parts a b _ _ rfl rfl
 constructor
 ·unfold trace_ratio_plus ratioQ
  simp only
  rw [times_ok (by omega) (by omega), times_ok (by omega) (by omega), times_ok (by omega) (by omega)]
  simp only [Option.bind_some]
  generalize hx : a.num.natAbs * b.den = x at *
  generalize hy : b.num.natAbs * a.den = y at *
  have l4 := nw_add l1 l2
  rw [show (decide ((a + b).num < 0), nd (a + b).num.natAbs, nd (a + b).den) = ratioQ (a + b) from rfl, Rat.add_def', hp]
  by_cases hs : decide (a.num < 0) = decide (b.num < 0)
  ·rw [hs, beq_self_eq_true, cond_true, plus_ok (by omega) (by omega)]
   simp only [Option.bind_some]
   rw [ratioOf_ok hd (by omega) (by omega)]
   simp only [Option.bind_some]
   congr 3
   split <;> omega
  ·have hne : (decide (a.num < 0) == decide (b.num < 0)) = false := by rw [beq_eq_false_iff_ne]; exact hs
   rw [hne, cond_false]
   obtain ⟨c, hc, c1, c2, c3⟩ := cmp_ok (a := x) (b := y) (by omega) (by omega)
   rw [hc]
   simp only [Option.bind_some]
   by_cases hle : y ≤ x
   ·rw [dec_true (show c ≥ 0 by omega), cond_true, minus_ok hle (by omega)]
    simp only [Option.bind_some]
    rw [ratioOf_ok hd (Nat.le_trans (nw_mono (Nat.sub_le x y)) (by omega)) (by omega)]
    simp only [Option.bind_some]
    congr 3
    generalize decide (a.num < 0) = s at *
    generalize decide (b.num < 0) = t at *
    cases s <;> cases t <;> simp_all <;> omega
   ·rw [dec_false (show ¬ c ≥ 0 by omega), cond_false, minus_ok (by omega) (by omega)]
    simp only [Option.bind_some]
    rw [ratioOf_ok hd (Nat.le_trans (nw_mono (Nat.sub_le y x)) (by omega)) (by omega)]
    simp only [Option.bind_some]
    congr 3
    generalize decide (a.num < 0) = s at *
    generalize decide (b.num < 0) = t at *
    cases s <;> cases t <;> simp_all <;> omega
 ·rw [Rat.add_def', hp]
  refine fit_mk hd ?_ (Nat.le_trans l3 (by omega))
  refine Nat.le_trans (nw_mono (n := a.num.natAbs * b.den + b.num.natAbs * a.den) ?_) (nw_add l1 l2)
  split <;> split <;> omega
theorem opposite_ok (a : Rat) : trace_ratio_opposite (ratioQ a) = some (ratioQ (-a)) := by
 unfold trace_ratio_opposite ratioQ
 simp only [Rat.neg_num, Rat.neg_den, Int.natAbs_neg]
 congr 2
 rw [nd_len]
 have h1 : nw a.num.natAbs = 0 ↔ a.num.natAbs = 0 := wd_eq_zero hW
 have : (!decide (a.num < 0) && decide (((nw a.num.natAbs : Nat) : Int) > 0)) = decide (-a.num < 0) := by
  by_cases h : a.num < 0
  ·rw [dec_true h, Bool.not_true, Bool.false_and, dec_false (by omega)]
  ·rw [dec_false h]
   simp only [Bool.not_false, Bool.true_and]
   exact decide_eq_decide.2 (by omega)
 rw [this]
theorem fit_neg {N : Nat} {a : Rat} (h : Fit N a) : Fit N (-a) := by
 unfold Fit
 rw [Rat.neg_num, Rat.neg_den, Int.natAbs_neg]; exact h
theorem rminus_ok {a b : Rat} {N M : Nat} (ha : Fit N a) (hb : Fit M b) (h : N + M ≤ 1073741000) : trace_ratio_minus (ratioQ a) (ratioQ b) = some (ratioQ (a - b)) ∧ Fit (N + M + 1) (a - b) := by
 unfold trace_ratio_minus
 rw [opposite_ok]
 simp only [Option.bind_some]
 obtain ⟨h1, h2⟩ := rplus_ok ha (fit_neg hb) h
 rw [h1, Rat.sub_eq_add_neg]
 exact ⟨rfl, h2⟩
theorem times_parts (a b : Rat) : a.num * b.num = if (decide (a.num < 0) != decide (b.num < 0)) then -((a.num.natAbs * b.num.natAbs : Nat) : Int) else ((a.num.natAbs * b.num.natAbs : Nat) : Int) := by
 rw [Int.natCast_mul]
 have ha := num_sign a
 have hb := num_sign b
 generalize (a.num.natAbs : Int) = p at *
 generalize (b.num.natAbs : Int) = r at *
 generalize decide (a.num < 0) = s at *
 generalize decide (b.num < 0) = t at *
 rw [ha, hb]
 cases s <;> cases t <;> simp [Int.neg_mul, Int.mul_neg]
theorem rtimes_ok {a b : Rat} {N M : Nat} (ha : Fit N a) (hb : Fit M b) (h : N + M ≤ 1073741000) : trace_ratio_times (ratioQ a) (ratioQ b) = some (ratioQ (a * b)) ∧ Fit (N + M) (a * b) := by
 have hd : a.den * b.den ≠ 0 := mul_ne (den_ne a) (den_ne b)
 obtain ⟨a1, a2⟩ := ha
 obtain ⟨b1, b2⟩ := hb
 have l1 : nw (a.num.natAbs * b.num.natAbs) ≤ N + M := Nat.le_trans nw_mul (by omega)
 have l3 : nw (a.den * b.den) ≤ N + M := Nat.le_trans nw_mul (by omega)
 have hp := times_parts a b
 constructor
 ·unfold trace_ratio_times ratioQ
  simp only
  rw [times_ok (by omega) (by omega), times_ok (by omega) (by omega)]
  simp only [Option.bind_some]
  rw [ratioOf_ok hd (by omega) (by omega)]
  simp only [Option.bind_some]
  rw [show (decide ((a * b).num < 0), nd (a * b).num.natAbs, nd (a * b).den) = ratioQ (a * b) from rfl, Rat.mul_def', hp]
 ·rw [Rat.mul_def', hp]
  refine fit_mk hd ?_ l3
  rw [show (if (decide (a.num < 0) != decide (b.num < 0)) then -((a.num.natAbs * b.num.natAbs : Nat) : Int) else ((a.num.natAbs * b.num.natAbs : Nat) : Int)).natAbs = a.num.natAbs * b.num.natAbs by split <;> omega]
  exact l1
theorem rover_ok {a b : Rat} {N M : Nat} (ha : Fit N a) (hb : Fit M b) (hb0 : 0 < b) (h : N + M ≤ 1073741000) : trace_ratio_over (ratioQ a) (ratioQ b) = some (ratioQ (a / b)) ∧ Fit (N + M) (a / b) := by
 have hn : 0 < b.num := by
  have h1 : b.num ≠ 0 := fun e => by rw [Rat.num_eq_zero] at e; rw [e] at hb0; exact absurd hb0 (by decide)
  have h2 : 0 ≤ b.num := Rat.num_nonneg.2 (by grind)
  omega
 have hi : b⁻¹ = mkRat b.den b.num.natAbs := by
  rw [Rat.inv_def]
  have : b.num = ((b.num.natAbs : Nat) : Int) := by omega
  conv => lhs; rw [this]
  rfl
 have hfit : Fit M b⁻¹ := by
  rw [hi]
  exact fit_mk (by omega) (by rw [Int.natAbs_natCast]; exact hb.2) hb.1
 have hr : ratioQ b⁻¹ = (false, nd b.den, nd b.num.natAbs) := by
  rw [hi, ratioQ_of (by omega)]
  have hg : Nat.gcd b.den b.num.natAbs = 1 := by rw [Nat.gcd_comm]; exact b.reduced
  rw [Int.natAbs_natCast, hg, Nat.div_one, Nat.div_one, dec_false (by omega)]
 unfold trace_ratio_over
 rw [show (false, ((ratioQ b).2.2, (ratioQ b).2.1)) = ratioQ b⁻¹ from hr.symm]
 obtain ⟨h1, h2⟩ := rtimes_ok ha hfit h
 rw [h1, Rat.div_def]
 exact ⟨rfl, h2⟩
theorem sign_of {q : Rat} : (q.num < 0 ↔ q < 0) ∧ (q.num.natAbs = 0 ↔ q = 0) := by
 constructor
 ·have := @Rat.num_nonneg q
  constructor
  ·intro h
   apply Decidable.byContradiction
   intro h1
   have h2 := this.2 (by grind)
   omega
  ·intro h
   apply Decidable.byContradiction
   intro h1
   have h2 := this.1 (by omega)
   grind
 ·rw [← Rat.num_eq_zero]; omega
theorem rcmp_ok {a b : Rat} {N M : Nat} (ha : Fit N a) (hb : Fit M b) (h : N + M ≤ 1073741000) : trace_ratio_cmp (ratioQ a) (ratioQ b) = some (if a = b then 0 else if a < b then -1 else 1) := by
 unfold trace_ratio_cmp
 rw [(rminus_ok ha hb h).1]
 simp only [Option.bind_some]
 unfold ratioQ
 simp only
 obtain ⟨s1, s2⟩ := @sign_of (a - b)
 have hl : (((nd (a - b).num.natAbs).length : Int) == 0) = decide (a = b) := by
  rw [nd_len]
  have h1 : nw (a - b).num.natAbs = 0 ↔ (a - b).num.natAbs = 0 := wd_eq_zero hW
  have h2 : a - b = 0 ↔ a = b := by constructor <;> intro h <;> grind
  have h3 : (((nw (a - b).num.natAbs : Nat) : Int) = 0) ↔ a = b := by rw [← h2, ← s2]; omega
  by_cases hab : a = b
  ·rw [dec_true hab, h3.2 hab]; rfl
  ·rw [dec_false hab, beq_eq_false_iff_ne]; exact fun e => hab (h3.1 e)
 rw [hl]
 have h4 : decide ((a - b).num < 0) = decide (a < b) := decide_eq_decide.2 (by rw [s1]; constructor <;> intro h <;> grind)
 rw [h4]
 by_cases h1 : a = b
 ·rw [dec_true h1, cond_true, if_pos h1]
 ·rw [dec_false h1, cond_false, if_neg h1]
  by_cases h2 : a < b
  ·rw [dec_true h2, cond_true, if_pos h2]
  ·rw [dec_false h2, cond_false, if_neg h2]
theorem cmp_le {a b : Rat} : ((if a = b then (0 : Int) else if a < b then -1 else 1) ≤ 0) ↔ a ≤ b := by
 split
 ·constructor <;> intro <;> grind
 ·split
  ·constructor <;> intro <;> grind
  ·constructor
   ·intro h; omega
   ·intro h; grind
theorem cmp_lt {a b : Rat} : ((if a = b then (0 : Int) else if a < b then -1 else 1) < 0) ↔ a < b := by
 split
 ·constructor <;> intro <;> grind
 ·split
  ·constructor <;> intro <;> grind
  ·constructor
   ·intro h; omega
   ·intro h; grind
theorem rbetween_ok {a lo hi : Rat} {N : Nat} (ha : Fit N a) (h1 : Fit N lo) (h2 : Fit N hi) (h : N + N ≤ 1073741000) : trace_ratio_between (ratioQ a) (ratioQ lo) (ratioQ hi) = some (decide (lo ≤ a ∧ a ≤ hi)) := by
 unfold trace_ratio_between
 rw [rcmp_ok h1 ha h]
 simp only [Option.bind_some]
 by_cases hl : lo ≤ a
 ·rw [dec_true (cmp_le.2 hl), cond_true, rcmp_ok ha h2 h]
  simp only [Option.bind_some]
  congr 1
  refine decide_eq_decide.2 ?_
  rw [cmp_le]; simp [hl]
 ·rw [dec_false (fun e => hl (cmp_le.1 e)), cond_false]
  simp [hl]
end Go.Lift
