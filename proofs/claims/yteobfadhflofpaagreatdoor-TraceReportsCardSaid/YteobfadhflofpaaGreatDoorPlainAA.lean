/-
  Strings in pieces; numbers of few digits.
-/
import Derived.Test.YteobfadhflofpaaGreatDoorFunSr
import Derived.Test.YteobfadhflofpaaGreatDoorPlainB
import Derived.Test.YteobfadhflofpaaGreatDoorPlainF
import Derived.Lib.Join
import Derived.Lib.ItoaMem
import Derived.Lib.ItoaLen
set_option linter.unusedSectionVars false
set_option linter.unusedVariables false
set_option linter.unusedSimpArgs false
namespace Go.Lift
open Go
def bof (l : List UInt8) : ByteArray := ⟨l.toArray⟩
theorem bof_data (s : ByteArray) : bof s.data.toList = s := by cases s with | mk d => cases d; rfl
theorem data_bof (l : List UInt8) : (bof l).data.toList = l := rfl
theorem bof_size (l : List UInt8) : (bof l).size = l.length := rfl
theorem size_len (s : ByteArray) : s.size = s.data.toList.length := by cases s with | mk d => cases d; rfl
theorem seqb_data (a b : ByteArray) : seqb a b = (a.data.toList == b.data.toList) := by unfold seqb; rw [ByteArray.toList_eq, ByteArray.toList_eq]
def cutL (c : UInt8) : List UInt8 → Option (List UInt8 × List UInt8)
 | [] => none
 | b :: l => if b = c then some ([], l) else (cutL c l).map fun p => (b :: p.1, p.2)
theorem cutL_len {c : UInt8} : ∀ {l : List UInt8} {x y : List UInt8}, cutL c l = some (x, y) → l = x ++ c :: y
 | [], _, _, h => by cases h
 | b :: l, x, y, h => by
  unfold cutL at h
  by_cases hb : b = c
  ·rw [if_pos hb] at h; cases h; rw [hb]; rfl
  ·rw [if_neg hb] at h
   cases h1 : cutL c l with
   | none => rw [h1] at h; cases h
   | some p => rw [h1] at h; cases h; rw [cutL_len (x := p.1) (y := p.2) h1]; rfl
def pcsN (c : UInt8) : Nat → List UInt8 → List (List UInt8)
 | 0, l => [l]
 | n + 1, l => match cutL c l with
  | none => [l]
  | some p => p.1 :: pcsN c n p.2
def pcs (c : UInt8) (l : List UInt8) : List (List UInt8) := pcsN c l.length l
theorem pcsN_eq {c : UInt8} : ∀ {n : Nat} {l : List UInt8}, l.length ≤ n → pcsN c n l = pcs c l
 | n, l, h => by
  unfold pcs
  generalize hm : l.length = m at *
  induction m using Nat.strongRecOn generalizing l n with
  | _ m ih =>
   cases n with
   | zero =>
    obtain rfl : m = 0 := by omega
    rfl
   | succ n =>
    cases m with
    | zero =>
     have : l = [] := List.length_eq_zero_iff.1 hm
     subst this; rfl
    | succ m =>
     unfold pcsN
     cases h1 : cutL c l with
     | none => rfl
     | some p =>
      have hl := congrArg List.length (cutL_len (x := p.1) (y := p.2) h1)
      rw [List.length_append, List.length_cons] at hl
      show p.1 :: pcsN c n p.2 = p.1 :: pcsN c m p.2
      rw [ih p.2.length (by omega) n p.2 rfl (by omega), ih p.2.length (by omega) m p.2 rfl (by omega)]
theorem pcs_none {c : UInt8} {l : List UInt8} (h : cutL c l = none) : pcs c l = [l] := by
 unfold pcs
 cases l with
 | nil => rfl
 | cons b l => unfold pcsN; rw [List.length_cons]; simp only; rw [h]
theorem pcs_some {c : UInt8} {l x y : List UInt8} (h : cutL c l = some (x, y)) : pcs c l = x :: pcs c y := by
 have hl := congrArg List.length (cutL_len h)
 rw [List.length_append, List.length_cons] at hl
 obtain ⟨m, hm⟩ : ∃ m, l.length = m + 1 := ⟨l.length - 1, by omega⟩
 rw [show pcs c l = pcsN c l.length l from rfl, hm]
 unfold pcsN
 rw [h]
 show x :: pcsN c m y = x :: pcs c y
 rw [pcsN_eq (by omega)]
theorem pcs_ne {c : UInt8} {l : List UInt8} : pcs c l ≠ [] := by
 cases h : cutL c l with
 | none => rw [pcs_none h]; exact List.cons_ne_nil _ _
 | some p => rw [pcs_some (x := p.1) (y := p.2) h]; exact List.cons_ne_nil _ _
theorem pcs_cons {c b : UInt8} {l : List UInt8} : pcs c (b :: l) = if b = c then [] :: pcs c l else match pcs c l with | [] => [[b]] | p :: ps => (b :: p) :: ps := by
 by_cases hb : b = c
 ·rw [if_pos hb]; exact pcs_some (by unfold cutL; rw [if_pos hb])
 ·rw [if_neg hb]
  cases h : cutL c l with
  | none => rw [pcs_none h, pcs_none (by unfold cutL; rw [if_neg hb, h]; rfl)]
  | some p => rw [pcs_some (x := p.1) (y := p.2) h, pcs_some (x := b :: p.1) (y := p.2) (by unfold cutL; rw [if_neg hb, h]; rfl)]
theorem pcs_len {c : UInt8} : ∀ {l : List UInt8}, (pcs c l).length ≤ l.length + 1
 | [] => by rw [pcs_none rfl]; exact Nat.le_refl _
 | b :: l => by
  have ih := pcs_len (c := c) (l := l)
  rw [pcs_cons]
  split
  ·rw [List.length_cons, List.length_cons]; omega
  ·split
   ·simp
   ·rename_i p ps h
    rw [h] at ih
    rw [List.length_cons] at ih ⊢
    rw [List.length_cons]; omega
theorem pcs_mem {c : UInt8} : ∀ {l p : List UInt8}, p ∈ pcs c l → p.length ≤ l.length
 | [], p, h => by rw [pcs_none rfl] at h; rw [List.mem_singleton.1 h]; exact Nat.le_refl _
 | b :: l, p, h => by
  rw [pcs_cons] at h
  split at h
  ·rcases List.mem_cons.1 h with h | h
   ·rw [h]; simp
   ·have := pcs_mem (c := c) (l := l) h; rw [List.length_cons]; omega
  ·split at h
   ·rw [List.mem_singleton.1 h]; simp
   ·rename_i q ps hq
    rcases List.mem_cons.1 h with h | h
    ·have := pcs_mem (c := c) (l := l) (p := q) (by rw [hq]; exact List.mem_cons_self)
     rw [h, List.length_cons, List.length_cons]; omega
    ·have := pcs_mem (c := c) (l := l) (p := p) (by rw [hq]; exact List.mem_cons_of_mem _ h)
     rw [List.length_cons]; omega
theorem index_cut {c : UInt8} : ∀ {l : List UInt8}, (cutL c l = none ∧ Lib.index l [c] = -1) ∨ ∃ i : Nat, i < l.length ∧ Lib.index l [c] = i ∧ cutL c l = some (l.take i, l.drop (i + 1))
 | [] => Or.inl ⟨rfl, by simp [Lib.index]⟩
 | b :: l => by
  by_cases hb : b = c
  ·refine Or.inr ⟨0, by simp, ?_, ?_⟩
   ·rw [Lib.index]; simp [List.isPrefixOf, hb]
   ·unfold cutL; rw [if_pos hb]; rfl
  ·have hp : ([c] : List UInt8).isPrefixOf (b :: l) = false := by simp [List.isPrefixOf, Ne.symm hb]
   have hix : Lib.index (b :: l) [c] = if Lib.index l [c] == -1 then -1 else Lib.index l [c] + 1 := by rw [Lib.index, hp]; simp
   rcases index_cut (c := c) (l := l) with ⟨h1, h2⟩ | ⟨i, h0, h1, h2⟩
   ·refine Or.inl ⟨?_, ?_⟩
    ·unfold cutL; rw [if_neg hb, h1]; rfl
    ·rw [hix, h2]; rfl
   ·refine Or.inr ⟨i + 1, ?_, ?_, ?_⟩
    ·rw [List.length_cons]; omega
    ·rw [hix, h1, if_neg (by intro hc; have := beq_iff_eq.1 hc; omega)]; omega
    ·unfold cutL; rw [if_neg hb, h2]; rfl
theorem split_pcs (c : UInt8) : ∀ (k : Nat) (s : ByteArray), Lib.countB s ⟨#[c]⟩ = k → Lib.splitB ⟨#[c]⟩ 0 k s = (pcs c s.data.toList).map bof
 | k, s, hk => by
  have hs1 : (⟨#[c]⟩ : ByteArray).size = 1 := rfl
  rcases index_cut (c := c) (l := s.data.toList) with ⟨h1, h2⟩ | ⟨i, h0, h1, h2⟩
  ·rw [Lib.splitB_miss _ _ _ _ h2, pcs_none h1, List.map_cons, bof_data]; rfl
  ·have hh := Lib.countB_hit s ⟨#[c]⟩ i (by rw [hs1]; exact Nat.le_refl _) h1
   rw [hh] at hk
   obtain ⟨m, rfl⟩ : ∃ m, k = m + 1 := ⟨k - 1, by omega⟩
   rw [Lib.splitB_hit _ _ _ _ i h1, pcs_some h2, List.map_cons, split_pcs c m _ (by rw [hs1] at hk ⊢; omega), Nat.add_zero, hs1]
   have e1 : s.extract 0 i = bof (s.data.toList.take i) := by rw [← bof_data (s.extract 0 i), Lib.extract_from_zero]
   have e2 : (s.extract (i + 1) s.size).data.toList = s.data.toList.drop (i + 1) := Lib.extract_to_end s (i + 1)
   rw [e1, e2]
theorem splitF_ok {c : UInt8} {s : ByteArray} (h : s.size ≤ 4294967280) : splitF ⟨#[c]⟩ s = some ((pcs c s.data.toList).map bof) := by
 unfold splitF
 rw [decide_eq_true h, show ((⟨#[c]⟩ : ByteArray).size == 1) = true from rfl]
 show some _ = _
 rw [split_pcs c _ s rfl]
theorem cutF_ok {c : UInt8} {s : ByteArray} (h : s.size ≤ 4294967280) : cutF ⟨#[c]⟩ s = some (match cutL c s.data.toList with | none => (s, ByteArray.empty, false) | some p => (bof p.1, bof p.2, true)) := by
 unfold cutF
 rw [decide_eq_true h, show ((⟨#[c]⟩ : ByteArray).size == 1) = true from rfl]
 show some _ = _
 have hd : (⟨#[c]⟩ : ByteArray).data.toList = [c] := rfl
 rw [hd]
 unfold Lib.cut
 rcases index_cut (c := c) (l := s.data.toList) with ⟨h1, h2⟩ | ⟨i, h0, h1, h2⟩
 ·rw [h2, if_neg (by omega), h1]
  show some (bof s.data.toList, bof [], false) = _
  rw [bof_data]; rfl
 ·rw [h1, if_pos (by omega), h2]
  simp [bof]
end Go.Lift
namespace Go.Lift
open Go
def noC (c : UInt8) (l : List UInt8) : Prop := ∀ b, b ∈ l → b ≠ c
theorem cutL_no {c : UInt8} : ∀ {l : List UInt8}, noC c l → cutL c l = none
 | [], _ => rfl
 | b :: l, h => by
  unfold cutL
  rw [if_neg (h b List.mem_cons_self), cutL_no (fun x hx => h x (List.mem_cons_of_mem _ hx))]; rfl
theorem cutL_mid {c : UInt8} {r : List UInt8} : ∀ {l : List UInt8}, noC c l → cutL c (l ++ c :: r) = some (l, r)
 | [], _ => by show cutL c (c :: r) = _; unfold cutL; rw [if_pos rfl]
 | b :: l, h => by
  show cutL c (b :: (l ++ c :: r)) = _
  unfold cutL
  rw [if_neg (h b List.mem_cons_self), cutL_mid (fun x hx => h x (List.mem_cons_of_mem _ hx))]; rfl
def isD (b : UInt8) : Bool := decide (48 ≤ b.toNat) && decide (b.toNat ≤ 57)
def valL : Nat → List UInt8 → Nat
 | a, [] => a
 | a, b :: l => valL (a * 10 + (b.toNat - 48)) l
theorem valL_snoc {b : UInt8} : ∀ {l : List UInt8} {a : Nat}, valL a (l ++ [b]) = valL a l * 10 + (b.toNat - 48)
 | [], _ => rfl
 | _ :: l, _ => valL_snoc (l := l)
def numL (l : List UInt8) : Option Nat := if l ≠ [] ∧ l.length ≤ 7 ∧ l.all isD = true ∧ (l.length = 1 ∨ l.head? ≠ some 48) then some (valL 0 l) else none
theorem isD_iff {b : UInt8} : isD b = true ↔ 48 ≤ b.toNat ∧ b.toNat ≤ 57 := by
 unfold isD; rw [Bool.and_eq_true, decide_eq_true_iff, decide_eq_true_iff]
theorem valL_lt : ∀ {l : List UInt8} {a k : Nat}, l.all isD = true → a < 10 ^ k → valL a l < 10 ^ (k + l.length)
 | [], _, _, _, h => h
 | b :: l, a, k, hd, h => by
  rw [List.all_cons, Bool.and_eq_true] at hd
  have hb := isD_iff.1 hd.1
  rw [List.length_cons, show k + (l.length + 1) = (k + 1) + l.length by omega]
  exact valL_lt hd.2 (by rw [Nat.pow_succ]; omega)
theorem numL_lt {l : List UInt8} {n : Nat} (h : numL l = some n) : n < 10000000 := by
 unfold numL at h
 split at h
 ·rename_i hc
  cases h
  have := valL_lt (a := 0) (k := 0) hc.2.2.1 (by decide)
  rw [Nat.zero_add] at this
  exact Nat.lt_of_lt_of_le this (Nat.le_trans (Nat.pow_le_pow_right (by decide) hc.2.1) (by decide))
 ·cases h
theorem digits_num : ∀ (v : Nat), (Lib.decDigits v ≠ [] ∧ (Lib.decDigits v).all isD = true ∧ ((Lib.decDigits v).length = 1 ∨ (Lib.decDigits v).head? ≠ some 48) ∧ valL 0 (Lib.decDigits v) = v) ∧ (1 ≤ v → (Lib.decDigits v).head? ≠ some 48)
 | v => by
  have hdig : ∀ k, k < 10 → isD (UInt8.ofNat (48 + k)) = true ∧ (UInt8.ofNat (48 + k)).toNat - 48 = k ∧ (1 ≤ k → UInt8.ofNat (48 + k) ≠ 48) := by decide
  by_cases h : v < 10
  ·rw [Lib.decDigits_one h]
   obtain ⟨d1, d2, d3⟩ := hdig v h
   refine ⟨⟨List.cons_ne_nil _ _, by rw [List.all_cons, d1]; rfl, Or.inl rfl, ?_⟩, fun h1 e => d3 h1 (by simpa using e)⟩
   show 0 * 10 + ((UInt8.ofNat (48 + v)).toNat - 48) = v
   omega
  ·obtain ⟨⟨i1, i2, i3, i4⟩, i5⟩ := digits_num (v / 10)
   obtain ⟨d1, d2, d3⟩ := hdig (v % 10) (by omega)
   have hh : (Lib.decDigits (v / 10) ++ [UInt8.ofNat (48 + v % 10)]).head? ≠ some 48 := by
    have := i5 (by omega)
    cases hx : Lib.decDigits (v / 10) with
    | nil => exact absurd hx i1
    | cons x l => rw [hx] at this; exact this
   rw [Lib.decDigits, dif_neg h]
   refine ⟨⟨by simp, by rw [List.all_append, i2, List.all_cons, d1]; rfl, Or.inr hh, ?_⟩, fun _ => hh⟩
   rw [valL_snoc, i4, d2]
   omega
termination_by v => v
decreasing_by omega
theorem digits_val : ∀ (k : Nat) {l : List UInt8}, l.length = k → l ≠ [] → l.all isD = true → (l.length = 1 ∨ l.head? ≠ some 48) → Lib.decDigits (valL 0 l) = l ∧ (l.head? ≠ some 48 → 1 ≤ valL 0 l)
 | 0, l, hk, hn, _, _ => absurd (List.length_eq_zero_iff.1 hk) hn
 | k + 1, l, hk, hn, hd, hh => by
  have hback : ∀ b : UInt8, isD b = true → UInt8.ofNat (48 + (b.toNat - 48)) = b := fun b hb => by
   have := isD_iff.1 hb
   rw [Nat.add_sub_cancel' this.1]; simp
  obtain ⟨u, b, rfl⟩ : ∃ u b, l = u ++ [b] := ⟨l.dropLast, l.getLast hn, (List.dropLast_concat_getLast hn).symm⟩
  rw [List.all_append, Bool.and_eq_true, List.all_cons, Bool.and_eq_true] at hd
  have hb := isD_iff.1 hd.2.1
  rw [List.length_append, List.length_singleton] at hk hh
  cases u with
  | nil =>
   refine ⟨?_, fun e => ?_⟩
   ·show Lib.decDigits (0 * 10 + (b.toNat - 48)) = [b]
    rw [Nat.zero_mul, Nat.zero_add, Lib.decDigits_one (by omega), hback b hd.2.1]
   ·show 1 ≤ 0 * 10 + (b.toNat - 48)
    have : b ≠ 48 := fun h => e (by rw [h]; rfl)
    have : b.toNat ≠ 48 := fun h => this (UInt8.toNat_inj.1 h)
    omega
  | cons x u =>
   have hx : (x :: u).head? ≠ some 48 := by
    rcases hh with hh | hh
    ·rw [List.length_cons] at hh; omega
    ·exact hh
   obtain ⟨i1, i2⟩ := digits_val k (l := x :: u) (by omega) (List.cons_ne_nil _ _) hd.1 (Or.inr hx)
   have := i2 hx
   rw [valL_snoc, Lib.decDigits, dif_neg (by omega), show (valL 0 (x :: u) * 10 + (b.toNat - 48)) / 10 = valL 0 (x :: u) by omega, show (valL 0 (x :: u) * 10 + (b.toNat - 48)) % 10 = b.toNat - 48 by omega, i1, hback b hd.2.1]
   exact ⟨rfl, fun _ => by omega⟩
theorem parse_ok : ∀ {l : List UInt8} {a k : Nat}, l.all isD = true → a < 10 ^ k → k + l.length ≤ 12 → Lib.parseUint10 a l = .ok (valL a l)
 | [], _, _, _, _, _ => rfl
 | b :: l, a, k, hd, h, hk => by
  rw [List.all_cons, Bool.and_eq_true] at hd
  rw [List.length_cons] at hk
  have hb := isD_iff.1 hd.1
  have : (10 : Nat) ^ k ≤ 10 ^ 12 := Nat.pow_le_pow_right (by decide) (by omega)
  rw [show (10 : Nat) ^ 12 = 1000000000000 from rfl] at this
  unfold Lib.parseUint10
  rw [if_pos hb, if_neg (by omega), if_neg (by omega)]
  exact parse_ok (k := k + 1) hd.2 (by rw [Nat.pow_succ]; omega) (by omega)
theorem numL_iff {l : List UInt8} {n : Nat} : numL l = some n ↔ l = Lib.decDigits n ∧ l.length ≤ 7 := by
 constructor
 ·intro h
  unfold numL at h
  split at h
  ·rename_i hc
   cases h
   exact ⟨(digits_val l.length rfl hc.1 hc.2.2.1 hc.2.2.2).1.symm, hc.2.1⟩
  ·cases h
 ·rintro ⟨rfl, h⟩
  obtain ⟨⟨d1, d2, d3, d4⟩, _⟩ := digits_num n
  unfold numL
  rw [if_pos ⟨d1, h, d2, d3⟩, d4]
theorem atoi_num {l : List UInt8} {n : Nat} (h : numL l = some n) : atoiN l = ((n : Int), true) := by
 have hlt := numL_lt h
 unfold numL at h
 split at h
 ·rename_i hc
  cases h
  obtain ⟨h1, h2, h3, h4⟩ := hc
  unfold atoiN
  have : Lib.atoiAll l = .ok ((valL 0 l : Nat) : Int) := by
   cases l with
   | nil => exact absurd rfl h1
   | cons b r =>
    have hb := h3
    rw [List.all_cons, Bool.and_eq_true] at hb
    have hb := isD_iff.1 hb.1
    unfold Lib.atoiAll
    simp only []
    rw [if_neg (show ¬ (b.toNat = 43 ∨ b.toNat = 45) by omega)]
    unfold Lib.parseMag
    rw [if_neg (List.cons_ne_nil _ _), parse_ok (k := 0) h3 (by decide) (by omega)]
    simp only []
    rw [if_neg (by omega), if_neg (by omega), if_neg (by omega)]
  rw [this]
 ·cases h
theorem itoa_nat (n : Nat) : Lib.itoa (n : Int) = Lib.decDigits n := Lib.itoa_nonneg n
theorem Itoa_ok {n : Int} (h1 : -9223372036854775808 ≤ n) (h2 : n ≤ 9223372036854775807) : strconv_Itoa n = some (bof (Lib.itoa n)) := by
 unfold strconv_Itoa; rw [decide_eq_true h1, decide_eq_true h2]; rfl
end Go.Lift
namespace Go.Lift
open Go
end Go.Lift
namespace Go.Lift
open Go
def mpL {X Y : Type} (g : X → Option Y) : List X → Option (List Y)
 | [] => some []
 | x :: l => match g x with
  | none => none
  | some y => match mpL g l with
   | none => none
   | some ys => some (y :: ys)
theorem mpL_cons {X Y : Type} {g : X → Option Y} {x : X} {l : List X} : mpL g (x :: l) = match g x with
  | none => none
  | some y => match mpL g l with
   | none => none
   | some ys => some (y :: ys) := rfl
theorem mpL_map {X Y Z : Type} {f : X → Y} {g : Y → Option Z} : ∀ {l : List X}, mpL g (l.map f) = mpL (fun x => g (f x)) l
 | [] => rfl
 | x :: l => by
  show (match g (f x) with | none => none | some y => match mpL g (l.map f) with | none => none | some ys => some (y :: ys)) = _
  rw [mpL_map (l := l)]; rfl
theorem mpL_len {X Y : Type} {g : X → Option Y} : ∀ {l : List X} {ys : List Y}, mpL g l = some ys → ys.length = l.length
 | [], _, h => by cases h; rfl
 | x :: l, ys, h => by
  unfold mpL at h
  split at h
  ·cases h
  ·split at h
   ·cases h
   ·rename_i h2; cases h; rw [List.length_cons, List.length_cons, mpL_len h2]
theorem mpL_mem {X Y : Type} {g : X → Option Y} : ∀ {l : List X} {ys : List Y}, mpL g l = some ys → ∀ y, y ∈ ys → ∃ x, x ∈ l ∧ g x = some y
 | [], _, h => by cases h; intro y hy; cases hy
 | x :: l, ys, h => by
  unfold mpL at h
  split at h
  ·cases h
  ·rename_i y0 h1
   split at h
   ·cases h
   ·rename_i h2
    cases h
    intro y hy
    rcases List.mem_cons.1 hy with rfl | hy
    ·exact ⟨x, List.mem_cons_self, h1⟩
    ·obtain ⟨x', a, b⟩ := mpL_mem h2 y hy
     exact ⟨x', List.mem_cons_of_mem _ a, b⟩
theorem loopL_all {X Y S R : Type} {F : X → S → Option (S ⊕ R)} {g : X → Option Y} {put : List Y → S} {r0 : R} {N : Nat} : ∀ {l : List X} {out : List Y}, out.length + l.length ≤ N →
  (∀ x, x ∈ l → ∀ out : List Y, out.length < N → F x (put out) = some (match g x with | some y => .inl (put (out ++ [y])) | none => .inr r0)) →
  loopL F l (put out) = some (match mpL g l with | some ys => .inl (put (out ++ ys)) | none => .inr r0)
 | [], out, _, _ => by
  show some (Sum.inl (put out)) = some (Sum.inl (put (out ++ [])))
  rw [List.append_nil]
 | x :: l, out, h, hF => by
  rw [List.length_cons] at h
  unfold loopL
  rw [hF x List.mem_cons_self out (by omega), Option.bind_some]
  unfold mpL
  cases hg : g x with
  | none => rfl
  | some y =>
   show loopL F l (put (out ++ [y])) = _
   rw [loopL_all (by rw [List.length_append, List.length_singleton]; omega) (fun z hz => hF z (List.mem_cons_of_mem _ hz))]
   cases mpL g l with
   | none => rfl
   | some ys => simp only []; rw [List.append_assoc]; rfl
theorem loopT_all {X Y S R : Type} {F : X → S → Option (S ⊕ R)} {g : X → Option Y} {put : List Y → S} {r0 : R} {l : List X}
  (hF : ∀ x, x ∈ l → ∀ out : List Y, out.length < l.length → F x (put out) = some (match g x with | some y => .inl (put (out ++ [y])) | none => .inr r0)) :
  loopT F l (put []) = some (match mpL g l with | some ys => .inl (put ys) | none => .inr r0) := by
 have htot : Total F l (put []) := by
  intro pre x s' hlen hsub hx hs'
  have h1 := loopL_all (F := F) (g := g) (put := put) (r0 := r0) (N := l.length) (l := pre) (out := []) (by rw [List.length_nil]; omega) (fun z hz out ho => hF z (hsub z hz) out ho)
  rw [hs'] at h1
  cases ha : mpL g pre with
  | none => rw [ha] at h1; cases h1
  | some ys =>
   rw [ha] at h1
   have he : s' = put ys := by injection h1 with h1; injection h1
   rw [he, hF x hx ys (by rw [mpL_len ha]; exact hlen)]
   exact ⟨_, rfl⟩
 unfold loopT
 rw [if_pos htot, loopL_all (N := l.length) (by rw [List.length_nil]; omega) hF]
 rfl
theorem loopM_all {X Y S R : Type} {f : S → Option (S ⊕ R)} {g : X → Option Y} {xs : List X} (st : Nat → List Y → S) (fin : List Y → R) (e0 : R)
  (hstep : ∀ (pre post : List X) (x : X) (out : List Y), xs = pre ++ x :: post → out.length = pre.length → f (st pre.length out) = some (match g x with | some y => .inl (st (pre.length + 1) (out ++ [y])) | none => .inr e0))
  (hend : ∀ out, out.length = xs.length → f (st xs.length out) = some (.inr (fin out))) :
  loopM f (st 0 []) = some (match mpL g xs with | some ys => fin ys | none => e0) := by
 refine loopM_list_eq (X := X) (fun rest s => ∃ (pre : List X) (out : List Y), xs = pre ++ rest ∧ out.length = pre.length ∧ s = st pre.length out ∧ (match mpL g rest with | some ys => fin (out ++ ys) | none => e0) = (match mpL g xs with | some ys => fin ys | none => e0)) ?_ ?_ (l := xs) ⟨[], [], rfl, rfl, rfl, rfl⟩
 ·rintro x rest _ ⟨pre, out, h1, h2, rfl, h3⟩
  rw [hstep pre rest x out h1 h2]
  rw [mpL_cons] at h3
  cases hg : g x with
  | none => rw [hg] at h3; exact Or.inr (by rw [← h3])
  | some y =>
   rw [hg] at h3
   refine Or.inl ⟨_, rfl, pre ++ [x], out ++ [y], by rw [h1]; simp, by rw [List.length_append, List.length_append, h2]; rfl, by rw [List.length_append]; rfl, ?_⟩
   rw [← h3]
   cases mpL g rest with
   | none => rfl
   | some ys => simp only []; rw [List.append_assoc]; rfl
 ·rintro _ ⟨pre, out, h1, h2, rfl, h3⟩
  rw [List.append_nil] at h1
  subst h1
  rw [hend out h2, ← h3]
  show _ = some (Sum.inr (fin (out ++ [])))
  rw [List.append_nil]
theorem mpL_snoc {X Y : Type} {g : X → Option Y} {x : X} {y : Y} (hx : g x = some y) : ∀ {l : List X} {ys : List Y}, mpL g l = some ys → mpL g (l ++ [x]) = some (ys ++ [y])
 | [], _, h => by
  cases h
  show mpL g [x] = some [y]
  rw [mpL_cons, hx]; rfl
 | z :: l, ys, h => by
  rw [mpL_cons] at h
  rw [List.cons_append, mpL_cons]
  cases hz : g z with
  | none => rw [hz] at h; cases h
  | some w =>
   rw [hz] at h
   cases hl : mpL g l with
   | none => rw [hl] at h; cases h
   | some ws =>
    rw [hl] at h
    cases h
    rw [mpL_snoc hx hl]
    rfl
theorem loopM_allG {X Y S R : Type} {f : S → Option (S ⊕ R)} {g : X → Option Y} {xs : List X} (st : Nat → List Y → S) (fin : List Y → R) (e0 : R)
  (hstep : ∀ (pre post : List X) (x : X) (out : List Y), xs = pre ++ x :: post → mpL g pre = some out → f (st pre.length out) = some (match g x with | some y => .inl (st (pre.length + 1) (out ++ [y])) | none => .inr e0))
  (hend : ∀ out, mpL g xs = some out → f (st xs.length out) = some (.inr (fin out))) :
  loopM f (st 0 []) = some (match mpL g xs with | some ys => fin ys | none => e0) := by
 refine loopM_list_eq (X := X) (fun rest s => ∃ (pre : List X) (out : List Y), xs = pre ++ rest ∧ mpL g pre = some out ∧ s = st pre.length out ∧ (match mpL g rest with | some ys => fin (out ++ ys) | none => e0) = (match mpL g xs with | some ys => fin ys | none => e0)) ?_ ?_ (l := xs) ⟨[], [], rfl, rfl, rfl, rfl⟩
 ·rintro x rest _ ⟨pre, out, h1, h2, rfl, h3⟩
  rw [hstep pre rest x out h1 h2]
  rw [mpL_cons] at h3
  cases hg : g x with
  | none => rw [hg] at h3; exact Or.inr (by rw [← h3])
  | some y =>
   rw [hg] at h3
   refine Or.inl ⟨_, rfl, pre ++ [x], out ++ [y], by rw [h1]; simp, mpL_snoc hg h2, by rw [List.length_append]; rfl, ?_⟩
   rw [← h3]
   cases mpL g rest with
   | none => rfl
   | some ys => simp only []; rw [List.append_assoc]; rfl
 ·rintro _ ⟨pre, out, h1, h2, rfl, h3⟩
  rw [List.append_nil] at h1
  subst h1
  rw [hend out h2, ← h3]
  show _ = some (Sum.inr (fin (out ++ [])))
  rw [List.append_nil]
def numI (w : List UInt8) : Option Int := (numL w).map fun n => (n : Int)
def numsL (c : UInt8) (l : List UInt8) : Option (List Int) := mpL numI (pcs c l)
theorem atoiAll_range {l : List UInt8} {v : Int} (h : Lib.atoiAll l = .ok v) : -9223372036854775808 ≤ v ∧ v ≤ 9223372036854775807 := by
 unfold Lib.atoiAll at h
 split at h
 ·cases h
 ·simp only at h
  split at h
  ·cases h
  ·cases h
  ·split at h
   ·cases h
   ·split at h
    ·cases h
    ·rename_i h1 h2
     injection h with h
     subst h
     split <;> omega
theorem atoiN_range {l : List UInt8} (h : (atoiN l).2 = true) : -9223372036854775808 ≤ (atoiN l).1 ∧ (atoiN l).1 ≤ 9223372036854775807 := by
 unfold atoiN at h ⊢
 split at h
 ·rename_i v hv; exact atoiAll_range hv
 ·cases h
 ·cases h
theorem parsed_ok {s : ByteArray} {c : UInt8} (h : s.size ≤ 60000) : trace_parsed s ⟨#[c]⟩ = some (match numsL c s.data.toList with | some l => (l, true) | none => ([], false)) := by
 have hsz := size_len s
 unfold trace_parsed
 rw [splitF_ok (by omega), Option.bind_some]
 have hlen := pcs_len (c := c) (l := s.data.toList)
 have hl := loopT_all (X := ByteArray) (Y := Int) (S := List Int) (R := List Int × Bool) (F := fun w out =>
  (strconv_Atoi w).bind fun (r : Int × Bool) =>
  (bif ((!r.2) || (decide (r.1 < 0))) then some true else
   (strconv_Itoa r.1).bind fun (t : ByteArray) =>
   some (!seqb t w)).bind fun (c : Bool) =>
  bif (c || (decide ((ByteArray.size w : Int) > 7))) then
   Option.map Sum.inr (
    some ([], false))
  else
   (app out [r.1]).bind fun (t_1 : List Int) =>
   some (.inl t_1)) (g := fun w => numI w.data.toList) (put := id) (r0 := ([], false)) (l := (pcs c s.data.toList).map bof) (by
  intro w hw out ho
  obtain ⟨p, hp, rfl⟩ := List.mem_map.1 hw
  have hps := pcs_mem hp
  rw [List.length_map] at ho
  have ha : strconv_Atoi (bof p) = some (atoiN p) := by
   unfold strconv_Atoi atoiF
   rw [dec_true (show (bof p).size ≤ 4294967280 by rw [bof_size]; omega)]; rfl
  simp only [ha, Option.bind_some, data_bof]
  unfold numI
  cases hn : numL p with
  | some n =>
   obtain ⟨h1, h2⟩ := numL_iff.1 hn
   have hlt := numL_lt hn
   rw [atoi_num hn]
   have hself : seqb (bof p) (bof p) = true := by rw [seqb_data]; exact beq_self_eq_true _
   rw [dec_false (show ¬ (n : Int) < 0 by omega), Itoa_ok (by omega) (by omega), itoa_nat, ← h1]
   show ((some (!seqb (bof p) (bof p))).bind _) = _
   rw [hself, Option.bind_some, Bool.not_true, Bool.false_or, dec_false (show ¬ (((bof p).size : Nat) : Int) > 7 by rw [bof_size]; omega), cond_false, app_ok (by show out.length + 1 ≤ _; omega)]
   rfl
  | none =>
   have key : ∃ b, ((bif ((!(atoiN p).2) || (decide ((atoiN p).1 < 0))) then some true else
     (strconv_Itoa (atoiN p).1).bind fun (t : ByteArray) => some (!seqb t (bof p))) = some b) ∧ (b || (decide ((ByteArray.size (bof p) : Int) > 7))) = true := by
    cases h1 : (atoiN p).2 with
    | false => exact ⟨true, rfl, rfl⟩
    | true =>
     by_cases h2 : (atoiN p).1 < 0
     ·exact ⟨true, by rw [dec_true h2]; rfl, rfl⟩
     ·rw [dec_false h2]
      have hr := atoiN_range h1
      rw [Itoa_ok hr.1 hr.2]
      refine ⟨!seqb (bof (Lib.itoa (atoiN p).1)) (bof p), rfl, ?_⟩
      rw [seqb_data, data_bof, data_bof]
      cases h3 : (Lib.itoa (atoiN p).1 == p) with
      | false => rfl
      | true =>
       obtain ⟨v, hv⟩ : ∃ v : Nat, (atoiN p).1 = (v : Int) := ⟨(atoiN p).1.toNat, by omega⟩
       rw [hv, itoa_nat, beq_iff_eq] at h3
       by_cases h7 : p.length ≤ 7
       ·rw [numL_iff.2 ⟨h3.symm, h7⟩] at hn; cases hn
       ·rw [bof_size, dec_true (show ((p.length : Nat) : Int) > 7 by omega)]; rfl
   obtain ⟨b, h1, h2⟩ := key
   rw [h1, Option.bind_some, h2, cond_true]
   rfl)
 rw [show (id ([] : List Int)) = [] from rfl] at hl
 rw [hl, Option.bind_some, mpL_map]
 simp only [data_bof]
 rw [show mpL (fun x => numI x) (pcs c s.data.toList) = numsL c s.data.toList from rfl]
 cases numsL c s.data.toList <;> rfl
end Go.Lift
