/-
  Words and numbers on both sides.
-/
import Derived.Test.YtggnjngdmadbaaaGreatDoorSlF
import Derived.Test.YtggnjngdmadbaaaGreatDoorPlainA
import Derived.Lib.Join
import Derived.Test.YtggnjngdmadbaaaGreatDoorPlainB
import Derived.Lib.ItoaMem
import Derived.Lib.ItoaLen
set_option linter.unusedSectionVars false
set_option linter.unusedVariables false
set_option linter.unusedSimpArgs false
namespace Go.Lift
open Go
def bof (l : List UInt8) : ByteArray := ⟨l.toArray⟩
theorem ykh (s : ByteArray) : bof s.data.toList = s := by cases s with | mk d => cases d; rfl
theorem ykf (l : List UInt8) : (bof l).data.toList = l := rfl
theorem yjv (l : List UInt8) : (bof l).size = l.length := rfl
theorem yjk (s : ByteArray) : s.size = s.data.toList.length := by cases s with | mk d => cases d; rfl
theorem ykc (a b : ByteArray) : seqb a b = (a.data.toList == b.data.toList) := by unfold seqb; rw [ByteArray.toList_eq, ByteArray.toList_eq]
def cutL (c : UInt8) : List UInt8 → Option (List UInt8 × List UInt8)
 | [] => none
 | b :: l => if b = c then some ([], l) else (cutL c l).map fun p => (b :: p.1, p.2)
theorem ylj {c : UInt8} : ∀ {l : List UInt8} {x y : List UInt8}, cutL c l = some (x, y) → l = x ++ c :: y
 | [], _, _, h => by cases h
 | b :: l, x, y, h => by
  unfold cutL at h
  by_cases hb : b = c
  ·rw [if_pos hb] at h; cases h; rw [hb]; rfl
  ·rw [if_neg hb] at h
   cases h1 : cutL c l with
   | none => rw [h1] at h; cases h
   | some p => rw [h1] at h; cases h; rw [ylj (x := p.1) (y := p.2) h1]; rfl
def pcsN (c : UInt8) : Nat → List UInt8 → List (List UInt8)
 | 0, l => [l]
 | n + 1, l => match cutL c l with
  | none => [l]
  | some p => p.1 :: pcsN c n p.2
def pcs (c : UInt8) (l : List UInt8) : List (List UInt8) := pcsN c l.length l
theorem yo0 {c : UInt8} : ∀ {n : Nat} {l : List UInt8}, l.length ≤ n → pcsN c n l = pcs c l
 | n, l, h => by
  unfold pcs
  generalize hm : l.length = m at *
  induction m using Nat.strongRecOn generalizing l n with
  | _ m ih =>
   cases n with
   | zero =>
    obtain rfl : m = 0 := by omega
    rfl
   | succ n =>
    cases m with
    | zero =>
     have : l = [] := List.length_eq_zero_iff.1 hm
     subst this; rfl
    | succ m =>
     unfold pcsN
     cases h1 : cutL c l with
     | none => rfl
     | some p =>
      have hl := congrArg List.length (ylj (x := p.1) (y := p.2) h1)
      rw [List.length_append, List.length_cons] at hl
      show p.1 :: pcsN c n p.2 = p.1 :: pcsN c m p.2
      rw [ih p.2.length (by omega) n p.2 rfl (by omega), ih p.2.length (by omega) m p.2 rfl (by omega)]
theorem yk5 {c : UInt8} {l : List UInt8} (h : cutL c l = none) : pcs c l = [l] := by
 unfold pcs
 cases l with
 | nil => rfl
 | cons b l => unfold pcsN; rw [List.length_cons]; simp only; rw [h]
theorem yjl {c : UInt8} {l x y : List UInt8} (h : cutL c l = some (x, y)) : pcs c l = x :: pcs c y := by
 have hl := congrArg List.length (ylj h)
 rw [List.length_append, List.length_cons] at hl
 obtain ⟨m, hm⟩ : ∃ m, l.length = m + 1 := ⟨l.length - 1, by omega⟩
 rw [show pcs c l = pcsN c l.length l from rfl, hm]
 unfold pcsN
 rw [h]
 show x :: pcsN c m y = x :: pcs c y
 rw [yo0 (by omega)]
theorem pcs_ne {c : UInt8} {l : List UInt8} : pcs c l ≠ [] := by
 cases h : cutL c l with
 | none => rw [yk5 h]; exact List.cons_ne_nil _ _
 | some p => rw [yjl (x := p.1) (y := p.2) h]; exact List.cons_ne_nil _ _
theorem ynb {c b : UInt8} {l : List UInt8} : pcs c (b :: l) = if b = c then [] :: pcs c l else match pcs c l with | [] => [[b]] | p :: ps => (b :: p) :: ps := by
 by_cases hb : b = c
 ·rw [if_pos hb]; exact yjl (by unfold cutL; rw [if_pos hb])
 ·rw [if_neg hb]
  cases h : cutL c l with
  | none => rw [yk5 h, yk5 (by unfold cutL; rw [if_neg hb, h]; rfl)]
  | some p => rw [yjl (x := p.1) (y := p.2) h, yjl (x := b :: p.1) (y := p.2) (by unfold cutL; rw [if_neg hb, h]; rfl)]
theorem yqo {c : UInt8} : ∀ {l : List UInt8}, (pcs c l).length ≤ l.length + 1
 | [] => by rw [yk5 rfl]; exact Nat.le_refl _
 | b :: l => by
  have ih := yqo (c := c) (l := l)
  rw [ynb]
  split
  ·rw [List.length_cons, List.length_cons]; omega
  ·split
   ·simp
   ·rename_i p ps h
    rw [h] at ih
    rw [List.length_cons] at ih ⊢
    rw [List.length_cons]; omega
theorem yl3 {c : UInt8} : ∀ {l p : List UInt8}, p ∈ pcs c l → p.length ≤ l.length
 | [], p, h => by rw [yk5 rfl] at h; rw [List.mem_singleton.1 h]; exact Nat.le_refl _
 | b :: l, p, h => by
  rw [ynb] at h
  split at h
  ·rcases List.mem_cons.1 h with h | h
   ·rw [h]; simp
   ·have := yl3 (c := c) (l := l) h; rw [List.length_cons]; omega
  ·split at h
   ·rw [List.mem_singleton.1 h]; simp
   ·rename_i q ps hq
    rcases List.mem_cons.1 h with h | h
    ·have := yl3 (c := c) (l := l) (p := q) (by rw [hq]; exact List.mem_cons_self)
     rw [h, List.length_cons, List.length_cons]; omega
    ·have := yl3 (c := c) (l := l) (p := p) (by rw [hq]; exact List.mem_cons_of_mem _ h)
     rw [List.length_cons]; omega
theorem ylu {c : UInt8} : ∀ {l : List UInt8}, (cutL c l = none ∧ Lib.index l [c] = -1) ∨ ∃ i : Nat, i < l.length ∧ Lib.index l [c] = i ∧ cutL c l = some (l.take i, l.drop (i + 1))
 | [] => Or.inl ⟨rfl, by simp [Lib.index]⟩
 | b :: l => by
  by_cases hb : b = c
  ·refine Or.inr ⟨0, by simp, ?_, ?_⟩
   ·rw [Lib.index]; simp [List.isPrefixOf, hb]
   ·unfold cutL; rw [if_pos hb]; rfl
  ·have hp : ([c] : List UInt8).isPrefixOf (b :: l) = false := by simp [List.isPrefixOf, Ne.symm hb]
   have hix : Lib.index (b :: l) [c] = if Lib.index l [c] == -1 then -1 else Lib.index l [c] + 1 := by rw [Lib.index, hp]; simp
   rcases ylu (c := c) (l := l) with ⟨h1, h2⟩ | ⟨i, h0, h1, h2⟩
   ·refine Or.inl ⟨?_, ?_⟩
    ·unfold cutL; rw [if_neg hb, h1]; rfl
    ·rw [hix, h2]; rfl
   ·refine Or.inr ⟨i + 1, ?_, ?_, ?_⟩
    ·rw [List.length_cons]; omega
    ·rw [hix, h1, if_neg (by intro hc; have := beq_iff_eq.1 hc; omega)]; omega
    ·unfold cutL; rw [if_neg hb, h2]; rfl
theorem yln (c : UInt8) : ∀ (k : Nat) (s : ByteArray), Lib.countB s ⟨#[c]⟩ = k → Lib.splitB ⟨#[c]⟩ 0 k s = (pcs c s.data.toList).map bof
 | k, s, hk => by
  have hs1 : (⟨#[c]⟩ : ByteArray).size = 1 := rfl
  rcases ylu (c := c) (l := s.data.toList) with ⟨h1, h2⟩ | ⟨i, h0, h1, h2⟩
  ·rw [Lib.splitB_miss _ _ _ _ h2, yk5 h1, List.map_cons, ykh]; rfl
  ·have hh := Lib.countB_hit s ⟨#[c]⟩ i (by rw [hs1]; exact Nat.le_refl _) h1
   rw [hh] at hk
   obtain ⟨m, rfl⟩ : ∃ m, k = m + 1 := ⟨k - 1, by omega⟩
   rw [Lib.splitB_hit _ _ _ _ i h1, yjl h2, List.map_cons, yln c m _ (by rw [hs1] at hk ⊢; omega), Nat.add_zero, hs1]
   have e1 : s.extract 0 i = bof (s.data.toList.take i) := by rw [← ykh (s.extract 0 i), Lib.extract_from_zero]
   have e2 : (s.extract (i + 1) s.size).data.toList = s.data.toList.drop (i + 1) := Lib.extract_to_end s (i + 1)
   rw [e1, e2]
theorem ymn {c : UInt8} {s : ByteArray} (h : s.size ≤ 4294967280) : y06 ⟨#[c]⟩ s = some ((pcs c s.data.toList).map bof) := by
 unfold y06
 rw [decide_eq_true h, show ((⟨#[c]⟩ : ByteArray).size == 1) = true from rfl]
 show some _ = _
 rw [yln c _ s rfl]
end Go.Lift
namespace Go.Lift
open Go
def noC (c : UInt8) (l : List UInt8) : Prop := ∀ b, b ∈ l → b ≠ c
theorem ym4 {c : UInt8} : ∀ {l : List UInt8}, noC c l → cutL c l = none
 | [], _ => rfl
 | b :: l, h => by
  unfold cutL
  rw [if_neg (h b List.mem_cons_self), ym4 (fun x hx => h x (List.mem_cons_of_mem _ hx))]; rfl
theorem yk8 {c : UInt8} {r : List UInt8} : ∀ {l : List UInt8}, noC c l → cutL c (l ++ c :: r) = some (l, r)
 | [], _ => by show cutL c (c :: r) = _; unfold cutL; rw [if_pos rfl]
 | b :: l, h => by
  show cutL c (b :: (l ++ c :: r)) = _
  unfold cutL
  rw [if_neg (h b List.mem_cons_self), yk8 (fun x hx => h x (List.mem_cons_of_mem _ hx))]; rfl
theorem yky {s : ByteArray} {pre post : List UInt8} {b : UInt8} (h : s.data.toList = pre ++ b :: post) : sget s (pre.length : Int) = (b.toNat : Int) := by
 unfold sget
 have : s.data.getD pre.length 0 = b := by
  have hg : s.data[pre.length]? = some b := by
   rw [← Array.getElem?_toList, h]; simp
  rw [Array.getD_eq_getD_getElem?, hg]; rfl
 rw [Int.toNat_natCast, this]
theorem yl6 {s : ByteArray} {pre mid post : List UInt8} (h : s.data.toList = pre ++ mid ++ post) : s.extract pre.length (pre.length + mid.length) = bof mid := by
 rw [Lib.extract_eq, h, List.append_assoc, List.drop_left, Nat.add_sub_cancel_left, List.take_left]; rfl
theorem Cut_ok {s : ByteArray} {c : UInt8} (h : s.size ≤ 60000) : ylc s (c.toNat : Int) = some ((pcs c s.data.toList).map bof) := by
 have hsz := yjk s
 unfold ylc
 have hloop : ∃ r : (List ByteArray) × Int, z2d (S := (List ByteArray) × Int × Int) (R := (List ByteArray) × Int) (fun s_1 =>
  let out : (List ByteArray) := s_1.1
  let from_ : Int := s_1.2.1
  let i : Int := s_1.2.2
  bif decide (i < (ByteArray.size s : Int)) then
   chk (decide ((0 : Int) ≤ i) && decide (i < (ByteArray.size s : Int))) (
    (bif ((sget s i) == (c.toNat : Int)) then
     chk (decide ((0 : Int) ≤ from_) && decide ((from_ : Int) ≤ i) && decide (i ≤ (ByteArray.size s : Int))) (
      (app out [ByteArray.extract s (Int.toNat from_) (Int.toNat i)]).bind fun (t : List ByteArray) =>
      some (t, wi64 (i + 1)))
    else
     some (out, from_)).bind fun (j : (List ByteArray) × Int) =>
    let out_1 : (List ByteArray) := j.1
    let from__1 : Int := j.2
    some (.inl (out_1, from__1, wi64 (i + 1))))
  else
   some (.inr (out, from_))) ([], 0, 0) = some r ∧ ∃ (outL : List (List UInt8)) (pre mid : List UInt8), r = (outL.map bof, (pre.length : Int)) ∧ s.data.toList = pre ++ mid ∧ outL.length ≤ pre.length ∧ pcs c s.data.toList = outL ++ [mid] := by
  refine zx8 (X := UInt8) (fun rest st => ∃ (outL : List (List UInt8)) (pre mid : List UInt8), st = (outL.map bof, (pre.length : Int), ((pre.length + mid.length : Nat) : Int)) ∧ s.data.toList = pre ++ mid ++ rest ∧ outL.length ≤ pre.length ∧ noC c mid ∧ pcs c s.data.toList = outL ++ pcs c (mid ++ rest)) _ ?_ ?_ (l := s.data.toList) ⟨[], [], [], rfl, by simp, by simp, (fun b hb => by cases hb), by simp⟩
  ·rintro b rest _ ⟨outL, pre, mid, rfl, h1, h2, h3, h4⟩
   refine Or.inl ?_
   have hl := congrArg List.length h1
   rw [List.length_append, List.length_append, List.length_cons] at hl
   have hg : sget s ((pre.length + mid.length : Nat) : Int) = (b.toNat : Int) := by rw [← List.length_append]; exact yky h1
   simp only [hg]
   rw [z07 (show ((pre.length + mid.length : Nat) : Int) < (s.size : Int) by omega), cond_true, z18 (zi5 (z07 (by omega)) rfl)]
   by_cases hb : b = c
   ·subst hb
    rw [beq_self_eq_true, cond_true, z18 (zi5 (zi5 (z07 (by omega)) (z07 (by omega))) (z07 (by omega))), Int.toNat_natCast, Int.toNat_natCast, yl6 h1, zlc (by rw [List.length_map, List.length_singleton]; omega), Option.bind_some, Option.bind_some]
    refine ⟨_, rfl, outL ++ [mid], pre ++ mid ++ [b], [], ?_, ?_, ?_, (fun x hx => by cases hx), ?_⟩
    ·rw [List.map_append, List.length_append, List.length_append, List.length_singleton, List.length_nil, z0j (by omega) (by omega)]
     show (_, _, _) = (_, _, _)
     rw [Nat.add_zero]
     rfl
    ·rw [h1]; simp
    ·rw [List.length_append, List.length_append, List.length_append, List.length_singleton, List.length_singleton]; omega
    ·rw [h4, yjl (yk8 h3)]; simp
   ·have hne : ((b.toNat : Int) == (c.toNat : Int)) = false := by
     rw [beq_eq_false_iff_ne]; intro e; exact hb (UInt8.toNat_inj.1 (by omega))
    rw [hne, cond_false, Option.bind_some]
    refine ⟨_, rfl, outL, pre, mid ++ [b], ?_, ?_, h2, ?_, ?_⟩
    ·rw [List.length_append, List.length_singleton, z0j (by omega) (by omega)]
     rfl
    ·rw [h1]; simp
    ·intro x hx
     rcases List.mem_append.1 hx with hx | hx
     ·exact h3 x hx
     ·rw [List.mem_singleton.1 hx]; exact hb
    ·rw [h4]; simp
  ·rintro _ ⟨outL, pre, mid, rfl, h1, h2, h3, h4⟩
   have hl := congrArg List.length h1
   rw [List.length_append, List.length_append, List.length_nil] at hl
   simp only []
   rw [z0v (show ¬ ((pre.length + mid.length : Nat) : Int) < (s.size : Int) by omega), cond_false]
   refine ⟨_, rfl, outL, pre, mid, rfl, by rw [h1, List.append_nil], h2, ?_⟩
   rw [h4, List.append_nil, yk5 (ym4 h3)]
 obtain ⟨_, e, outL, pre, mid, rfl, h1, h2, h3⟩ := hloop
 rw [e, Option.bind_some]
 have hl := congrArg List.length h1
 rw [List.length_append] at hl
 have hx : s.extract pre.length s.size = bof mid := by
  have := yl6 (s := s) (pre := pre) (mid := mid) (post := []) (by rw [h1, List.append_nil])
  rwa [← hl, ← hsz] at this
 rw [z18 (zi5 (zi5 (z07 (by omega)) (z07 (by omega))) (z07 (by omega))), Int.toNat_natCast, Int.toNat_natCast, hx, zlc (by rw [List.length_map, List.length_singleton]; omega), Option.bind_some, h3, List.map_append]
 rfl
def isD (b : UInt8) : Bool := decide (48 ≤ b.toNat) && decide (b.toNat ≤ 57)
def valL : Nat → List UInt8 → Nat
 | a, [] => a
 | a, b :: l => valL (a * 10 + (b.toNat - 48)) l
theorem yl1 {b : UInt8} : ∀ {l : List UInt8} {a : Nat}, valL a (l ++ [b]) = valL a l * 10 + (b.toNat - 48)
 | [], _ => rfl
 | _ :: l, _ => yl1 (l := l)
def numL (l : List UInt8) : Option Nat := if l ≠ [] ∧ l.length ≤ 6 ∧ l.all isD = true ∧ (l.length = 1 ∨ l.head? ≠ some 48) then some (valL 0 l) else none
theorem yju {b : UInt8} : isD b = true ↔ 48 ≤ b.toNat ∧ b.toNat ≤ 57 := by
 unfold isD; rw [Bool.and_eq_true, decide_eq_true_iff, decide_eq_true_iff]
theorem yly : ∀ {l : List UInt8} {a k : Nat}, l.all isD = true → a < 10 ^ k → valL a l < 10 ^ (k + l.length)
 | [], _, _, _, h => h
 | b :: l, a, k, hd, h => by
  rw [List.all_cons, Bool.and_eq_true] at hd
  have hb := yju.1 hd.1
  rw [List.length_cons, show k + (l.length + 1) = (k + 1) + l.length by omega]
  exact yly hd.2 (by rw [Nat.pow_succ]; omega)
theorem yo1 {l : List UInt8} {n : Nat} (h : numL l = some n) : n < 1000000 := by
 unfold numL at h
 split at h
 ·rename_i hc
  cases h
  have := yly (a := 0) (k := 0) hc.2.2.1 (by decide)
  rw [Nat.zero_add] at this
  exact Nat.lt_of_lt_of_le this (Nat.le_trans (Nat.pow_le_pow_right (by decide) hc.2.1) (by decide))
 ·cases h
theorem ykn : ∀ (v : Nat), (Lib.decDigits v ≠ [] ∧ (Lib.decDigits v).all isD = true ∧ ((Lib.decDigits v).length = 1 ∨ (Lib.decDigits v).head? ≠ some 48) ∧ valL 0 (Lib.decDigits v) = v) ∧ (1 ≤ v → (Lib.decDigits v).head? ≠ some 48)
 | v => by
  have hdig : ∀ k, k < 10 → isD (UInt8.ofNat (48 + k)) = true ∧ (UInt8.ofNat (48 + k)).toNat - 48 = k ∧ (1 ≤ k → UInt8.ofNat (48 + k) ≠ 48) := by decide
  by_cases h : v < 10
  ·rw [Lib.decDigits_one h]
   obtain ⟨d1, d2, d3⟩ := hdig v h
   refine ⟨⟨List.cons_ne_nil _ _, by rw [List.all_cons, d1]; rfl, Or.inl rfl, ?_⟩, fun h1 e => d3 h1 (by simpa using e)⟩
   show 0 * 10 + ((UInt8.ofNat (48 + v)).toNat - 48) = v
   omega
  ·obtain ⟨⟨i1, i2, i3, i4⟩, i5⟩ := ykn (v / 10)
   obtain ⟨d1, d2, d3⟩ := hdig (v % 10) (by omega)
   have hh : (Lib.decDigits (v / 10) ++ [UInt8.ofNat (48 + v % 10)]).head? ≠ some 48 := by
    have := i5 (by omega)
    cases hx : Lib.decDigits (v / 10) with
    | nil => exact absurd hx i1
    | cons x l => rw [hx] at this; exact this
   rw [Lib.decDigits, dif_neg h]
   refine ⟨⟨by simp, by rw [List.all_append, i2, List.all_cons, d1]; rfl, Or.inr hh, ?_⟩, fun _ => hh⟩
   rw [yl1, i4, d2]
   omega
termination_by v => v
decreasing_by omega
theorem ykm : ∀ (k : Nat) {l : List UInt8}, l.length = k → l ≠ [] → l.all isD = true → (l.length = 1 ∨ l.head? ≠ some 48) → Lib.decDigits (valL 0 l) = l ∧ (l.head? ≠ some 48 → 1 ≤ valL 0 l)
 | 0, l, hk, hn, _, _ => absurd (List.length_eq_zero_iff.1 hk) hn
 | k + 1, l, hk, hn, hd, hh => by
  have hback : ∀ b : UInt8, isD b = true → UInt8.ofNat (48 + (b.toNat - 48)) = b := fun b hb => by
   have := yju.1 hb
   rw [Nat.add_sub_cancel' this.1]; simp
  obtain ⟨u, b, rfl⟩ : ∃ u b, l = u ++ [b] := ⟨l.dropLast, l.getLast hn, (List.dropLast_concat_getLast hn).symm⟩
  rw [List.all_append, Bool.and_eq_true, List.all_cons, Bool.and_eq_true] at hd
  have hb := yju.1 hd.2.1
  rw [List.length_append, List.length_singleton] at hk hh
  cases u with
  | nil =>
   refine ⟨?_, fun e => ?_⟩
   ·show Lib.decDigits (0 * 10 + (b.toNat - 48)) = [b]
    rw [Nat.zero_mul, Nat.zero_add, Lib.decDigits_one (by omega), hback b hd.2.1]
   ·show 1 ≤ 0 * 10 + (b.toNat - 48)
    have : b ≠ 48 := fun h => e (by rw [h]; rfl)
    have : b.toNat ≠ 48 := fun h => this (UInt8.toNat_inj.1 h)
    omega
  | cons x u =>
   have hx : (x :: u).head? ≠ some 48 := by
    rcases hh with hh | hh
    ·rw [List.length_cons] at hh; omega
    ·exact hh
   obtain ⟨i1, i2⟩ := ykm k (l := x :: u) (by omega) (List.cons_ne_nil _ _) hd.1 (Or.inr hx)
   have := i2 hx
   rw [yl1, Lib.decDigits, dif_neg (by omega), show (valL 0 (x :: u) * 10 + (b.toNat - 48)) / 10 = valL 0 (x :: u) by omega, show (valL 0 (x :: u) * 10 + (b.toNat - 48)) % 10 = b.toNat - 48 by omega, i1, hback b hd.2.1]
   exact ⟨rfl, fun _ => by omega⟩
theorem ym7 : ∀ {l : List UInt8} {a k : Nat}, l.all isD = true → a < 10 ^ k → k + l.length ≤ 12 → Lib.parseUint10 a l = .ok (valL a l)
 | [], _, _, _, _, _ => rfl
 | b :: l, a, k, hd, h, hk => by
  rw [List.all_cons, Bool.and_eq_true] at hd
  rw [List.length_cons] at hk
  have hb := yju.1 hd.1
  have : (10 : Nat) ^ k ≤ 10 ^ 12 := Nat.pow_le_pow_right (by decide) (by omega)
  rw [show (10 : Nat) ^ 12 = 1000000000000 from rfl] at this
  unfold Lib.parseUint10
  rw [if_pos hb, if_neg (by omega), if_neg (by omega)]
  exact ym7 (k := k + 1) hd.2 (by rw [Nat.pow_succ]; omega) (by omega)
theorem ylg {l : List UInt8} {n : Nat} : numL l = some n ↔ l = Lib.decDigits n ∧ l.length ≤ 6 := by
 constructor
 ·intro h
  unfold numL at h
  split at h
  ·rename_i hc
   cases h
   exact ⟨(ykm l.length rfl hc.1 hc.2.2.1 hc.2.2.2).1.symm, hc.2.1⟩
  ·cases h
 ·rintro ⟨rfl, h⟩
  obtain ⟨⟨d1, d2, d3, d4⟩, _⟩ := ykn n
  unfold numL
  rw [if_pos ⟨d1, h, d2, d3⟩, d4]
theorem ymb {l : List UInt8} {n : Nat} (h : numL l = some n) : yki l = ((n : Int), true) := by
 have hlt := yo1 h
 unfold numL at h
 split at h
 ·rename_i hc
  cases h
  obtain ⟨h1, h2, h3, h4⟩ := hc
  unfold yki
  have : Lib.atoiAll l = .ok ((valL 0 l : Nat) : Int) := by
   cases l with
   | nil => exact absurd rfl h1
   | cons b r =>
    have hb := h3
    rw [List.all_cons, Bool.and_eq_true] at hb
    have hb := yju.1 hb.1
    unfold Lib.atoiAll
    simp only []
    rw [if_neg (show ¬ (b.toNat = 43 ∨ b.toNat = 45) by omega)]
    unfold Lib.parseMag
    rw [if_neg (List.cons_ne_nil _ _), ym7 (k := 0) h3 (by decide) (by omega)]
    simp only []
    rw [if_neg (by omega), if_neg (by omega), if_neg (by omega)]
  rw [this]
 ·cases h
theorem ykd (n : Nat) : Lib.itoa (n : Int) = Lib.decDigits n := Lib.itoa_nonneg n
theorem yn8 {n : Int} (h1 : -9223372036854775808 ≤ n) (h2 : n ≤ 9223372036854775807) : strconv_Itoa n = some (bof (Lib.itoa n)) := by
 unfold strconv_Itoa; rw [decide_eq_true h1, decide_eq_true h2]; rfl
end Go.Lift
namespace Go.Lift
open Go
theorem ynr {b : UInt8} (h : isD b = true) : wu8 ((b.toNat : Int) - 48) = ((b.toNat - 48 : Nat) : Int) := by
 have hb := yju.1 h
 have : wu8 ((b.toNat : Int) - 48) = ((b.toNat : Int) - 48) % 256 := ynl .u8 rfl _
 omega
theorem ym9 {s : ByteArray} (hs : s.size ≤ 60000) {rest pre : List UInt8} {n k : Nat} (h : s.data.toList = pre ++ rest) (hn : n < 10 ^ k) (hk : k + rest.length ≤ 8) :
  z2d (S := Int × Int) (R := (Int) ⊕ (Int × Bool)) (fun s_1 =>
   let n : Int := s_1.1
   let i : Int := s_1.2
   bif decide (i < (ByteArray.size s : Int)) then
    chk (decide ((0 : Int) ≤ i) && decide (i < (ByteArray.size s : Int))) (
     (bif decide ((sget s i) < 48) then some true else
      chk (decide ((0 : Int) ≤ i) && decide (i < (ByteArray.size s : Int))) (
       some (decide ((sget s i) > 57)))).bind fun (c_2 : Bool) =>
     bif c_2 then
      Option.map Sum.inr (Option.map Sum.inr (
       some (0, false)))
     else
      chk (decide ((0 : Int) ≤ i) && decide (i < (ByteArray.size s : Int))) (
       let n_1 : Int := wi64 ((wi64 (10 * n)) + (wi64 (wu8 ((sget s i) - 48))))
       some (.inl (n_1, wi64 (i + 1)))))
   else
    some (.inr (.inl n))) ((n : Int), (pre.length : Int)) = some (if rest.all isD = true then .inl ((valL n rest : Nat) : Int) else .inr (0, false)) := by
 have hsz := yjk s
 refine z58 (X := UInt8) (fun r st => ∃ (p : List UInt8) (m j : Nat), st = ((m : Int), (p.length : Int)) ∧ s.data.toList = p ++ r ∧ m < 10 ^ j ∧ j + r.length ≤ 8 ∧ (if r.all isD = true then (.inl ((valL m r : Nat) : Int) : Int ⊕ (Int × Bool)) else .inr (0, false)) = if rest.all isD = true then .inl ((valL n rest : Nat) : Int) else .inr (0, false)) ?_ ?_ ⟨pre, n, k, rfl, h, hn, hk, rfl⟩
 ·rintro b r _ ⟨p, m, j, rfl, h1, h2, h3, h4⟩
  have hl := congrArg List.length h1
  rw [List.length_append, List.length_cons] at hl
  rw [List.length_cons] at h3
  have hg : sget s (p.length : Int) = (b.toNat : Int) := yky h1
  have hck : (decide ((0 : Int) ≤ (p.length : Int)) && decide ((p.length : Int) < (s.size : Int))) = true := zi5 (z07 (by omega)) (z07 (by omega))
  have hj : (10 : Nat) ^ j ≤ 10 ^ 8 := Nat.pow_le_pow_right (by decide) (by omega)
  rw [show (10 : Nat) ^ 8 = 100000000 from rfl] at hj
  simp only [hg]
  rw [z07 (show (p.length : Int) < (s.size : Int) by omega), cond_true, z18 (zi5 (z07 (by omega)) rfl)]
  have hck' : (decide ((0 : Int) ≤ (p.length : Int)) && true) = true := zi5 (z07 (by omega)) rfl
  rw [z18 hck', z18 hck']
  by_cases hd : isD b = true
  ·have hb := yju.1 hd
   refine Or.inl ⟨(((m * 10 + (b.toNat - 48) : Nat) : Int), ((p ++ [b]).length : Int)), ?_, p ++ [b], m * 10 + (b.toNat - 48), j + 1, rfl, by rw [h1]; simp, by rw [Nat.pow_succ]; omega, by omega, ?_⟩
   ·rw [z0v (show ¬ (b.toNat : Int) < 48 by omega), cond_false, z0v (show ¬ (b.toNat : Int) > 57 by omega), Option.bind_some, cond_false, ynr hd, z0j (x := ((b.toNat - 48 : Nat) : Int)) (by omega) (by omega), z0j (x := 10 * (m : Int)) (by omega) (by omega), z0j (by omega) (by omega), z0j (by omega) (by omega), List.length_append, List.length_singleton]
    congr 3
    omega
   ·rw [← h4]
    have e1 : (b :: r).all isD = r.all isD := by rw [List.all_cons, hd, Bool.true_and]
    rw [e1]; rfl
  ·refine Or.inr ?_
   have e1 : (b :: r).all isD = false := by rw [List.all_cons]; simp [hd]
   rw [← h4, e1]
   have hor : ¬ (48 ≤ b.toNat ∧ b.toNat ≤ 57) := fun e => hd (yju.2 e)
   by_cases h48 : (b.toNat : Int) < 48
   ·rw [z07 h48, cond_true, Option.bind_some, cond_true]; rfl
   ·rw [z0v h48, cond_false, z07 (show (b.toNat : Int) > 57 by omega), Option.bind_some, cond_true]; rfl
 ·rintro _ ⟨p, m, j, rfl, h1, h2, h3, h4⟩
  have hl := congrArg List.length h1
  rw [List.length_append, List.length_nil] at hl
  simp only []
  rw [z0v (show ¬ (p.length : Int) < (s.size : Int) by omega), cond_false, ← h4]
  rfl
def W64I (n : Int) : Prop := -9223372036854775808 ≤ n ∧ n ≤ 9223372036854775807
theorem yjp {a b : List UInt8} (h : a.length + b.length ≤ 4294967296) : cat (bof a) (bof b) = some (bof (a ++ b)) := by
 unfold cat
 rw [yjv, yjv, if_pos h]
 congr 1
theorem yjm {n : Int} (h : W64I n) : (Lib.itoa n).length ≤ 21 := Lib.itoa_length_le n h.1 h.2
theorem ynt {n : Int} (h1 : -9223372036854775808 < n) (h2 : n < 9223372036854775808) : zla n = some (n.natAbs : Int) := by
 unfold zla imax
 rw [z0j (by omega) (by omega)]
 simp only [Option.some.injEq]
 split <;> omega
def yli (m : Nat) : List UInt8 := if m = 0 then [] else Lib.decDigits m
theorem ymk {m : Nat} (h : m ≠ 0) : yli m = yli (m / 10) ++ [UInt8.ofNat (48 + m % 10)] := by
 unfold yli
 rw [if_neg h]
 by_cases h1 : m < 10
 ·rw [if_pos (by omega), Lib.decDigits_one h1, Nat.mod_eq_of_lt h1]; rfl
 ·rw [if_neg (show m / 10 ≠ 0 by omega)]
  rw [show Lib.decDigits m = Lib.decDigits (m / 10) ++ [UInt8.ofNat (48 + m % 10)] by rw [Lib.decDigits, dif_neg h1]]
theorem yk9 {n : Int} (h : W64I n) : yje n = some (bof (Lib.itoa n)) := by
 obtain ⟨h1, h2⟩ := h
 unfold yje
 by_cases h0 : n = 0
 ·subst h0
  rw [show ((0 : Int) == 0) = true from rfl, cond_true, show Lib.itoa (0 : Int) = Lib.decDigits 0 from ykd 0, Lib.decDigits_one (by decide)]
  rfl
 ·rw [show (n == 0) = false by rw [beq_eq_false_iff_ne]; exact h0, cond_false]
  have hlen := yjm (n := n) ⟨h1, h2⟩
  have hit : Lib.itoa n = (if n < 0 then [45] else []) ++ yli n.natAbs := by
   unfold Lib.itoa yli
   by_cases hn : n < 0
   ·rw [if_pos hn, if_pos hn, if_neg (by omega)]; rfl
   ·rw [if_neg hn, if_neg hn, if_neg (by omega), show n.toNat = n.natAbs by omega]; rfl
  have hd : (yli n.natAbs).length ≤ 21 := by
   have := congrArg List.length hit
   rw [List.length_append] at this; omega
  have hloop : ∃ r, z2d (S := Int × ByteArray) (R := ByteArray) (fun s =>
   let n_1 : Int := s.1
   let s_1 : ByteArray := s.2
   bif (n_1 != 0) then
    chk (10 != 0) (
     (zla (Int.tmod n_1 10)).bind fun (t : Int) =>
     (cat (sofb [wu8 (wi64 (48 + t))]) s_1).bind fun t_1 =>
     chk (10 != 0) (
      let t_2 : Int := wi64 (Int.tdiv n_1 10)
      some (.inl (t_2, t_1))))
   else
    some (.inr s_1)) (n, ByteArray.empty) = some r ∧ r = bof (yli n.natAbs) := by
   refine yn3 (fun s => ∃ acc, s.2 = bof acc ∧ yli s.1.natAbs ++ acc = yli n.natAbs ∧ s.1.natAbs ≤ n.natAbs) (fun s => s.1.natAbs) _ ?_ ⟨[], rfl, List.append_nil _, Nat.le_refl _⟩
   rintro ⟨m, _⟩ ⟨acc, rfl, a1, a2⟩
   simp only at a1 a2 ⊢
   by_cases hm : m = 0
   ·subst hm
    exact Or.inr ⟨bof acc, rfl, by rw [← a1]; rfl⟩
   ·refine Or.inl ⟨(Int.tdiv m 10, bof (UInt8.ofNat (48 + m.natAbs % 10) :: acc)), ?_, ⟨_, rfl, ?_, ?_⟩, ?_⟩
    ·have hsz : zla (Int.tmod m 10) = some ((m.natAbs % 10 : Nat) : Int) := by
      have hq : (Int.tmod m 10).natAbs = m.natAbs % 10 := Int.natAbs_tmod m 10
      rw [ynt (by omega) (by omega), hq]
     have hlt : m.natAbs % 10 < 10 := Nat.mod_lt _ (by decide)
     have hb : wu8 (wi64 (48 + ((m.natAbs % 10 : Nat) : Int))) = ((48 + m.natAbs % 10 : Nat) : Int) := by
      rw [z0j (by omega) (by omega)]
      have : wu8 (48 + ((m.natAbs % 10 : Nat) : Int)) = (48 + ((m.natAbs % 10 : Nat) : Int)) % 256 := ynl .u8 rfl _
      omega
     have hs : sofb [((48 + m.natAbs % 10 : Nat) : Int)] = bof [UInt8.ofNat (48 + m.natAbs % 10)] := rfl
     have hal := congrArg List.length a1
     rw [List.length_append] at hal
     have htd : -9223372036854775808 ≤ Int.tdiv m 10 ∧ Int.tdiv m 10 ≤ 9223372036854775807 := by
      have hq : (Int.tdiv m 10).natAbs = m.natAbs / 10 := Int.natAbs_tdiv m 10
      omega
     rw [show (m != 0) = true by rw [bne_iff_ne]; exact hm, cond_true, z18 (by rfl), hsz, Option.bind_some, hb, hs, yjp (by rw [List.length_singleton]; omega), Option.bind_some, z18 (by rfl), z0j htd.1 (by omega)]
     rfl
    ·have hq : (Int.tdiv m 10).natAbs = m.natAbs / 10 := Int.natAbs_tdiv m 10
     rw [← a1, ymk (show m.natAbs ≠ 0 by omega), hq, List.append_assoc]
     rfl
    ·have hq : (Int.tdiv m 10).natAbs = m.natAbs / 10 := Int.natAbs_tdiv m 10
     simp only
     omega
    ·have hq : (Int.tdiv m 10).natAbs = m.natAbs / 10 := Int.natAbs_tdiv m 10
     simp only
     omega
  obtain ⟨r, e, rfl⟩ := hloop
  by_cases hn : n < 0
  ·rw [z07 hn, cond_true, Option.bind_some, e, Option.bind_some, show bytes [45] = bof [45] from rfl, yjp (by rw [List.length_singleton]; omega), Option.bind_some, hit, if_pos hn]
  ·rw [z0v hn, cond_false, Option.bind_some, e, Option.bind_some, show ByteArray.empty = bof [] from rfl, yjp (by rw [List.length_nil]; omega), Option.bind_some, hit, if_neg hn]
end Go.Lift
namespace Go.Lift
open Go
theorem yll {l : List UInt8} {v : Int} (h : Lib.atoiAll l = .ok v) : -9223372036854775808 ≤ v ∧ v ≤ 9223372036854775807 := by
 unfold Lib.atoiAll at h
 split at h
 ·cases h
 ·simp only at h
  split at h
  ·cases h
  ·cases h
  ·split at h
   ·cases h
   ·split at h
    ·cases h
    ·rename_i h1 h2
     injection h with h
     subst h
     split <;> omega
theorem ym5 {l : List UInt8} (h : (yki l).2 = true) : -9223372036854775808 ≤ (yki l).1 ∧ (yki l).1 ≤ 9223372036854775807 := by
 unfold yki at h ⊢
 split at h
 ·rename_i v hv; exact yll hv
 ·cases h
 ·cases h
theorem yo4 {l : List (List UInt8)} {sep : List UInt8} (h1 : l.length ≤ 4294967296) (h2 : (Lib.join l sep).length ≤ 4294967296) : strings_Join (l.map bof) (bof sep) = some (bof (Lib.join l sep)) := by
 unfold strings_Join
 have hm : (l.map bof).map (·.data.toList) = l := by rw [List.map_map]; exact List.map_id l
 rw [hm, ykf, List.length_map, z07 h1, z07 h2]
 rfl
theorem yn0 {s : ByteArray} (hs : s.size ≤ 60000) : ∃ r : Int × Bool, z6x s = some r ∧ (∀ n, numL s.data.toList = some n → r = ((n : Int), true)) ∧ (numL s.data.toList = none → r.2 = false) := by
 have hsz := yjk s
 have ha : strconv_Atoi s = some (yki s.data.toList) := by
  show yfc s = _
  unfold yfc
  rw [z07 (show s.size ≤ 4294967280 by omega), cond_true]
 unfold z6x
 rw [ha, Option.bind_some]
 by_cases hc : ((yki s.data.toList).2 && decide ((yki s.data.toList).1 ≥ 0)) = true
 ·rw [hc, cond_true]
  rw [Bool.and_eq_true, decide_eq_true_eq] at hc
  have hr := ym5 hc.1
  rw [yn8 hr.1 hr.2, Option.bind_some, Option.bind_some]
  refine ⟨_, rfl, fun n hn => ?_, fun hn => ?_⟩
  ·have h1 := ymb hn
   obtain ⟨h2, h3⟩ := ylg.1 hn
   rw [h1]
   show ((n : Int), (seqb (bof (Lib.itoa (n : Int))) s && decide ((s.size : Int) ≤ 6))) = ((n : Int), true)
   rw [ykc, ykf, ykd, ← h2, beq_self_eq_true, z07 (by omega)]
   rfl
  ·show (seqb (bof (Lib.itoa (yki s.data.toList).1)) s && decide ((s.size : Int) ≤ 6)) = false
   rw [Bool.eq_false_iff]
   intro h
   rw [Bool.and_eq_true, decide_eq_true_eq, ykc, ykf, beq_iff_eq] at h
   obtain ⟨v, hv⟩ : ∃ v : Nat, (yki s.data.toList).1 = (v : Int) := ⟨(yki s.data.toList).1.toNat, by omega⟩
   rw [hv, ykd] at h
   rw [ylg.2 ⟨h.1.symm, by omega⟩] at hn
   cases hn
 ·rw [Bool.not_eq_true] at hc
  rw [hc, cond_false, Option.bind_some]
  refine ⟨_, rfl, fun n hn => ?_, fun _ => rfl⟩
  rw [ymb hn] at hc
  simp only [Bool.true_and, decide_eq_false_iff_not] at hc
  omega
theorem yk6 {l : List UInt8} : numL (45 :: l) = none := by
 unfold numL
 rw [if_neg]
 rintro ⟨_, _, h, _⟩
 rw [List.all_cons, Bool.and_eq_true] at h
 exact absurd h.1 (by decide)
theorem yl4 {s : ByteArray} (hs : s.size ≤ 60000) : ∃ r : Int × Bool, yj7 s = some r ∧ (∀ n, numL s.data.toList = some n → r = ((n : Int), true)) ∧ (numL s.data.toList = none → r.2 = false) := by
 have hsz := yjk s
 have hN : ∃ r : Int × Bool, yk3 s 6 = some r ∧ (∀ n, numL s.data.toList = some n → r = ((n : Int), true)) ∧ (numL s.data.toList = none → (r.2 && decide (r.1 ≥ 0)) = false) := by
  unfold yk3
  cases hl : s.data.toList with
  | nil =>
   rw [hl, List.length_nil] at hsz
   rw [hsz]
   refine ⟨(0, false), rfl, fun n hn => ?_, fun _ => rfl⟩
   unfold numL at hn
   rw [if_neg (fun e => e.1 rfl)] at hn
   cases hn
  | cons b l =>
   have h0 : sget s 0 = (b.toNat : Int) := yky (pre := []) hl
   rw [hl, List.length_cons] at hsz
   rw [z07 (show (s.size : Int) > 0 by omega), cond_true, z18 (zi5 (z07 (by omega)) rfl), h0, Option.bind_some]
   by_cases hb : b = 45
   ·subst hb
    rw [show (((45 : UInt8).toNat : Int) == 45) = true from rfl, cond_true, Option.bind_some]
    cases hc : (((ByteArray.size s : Int) == 1) || (decide ((wi64 ((ByteArray.size s : Int) - 1)) > 6))) with
    | true =>
     rw [cond_true, Option.bind_some, cond_true]
     refine ⟨_, rfl, fun n hn => ?_, fun _ => rfl⟩
     rw [yk6] at hn; cases hn
    | false =>
     rw [Bool.or_eq_false_iff, beq_eq_false_iff_ne, decide_eq_false_iff_not, z0j (by omega) (by omega)] at hc
     have hll := ym9 hs (pre := [45]) (rest := l) (n := 0) (k := 0) hl (by decide) (by omega)
     rw [cond_false, z18 (zi5 (z07 (by omega)) (z07 (by omega))), Option.bind_some]
     cases h48 : ((sget s 1 == 48) && (decide ((ByteArray.size s : Int) > 1))) with
     | true =>
      rw [cond_true]
      refine ⟨_, rfl, fun n hn => ?_, fun _ => rfl⟩
      rw [yk6] at hn; cases hn
     | false =>
      rw [cond_false]
      rw [show ((0 : Nat) : Int) = 0 from rfl, show (([45] : List UInt8).length : Int) = 1 from rfl] at hll
      rw [hll, Option.bind_some]
      by_cases hd : l.all isD = true
      ·rw [if_pos hd]
       simp only []
       rw [show ((1 : Int) == 1) = true from rfl, cond_true, Option.bind_some]
       refine ⟨_, rfl, fun n hn => ?_, fun _ => ?_⟩
       ·rw [yk6] at hn; cases hn
       ·have hne : l ≠ [] := fun e => by rw [e] at hsz; simp only [List.length_nil] at hsz; omega
        have hh : l.head? ≠ some 48 := by
         cases l with
         | nil => exact absurd rfl hne
         | cons x r =>
          intro e
          have ex : x = 48 := by simpa using e
          subst ex
          have h1 : sget s 1 = ((48 : UInt8).toNat : Int) := yky (pre := [45]) (post := r) hl
          rw [h1, z07 (show (ByteArray.size s : Int) > 1 by omega)] at h48
          cases h48
        have hv := (ykm l.length rfl hne hd (Or.inr hh)).2 hh
        have hlt := yly (a := 0) (k := 0) hd (by decide)
        rw [Nat.zero_add] at hlt
        have hlt : valL 0 l < 10 ^ 6 := Nat.lt_of_lt_of_le hlt (Nat.pow_le_pow_right (by decide) (by omega))
        rw [show (10 : Nat) ^ 6 = 1000000 from rfl] at hlt
        show (true && decide (wi64 (0 - ((valL 0 l : Nat) : Int)) ≥ 0)) = false
        rw [z0j (by omega) (by omega), z0v (by omega)]
        rfl
      ·rw [if_neg hd]
       refine ⟨_, rfl, fun n hn => ?_, fun _ => rfl⟩
       rw [yk6] at hn; cases hn
   ·have hne : ((b.toNat : Int) == 45) = false := by
     rw [beq_eq_false_iff_ne]; intro e; exact hb (UInt8.toNat_inj.1 (by show b.toNat = 45; omega))
    rw [hne, cond_false, Option.bind_some, show ((s.size : Int) == 0) = false by rw [beq_eq_false_iff_ne]; omega, Bool.false_or, Int.sub_zero, z0j (by omega) (by omega)]
    by_cases h7 : s.size ≤ 6
    ·rw [z0v (show ¬ (s.size : Int) > 6 by omega), cond_false, z18 (zi5 (z07 (by omega)) (z07 (by omega))), h0, Option.bind_some]
     have hll := ym9 hs (pre := []) (rest := b :: l) (n := 0) (k := 0) hl (by decide) (by rw [List.length_cons]; omega)
     rw [show ((0 : Nat) : Int) = 0 from rfl, show (([] : List UInt8).length : Int) = 0 from rfl] at hll
     by_cases h0s : b = 48 ∧ 1 < s.size
     ·rw [h0s.1, show (((48 : UInt8).toNat : Int) == 48) = true from rfl, z07 (show (s.size : Int) > 1 by omega), Bool.true_and, cond_true]
      refine ⟨_, rfl, fun n hn => ?_, fun _ => rfl⟩
      unfold numL at hn
      rw [if_neg (fun e => by
       rcases e.2.2.2 with e | e
       ·rw [List.length_cons] at e; omega
       ·exact e rfl)] at hn
      cases hn
     ·have hc : (((b.toNat : Int) == 48) && decide ((s.size : Int) > 1)) = false := by
       cases hx : (((b.toNat : Int) == 48) && decide ((s.size : Int) > 1)) with
       | false => rfl
       | true =>
        rw [Bool.and_eq_true, beq_iff_eq, decide_eq_true_iff] at hx
        exact absurd ⟨UInt8.toNat_inj.1 (by show b.toNat = 48; omega), by omega⟩ h0s
      rw [hc, cond_false, hll, Option.bind_some]
      have hnum : numL (b :: l) = if (b :: l).all isD = true then some (valL 0 (b :: l)) else none := by
       unfold numL
       by_cases hd : (b :: l).all isD = true
       ·have hx : (b :: l).length = 1 ∨ (b :: l).head? ≠ some 48 := by
         rw [List.length_cons]
         by_cases hb48 : b = 48
         ·exact Or.inl (by have : ¬ 1 < s.size := fun e => h0s ⟨hb48, e⟩; omega)
         ·exact Or.inr (fun e => hb48 (by simpa using e))
        rw [if_pos hd, if_pos ⟨List.cons_ne_nil _ _, by rw [List.length_cons]; omega, hd, hx⟩]
       ·rw [if_neg hd, if_neg (fun e => hd e.2.2.1)]
      rw [hnum]
      by_cases hd : (b :: l).all isD = true
      ·rw [if_pos hd, if_pos hd]
       refine ⟨_, rfl, fun n hn => (by cases hn; rfl), fun e => (by cases e)⟩
      ·rw [if_neg hd, if_neg hd]
       refine ⟨_, rfl, fun n hn => (by cases hn), fun _ => rfl⟩
    ·rw [z07 (show (s.size : Int) > 6 by omega), cond_true, Option.bind_some, cond_true]
     refine ⟨_, rfl, fun n hn => ?_, fun _ => rfl⟩
     unfold numL at hn
     rw [if_neg (fun e => by have := e.2.1; rw [List.length_cons] at this; omega)] at hn
     cases hn
 obtain ⟨r, h1, h2, h3⟩ := hN
 unfold yj7
 rw [h1, Option.bind_some]
 refine ⟨_, rfl, fun n hn => ?_, fun hn => h3 hn⟩
 rw [h2 n hn]
 show ((n : Int), (true && decide ((n : Int) ≥ 0))) = ((n : Int), true)
 rw [z07 (by omega)]
 rfl
end Go.Lift
