/-
  Strings in pieces; numbers of few digits.
-/
import Derived.Test.YteobfadhflofpaaGreatDoorFunSr
import Derived.Test.YteobfadhflofpaaGreatDoorPlainB
import Derived.Test.YteobfadhflofpaaGreatDoorPlainF
import Derived.Lib.Join
import Derived.Lib.ItoaMem
import Derived.Lib.ItoaLen
set_option linter.unusedSectionVars false
set_option linter.unusedVariables false
set_option linter.unusedSimpArgs false
namespace Go.Lift
open Go
def bof (l : List UInt8) : ByteArray := ⟨l.toArray⟩
theorem bof_data (s : ByteArray) : bof s.data.toList = s := by cases s with | mk d => cases d; rfl
theorem data_bof (l : List UInt8) : (bof l).data.toList = l := rfl
theorem bof_size (l : List UInt8) : (bof l).size = l.length := rfl
theorem size_len (s : ByteArray) : s.size = s.data.toList.length := by cases s with | mk d => cases d; rfl
theorem seqb_data (a b : ByteArray) : seqb a b = (a.data.toList == b.data.toList) := by unfold seqb; rw [ByteArray.toList_eq, ByteArray.toList_eq]
def cutL (c : UInt8) : List UInt8 → Option (List UInt8 × List UInt8)
  | [] => none
  | b :: l => if b = c then some ([], l) else (cutL c l).map fun p => (b :: p.1, p.2)
theorem cutL_len {c : UInt8} : ∀ {l : List UInt8} {x y : List UInt8}, cutL c l = some (x, y) → l = x ++ c :: y
  | [], _, _, h => by cases h
  | b :: l, x, y, h => by
    unfold cutL at h
    by_cases hb : b = c
    · rw [if_pos hb] at h; cases h; rw [hb]; rfl
    · rw [if_neg hb] at h
      cases h1 : cutL c l with
      | none => rw [h1] at h; cases h
      | some p => rw [h1] at h; cases h; rw [cutL_len (x := p.1) (y := p.2) h1]; rfl
def pcsN (c : UInt8) : Nat → List UInt8 → List (List UInt8)
  | 0, l => [l]
  | n + 1, l => match cutL c l with
    | none => [l]
    | some p => p.1 :: pcsN c n p.2
def pcs (c : UInt8) (l : List UInt8) : List (List UInt8) := pcsN c l.length l
theorem pcsN_eq {c : UInt8} : ∀ {n : Nat} {l : List UInt8}, l.length ≤ n → pcsN c n l = pcs c l
  | n, l, h => by
    unfold pcs
    generalize hm : l.length = m at *
    induction m using Nat.strongRecOn generalizing l n with
    | _ m ih =>
      cases n with
      | zero => obtain rfl : m = 0 := by omega
                rfl
      | succ n =>
        cases m with
        | zero =>
          have : l = [] := List.length_eq_zero_iff.1 hm
          subst this; rfl
        | succ m =>
          unfold pcsN
          cases h1 : cutL c l with
          | none => rfl
          | some p =>
            have hl := congrArg List.length (cutL_len (x := p.1) (y := p.2) h1)
            rw [List.length_append, List.length_cons] at hl
            show p.1 :: pcsN c n p.2 = p.1 :: pcsN c m p.2
            rw [ih p.2.length (by omega) n p.2 rfl (by omega), ih p.2.length (by omega) m p.2 rfl (by omega)]
theorem pcs_none {c : UInt8} {l : List UInt8} (h : cutL c l = none) : pcs c l = [l] := by
  unfold pcs
  cases l with
  | nil => rfl
  | cons b l => unfold pcsN; rw [List.length_cons]; simp only; rw [h]
theorem pcs_some {c : UInt8} {l x y : List UInt8} (h : cutL c l = some (x, y)) : pcs c l = x :: pcs c y := by
  have hl := congrArg List.length (cutL_len h)
  rw [List.length_append, List.length_cons] at hl
  obtain ⟨m, hm⟩ : ∃ m, l.length = m + 1 := ⟨l.length - 1, by omega⟩
  rw [show pcs c l = pcsN c l.length l from rfl, hm]
  unfold pcsN
  rw [h]
  show x :: pcsN c m y = x :: pcs c y
  rw [pcsN_eq (by omega)]
theorem pcs_ne {c : UInt8} {l : List UInt8} : pcs c l ≠ [] := by
  cases h : cutL c l with
  | none => rw [pcs_none h]; exact List.cons_ne_nil _ _
  | some p => rw [pcs_some (x := p.1) (y := p.2) h]; exact List.cons_ne_nil _ _
theorem pcs_cons {c b : UInt8} {l : List UInt8} : pcs c (b :: l) = if b = c then [] :: pcs c l else match pcs c l with | [] => [[b]] | p :: ps => (b :: p) :: ps := by
  by_cases hb : b = c
  · rw [if_pos hb]; exact pcs_some (by unfold cutL; rw [if_pos hb])
  · rw [if_neg hb]
    cases h : cutL c l with
    | none => rw [pcs_none h, pcs_none (by unfold cutL; rw [if_neg hb, h]; rfl)]
    | some p => rw [pcs_some (x := p.1) (y := p.2) h, pcs_some (x := b :: p.1) (y := p.2) (by unfold cutL; rw [if_neg hb, h]; rfl)]
theorem pcs_len {c : UInt8} : ∀ {l : List UInt8}, (pcs c l).length ≤ l.length + 1
  | [] => by rw [pcs_none rfl]; exact Nat.le_refl _
  | b :: l => by
    have ih := pcs_len (c := c) (l := l)
    rw [pcs_cons]
    split
    · rw [List.length_cons, List.length_cons]; omega
    · split
      · simp
      · rename_i p ps h
        rw [h] at ih
        rw [List.length_cons] at ih ⊢
        rw [List.length_cons]; omega
theorem pcs_mem {c : UInt8} : ∀ {l p : List UInt8}, p ∈ pcs c l → p.length ≤ l.length
  | [], p, h => by rw [pcs_none rfl] at h; rw [List.mem_singleton.1 h]; exact Nat.le_refl _
  | b :: l, p, h => by
    rw [pcs_cons] at h
    split at h
    · rcases List.mem_cons.1 h with h | h
      · rw [h]; simp
      · have := pcs_mem (c := c) (l := l) h; rw [List.length_cons]; omega
    · split at h
      · rw [List.mem_singleton.1 h]; simp
      · rename_i q ps hq
        rcases List.mem_cons.1 h with h | h
        · have := pcs_mem (c := c) (l := l) (p := q) (by rw [hq]; exact List.mem_cons_self)
          rw [h, List.length_cons, List.length_cons]; omega
        · have := pcs_mem (c := c) (l := l) (p := p) (by rw [hq]; exact List.mem_cons_of_mem _ h)
          rw [List.length_cons]; omega
theorem index_cut {c : UInt8} : ∀ {l : List UInt8}, (cutL c l = none ∧ Lib.index l [c] = -1) ∨ ∃ i : Nat, i < l.length ∧ Lib.index l [c] = i ∧ cutL c l = some (l.take i, l.drop (i + 1))
  | [] => Or.inl ⟨rfl, by simp [Lib.index]⟩
  | b :: l => by
    by_cases hb : b = c
    · refine Or.inr ⟨0, by simp, ?_, ?_⟩
      · rw [Lib.index]; simp [List.isPrefixOf, hb]
      · unfold cutL; rw [if_pos hb]; rfl
    · have hp : ([c] : List UInt8).isPrefixOf (b :: l) = false := by simp [List.isPrefixOf, Ne.symm hb]
      have hix : Lib.index (b :: l) [c] = if Lib.index l [c] == -1 then -1 else Lib.index l [c] + 1 := by rw [Lib.index, hp]; simp
      rcases index_cut (c := c) (l := l) with ⟨h1, h2⟩ | ⟨i, h0, h1, h2⟩
      · refine Or.inl ⟨?_, ?_⟩
        · unfold cutL; rw [if_neg hb, h1]; rfl
        · rw [hix, h2]; rfl
      · refine Or.inr ⟨i + 1, ?_, ?_, ?_⟩
        · rw [List.length_cons]; omega
        · rw [hix, h1, if_neg (by intro hc; have := beq_iff_eq.1 hc; omega)]; omega
        · unfold cutL; rw [if_neg hb, h2]; rfl
theorem split_pcs (c : UInt8) : ∀ (k : Nat) (s : ByteArray), Lib.countB s ⟨#[c]⟩ = k → Lib.splitB ⟨#[c]⟩ 0 k s = (pcs c s.data.toList).map bof
  | k, s, hk => by
    have hs1 : (⟨#[c]⟩ : ByteArray).size = 1 := rfl
    rcases index_cut (c := c) (l := s.data.toList) with ⟨h1, h2⟩ | ⟨i, h0, h1, h2⟩
    · rw [Lib.splitB_miss _ _ _ _ h2, pcs_none h1, List.map_cons, bof_data]; rfl
    · have hh := Lib.countB_hit s ⟨#[c]⟩ i (by rw [hs1]; exact Nat.le_refl _) h1
      rw [hh] at hk
      obtain ⟨m, rfl⟩ : ∃ m, k = m + 1 := ⟨k - 1, by omega⟩
      rw [Lib.splitB_hit _ _ _ _ i h1, pcs_some h2, List.map_cons, split_pcs c m _ (by rw [hs1] at hk ⊢; omega), Nat.add_zero, hs1]
      have e1 : s.extract 0 i = bof (s.data.toList.take i) := by rw [← bof_data (s.extract 0 i), Lib.extract_from_zero]
      have e2 : (s.extract (i + 1) s.size).data.toList = s.data.toList.drop (i + 1) := Lib.extract_to_end s (i + 1)
      rw [e1, e2]
theorem splitF_ok {c : UInt8} {s : ByteArray} (h : s.size ≤ 4294967280) : splitF ⟨#[c]⟩ s = some ((pcs c s.data.toList).map bof) := by
  unfold splitF
  rw [decide_eq_true h, show ((⟨#[c]⟩ : ByteArray).size == 1) = true from rfl]
  show some _ = _
  rw [split_pcs c _ s rfl]
theorem cutF_ok {c : UInt8} {s : ByteArray} (h : s.size ≤ 4294967280) : cutF ⟨#[c]⟩ s = some (match cutL c s.data.toList with | none => (s, ByteArray.empty, false) | some p => (bof p.1, bof p.2, true)) := by
  unfold cutF
  rw [decide_eq_true h, show ((⟨#[c]⟩ : ByteArray).size == 1) = true from rfl]
  show some _ = _
  have hd : (⟨#[c]⟩ : ByteArray).data.toList = [c] := rfl
  rw [hd]
  unfold Lib.cut
  rcases index_cut (c := c) (l := s.data.toList) with ⟨h1, h2⟩ | ⟨i, h0, h1, h2⟩
  · rw [h2, if_neg (by omega), h1]
    show some (bof s.data.toList, bof [], false) = _
    rw [bof_data]; rfl
  · rw [h1, if_pos (by omega), h2]
    simp [bof]
end Go.Lift
namespace Go.Lift
open Go
def noC (c : UInt8) (l : List UInt8) : Prop := ∀ b, b ∈ l → b ≠ c
theorem cutL_no {c : UInt8} : ∀ {l : List UInt8}, noC c l → cutL c l = none
  | [], _ => rfl
  | b :: l, h => by
    unfold cutL
    rw [if_neg (h b List.mem_cons_self), cutL_no (fun x hx => h x (List.mem_cons_of_mem _ hx))]; rfl
theorem cutL_mid {c : UInt8} {r : List UInt8} : ∀ {l : List UInt8}, noC c l → cutL c (l ++ c :: r) = some (l, r)
  | [], _ => by show cutL c (c :: r) = _; unfold cutL; rw [if_pos rfl]
  | b :: l, h => by
    show cutL c (b :: (l ++ c :: r)) = _
    unfold cutL
    rw [if_neg (h b List.mem_cons_self), cutL_mid (fun x hx => h x (List.mem_cons_of_mem _ hx))]; rfl
theorem sget_mid {s : ByteArray} {pre post : List UInt8} {b : UInt8} (h : s.data.toList = pre ++ b :: post) : sget s (pre.length : Int) = (b.toNat : Int) := by
  unfold sget
  have : s.data.getD pre.length 0 = b := by
    have hg : s.data[pre.length]? = some b := by
      rw [← Array.getElem?_toList, h]; simp
    rw [Array.getD_eq_getD_getElem?, hg]; rfl
  rw [Int.toNat_natCast, this]
theorem extract_mid {s : ByteArray} {pre mid post : List UInt8} (h : s.data.toList = pre ++ mid ++ post) : s.extract pre.length (pre.length + mid.length) = bof mid := by
  rw [Lib.extract_eq, h, List.append_assoc, List.drop_left, Nat.add_sub_cancel_left, List.take_left]; rfl
theorem Cut_ok {s : ByteArray} {c : UInt8} (h : s.size ≤ 60000) : b0_Cut s (c.toNat : Int) = some ((pcs c s.data.toList).map bof) := by
  have hsz := size_len s
  unfold b0_Cut
  have hloop : ∃ r : (List ByteArray) × Int, loopM (S := (List ByteArray) × Int × Int) (R := (List ByteArray) × Int) (fun s_1 =>
    let out : (List ByteArray) := s_1.1
    let from_ : Int := s_1.2.1
    let i : Int := s_1.2.2
    bif decide (i < (ByteArray.size s : Int)) then
      chk (decide ((0 : Int) ≤ i) && decide (i < (ByteArray.size s : Int))) (
        (bif ((sget s i) == (c.toNat : Int)) then
          chk (decide ((0 : Int) ≤ from_) && decide ((from_ : Int) ≤ i) && decide (i ≤ (ByteArray.size s : Int))) (
            (app out [ByteArray.extract s (Int.toNat from_) (Int.toNat i)]).bind fun (t : List ByteArray) =>
            some (t, wi64 (i + 1)))
        else
          some (out, from_)).bind fun (j : (List ByteArray) × Int) =>
        let out_1 : (List ByteArray) := j.1
        let from__1 : Int := j.2
        some (.inl (out_1, from__1, wi64 (i + 1))))
    else
      some (.inr (out, from_))) ([], 0, 0) = some r ∧ ∃ (outL : List (List UInt8)) (pre mid : List UInt8), r = (outL.map bof, (pre.length : Int)) ∧ s.data.toList = pre ++ mid ∧ outL.length ≤ pre.length ∧ pcs c s.data.toList = outL ++ [mid] := by
    refine loopM_list (X := UInt8) (fun rest st => ∃ (outL : List (List UInt8)) (pre mid : List UInt8), st = (outL.map bof, (pre.length : Int), ((pre.length + mid.length : Nat) : Int)) ∧ s.data.toList = pre ++ mid ++ rest ∧ outL.length ≤ pre.length ∧ noC c mid ∧ pcs c s.data.toList = outL ++ pcs c (mid ++ rest)) _ ?_ ?_ (l := s.data.toList) ⟨[], [], [], rfl, by simp, by simp, (fun b hb => by cases hb), by simp⟩
    · rintro b rest _ ⟨outL, pre, mid, rfl, h1, h2, h3, h4⟩
      refine Or.inl ?_
      have hl := congrArg List.length h1
      rw [List.length_append, List.length_append, List.length_cons] at hl
      have hg : sget s ((pre.length + mid.length : Nat) : Int) = (b.toNat : Int) := by rw [← List.length_append]; exact sget_mid h1
      simp only [hg]
      rw [dec_true (show ((pre.length + mid.length : Nat) : Int) < (s.size : Int) by omega), cond_true, chk_true (and_true' (dec_true (by omega)) rfl)]
      by_cases hb : b = c
      · subst hb
        rw [beq_self_eq_true, cond_true, chk_true (and_true' (and_true' (dec_true (by omega)) (dec_true (by omega))) (dec_true (by omega))), Int.toNat_natCast, Int.toNat_natCast, extract_mid h1, app_ok (by rw [List.length_map, List.length_singleton]; omega), Option.bind_some, Option.bind_some]
        refine ⟨_, rfl, outL ++ [mid], pre ++ mid ++ [b], [], ?_, ?_, ?_, (fun x hx => by cases hx), ?_⟩
        · rw [List.map_append, List.length_append, List.length_append, List.length_singleton, List.length_nil, wi64_id (by omega) (by omega)]
          show (_, _, _) = (_, _, _)
          rw [Nat.add_zero]
          rfl
        · rw [h1]; simp
        · rw [List.length_append, List.length_append, List.length_append, List.length_singleton, List.length_singleton]; omega
        · rw [h4, pcs_some (cutL_mid h3)]; simp
      · have hne : ((b.toNat : Int) == (c.toNat : Int)) = false := by
          rw [beq_eq_false_iff_ne]; intro e; exact hb (UInt8.toNat_inj.1 (by omega))
        rw [hne, cond_false, Option.bind_some]
        refine ⟨_, rfl, outL, pre, mid ++ [b], ?_, ?_, h2, ?_, ?_⟩
        · rw [List.length_append, List.length_singleton, wi64_id (by omega) (by omega)]
          rfl
        · rw [h1]; simp
        · intro x hx
          rcases List.mem_append.1 hx with hx | hx
          · exact h3 x hx
          · rw [List.mem_singleton.1 hx]; exact hb
        · rw [h4]; simp
    · rintro _ ⟨outL, pre, mid, rfl, h1, h2, h3, h4⟩
      have hl := congrArg List.length h1
      rw [List.length_append, List.length_append, List.length_nil] at hl
      simp only []
      rw [dec_false (show ¬ ((pre.length + mid.length : Nat) : Int) < (s.size : Int) by omega), cond_false]
      refine ⟨_, rfl, outL, pre, mid, rfl, by rw [h1, List.append_nil], h2, ?_⟩
      rw [h4, List.append_nil, pcs_none (cutL_no h3)]
  obtain ⟨_, e, outL, pre, mid, rfl, h1, h2, h3⟩ := hloop
  rw [e, Option.bind_some]
  have hl := congrArg List.length h1
  rw [List.length_append] at hl
  have hx : s.extract pre.length s.size = bof mid := by
    have := extract_mid (s := s) (pre := pre) (mid := mid) (post := []) (by rw [h1, List.append_nil])
    rwa [← hl, ← hsz] at this
  rw [chk_true (and_true' (and_true' (dec_true (by omega)) (dec_true (by omega))) (dec_true (by omega))), Int.toNat_natCast, Int.toNat_natCast, hx, app_ok (by rw [List.length_map, List.length_singleton]; omega), Option.bind_some, h3, List.map_append]
  rfl
def isD (b : UInt8) : Bool := decide (48 ≤ b.toNat) && decide (b.toNat ≤ 57)
def valL : Nat → List UInt8 → Nat
  | a, [] => a
  | a, b :: l => valL (a * 10 + (b.toNat - 48)) l
theorem valL_snoc {b : UInt8} : ∀ {l : List UInt8} {a : Nat}, valL a (l ++ [b]) = valL a l * 10 + (b.toNat - 48)
  | [], _ => rfl
  | _ :: l, _ => valL_snoc (l := l)
def numL (l : List UInt8) : Option Nat := if l ≠ [] ∧ l.length ≤ 7 ∧ l.all isD = true ∧ (l.length = 1 ∨ l.head? ≠ some 48) then some (valL 0 l) else none
theorem isD_iff {b : UInt8} : isD b = true ↔ 48 ≤ b.toNat ∧ b.toNat ≤ 57 := by
  unfold isD; rw [Bool.and_eq_true, decide_eq_true_iff, decide_eq_true_iff]
theorem valL_lt : ∀ {l : List UInt8} {a k : Nat}, l.all isD = true → a < 10 ^ k → valL a l < 10 ^ (k + l.length)
  | [], _, _, _, h => h
  | b :: l, a, k, hd, h => by
    rw [List.all_cons, Bool.and_eq_true] at hd
    have hb := isD_iff.1 hd.1
    rw [List.length_cons, show k + (l.length + 1) = (k + 1) + l.length by omega]
    exact valL_lt hd.2 (by rw [Nat.pow_succ]; omega)
theorem numL_lt {l : List UInt8} {n : Nat} (h : numL l = some n) : n < 10000000 := by
  unfold numL at h
  split at h
  · rename_i hc
    cases h
    have := valL_lt (a := 0) (k := 0) hc.2.2.1 (by decide)
    rw [Nat.zero_add] at this
    exact Nat.lt_of_lt_of_le this (Nat.le_trans (Nat.pow_le_pow_right (by decide) hc.2.1) (by decide))
  · cases h
theorem digits_num : ∀ (v : Nat), (Lib.decDigits v ≠ [] ∧ (Lib.decDigits v).all isD = true ∧ ((Lib.decDigits v).length = 1 ∨ (Lib.decDigits v).head? ≠ some 48) ∧ valL 0 (Lib.decDigits v) = v) ∧ (1 ≤ v → (Lib.decDigits v).head? ≠ some 48)
  | v => by
    have hdig : ∀ k, k < 10 → isD (UInt8.ofNat (48 + k)) = true ∧ (UInt8.ofNat (48 + k)).toNat - 48 = k ∧ (1 ≤ k → UInt8.ofNat (48 + k) ≠ 48) := by decide
    by_cases h : v < 10
    · rw [Lib.decDigits_one h]
      obtain ⟨d1, d2, d3⟩ := hdig v h
      refine ⟨⟨List.cons_ne_nil _ _, by rw [List.all_cons, d1]; rfl, Or.inl rfl, ?_⟩, fun h1 e => d3 h1 (by simpa using e)⟩
      show 0 * 10 + ((UInt8.ofNat (48 + v)).toNat - 48) = v
      omega
    · obtain ⟨⟨i1, i2, i3, i4⟩, i5⟩ := digits_num (v / 10)
      obtain ⟨d1, d2, d3⟩ := hdig (v % 10) (by omega)
      have hh : (Lib.decDigits (v / 10) ++ [UInt8.ofNat (48 + v % 10)]).head? ≠ some 48 := by
        have := i5 (by omega)
        cases hx : Lib.decDigits (v / 10) with
        | nil => exact absurd hx i1
        | cons x l => rw [hx] at this; exact this
      rw [Lib.decDigits, dif_neg h]
      refine ⟨⟨by simp, by rw [List.all_append, i2, List.all_cons, d1]; rfl, Or.inr hh, ?_⟩, fun _ => hh⟩
      rw [valL_snoc, i4, d2]
      omega
termination_by v => v
decreasing_by omega
theorem digits_val : ∀ (k : Nat) {l : List UInt8}, l.length = k → l ≠ [] → l.all isD = true → (l.length = 1 ∨ l.head? ≠ some 48) → Lib.decDigits (valL 0 l) = l ∧ (l.head? ≠ some 48 → 1 ≤ valL 0 l)
  | 0, l, hk, hn, _, _ => absurd (List.length_eq_zero_iff.1 hk) hn
  | k + 1, l, hk, hn, hd, hh => by
    have hback : ∀ b : UInt8, isD b = true → UInt8.ofNat (48 + (b.toNat - 48)) = b := fun b hb => by
      have := isD_iff.1 hb
      rw [Nat.add_sub_cancel' this.1]; simp
    obtain ⟨u, b, rfl⟩ : ∃ u b, l = u ++ [b] := ⟨l.dropLast, l.getLast hn, (List.dropLast_concat_getLast hn).symm⟩
    rw [List.all_append, Bool.and_eq_true, List.all_cons, Bool.and_eq_true] at hd
    have hb := isD_iff.1 hd.2.1
    rw [List.length_append, List.length_singleton] at hk hh
    cases u with
    | nil =>
      refine ⟨?_, fun e => ?_⟩
      · show Lib.decDigits (0 * 10 + (b.toNat - 48)) = [b]
        rw [Nat.zero_mul, Nat.zero_add, Lib.decDigits_one (by omega), hback b hd.2.1]
      · show 1 ≤ 0 * 10 + (b.toNat - 48)
        have : b ≠ 48 := fun h => e (by rw [h]; rfl)
        have : b.toNat ≠ 48 := fun h => this (UInt8.toNat_inj.1 h)
        omega
    | cons x u =>
      have hx : (x :: u).head? ≠ some 48 := by
        rcases hh with hh | hh
        · rw [List.length_cons] at hh; omega
        · exact hh
      obtain ⟨i1, i2⟩ := digits_val k (l := x :: u) (by omega) (List.cons_ne_nil _ _) hd.1 (Or.inr hx)
      have := i2 hx
      rw [valL_snoc, Lib.decDigits, dif_neg (by omega), show (valL 0 (x :: u) * 10 + (b.toNat - 48)) / 10 = valL 0 (x :: u) by omega, show (valL 0 (x :: u) * 10 + (b.toNat - 48)) % 10 = b.toNat - 48 by omega, i1, hback b hd.2.1]
      exact ⟨rfl, fun _ => by omega⟩
theorem parse_ok : ∀ {l : List UInt8} {a k : Nat}, l.all isD = true → a < 10 ^ k → k + l.length ≤ 12 → Lib.parseUint10 a l = .ok (valL a l)
  | [], _, _, _, _, _ => rfl
  | b :: l, a, k, hd, h, hk => by
    rw [List.all_cons, Bool.and_eq_true] at hd
    rw [List.length_cons] at hk
    have hb := isD_iff.1 hd.1
    have : (10 : Nat) ^ k ≤ 10 ^ 12 := Nat.pow_le_pow_right (by decide) (by omega)
    rw [show (10 : Nat) ^ 12 = 1000000000000 from rfl] at this
    unfold Lib.parseUint10
    rw [if_pos hb, if_neg (by omega), if_neg (by omega)]
    exact parse_ok (k := k + 1) hd.2 (by rw [Nat.pow_succ]; omega) (by omega)
theorem numL_iff {l : List UInt8} {n : Nat} : numL l = some n ↔ l = Lib.decDigits n ∧ l.length ≤ 7 := by
  constructor
  · intro h
    unfold numL at h
    split at h
    · rename_i hc
      cases h
      exact ⟨(digits_val l.length rfl hc.1 hc.2.2.1 hc.2.2.2).1.symm, hc.2.1⟩
    · cases h
  · rintro ⟨rfl, h⟩
    obtain ⟨⟨d1, d2, d3, d4⟩, _⟩ := digits_num n
    unfold numL
    rw [if_pos ⟨d1, h, d2, d3⟩, d4]
theorem atoi_num {l : List UInt8} {n : Nat} (h : numL l = some n) : atoiN l = ((n : Int), true) := by
  have hlt := numL_lt h
  unfold numL at h
  split at h
  · rename_i hc
    cases h
    obtain ⟨h1, h2, h3, h4⟩ := hc
    unfold atoiN
    have : Lib.atoiAll l = .ok ((valL 0 l : Nat) : Int) := by
      cases l with
      | nil => exact absurd rfl h1
      | cons b r =>
        have hb := h3
        rw [List.all_cons, Bool.and_eq_true] at hb
        have hb := isD_iff.1 hb.1
        unfold Lib.atoiAll
        simp only []
        rw [if_neg (show ¬ (b.toNat = 43 ∨ b.toNat = 45) by omega)]
        unfold Lib.parseMag
        rw [if_neg (List.cons_ne_nil _ _), parse_ok (k := 0) h3 (by decide) (by omega)]
        simp only []
        rw [if_neg (by omega), if_neg (by omega), if_neg (by omega)]
    rw [this]
  · cases h
theorem itoa_nat (n : Nat) : Lib.itoa (n : Int) = Lib.decDigits n := Lib.itoa_nonneg n
theorem Itoa_ok {n : Int} (h1 : -9223372036854775808 ≤ n) (h2 : n ≤ 9223372036854775807) : strconv_Itoa n = some (bof (Lib.itoa n)) := by
  unfold strconv_Itoa; rw [decide_eq_true h1, decide_eq_true h2]; rfl
end Go.Lift
namespace Go.Lift
open Go
theorem wu8_dig {b : UInt8} (h : isD b = true) : wu8 ((b.toNat : Int) - 48) = ((b.toNat - 48 : Nat) : Int) := by
  have hb := isD_iff.1 h
  have : wu8 ((b.toNat : Int) - 48) = ((b.toNat : Int) - 48) % 256 := wrap_u .u8 rfl _
  omega
theorem loop_num {s : ByteArray} (hs : s.size ≤ 60000) {rest pre : List UInt8} {n k : Nat} (h : s.data.toList = pre ++ rest) (hn : n < 10 ^ k) (hk : k + rest.length ≤ 8) :
    loopM (S := Int × Int) (R := (Int) ⊕ (Int × Bool)) (fun s_1 =>
      let n : Int := s_1.1
      let i : Int := s_1.2
      bif decide (i < (ByteArray.size s : Int)) then
        chk (decide ((0 : Int) ≤ i) && decide (i < (ByteArray.size s : Int))) (
          (bif decide ((sget s i) < 48) then some true else
            chk (decide ((0 : Int) ≤ i) && decide (i < (ByteArray.size s : Int))) (
              some (decide ((sget s i) > 57)))).bind fun (c_2 : Bool) =>
          bif c_2 then
            Option.map Sum.inr (Option.map Sum.inr (
              some (0, false)))
          else
            chk (decide ((0 : Int) ≤ i) && decide (i < (ByteArray.size s : Int))) (
              let n_1 : Int := wi64 ((wi64 (10 * n)) + (wi64 (wu8 ((sget s i) - 48))))
              some (.inl (n_1, wi64 (i + 1)))))
      else
        some (.inr (.inl n))) ((n : Int), (pre.length : Int)) = some (if rest.all isD = true then .inl ((valL n rest : Nat) : Int) else .inr (0, false)) := by
  have hsz := size_len s
  refine loopM_list_eq (X := UInt8) (fun r st => ∃ (p : List UInt8) (m j : Nat), st = ((m : Int), (p.length : Int)) ∧ s.data.toList = p ++ r ∧ m < 10 ^ j ∧ j + r.length ≤ 8 ∧ (if r.all isD = true then (.inl ((valL m r : Nat) : Int) : Int ⊕ (Int × Bool)) else .inr (0, false)) = if rest.all isD = true then .inl ((valL n rest : Nat) : Int) else .inr (0, false)) ?_ ?_ ⟨pre, n, k, rfl, h, hn, hk, rfl⟩
  · rintro b r _ ⟨p, m, j, rfl, h1, h2, h3, h4⟩
    have hl := congrArg List.length h1
    rw [List.length_append, List.length_cons] at hl
    rw [List.length_cons] at h3
    have hg : sget s (p.length : Int) = (b.toNat : Int) := sget_mid h1
    have hck : (decide ((0 : Int) ≤ (p.length : Int)) && decide ((p.length : Int) < (s.size : Int))) = true := and_true' (dec_true (by omega)) (dec_true (by omega))
    have hj : (10 : Nat) ^ j ≤ 10 ^ 8 := Nat.pow_le_pow_right (by decide) (by omega)
    rw [show (10 : Nat) ^ 8 = 100000000 from rfl] at hj
    simp only [hg]
    rw [dec_true (show (p.length : Int) < (s.size : Int) by omega), cond_true, chk_true (and_true' (dec_true (by omega)) rfl)]
    have hck' : (decide ((0 : Int) ≤ (p.length : Int)) && true) = true := and_true' (dec_true (by omega)) rfl
    rw [chk_true hck', chk_true hck']
    by_cases hd : isD b = true
    · have hb := isD_iff.1 hd
      refine Or.inl ⟨(((m * 10 + (b.toNat - 48) : Nat) : Int), ((p ++ [b]).length : Int)), ?_, p ++ [b], m * 10 + (b.toNat - 48), j + 1, rfl, by rw [h1]; simp, by rw [Nat.pow_succ]; omega, by omega, ?_⟩
      · rw [dec_false (show ¬ (b.toNat : Int) < 48 by omega), cond_false, dec_false (show ¬ (b.toNat : Int) > 57 by omega), Option.bind_some, cond_false, wu8_dig hd, wi64_id (x := ((b.toNat - 48 : Nat) : Int)) (by omega) (by omega), wi64_id (x := 10 * (m : Int)) (by omega) (by omega), wi64_id (by omega) (by omega), wi64_id (by omega) (by omega), List.length_append, List.length_singleton]
        congr 3
        omega
      · rw [← h4]
        have e1 : (b :: r).all isD = r.all isD := by rw [List.all_cons, hd, Bool.true_and]
        rw [e1]; rfl
    · refine Or.inr ?_
      have e1 : (b :: r).all isD = false := by rw [List.all_cons]; simp [hd]
      rw [← h4, e1]
      have hor : ¬ (48 ≤ b.toNat ∧ b.toNat ≤ 57) := fun e => hd (isD_iff.2 e)
      by_cases h48 : (b.toNat : Int) < 48
      · rw [dec_true h48, cond_true, Option.bind_some, cond_true]; rfl
      · rw [dec_false h48, cond_false, dec_true (show (b.toNat : Int) > 57 by omega), Option.bind_some, cond_true]; rfl
  · rintro _ ⟨p, m, j, rfl, h1, h2, h3, h4⟩
    have hl := congrArg List.length h1
    rw [List.length_append, List.length_nil] at hl
    simp only []
    rw [dec_false (show ¬ (p.length : Int) < (s.size : Int) by omega), cond_false, ← h4]
    rfl
theorem number_ok {s : ByteArray} (hs : s.size ≤ 60000) : ∃ r : Int × Bool, r9_number s = some r ∧ (∀ n, numL s.data.toList = some n → r = ((n : Int), true)) ∧ (numL s.data.toList = none → r.2 = false) := by
  have hsz := size_len s
  have hN : ∃ r : Int × Bool, b0_Number s 7 = some r ∧ (r.2 = true → 0 < s.size) ∧ ((∀ b l, s.data.toList = b :: l → b ≠ 45) → (∀ n, numL s.data.toList = some n → r = ((n : Int), true)) ∧ (numL s.data.toList = none → r.2 = false)) := by
    unfold b0_Number
    cases hl : s.data.toList with
    | nil =>
      rw [hl, List.length_nil] at hsz
      rw [hsz]
      refine ⟨(0, false), rfl, fun e => (by cases e), fun _ => ⟨fun n hn => ?_, fun _ => rfl⟩⟩
      unfold numL at hn
      rw [if_neg (fun e => e.1 rfl)] at hn
      cases hn
    | cons b l =>
      have h0 : sget s 0 = (b.toNat : Int) := sget_mid (pre := []) hl
      rw [hl, List.length_cons] at hsz
      rw [dec_true (show (s.size : Int) > 0 by omega), cond_true, chk_true (and_true' (dec_true (by omega)) rfl), h0, Option.bind_some]
      by_cases hb : b = 45
      · subst hb
        rw [show (((45 : UInt8).toNat : Int) == 45) = true from rfl, cond_true, Option.bind_some]
        have main : ∃ r : Int × Bool, ((bif (((ByteArray.size s : Int) == 1) || (decide ((wi64 ((ByteArray.size s : Int) - 1)) > 7))) then some true else
    chk (decide ((0 : Int) ≤ 1) && decide (1 < (ByteArray.size s : Int))) (
      some (((sget s 1) == 48) && (decide ((ByteArray.size s : Int) > 1))))).bind fun (c_1 : Bool) =>
  bif c_1 then
    some (0, false)
  else
    (loopM (S := Int × Int) (R := (Int) ⊕ (Int × Bool)) (fun s_1 =>
      let n : Int := s_1.1
      let i : Int := s_1.2
      bif decide (i < (ByteArray.size s : Int)) then
        chk (decide ((0 : Int) ≤ i) && decide (i < (ByteArray.size s : Int))) (
          (bif decide ((sget s i) < 48) then some true else
            chk (decide ((0 : Int) ≤ i) && decide (i < (ByteArray.size s : Int))) (
              some (decide ((sget s i) > 57)))).bind fun (c_2 : Bool) =>
          bif c_2 then
            Option.map Sum.inr (Option.map Sum.inr (
              some (0, false)))
          else
            chk (decide ((0 : Int) ≤ i) && decide (i < (ByteArray.size s : Int))) (
              let n_1 : Int := wi64 ((wi64 (10 * n)) + (wi64 (wu8 ((sget s i) - 48))))
              some (.inl (n_1, wi64 (i + 1)))))
      else
        some (.inr (.inl n))) (0, 1)).bind fun j => match j with
    | .inl n_2 => (
      (bif ((1 : Int) == 1) then
        some (wi64 (0 - n_2))
      else
        some n_2).bind fun (n_3 : Int) =>
      some (n_3, true))
    | .inr r => some r) = some r := by
          cases hc : (((ByteArray.size s : Int) == 1) || (decide ((wi64 ((ByteArray.size s : Int) - 1)) > 7))) with
          | true => rw [cond_true, Option.bind_some, cond_true]; exact ⟨_, rfl⟩
          | false =>
            rw [Bool.or_eq_false_iff, beq_eq_false_iff_ne, decide_eq_false_iff_not, wi64_id (by omega) (by omega)] at hc
            have hll := loop_num hs (pre := [45]) (rest := l) (n := 0) (k := 0) hl (by decide) (by omega)
            rw [cond_false, chk_true (and_true' (dec_true (by omega)) (dec_true (by omega))), Option.bind_some]
            cases ((sget s 1 == 48) && (decide ((ByteArray.size s : Int) > 1))) with
            | true => rw [cond_true]; exact ⟨_, rfl⟩
            | false =>
              rw [cond_false, show ((0 : Nat) : Int) = 0 from rfl, show (([45] : List UInt8).length : Int) = 1 from rfl] at *
              rw [hll, Option.bind_some]
              split
              · rename_i h; cases (rfl : ((1 : Int) == 1) = true); exact ⟨_, rfl⟩
              · exact ⟨_, rfl⟩
        obtain ⟨r, hr⟩ := main
        exact ⟨r, hr, fun _ => by omega, fun e => absurd rfl (e 45 l rfl)⟩
      · have hne : ((b.toNat : Int) == 45) = false := by
          rw [beq_eq_false_iff_ne]; intro e; exact hb (UInt8.toNat_inj.1 (by show b.toNat = 45; omega))
        rw [hne, cond_false, Option.bind_some, show ((s.size : Int) == 0) = false by rw [beq_eq_false_iff_ne]; omega, Bool.false_or, Int.sub_zero, wi64_id (by omega) (by omega)]
        by_cases h7 : s.size ≤ 7
        · rw [dec_false (show ¬ (s.size : Int) > 7 by omega), cond_false, chk_true (and_true' (dec_true (by omega)) (dec_true (by omega))), h0, Option.bind_some]
          have hll := loop_num hs (pre := []) (rest := b :: l) (n := 0) (k := 0) hl (by decide) (by rw [List.length_cons]; omega)
          rw [show ((0 : Nat) : Int) = 0 from rfl, show (([] : List UInt8).length : Int) = 0 from rfl] at hll
          by_cases h0s : b = 48 ∧ 1 < s.size
          · rw [h0s.1, show (((48 : UInt8).toNat : Int) == 48) = true from rfl, dec_true (show (s.size : Int) > 1 by omega), Bool.true_and, cond_true]
            refine ⟨_, rfl, fun e => (by cases e), fun _ => ⟨fun n hn => ?_, fun _ => rfl⟩⟩
            unfold numL at hn
            rw [if_neg (fun e => by
              rcases e.2.2.2 with e | e
              · rw [List.length_cons] at e; omega
              · exact e rfl)] at hn
            cases hn
          · have hc : (((b.toNat : Int) == 48) && decide ((s.size : Int) > 1)) = false := by
              cases hx : (((b.toNat : Int) == 48) && decide ((s.size : Int) > 1)) with
              | false => rfl
              | true =>
                rw [Bool.and_eq_true, beq_iff_eq, decide_eq_true_iff] at hx
                exact absurd ⟨UInt8.toNat_inj.1 (by show b.toNat = 48; omega), by omega⟩ h0s
            rw [hc, cond_false, hll, Option.bind_some]
            have hnum : numL (b :: l) = if (b :: l).all isD = true then some (valL 0 (b :: l)) else none := by
              unfold numL
              by_cases hd : (b :: l).all isD = true
              · have hx : (b :: l).length = 1 ∨ (b :: l).head? ≠ some 48 := by
                  rw [List.length_cons]
                  by_cases hb48 : b = 48
                  · exact Or.inl (by have : ¬ 1 < s.size := fun e => h0s ⟨hb48, e⟩; omega)
                  · exact Or.inr (fun e => hb48 (by simpa using e))
                rw [if_pos hd, if_pos ⟨List.cons_ne_nil _ _, by rw [List.length_cons]; omega, hd, hx⟩]
              · rw [if_neg hd, if_neg (fun e => hd e.2.2.1)]
            rw [hnum]
            by_cases hd : (b :: l).all isD = true
            · rw [if_pos hd, if_pos hd]
              refine ⟨_, rfl, fun _ => by omega, fun _ => ⟨fun n hn => (by cases hn; rfl), fun e => (by cases e)⟩⟩
            · rw [if_neg hd, if_neg hd]
              refine ⟨_, rfl, fun _ => by omega, fun _ => ⟨fun n hn => (by cases hn), fun _ => rfl⟩⟩
        · rw [dec_true (show (s.size : Int) > 7 by omega), cond_true, Option.bind_some, cond_true]
          refine ⟨_, rfl, fun e => (by cases e), fun _ => ⟨fun n hn => ?_, fun _ => rfl⟩⟩
          unfold numL at hn
          rw [if_neg (fun e => by have := e.2.1; rw [List.length_cons] at this; omega)] at hn
          cases hn
  obtain ⟨r, h1, h2, h3⟩ := hN
  unfold r9_number
  rw [h1, Option.bind_some]
  cases hr : r.2 with
  | false =>
    rw [cond_false, Option.bind_some]
    refine ⟨_, rfl, fun n hn => ?_, fun _ => rfl⟩
    have h45 : ∀ b l, s.data.toList = b :: l → b ≠ 45 := fun b l e hb => by
      have := (numL_iff.1 hn).1
      unfold numL at hn
      split at hn
      · rename_i hc
        have hd := hc.2.2.1
        rw [e, List.all_cons, Bool.and_eq_true] at hd
        have := isD_iff.1 hd.1
        rw [hb] at this
        exact absurd this.1 (by decide)
      · cases hn
    have := (h3 h45).1 n hn
    rw [this] at hr
    cases hr
  | true =>
    have := h2 hr
    rw [cond_true, chk_true (and_true' (dec_true (by omega)) (dec_true (by omega))), Option.bind_some]
    cases hl : s.data.toList with
    | nil => rw [hl, List.length_nil] at hsz; omega
    | cons b l =>
      have h0 : sget s 0 = (b.toNat : Int) := sget_mid (pre := []) hl
      rw [h0]
      rw [hl] at h3
      by_cases hb : b = 45
      · subst hb
        refine ⟨_, rfl, fun n hn => ?_, fun _ => rfl⟩
        unfold numL at hn
        split at hn
        · rename_i hc
          have hd := hc.2.2.1
          rw [List.all_cons, Bool.and_eq_true] at hd
          exact absurd hd.1 (by decide)
        · cases hn
      · obtain ⟨h4, h5⟩ := h3 (fun b' l' e => by injection e with e1 e2; rw [← e1]; exact hb)
        have hne : ((b.toNat : Int) != 45) = true := by
          rw [bne_iff_ne]; intro e; exact hb (UInt8.toNat_inj.1 (by show b.toNat = 45; omega))
        rw [hne]
        refine ⟨_, rfl, fun n hn => ?_, fun hn => ?_⟩
        · rw [h4 n hn]
        · rw [h5 hn] at hr; cases hr
end Go.Lift
namespace Go.Lift
open Go
def allL {X Y : Type} (g : X → Option Y) : List X → Option (List Y)
  | [] => some []
  | x :: l => match g x with
    | none => none
    | some y => match allL g l with
      | none => none
      | some ys => some (y :: ys)
theorem allL_cons {X Y : Type} {g : X → Option Y} {x : X} {l : List X} : allL g (x :: l) = match g x with
    | none => none
    | some y => match allL g l with
      | none => none
      | some ys => some (y :: ys) := rfl
theorem allL_map {X Y Z : Type} {f : X → Y} {g : Y → Option Z} : ∀ {l : List X}, allL g (l.map f) = allL (fun x => g (f x)) l
  | [] => rfl
  | x :: l => by
    show (match g (f x) with | none => none | some y => match allL g (l.map f) with | none => none | some ys => some (y :: ys)) = _
    rw [allL_map (l := l)]; rfl
theorem allL_len {X Y : Type} {g : X → Option Y} : ∀ {l : List X} {ys : List Y}, allL g l = some ys → ys.length = l.length
  | [], _, h => by cases h; rfl
  | x :: l, ys, h => by
    unfold allL at h
    split at h
    · cases h
    · split at h
      · cases h
      · rename_i h2; cases h; rw [List.length_cons, List.length_cons, allL_len h2]
theorem allL_mem {X Y : Type} {g : X → Option Y} : ∀ {l : List X} {ys : List Y}, allL g l = some ys → ∀ y, y ∈ ys → ∃ x, x ∈ l ∧ g x = some y
  | [], _, h => by cases h; intro y hy; cases hy
  | x :: l, ys, h => by
    unfold allL at h
    split at h
    · cases h
    · rename_i y0 h1
      split at h
      · cases h
      · rename_i h2
        cases h
        intro y hy
        rcases List.mem_cons.1 hy with rfl | hy
        · exact ⟨x, List.mem_cons_self, h1⟩
        · obtain ⟨x', a, b⟩ := allL_mem h2 y hy
          exact ⟨x', List.mem_cons_of_mem _ a, b⟩
theorem allL_none {X Y : Type} {g : X → Option Y} {x : X} (hx : g x = none) : ∀ {l : List X}, x ∈ l → allL g l = none
  | [], h => by cases h
  | z :: l, h => by
    unfold allL
    rcases List.mem_cons.1 h with rfl | h
    · rw [hx]
    · cases g z with
      | none => rfl
      | some y => simp only []; rw [allL_none hx h]
theorem loopL_all {X Y S R : Type} {F : X → S → Option (S ⊕ R)} {g : X → Option Y} {put : List Y → S} {r0 : R} {N : Nat} : ∀ {l : List X} {out : List Y}, out.length + l.length ≤ N →
    (∀ x, x ∈ l → ∀ out : List Y, out.length < N → F x (put out) = some (match g x with | some y => .inl (put (out ++ [y])) | none => .inr r0)) →
    loopL F l (put out) = some (match allL g l with | some ys => .inl (put (out ++ ys)) | none => .inr r0)
  | [], out, _, _ => by
    show some (Sum.inl (put out)) = some (Sum.inl (put (out ++ [])))
    rw [List.append_nil]
  | x :: l, out, h, hF => by
    rw [List.length_cons] at h
    unfold loopL
    rw [hF x List.mem_cons_self out (by omega), Option.bind_some]
    unfold allL
    cases hg : g x with
    | none => rfl
    | some y =>
      show loopL F l (put (out ++ [y])) = _
      rw [loopL_all (by rw [List.length_append, List.length_singleton]; omega) (fun z hz => hF z (List.mem_cons_of_mem _ hz))]
      cases allL g l with
      | none => rfl
      | some ys => simp only []; rw [List.append_assoc]; rfl
theorem loopT_all {X Y S R : Type} {F : X → S → Option (S ⊕ R)} {g : X → Option Y} {put : List Y → S} {r0 : R} {l : List X}
    (hF : ∀ x, x ∈ l → ∀ out : List Y, out.length < l.length → F x (put out) = some (match g x with | some y => .inl (put (out ++ [y])) | none => .inr r0)) :
    loopT F l (put []) = some (match allL g l with | some ys => .inl (put ys) | none => .inr r0) := by
  have htot : Total F l (put []) := by
    intro pre x s' hlen hsub hx hs'
    have h1 := loopL_all (F := F) (g := g) (put := put) (r0 := r0) (N := l.length) (l := pre) (out := []) (by rw [List.length_nil]; omega) (fun z hz out ho => hF z (hsub z hz) out ho)
    rw [hs'] at h1
    cases ha : allL g pre with
    | none => rw [ha] at h1; cases h1
    | some ys =>
      rw [ha] at h1
      have he : s' = put ys := by injection h1 with h1; injection h1
      rw [he, hF x hx ys (by rw [allL_len ha]; exact hlen)]
      exact ⟨_, rfl⟩
  unfold loopT
  rw [if_pos htot, loopL_all (N := l.length) (by rw [List.length_nil]; omega) hF]
  rfl
theorem loopM_all {X Y S R : Type} {f : S → Option (S ⊕ R)} {g : X → Option Y} {xs : List X} (st : Nat → List Y → S) (fin : List Y → R) (e0 : R)
    (hstep : ∀ (pre post : List X) (x : X) (out : List Y), xs = pre ++ x :: post → out.length = pre.length → f (st pre.length out) = some (match g x with | some y => .inl (st (pre.length + 1) (out ++ [y])) | none => .inr e0))
    (hend : ∀ out, out.length = xs.length → f (st xs.length out) = some (.inr (fin out))) :
    loopM f (st 0 []) = some (match allL g xs with | some ys => fin ys | none => e0) := by
  refine loopM_list_eq (X := X) (fun rest s => ∃ (pre : List X) (out : List Y), xs = pre ++ rest ∧ out.length = pre.length ∧ s = st pre.length out ∧ (match allL g rest with | some ys => fin (out ++ ys) | none => e0) = (match allL g xs with | some ys => fin ys | none => e0)) ?_ ?_ (l := xs) ⟨[], [], rfl, rfl, rfl, rfl⟩
  · rintro x rest _ ⟨pre, out, h1, h2, rfl, h3⟩
    rw [hstep pre rest x out h1 h2]
    rw [allL_cons] at h3
    cases hg : g x with
    | none => rw [hg] at h3; exact Or.inr (by rw [← h3])
    | some y =>
      rw [hg] at h3
      refine Or.inl ⟨_, rfl, pre ++ [x], out ++ [y], by rw [h1]; simp, by rw [List.length_append, List.length_append, h2]; rfl, by rw [List.length_append]; rfl, ?_⟩
      rw [← h3]
      cases allL g rest with
      | none => rfl
      | some ys => simp only []; rw [List.append_assoc]; rfl
  · rintro _ ⟨pre, out, h1, h2, rfl, h3⟩
    rw [List.append_nil] at h1
    subst h1
    rw [hend out h2, ← h3]
    show _ = some (Sum.inr (fin (out ++ [])))
    rw [List.append_nil]
def numI (w : List UInt8) : Option Int := (numL w).map fun n => (n : Int)
def numsL (c : UInt8) (l : List UInt8) : Option (List Int) := allL numI (pcs c l)
theorem atoiAll_range {l : List UInt8} {v : Int} (h : Lib.atoiAll l = .ok v) : -9223372036854775808 ≤ v ∧ v ≤ 9223372036854775807 := by
  unfold Lib.atoiAll at h
  split at h
  · cases h
  · simp only at h
    split at h
    · cases h
    · cases h
    · split at h
      · cases h
      · split at h
        · cases h
        · rename_i h1 h2
          injection h with h
          subst h
          split <;> omega
theorem atoiN_range {l : List UInt8} (h : (atoiN l).2 = true) : -9223372036854775808 ≤ (atoiN l).1 ∧ (atoiN l).1 ≤ 9223372036854775807 := by
  unfold atoiN at h ⊢
  split at h
  · rename_i v hv; exact atoiAll_range hv
  · cases h
  · cases h
theorem parsed_ok {s : ByteArray} {c : UInt8} (h : s.size ≤ 60000) : trace_parsed s ⟨#[c]⟩ = some (match numsL c s.data.toList with | some l => (l, true) | none => ([], false)) := by
  have hsz := size_len s
  unfold trace_parsed
  rw [splitF_ok (by omega), Option.bind_some]
  have hlen := pcs_len (c := c) (l := s.data.toList)
  have hl := loopT_all (X := ByteArray) (Y := Int) (S := List Int) (R := List Int × Bool) (F := fun w out =>
    (strconv_Atoi w).bind fun (r : Int × Bool) =>
    (bif ((!r.2) || (decide (r.1 < 0))) then some true else
      (strconv_Itoa r.1).bind fun (t : ByteArray) =>
      some (!seqb t w)).bind fun (c : Bool) =>
    bif (c || (decide ((ByteArray.size w : Int) > 7))) then
      Option.map Sum.inr (
        some ([], false))
    else
      (app out [r.1]).bind fun (t_1 : List Int) =>
      some (.inl t_1)) (g := fun w => numI w.data.toList) (put := id) (r0 := ([], false)) (l := (pcs c s.data.toList).map bof) (by
    intro w hw out ho
    obtain ⟨p, hp, rfl⟩ := List.mem_map.1 hw
    have hps := pcs_mem hp
    rw [List.length_map] at ho
    have ha : strconv_Atoi (bof p) = some (atoiN p) := by
      unfold strconv_Atoi atoiF
      rw [dec_true (show (bof p).size ≤ 4294967280 by rw [bof_size]; omega)]; rfl
    simp only [ha, Option.bind_some, data_bof]
    unfold numI
    cases hn : numL p with
    | some n =>
      obtain ⟨h1, h2⟩ := numL_iff.1 hn
      have hlt := numL_lt hn
      rw [atoi_num hn]
      have hself : seqb (bof p) (bof p) = true := by rw [seqb_data]; exact beq_self_eq_true _
      rw [dec_false (show ¬ (n : Int) < 0 by omega), Itoa_ok (by omega) (by omega), itoa_nat, ← h1]
      show ((some (!seqb (bof p) (bof p))).bind _) = _
      rw [hself, Option.bind_some, Bool.not_true, Bool.false_or, dec_false (show ¬ (((bof p).size : Nat) : Int) > 7 by rw [bof_size]; omega), cond_false, app_ok (by show out.length + 1 ≤ _; omega)]
      rfl
    | none =>
      have key : ∃ b, ((bif ((!(atoiN p).2) || (decide ((atoiN p).1 < 0))) then some true else
          (strconv_Itoa (atoiN p).1).bind fun (t : ByteArray) => some (!seqb t (bof p))) = some b) ∧ (b || (decide ((ByteArray.size (bof p) : Int) > 7))) = true := by
        cases h1 : (atoiN p).2 with
        | false => exact ⟨true, rfl, rfl⟩
        | true =>
          by_cases h2 : (atoiN p).1 < 0
          · exact ⟨true, by rw [dec_true h2]; rfl, rfl⟩
          · rw [dec_false h2]
            have hr := atoiN_range h1
            rw [Itoa_ok hr.1 hr.2]
            refine ⟨!seqb (bof (Lib.itoa (atoiN p).1)) (bof p), rfl, ?_⟩
            rw [seqb_data, data_bof, data_bof]
            cases h3 : (Lib.itoa (atoiN p).1 == p) with
            | false => rfl
            | true =>
              obtain ⟨v, hv⟩ : ∃ v : Nat, (atoiN p).1 = (v : Int) := ⟨(atoiN p).1.toNat, by omega⟩
              rw [hv, itoa_nat, beq_iff_eq] at h3
              by_cases h7 : p.length ≤ 7
              · rw [numL_iff.2 ⟨h3.symm, h7⟩] at hn; cases hn
              · rw [bof_size, dec_true (show ((p.length : Nat) : Int) > 7 by omega)]; rfl
      obtain ⟨b, h1, h2⟩ := key
      rw [h1, Option.bind_some, h2, cond_true]
      rfl)
  rw [show (id ([] : List Int)) = [] from rfl] at hl
  rw [hl, Option.bind_some, allL_map]
  simp only [data_bof]
  rw [show allL (fun x => numI x) (pcs c s.data.toList) = numsL c s.data.toList from rfl]
  cases numsL c s.data.toList <;> rfl
end Go.Lift
