/-
  Names and strings in pieces.
-/
import Derived.Test.YtkoojmbkjgbdgaaGreatDoorPlainA
import Derived.Test.YtkoojmbkjgbdgaaGreatDoorLiftN
import Derived.Lib.Join
import Derived.Lib.ItoaMem
import Derived.Lib.ItoaLen
set_option linter.unusedSectionVars false
set_option linter.unusedVariables false
set_option linter.unusedSimpArgs false
set_option linter.unusedVariables false
set_option linter.unusedSimpArgs false
namespace Go.Lift
open Go
theorem Within_ok (n lo hi : Int) : b0_Within n lo hi = some (decide (lo ≤ n ∧ n ≤ hi)) := by
  unfold b0_Within
  simp only [Option.some.injEq]
  by_cases h1 : lo ≤ n <;> by_cases h2 : n ≤ hi <;> simp [h1, h2]
theorem pass_within_ok (n lo hi : Int) : pass_within n lo hi = some (decide (lo ≤ n ∧ n ≤ hi)) := mill_within_ok n lo hi
theorem model_within_ok (n lo hi : Int) : model_within n lo hi = some (decide (lo ≤ n ∧ n ≤ hi)) := mill_within_ok n lo hi
theorem pass_first_ok {l : List Int} (hl : l.length ≤ 1000) : pass_first l = some (firstE l) := first_ok hl
theorem model_first_ok {l : List Int} (hl : l.length ≤ 1000) : model_first l = some (firstE l) := first_ok hl
theorem unless_ok (b : Bool) (e : Int) : mill_unless b e = some (bif b then 0 else e) := by
  unfold mill_unless
  cases b <;> rfl
theorem pass_unless_ok (b : Bool) (e : Int) : pass_unless b e = some (bif b then 0 else e) := unless_ok b e
theorem model_unless_ok (b : Bool) (e : Int) : model_unless b e = some (bif b then 0 else e) := unless_ok b e
def nameAt (i : Nat) (c : Int) : Bool := (decide (97 ≤ c ∧ c ≤ 122) || decide (65 ≤ c ∧ c ≤ 90)) || (decide (i ≠ 0) && (decide (c = 45) || decide (48 ≤ c ∧ c ≤ 57)))
def nameL : Nat → List Int → Bool
  | _, [] => true
  | i, c :: l => nameAt i c && nameL (i + 1) l
def nameB (s : ByteArray) : Bool := nameL 0 (sbytes s) && decide (1 ≤ (s.size : Int) ∧ (s.size : Int) ≤ 12)
theorem sbytes_len (s : ByteArray) : (sbytes s).length = s.size := by
  unfold sbytes
  rw [List.length_map]
  rfl
theorem sbytes_range {s : ByteArray} {c : Int} (h : c ∈ sbytes s) : 0 ≤ c ∧ c < 256 := by
  unfold sbytes at h
  obtain ⟨b, _, rfl⟩ := List.mem_map.1 h
  have := b.toNat_lt
  omega
theorem sget_lget {s : ByteArray} {i : Int} (h0 : 0 ≤ i) (h1 : i < s.size) : sget s i = lget 0 (sbytes s) i := by
  unfold sget lget sbytes
  obtain ⟨n, rfl⟩ : ∃ n : Nat, i = (n : Int) := ⟨i.toNat, by omega⟩
  rw [Int.toNat_natCast]
  have hn : n < s.data.size := by
    have : (n : Int) < (s.data.size : Int) := h1
    omega
  have hn2 : n < s.data.toList.length := hn
  rw [Array.getD_eq_getD_getElem?, List.getD_eq_getElem?_getD, List.getElem?_map, Array.getElem?_eq_getElem hn, List.getElem?_eq_getElem hn2]
  rfl
theorem isName_ok {s : ByteArray} (h : s.size ≤ 9223372036854775807) : mill_isName s = some (nameB s) := by
  unfold mill_isName
  have hlen := sbytes_len s
  refine Option.bind_eq_some_iff.2 ⟨(if nameL 0 (sbytes s) then .inl () else .inr false), ?_, ?_⟩
  · refine loopM_list_eq (X := Int) (l := sbytes s) (fun l' t => ∃ pre, sbytes s = pre ++ l' ∧ t = (pre.length : Int) ∧ nameL 0 (sbytes s) = nameL pre.length l') ?_ ?_ ⟨[], rfl, rfl, rfl⟩
    · rintro x l' t ⟨pre, e1, rfl, e2⟩
      have hL : (sbytes s).length = pre.length + (l'.length + 1) := by rw [e1, List.length_append, List.length_cons]
      have g1 : ∀ d, lget d (sbytes s) (pre.length : Int) = x := fun d => by rw [e1]; exact lget_mid
      have hx := sbytes_range (s := s) (c := x) (by rw [e1]; simp)
      rw [dec_true (show (pre.length : Int) < ((sbytes s).length : Int) by omega), cond_true, chk_true (and_true' (dec_true (by omega)) rfl), g1]
      simp only
      rw [wi64_id (x := x) (by omega) (by omega), mill_within_ok, Option.bind_some]
      have e3 : nameL pre.length (x :: l') = (nameAt pre.length x && nameL (pre.length + 1) l') := rfl
      rw [e3] at e2
      have hb : (bif !((decide (x ≥ 97) && decide (x ≤ 122)) || (decide (x ≥ 65) && decide (x ≤ 90))) then (bif ((pre.length : Int) == 0) then some true else (bif (x != 45) then some (!decide (48 ≤ x ∧ x ≤ 57)) else some false).bind fun c_1 => some c_1).bind fun c_2 => some c_2 else some false) = some (!nameAt pre.length x) := by
        unfold nameAt
        rw [show ((decide (x ≥ 97) && decide (x ≤ 122)) || (decide (x ≥ 65) && decide (x ≤ 90))) = (decide (97 ≤ x ∧ x ≤ 122) || decide (65 ≤ x ∧ x ≤ 90)) by simp [ge_iff_le, Bool.decide_and]]
        cases decide (97 ≤ x ∧ x ≤ 122) || decide (65 ≤ x ∧ x ≤ 90) with
        | true => rfl
        | false =>
          rw [Bool.not_false, cond_true, Bool.false_or]
          by_cases h3 : pre.length = 0
          · rw [show ((pre.length : Int) == 0) = true by rw [h3]; rfl, dec_false (show ¬ pre.length ≠ 0 by omega)]; rfl
          · rw [show ((pre.length : Int) == 0) = false by rw [beq_eq_false_iff_ne]; omega, dec_true (show pre.length ≠ 0 from h3), cond_false, Bool.true_and]
            by_cases h4 : x = 45
            · rw [dec_true h4, show (x != 45) = false by rw [h4]; rfl]; rfl
            · rw [dec_false h4, show (x != 45) = true by rw [bne_iff_ne]; exact h4, Bool.false_or]; rfl
      rw [hb, Option.bind_some]
      generalize nameAt pre.length x = b at *
      cases b with
      | true =>
        left
        rw [Bool.not_true, cond_false, wi64_id (by omega) (by omega)]
        rw [Bool.true_and] at e2
        exact ⟨_, rfl, pre ++ [x], by rw [e1]; simp, by rw [List.length_append, List.length_singleton]; rfl, by rw [List.length_append, List.length_singleton]; exact e2⟩
      | false =>
        right
        rw [Bool.false_and] at e2
        rw [e2]
        rfl
    · rintro t ⟨pre, e1, rfl, e2⟩
      have hL : (sbytes s).length = pre.length := by rw [e1, List.append_nil]
      rw [dec_false (show ¬ (pre.length : Int) < ((sbytes s).length : Int) by omega), cond_false, e2]
      rfl
  · unfold nameB
    cases nameL 0 (sbytes s) with
    | true => simp only [if_true, Bool.true_and]; rw [mill_within_ok, Option.bind_some]
    | false => rfl
theorem IsName_ok {s : ByteArray} (h : s.size ≤ 9223372036854775807) : b0_IsName s = some (nameB s) := by
  unfold b0_IsName nameB
  have hlen := sbytes_len s
  by_cases hs : 1 ≤ (s.size : Int) ∧ (s.size : Int) ≤ 12
  · rw [dec_true hs, Bool.and_true, dec_false (show ¬ (s.size : Int) < 1 by omega), dec_false (show ¬ (s.size : Int) > 12 by omega), Bool.or_self, cond_false]
    refine Option.bind_eq_some_iff.2 ⟨(if nameL 0 (sbytes s) then .inl () else .inr false), ?_, by cases nameL 0 (sbytes s) <;> rfl⟩
    refine loopM_list_eq (X := Int) (l := sbytes s) (fun l' t => ∃ pre, sbytes s = pre ++ l' ∧ t = (pre.length : Int) ∧ nameL 0 (sbytes s) = nameL pre.length l') ?_ ?_ ⟨[], rfl, rfl, rfl⟩
    · rintro x l' t ⟨pre, e1, rfl, e2⟩
      have hL : (sbytes s).length = pre.length + (l'.length + 1) := by rw [e1, List.length_append, List.length_cons]
      have g1 : sget s (pre.length : Int) = x := by rw [sget_lget (by omega) (by omega), e1]; exact lget_mid
      have hx := sbytes_range (s := s) (c := x) (by rw [e1]; simp)
      rw [dec_true (show (pre.length : Int) < (s.size : Int) by omega), cond_true, chk_true (and_true' (dec_true (by omega)) rfl), g1]
      simp only
      have e3 : nameL pre.length (x :: l') = (nameAt pre.length x && nameL (pre.length + 1) l') := rfl
      rw [e3] at e2
      have hb : ((!((decide (x ≥ 97) && decide (x ≤ 122)) || (decide (x ≥ 65) && decide (x ≤ 90)))) && (((pre.length : Int) == 0) || ((x != 45) && (decide (x < 48) || decide (x > 57))))) = !nameAt pre.length x := by
        unfold nameAt
        rw [Bool.eq_iff_iff]
        simp only [Bool.and_eq_true, Bool.or_eq_true, Bool.not_eq_true', decide_eq_true_eq, beq_iff_eq, bne_iff_ne, Bool.or_eq_false_iff, Bool.and_eq_false_iff, decide_eq_false_iff_not]
        omega
      rw [hb]
      generalize nameAt pre.length x = b at *
      cases b with
      | true =>
        left
        rw [Bool.not_true, cond_false, wi64_id (by omega) (by omega)]
        rw [Bool.true_and] at e2
        exact ⟨_, rfl, pre ++ [x], by rw [e1]; simp, by rw [List.length_append, List.length_singleton]; rfl, by rw [List.length_append, List.length_singleton]; exact e2⟩
      | false =>
        right
        rw [Bool.false_and] at e2
        rw [e2]
        rfl
    · rintro t ⟨pre, e1, rfl, e2⟩
      have hL : (sbytes s).length = pre.length := by rw [e1, List.append_nil]
      rw [dec_false (show ¬ (pre.length : Int) < (s.size : Int) by omega), cond_false, e2]
      rfl
  · rw [dec_false hs, Bool.and_false]
    have : (decide ((s.size : Int) < 1) || decide ((s.size : Int) > 12)) = true := by
      rw [Bool.or_eq_true, decide_eq_true_eq, decide_eq_true_eq]; omega
    rw [this, cond_true]
end Go.Lift
set_option linter.unusedVariables false
set_option linter.unusedSimpArgs false
namespace Go.Lift
open Go
def bof (l : List UInt8) : ByteArray := ⟨l.toArray⟩
theorem bof_data (s : ByteArray) : bof s.data.toList = s := by cases s with | mk d => cases d; rfl
theorem data_bof (l : List UInt8) : (bof l).data.toList = l := rfl
theorem bof_size (l : List UInt8) : (bof l).size = l.length := rfl
theorem size_len (s : ByteArray) : s.size = s.data.toList.length := by cases s with | mk d => cases d; rfl
theorem seqb_data (a b : ByteArray) : seqb a b = (a.data.toList == b.data.toList) := by unfold seqb; rw [ByteArray.toList_eq, ByteArray.toList_eq]
def cutL (c : UInt8) : List UInt8 → Option (List UInt8 × List UInt8)
  | [] => none
  | b :: l => if b = c then some ([], l) else (cutL c l).map fun p => (b :: p.1, p.2)
theorem cutL_len {c : UInt8} : ∀ {l : List UInt8} {x y : List UInt8}, cutL c l = some (x, y) → l = x ++ c :: y
  | [], _, _, h => by cases h
  | b :: l, x, y, h => by
    unfold cutL at h
    by_cases hb : b = c
    · rw [if_pos hb] at h; cases h; rw [hb]; rfl
    · rw [if_neg hb] at h
      cases h1 : cutL c l with
      | none => rw [h1] at h; cases h
      | some p => rw [h1] at h; cases h; rw [cutL_len (x := p.1) (y := p.2) h1]; rfl
def pcsN (c : UInt8) : Nat → List UInt8 → List (List UInt8)
  | 0, l => [l]
  | n + 1, l => match cutL c l with
    | none => [l]
    | some p => p.1 :: pcsN c n p.2
def pcs (c : UInt8) (l : List UInt8) : List (List UInt8) := pcsN c l.length l
theorem pcsN_eq {c : UInt8} : ∀ {n : Nat} {l : List UInt8}, l.length ≤ n → pcsN c n l = pcs c l
  | n, l, h => by
    unfold pcs
    generalize hm : l.length = m at *
    induction m using Nat.strongRecOn generalizing l n with
    | _ m ih =>
      cases n with
      | zero =>
        obtain rfl : m = 0 := by omega
        rfl
      | succ n =>
        cases m with
        | zero =>
          have : l = [] := List.length_eq_zero_iff.1 hm
          subst this; rfl
        | succ m =>
          unfold pcsN
          cases h1 : cutL c l with
          | none => rfl
          | some p =>
            have hl := congrArg List.length (cutL_len (x := p.1) (y := p.2) h1)
            rw [List.length_append, List.length_cons] at hl
            show p.1 :: pcsN c n p.2 = p.1 :: pcsN c m p.2
            rw [ih p.2.length (by omega) n p.2 rfl (by omega), ih p.2.length (by omega) m p.2 rfl (by omega)]
theorem pcs_none {c : UInt8} {l : List UInt8} (h : cutL c l = none) : pcs c l = [l] := by
  unfold pcs
  cases l with
  | nil => rfl
  | cons b l => unfold pcsN; rw [List.length_cons]; simp only; rw [h]
theorem pcs_some {c : UInt8} {l x y : List UInt8} (h : cutL c l = some (x, y)) : pcs c l = x :: pcs c y := by
  have hl := congrArg List.length (cutL_len h)
  rw [List.length_append, List.length_cons] at hl
  obtain ⟨m, hm⟩ : ∃ m, l.length = m + 1 := ⟨l.length - 1, by omega⟩
  rw [show pcs c l = pcsN c l.length l from rfl, hm]
  unfold pcsN
  rw [h]
  show x :: pcsN c m y = x :: pcs c y
  rw [pcsN_eq (by omega)]
theorem pcs_ne {c : UInt8} {l : List UInt8} : pcs c l ≠ [] := by
  cases h : cutL c l with
  | none => rw [pcs_none h]; exact List.cons_ne_nil _ _
  | some p => rw [pcs_some (x := p.1) (y := p.2) h]; exact List.cons_ne_nil _ _
theorem pcs_cons {c b : UInt8} {l : List UInt8} : pcs c (b :: l) = if b = c then [] :: pcs c l else match pcs c l with | [] => [[b]] | p :: ps => (b :: p) :: ps := by
  by_cases hb : b = c
  · rw [if_pos hb]; exact pcs_some (by unfold cutL; rw [if_pos hb])
  · rw [if_neg hb]
    cases h : cutL c l with
    | none => rw [pcs_none h, pcs_none (by unfold cutL; rw [if_neg hb, h]; rfl)]
    | some p => rw [pcs_some (x := p.1) (y := p.2) h, pcs_some (x := b :: p.1) (y := p.2) (by unfold cutL; rw [if_neg hb, h]; rfl)]
theorem pcs_len {c : UInt8} : ∀ {l : List UInt8}, (pcs c l).length ≤ l.length + 1
  | [] => by rw [pcs_none rfl]; exact Nat.le_refl _
  | b :: l => by
    have ih := pcs_len (c := c) (l := l)
    rw [pcs_cons]
    split
    · rw [List.length_cons, List.length_cons]; omega
    · split
      · simp
      · rename_i p ps h
        rw [h] at ih
        rw [List.length_cons] at ih ⊢
        rw [List.length_cons]; omega
theorem pcs_mem {c : UInt8} : ∀ {l p : List UInt8}, p ∈ pcs c l → p.length ≤ l.length
  | [], p, h => by rw [pcs_none rfl] at h; rw [List.mem_singleton.1 h]; exact Nat.le_refl _
  | b :: l, p, h => by
    rw [pcs_cons] at h
    split at h
    · rcases List.mem_cons.1 h with h | h
      · rw [h]; simp
      · have := pcs_mem (c := c) (l := l) h; rw [List.length_cons]; omega
    · split at h
      · rw [List.mem_singleton.1 h]; simp
      · rename_i q ps hq
        rcases List.mem_cons.1 h with h | h
        · have := pcs_mem (c := c) (l := l) (p := q) (by rw [hq]; exact List.mem_cons_self)
          rw [h, List.length_cons, List.length_cons]; omega
        · have := pcs_mem (c := c) (l := l) (p := p) (by rw [hq]; exact List.mem_cons_of_mem _ h)
          rw [List.length_cons]; omega
theorem index_cut {c : UInt8} : ∀ {l : List UInt8}, (cutL c l = none ∧ Lib.index l [c] = -1) ∨ ∃ i : Nat, i < l.length ∧ Lib.index l [c] = i ∧ cutL c l = some (l.take i, l.drop (i + 1))
  | [] => Or.inl ⟨rfl, by simp [Lib.index]⟩
  | b :: l => by
    by_cases hb : b = c
    · refine Or.inr ⟨0, by simp, ?_, ?_⟩
      · rw [Lib.index]; simp [List.isPrefixOf, hb]
      · unfold cutL; rw [if_pos hb]; rfl
    · have hp : ([c] : List UInt8).isPrefixOf (b :: l) = false := by simp [List.isPrefixOf, Ne.symm hb]
      have hix : Lib.index (b :: l) [c] = if Lib.index l [c] == -1 then -1 else Lib.index l [c] + 1 := by rw [Lib.index, hp]; simp
      rcases index_cut (c := c) (l := l) with ⟨h1, h2⟩ | ⟨i, h0, h1, h2⟩
      · refine Or.inl ⟨?_, ?_⟩
        · unfold cutL; rw [if_neg hb, h1]; rfl
        · rw [hix, h2]; rfl
      · refine Or.inr ⟨i + 1, ?_, ?_, ?_⟩
        · rw [List.length_cons]; omega
        · rw [hix, h1, if_neg (by intro hc; have := beq_iff_eq.1 hc; omega)]; omega
        · unfold cutL; rw [if_neg hb, h2]; rfl
theorem split_pcs (c : UInt8) : ∀ (k : Nat) (s : ByteArray), Lib.countB s ⟨#[c]⟩ = k → Lib.splitB ⟨#[c]⟩ 0 k s = (pcs c s.data.toList).map bof
  | k, s, hk => by
    have hs1 : (⟨#[c]⟩ : ByteArray).size = 1 := rfl
    rcases index_cut (c := c) (l := s.data.toList) with ⟨h1, h2⟩ | ⟨i, h0, h1, h2⟩
    · rw [Lib.splitB_miss _ _ _ _ h2, pcs_none h1, List.map_cons, bof_data]; rfl
    · have hh := Lib.countB_hit s ⟨#[c]⟩ i (by rw [hs1]; exact Nat.le_refl _) h1
      rw [hh] at hk
      obtain ⟨m, rfl⟩ : ∃ m, k = m + 1 := ⟨k - 1, by omega⟩
      rw [Lib.splitB_hit _ _ _ _ i h1, pcs_some h2, List.map_cons, split_pcs c m _ (by rw [hs1] at hk ⊢; omega), Nat.add_zero, hs1]
      have e1 : s.extract 0 i = bof (s.data.toList.take i) := by rw [← bof_data (s.extract 0 i), Lib.extract_from_zero]
      have e2 : (s.extract (i + 1) s.size).data.toList = s.data.toList.drop (i + 1) := Lib.extract_to_end s (i + 1)
      rw [e1, e2]
theorem splitF_ok {c : UInt8} {s : ByteArray} (h : s.size ≤ 4294967280) : splitF ⟨#[c]⟩ s = some ((pcs c s.data.toList).map bof) := by
  unfold splitF
  rw [decide_eq_true h, show decide (1 ≤ (⟨#[c]⟩ : ByteArray).size) = true from rfl]
  show some _ = _
  rw [split_pcs c _ s rfl]
theorem cutF_ok {c : UInt8} {s : ByteArray} (h : s.size ≤ 4294967280) : cutF ⟨#[c]⟩ s = some (match cutL c s.data.toList with | none => (s, ByteArray.empty, false) | some p => (bof p.1, bof p.2, true)) := by
  unfold cutF
  rw [decide_eq_true h, show ((⟨#[c]⟩ : ByteArray).size == 1) = true from rfl]
  show some _ = _
  have hd : (⟨#[c]⟩ : ByteArray).data.toList = [c] := rfl
  rw [hd]
  unfold Lib.cut
  rcases index_cut (c := c) (l := s.data.toList) with ⟨h1, h2⟩ | ⟨i, h0, h1, h2⟩
  · rw [h2, if_neg (by omega), h1]
    show some (bof s.data.toList, bof [], false) = _
    rw [bof_data]; rfl
  · rw [h1, if_pos (by omega), h2]
    simp [bof]
def noC (c : UInt8) (l : List UInt8) : Prop := ∀ b, b ∈ l → b ≠ c
theorem cutL_no {c : UInt8} : ∀ {l : List UInt8}, noC c l → cutL c l = none
  | [], _ => rfl
  | b :: l, h => by
    unfold cutL
    rw [if_neg (h b List.mem_cons_self), cutL_no (fun x hx => h x (List.mem_cons_of_mem _ hx))]; rfl
theorem cutL_mid {c : UInt8} {r : List UInt8} : ∀ {l : List UInt8}, noC c l → cutL c (l ++ c :: r) = some (l, r)
  | [], _ => by show cutL c (c :: r) = _; unfold cutL; rw [if_pos rfl]
  | b :: l, h => by
    show cutL c (b :: (l ++ c :: r)) = _
    unfold cutL
    rw [if_neg (h b List.mem_cons_self), cutL_mid (fun x hx => h x (List.mem_cons_of_mem _ hx))]; rfl
theorem sget_mid {s : ByteArray} {pre post : List UInt8} {b : UInt8} (h : s.data.toList = pre ++ b :: post) : sget s (pre.length : Int) = (b.toNat : Int) := by
  unfold sget
  have : s.data.getD pre.length 0 = b := by
    have hg : s.data[pre.length]? = some b := by
      rw [← Array.getElem?_toList, h]; simp
    rw [Array.getD_eq_getD_getElem?, hg]; rfl
  rw [Int.toNat_natCast, this]
theorem extract_mid {s : ByteArray} {pre mid post : List UInt8} (h : s.data.toList = pre ++ mid ++ post) : s.extract pre.length (pre.length + mid.length) = bof mid := by
  rw [Lib.extract_eq, h, List.append_assoc, List.drop_left, Nat.add_sub_cancel_left, List.take_left]; rfl
theorem Cut_ok {s : ByteArray} {c : UInt8} (h : s.size ≤ 60000) : b0_Cut s (c.toNat : Int) = some ((pcs c s.data.toList).map bof) := by
  have hsz := size_len s
  unfold b0_Cut
  have hloop : ∃ r : (List ByteArray) × Int, loopM (S := (List ByteArray) × Int × Int) (R := (List ByteArray) × Int) (fun s_1 =>
    let out : (List ByteArray) := s_1.1
    let from_ : Int := s_1.2.1
    let i : Int := s_1.2.2
    bif decide (i < (ByteArray.size s : Int)) then
      chk (decide ((0 : Int) ≤ i) && decide (i < (ByteArray.size s : Int))) (
        (bif ((sget s i) == (c.toNat : Int)) then
          chk (decide ((0 : Int) ≤ from_) && decide ((from_ : Int) ≤ i) && decide (i ≤ (ByteArray.size s : Int))) (
            (app out [ByteArray.extract s (Int.toNat from_) (Int.toNat i)]).bind fun (t : List ByteArray) =>
            some (t, wi64 (i + 1)))
        else
          some (out, from_)).bind fun (j : (List ByteArray) × Int) =>
        let out_1 : (List ByteArray) := j.1
        let from__1 : Int := j.2
        some (.inl (out_1, from__1, wi64 (i + 1))))
    else
      some (.inr (out, from_))) ([], 0, 0) = some r ∧ ∃ (outL : List (List UInt8)) (pre mid : List UInt8), r = (outL.map bof, (pre.length : Int)) ∧ s.data.toList = pre ++ mid ∧ outL.length ≤ pre.length ∧ pcs c s.data.toList = outL ++ [mid] := by
    refine loopM_list (X := UInt8) (fun rest st => ∃ (outL : List (List UInt8)) (pre mid : List UInt8), st = (outL.map bof, (pre.length : Int), ((pre.length + mid.length : Nat) : Int)) ∧ s.data.toList = pre ++ mid ++ rest ∧ outL.length ≤ pre.length ∧ noC c mid ∧ pcs c s.data.toList = outL ++ pcs c (mid ++ rest)) _ ?_ ?_ (l := s.data.toList) ⟨[], [], [], rfl, by simp, by simp, (fun b hb => by cases hb), by simp⟩
    · rintro b rest _ ⟨outL, pre, mid, rfl, h1, h2, h3, h4⟩
      refine Or.inl ?_
      have hl := congrArg List.length h1
      rw [List.length_append, List.length_append, List.length_cons] at hl
      have hg : sget s ((pre.length + mid.length : Nat) : Int) = (b.toNat : Int) := by rw [← List.length_append]; exact sget_mid h1
      simp only [hg]
      rw [dec_true (show ((pre.length + mid.length : Nat) : Int) < (s.size : Int) by omega), cond_true, chk_true (and_true' (dec_true (by omega)) rfl)]
      by_cases hb : b = c
      · subst hb
        rw [beq_self_eq_true, cond_true, chk_true (and_true' (and_true' (dec_true (by omega)) (dec_true (by omega))) (dec_true (by omega))), Int.toNat_natCast, Int.toNat_natCast, extract_mid h1, app_ok (by rw [List.length_map, List.length_singleton]; omega), Option.bind_some, Option.bind_some]
        refine ⟨_, rfl, outL ++ [mid], pre ++ mid ++ [b], [], ?_, ?_, ?_, (fun x hx => by cases hx), ?_⟩
        · rw [List.map_append, List.length_append, List.length_append, List.length_singleton, List.length_nil, wi64_id (by omega) (by omega)]
          show (_, _, _) = (_, _, _)
          rw [Nat.add_zero]
          rfl
        · rw [h1]; simp
        · rw [List.length_append, List.length_append, List.length_append, List.length_singleton, List.length_singleton]; omega
        · rw [h4, pcs_some (cutL_mid h3)]; simp
      · have hne : ((b.toNat : Int) == (c.toNat : Int)) = false := by
          rw [beq_eq_false_iff_ne]; intro e; exact hb (UInt8.toNat_inj.1 (by omega))
        rw [hne, cond_false, Option.bind_some]
        refine ⟨_, rfl, outL, pre, mid ++ [b], ?_, ?_, h2, ?_, ?_⟩
        · rw [List.length_append, List.length_singleton, wi64_id (by omega) (by omega)]
          rfl
        · rw [h1]; simp
        · intro x hx
          rcases List.mem_append.1 hx with hx | hx
          · exact h3 x hx
          · rw [List.mem_singleton.1 hx]; exact hb
        · rw [h4]; simp
    · rintro _ ⟨outL, pre, mid, rfl, h1, h2, h3, h4⟩
      have hl := congrArg List.length h1
      rw [List.length_append, List.length_append, List.length_nil] at hl
      simp only []
      rw [dec_false (show ¬ ((pre.length + mid.length : Nat) : Int) < (s.size : Int) by omega), cond_false]
      refine ⟨_, rfl, outL, pre, mid, rfl, by rw [h1, List.append_nil], h2, ?_⟩
      rw [h4, List.append_nil, pcs_none (cutL_no h3)]
  obtain ⟨_, e, outL, pre, mid, rfl, h1, h2, h3⟩ := hloop
  rw [e, Option.bind_some]
  have hl := congrArg List.length h1
  rw [List.length_append] at hl
  have hx : s.extract pre.length s.size = bof mid := by
    have := extract_mid (s := s) (pre := pre) (mid := mid) (post := []) (by rw [h1, List.append_nil])
    rwa [← hl, ← hsz] at this
  rw [chk_true (and_true' (and_true' (dec_true (by omega)) (dec_true (by omega))) (dec_true (by omega))), Int.toNat_natCast, Int.toNat_natCast, hx, app_ok (by rw [List.length_map, List.length_singleton]; omega), Option.bind_some, h3, List.map_append]
  rfl
def isD (b : UInt8) : Bool := decide (48 ≤ b.toNat) && decide (b.toNat ≤ 57)
def valL : Nat → List UInt8 → Nat
  | a, [] => a
  | a, b :: l => valL (a * 10 + (b.toNat - 48)) l
theorem valL_snoc {b : UInt8} : ∀ {l : List UInt8} {a : Nat}, valL a (l ++ [b]) = valL a l * 10 + (b.toNat - 48)
  | [], _ => rfl
  | _ :: l, _ => valL_snoc (l := l)
def numD (D : Nat) (l : List UInt8) : Option Nat := if l ≠ [] ∧ l.length ≤ D ∧ l.all isD = true ∧ (l.length = 1 ∨ l.head? ≠ some 48) then some (valL 0 l) else none
theorem isD_iff {b : UInt8} : isD b = true ↔ 48 ≤ b.toNat ∧ b.toNat ≤ 57 := by
  unfold isD; rw [Bool.and_eq_true, decide_eq_true_iff, decide_eq_true_iff]
theorem valL_lt : ∀ {l : List UInt8} {a k : Nat}, l.all isD = true → a < 10 ^ k → valL a l < 10 ^ (k + l.length)
  | [], _, _, _, h => h
  | b :: l, a, k, hd, h => by
    rw [List.all_cons, Bool.and_eq_true] at hd
    have hb := isD_iff.1 hd.1
    rw [List.length_cons, show k + (l.length + 1) = (k + 1) + l.length by omega]
    exact valL_lt hd.2 (by rw [Nat.pow_succ]; omega)
theorem numD_lt {D : Nat} {l : List UInt8} {n : Nat} (h : numD D l = some n) : n < 10 ^ D := by
  unfold numD at h
  split at h
  · rename_i hc
    cases h
    have := valL_lt (a := 0) (k := 0) hc.2.2.1 (by decide)
    rw [Nat.zero_add] at this
    exact Nat.lt_of_lt_of_le this (Nat.pow_le_pow_right (by decide) hc.2.1)
  · cases h
theorem digits_num : ∀ (v : Nat), (Lib.decDigits v ≠ [] ∧ (Lib.decDigits v).all isD = true ∧ ((Lib.decDigits v).length = 1 ∨ (Lib.decDigits v).head? ≠ some 48) ∧ valL 0 (Lib.decDigits v) = v) ∧ (1 ≤ v → (Lib.decDigits v).head? ≠ some 48)
  | v => by
    have hdig : ∀ k, k < 10 → isD (UInt8.ofNat (48 + k)) = true ∧ (UInt8.ofNat (48 + k)).toNat - 48 = k ∧ (1 ≤ k → UInt8.ofNat (48 + k) ≠ 48) := by decide
    by_cases h : v < 10
    · rw [Lib.decDigits_one h]
      obtain ⟨d1, d2, d3⟩ := hdig v h
      refine ⟨⟨List.cons_ne_nil _ _, by rw [List.all_cons, d1]; rfl, Or.inl rfl, ?_⟩, fun h1 e => d3 h1 (by simpa using e)⟩
      show 0 * 10 + ((UInt8.ofNat (48 + v)).toNat - 48) = v
      omega
    · obtain ⟨⟨i1, i2, i3, i4⟩, i5⟩ := digits_num (v / 10)
      obtain ⟨d1, d2, d3⟩ := hdig (v % 10) (by omega)
      have hh : (Lib.decDigits (v / 10) ++ [UInt8.ofNat (48 + v % 10)]).head? ≠ some 48 := by
        have := i5 (by omega)
        cases hx : Lib.decDigits (v / 10) with
        | nil => exact absurd hx i1
        | cons x l => rw [hx] at this; exact this
      rw [Lib.decDigits, dif_neg h]
      refine ⟨⟨by simp, by rw [List.all_append, i2, List.all_cons, d1]; rfl, Or.inr hh, ?_⟩, fun _ => hh⟩
      rw [valL_snoc, i4, d2]
      omega
termination_by v => v
decreasing_by omega
theorem digits_val : ∀ (k : Nat) {l : List UInt8}, l.length = k → l ≠ [] → l.all isD = true → (l.length = 1 ∨ l.head? ≠ some 48) → Lib.decDigits (valL 0 l) = l ∧ (l.head? ≠ some 48 → 1 ≤ valL 0 l)
  | 0, l, hk, hn, _, _ => absurd (List.length_eq_zero_iff.1 hk) hn
  | k + 1, l, hk, hn, hd, hh => by
    have hback : ∀ b : UInt8, isD b = true → UInt8.ofNat (48 + (b.toNat - 48)) = b := fun b hb => by
      have := isD_iff.1 hb
      rw [Nat.add_sub_cancel' this.1]; simp
    obtain ⟨u, b, rfl⟩ : ∃ u b, l = u ++ [b] := ⟨l.dropLast, l.getLast hn, (List.dropLast_concat_getLast hn).symm⟩
    rw [List.all_append, Bool.and_eq_true, List.all_cons, Bool.and_eq_true] at hd
    have hb := isD_iff.1 hd.2.1
    rw [List.length_append, List.length_singleton] at hk hh
    cases u with
    | nil =>
      refine ⟨?_, fun e => ?_⟩
      · show Lib.decDigits (0 * 10 + (b.toNat - 48)) = [b]
        rw [Nat.zero_mul, Nat.zero_add, Lib.decDigits_one (by omega), hback b hd.2.1]
      · show 1 ≤ 0 * 10 + (b.toNat - 48)
        have : b ≠ 48 := fun h => e (by rw [h]; rfl)
        have : b.toNat ≠ 48 := fun h => this (UInt8.toNat_inj.1 h)
        omega
    | cons x u =>
      have hx : (x :: u).head? ≠ some 48 := by
        rcases hh with hh | hh
        · rw [List.length_cons] at hh; omega
        · exact hh
      obtain ⟨i1, i2⟩ := digits_val k (l := x :: u) (by omega) (List.cons_ne_nil _ _) hd.1 (Or.inr hx)
      have := i2 hx
      rw [valL_snoc, Lib.decDigits, dif_neg (by omega), show (valL 0 (x :: u) * 10 + (b.toNat - 48)) / 10 = valL 0 (x :: u) by omega, show (valL 0 (x :: u) * 10 + (b.toNat - 48)) % 10 = b.toNat - 48 by omega, i1, hback b hd.2.1]
      exact ⟨rfl, fun _ => by omega⟩
theorem parse_ok : ∀ {l : List UInt8} {a k : Nat}, l.all isD = true → a < 10 ^ k → k + l.length ≤ 14 → Lib.parseUint10 a l = .ok (valL a l)
  | [], _, _, _, _, _ => rfl
  | b :: l, a, k, hd, h, hk => by
    rw [List.all_cons, Bool.and_eq_true] at hd
    rw [List.length_cons] at hk
    have hb := isD_iff.1 hd.1
    have : (10 : Nat) ^ k ≤ 10 ^ 14 := Nat.pow_le_pow_right (by decide) (by omega)
    rw [show (10 : Nat) ^ 14 = 100000000000000 from rfl] at this
    unfold Lib.parseUint10
    rw [if_pos hb, if_neg (by omega), if_neg (by omega)]
    exact parse_ok (k := k + 1) hd.2 (by rw [Nat.pow_succ]; omega) (by omega)
theorem numD_iff {D : Nat} {l : List UInt8} {n : Nat} : numD D l = some n ↔ l = Lib.decDigits n ∧ l.length ≤ D := by
  constructor
  · intro h
    unfold numD at h
    split at h
    · rename_i hc
      cases h
      exact ⟨(digits_val l.length rfl hc.1 hc.2.2.1 hc.2.2.2).1.symm, hc.2.1⟩
    · cases h
  · rintro ⟨rfl, h⟩
    obtain ⟨⟨d1, d2, d3, d4⟩, _⟩ := digits_num n
    unfold numD
    rw [if_pos ⟨d1, h, d2, d3⟩, d4]
theorem pow14 {D : Nat} (hD : D ≤ 14) : 10 ^ D ≤ 100000000000000 := Nat.le_trans (Nat.pow_le_pow_right (by decide) hD) (Nat.le_of_eq rfl)
theorem atoi_num {D : Nat} (hD : D ≤ 14) {l : List UInt8} {n : Nat} (h : numD D l = some n) : atoiN l = ((n : Int), true) := by
  have hlt := Nat.lt_of_lt_of_le (numD_lt h) (pow14 hD)
  unfold numD at h
  split at h
  · rename_i hc
    cases h
    obtain ⟨h1, h2, h3, h4⟩ := hc
    unfold atoiN
    have : Lib.atoiAll l = .ok ((valL 0 l : Nat) : Int) := by
      cases l with
      | nil => exact absurd rfl h1
      | cons b r =>
        have hb := h3
        rw [List.all_cons, Bool.and_eq_true] at hb
        have hb := isD_iff.1 hb.1
        unfold Lib.atoiAll
        simp only []
        rw [if_neg (show ¬ (b.toNat = 43 ∨ b.toNat = 45) by omega)]
        unfold Lib.parseMag
        rw [if_neg (List.cons_ne_nil _ _), parse_ok (k := 0) h3 (by decide) (by omega)]
        simp only []
        rw [if_neg (by omega), if_neg (by omega), if_neg (by omega)]
    rw [this]
  · cases h
theorem itoa_nat (n : Nat) : Lib.itoa (n : Int) = Lib.decDigits n := Lib.itoa_nonneg n
theorem Itoa_ok {n : Int} (h1 : -9223372036854775808 ≤ n) (h2 : n ≤ 9223372036854775807) : strconv_Itoa n = some (bof (Lib.itoa n)) := by
  unfold strconv_Itoa; rw [decide_eq_true h1, decide_eq_true h2]; rfl
end Go.Lift
