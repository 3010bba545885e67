/-
  A course is written on both sides.
-/
import Derived.Test.YteobfadhflofpaaGreatDoorPlainAB
set_option linter.unusedSectionVars false
set_option linter.unusedVariables false
set_option linter.unusedSimpArgs false
namespace Go.Lift
open Go
def W64I (n : Int) : Prop := -9223372036854775808 ≤ n ∧ n ≤ 9223372036854775807
theorem cat_bof {a b : List UInt8} (h : a.length + b.length ≤ 4294967296) : cat (bof a) (bof b) = some (bof (a ++ b)) := by
 unfold cat
 rw [bof_size, bof_size, if_pos h]
 congr 1
theorem itoa_len {n : Int} (h : W64I n) : (Lib.itoa n).length ≤ 21 := Lib.itoa_length_le n h.1 h.2
def digsN (m : Nat) : List UInt8 := if m = 0 then [] else Lib.decDigits m
theorem digsN_step {m : Nat} (h : m ≠ 0) : digsN m = digsN (m / 10) ++ [UInt8.ofNat (48 + m % 10)] := by
 unfold digsN
 rw [if_neg h]
 by_cases h1 : m < 10
 ·rw [if_pos (by omega), Lib.decDigits_one h1, Nat.mod_eq_of_lt h1]; rfl
 ·rw [if_neg (show m / 10 ≠ 0 by omega)]
  rw [show Lib.decDigits m = Lib.decDigits (m / 10) ++ [UInt8.ofNat (48 + m % 10)] by rw [Lib.decDigits, dif_neg h1]]
theorem Decimal_ok {n : Int} (h : W64I n) : b0_Decimal n = some (bof (Lib.itoa n)) := by
 obtain ⟨h1, h2⟩ := h
 unfold b0_Decimal
 by_cases h0 : n = 0
 ·subst h0
  rw [show ((0 : Int) == 0) = true from rfl, cond_true, show Lib.itoa (0 : Int) = Lib.decDigits 0 from itoa_nat 0, Lib.decDigits_one (by decide)]
  rfl
 ·rw [show (n == 0) = false by rw [beq_eq_false_iff_ne]; exact h0, cond_false]
  have hlen := itoa_len (n := n) ⟨h1, h2⟩
  have hit : Lib.itoa n = (if n < 0 then [45] else []) ++ digsN n.natAbs := by
   unfold Lib.itoa digsN
   by_cases hn : n < 0
   ·rw [if_pos hn, if_pos hn, if_neg (by omega)]; rfl
   ·rw [if_neg hn, if_neg hn, if_neg (by omega), show n.toNat = n.natAbs by omega]; rfl
  have hd : (digsN n.natAbs).length ≤ 21 := by
   have := congrArg List.length hit
   rw [List.length_append] at this; omega
  have hloop : ∃ r, loopM (S := Int × ByteArray) (R := ByteArray) (fun s =>
   let n_1 : Int := s.1
   let s_1 : ByteArray := s.2
   bif (n_1 != 0) then
    chk (10 != 0) (
     (b0_Size (Int.tmod n_1 10)).bind fun (t : Int) =>
     (cat (sofb [wu8 (wi64 (48 + t))]) s_1).bind fun t_1 =>
     chk (10 != 0) (
      let t_2 : Int := wi64 (Int.tdiv n_1 10)
      some (.inl (t_2, t_1))))
   else
    some (.inr s_1)) (n, ByteArray.empty) = some r ∧ r = bof (digsN n.natAbs) := by
   refine loopM_inv (fun s => ∃ acc, s.2 = bof acc ∧ digsN s.1.natAbs ++ acc = digsN n.natAbs ∧ s.1.natAbs ≤ n.natAbs) (fun s => s.1.natAbs) _ ?_ ⟨[], rfl, List.append_nil _, Nat.le_refl _⟩
   rintro ⟨m, _⟩ ⟨acc, rfl, a1, a2⟩
   simp only at a1 a2 ⊢
   by_cases hm : m = 0
   ·subst hm
    exact Or.inr ⟨bof acc, rfl, by rw [← a1]; rfl⟩
   ·refine Or.inl ⟨(Int.tdiv m 10, bof (UInt8.ofNat (48 + m.natAbs % 10) :: acc)), ?_, ⟨_, rfl, ?_, ?_⟩, ?_⟩
    ·have hsz : b0_Size (Int.tmod m 10) = some ((m.natAbs % 10 : Nat) : Int) := by
      have hq : (Int.tmod m 10).natAbs = m.natAbs % 10 := Int.natAbs_tmod m 10
      rw [size_ok (by omega) (by omega), hq]
     have hlt : m.natAbs % 10 < 10 := Nat.mod_lt _ (by decide)
     have hb : wu8 (wi64 (48 + ((m.natAbs % 10 : Nat) : Int))) = ((48 + m.natAbs % 10 : Nat) : Int) := by
      rw [wi64_id (by omega) (by omega)]
      have : wu8 (48 + ((m.natAbs % 10 : Nat) : Int)) = (48 + ((m.natAbs % 10 : Nat) : Int)) % 256 := wrap_u .u8 rfl _
      omega
     have hs : sofb [((48 + m.natAbs % 10 : Nat) : Int)] = bof [UInt8.ofNat (48 + m.natAbs % 10)] := rfl
     have hal := congrArg List.length a1
     rw [List.length_append] at hal
     have htd : -9223372036854775808 ≤ Int.tdiv m 10 ∧ Int.tdiv m 10 ≤ 9223372036854775807 := by
      have hq : (Int.tdiv m 10).natAbs = m.natAbs / 10 := Int.natAbs_tdiv m 10
      omega
     rw [show (m != 0) = true by rw [bne_iff_ne]; exact hm, cond_true, chk_true (by rfl), hsz, Option.bind_some, hb, hs, cat_bof (by rw [List.length_singleton]; omega), Option.bind_some, chk_true (by rfl), wi64_id htd.1 (by omega)]
     rfl
    ·have hq : (Int.tdiv m 10).natAbs = m.natAbs / 10 := Int.natAbs_tdiv m 10
     rw [← a1, digsN_step (show m.natAbs ≠ 0 by omega), hq, List.append_assoc]
     rfl
    ·have hq : (Int.tdiv m 10).natAbs = m.natAbs / 10 := Int.natAbs_tdiv m 10
     simp only
     omega
    ·have hq : (Int.tdiv m 10).natAbs = m.natAbs / 10 := Int.natAbs_tdiv m 10
     simp only
     omega
  obtain ⟨r, e, rfl⟩ := hloop
  by_cases hn : n < 0
  ·rw [dec_true hn, cond_true, Option.bind_some, e, Option.bind_some, show bytes [45] = bof [45] from rfl, cat_bof (by rw [List.length_singleton]; omega), Option.bind_some, hit, if_pos hn]
  ·rw [dec_false hn, cond_false, Option.bind_some, e, Option.bind_some, show ByteArray.empty = bof [] from rfl, cat_bof (by rw [List.length_nil]; omega), Option.bind_some, hit, if_neg hn]
theorem join_len {sep : List UInt8} {B : Nat} {l : List (List UInt8)} (h : ∀ x, x ∈ l → x.length ≤ B) : (Lib.join l sep).length ≤ l.length * (B + sep.length) := by
 have ht : ∀ (r : List (List UInt8)), (∀ x, x ∈ r → x.length ≤ B) → (Lib.joinTail sep r).length ≤ r.length * (B + sep.length) := by
  intro r
  induction r with
  | nil => intro _; simp [Lib.joinTail]
  | cons y r ih =>
   intro hr
   have i := ih fun x hx => hr x (List.mem_cons_of_mem _ hx)
   have hy := hr y List.mem_cons_self
   unfold Lib.joinTail at i ⊢
   rw [List.map_cons, List.flatten_cons, List.length_append, List.length_append, List.length_cons, Nat.succ_mul]
   omega
 cases l with
 | nil => exact Nat.zero_le _
 | cons y r =>
  rw [Lib.join_cons, List.length_append, List.length_cons, Nat.succ_mul]
  have := ht r fun x hx => h x (List.mem_cons_of_mem _ hx)
  have := h y List.mem_cons_self
  omega
theorem Join_ok {l : List (List UInt8)} {sep : List UInt8} (h1 : l.length ≤ 4294967296) (h2 : (Lib.join l sep).length ≤ 4294967296) : strings_Join (l.map bof) (bof sep) = some (bof (Lib.join l sep)) := by
 unfold strings_Join
 have hm : (l.map bof).map (·.data.toList) = l := by rw [List.map_map]; exact List.map_id l
 rw [hm, data_bof, List.length_map, dec_true h1, dec_true h2]
 rfl
def pieceS (l k : List Int) (i : Nat) : List UInt8 := Lib.itoa (l.getD i 0) ++ [42] ++ Lib.itoa (k.getD i 0)
def numsS (l : List Int) (k : Nat) : List (List UInt8) := (List.range k).map fun i => Lib.itoa (l.getD i 0)
def secsS (c : Dapi_TraceCourse) (k : Nat) : List (List UInt8) := (List.range k).map (pieceS c.2.1 c.2.2.1)
def stepS (x : Dapi_TraceStep) : List UInt8 := if x.1 = 0 then [112, 32] ++ Lib.join (numsS x.2.1 x.2.1.length) [44] else [99, 32] ++ Lib.itoa x.2.2.1 ++ [32] ++ Lib.itoa x.2.2.2
def stepAtS (c : Dapi_TraceCourse) (i : Nat) : List UInt8 := stepS (c.2.2.2.getD i (0, ([], (0, 0))))
def partsS (c : Dapi_TraceCourse) (k : Nat) : List (List UInt8) := [c.1.data.toList, Lib.join (secsS c (max c.2.1.length c.2.2.1.length)) [44]] ++ (List.range k).map (stepAtS c)
def courseS (c : Dapi_TraceCourse) : List UInt8 := Lib.join (partsS c c.2.2.2.length) [59]
structure FmtIn (c : Dapi_TraceCourse) : Prop where
 ls : c.2.1.length ≤ 1000
 la : c.2.2.1.length ≤ 1000
 steps : c.2.2.2.length ≤ 1000
 name : c.1.size ≤ 1000
 areas : ∀ x, x ∈ c.2.2.2 → x.2.1.length ≤ 1000
 w1 : ∀ i, W64I (c.2.1.getD i 0)
 w2 : ∀ i, W64I (c.2.2.1.getD i 0)
 w3 : ∀ x, x ∈ c.2.2.2 → (∀ i, W64I (x.2.1.getD i 0)) ∧ W64I x.2.2.1 ∧ W64I x.2.2.2
theorem at_ok (l : List Int) (i : Nat) : trace_at l (i : Int) = some (l.getD i 0) := by
 unfold trace_at
 by_cases h : i < l.length
 ·rw [dec_true (show (i : Int) < (l.length : Int) by omega), cond_true, chk_true (and_true' (dec_true (by omega)) rfl)]
  rfl
 ·rw [dec_false (show ¬ (i : Int) < (l.length : Int) by omega), cond_false, List.getD_eq_getElem?_getD, List.getElem?_eq_none (by omega)]
  rfl
theorem range_snoc {A : Type} {f : Nat → A} {k : Nat} : (List.range (k + 1)).map f = (List.range k).map f ++ [f k] := by rw [List.range_succ, List.map_append]; rfl
theorem numsS_len {l : List Int} {k : Nat} (hw : ∀ i, W64I (l.getD i 0)) : (Lib.join (numsS l k) [44]).length ≤ k * 22 := by
 have := join_len (sep := [44]) (B := 21) (l := numsS l k) (fun x hx => by
  obtain ⟨i, _, rfl⟩ := List.mem_map.1 hx
  exact itoa_len (hw i))
 unfold numsS at this ⊢
 rwa [List.length_map, List.length_range] at this
theorem pieceS_len {l k : List Int} {i : Nat} (h1 : W64I (l.getD i 0)) (h2 : W64I (k.getD i 0)) : (pieceS l k i).length ≤ 43 := by
 unfold pieceS
 have := itoa_len h1
 have := itoa_len h2
 rw [List.length_append, List.length_append, List.length_singleton]
 omega
theorem secsS_len {c : Dapi_TraceCourse} (h : FmtIn c) {k : Nat} : (Lib.join (secsS c k) [44]).length ≤ k * 44 := by
 have := join_len (sep := [44]) (B := 43) (l := secsS c k) (fun x hx => by
  obtain ⟨i, _, rfl⟩ := List.mem_map.1 hx
  exact pieceS_len (h.w1 i) (h.w2 i))
 unfold secsS at this ⊢
 rwa [List.length_map, List.length_range] at this
theorem stepS_len {c : Dapi_TraceCourse} (h : FmtIn c) {x : Dapi_TraceStep} (hx : x ∈ c.2.2.2) : (stepS x).length ≤ 23000 := by
 obtain ⟨h1, h2, h3⟩ := h.w3 x hx
 have ha := h.areas x hx
 unfold stepS
 split
 ·have := numsS_len (k := x.2.1.length) h1
  rw [List.length_append]
  simp only [List.length_cons, List.length_nil]
  omega
 ·have := itoa_len h2
  have := itoa_len h3
  simp only [List.length_append, List.length_cons, List.length_nil]
  omega
end Go.Lift
namespace Go.Lift
open Go
theorem lget_nat {A : Type} {d : A} {l : List A} {k : Nat} : lget d l (k : Int) = l.getD k d := rfl
theorem max_ok (a b : Nat) : imax (a : Int) (b : Int) = ((max a b : Nat) : Int) := by
 unfold imax
 split <;> omega
theorem getD_mem {A : Type} {l : List A} {k : Nat} {d : A} (h : k < l.length) : l.getD k d ∈ l := by
 rw [List.getD_eq_getElem?_getD, List.getElem?_eq_getElem h]
 exact List.getElem_mem h
theorem numbers_ok {l : List Int} (hl : l.length ≤ 1000) (hw : ∀ i, W64I (l.getD i 0)) : trace_numbers l = some (bof (Lib.join (numsS l l.length) [44])) := by
 unfold trace_numbers
 refine bind_of (loopM_upto (fun k => ((numsS l k).map bof, (k : Int))) l.length rfl (r := (numsS l l.length).map bof) ?_ ?_) ?_
 ·intro k hk
  have hn : (numsS l k).length = k := by unfold numsS; rw [List.length_map, List.length_range]
  simp only
  rw [dec_true (show (k : Int) < (l.length : Int) by omega), cond_true, chk_true (and_true' (dec_true (by omega)) rfl), lget_nat, Itoa_ok (hw k).1 (hw k).2, Option.bind_some, app_ok (by rw [List.length_map, hn, List.length_singleton]; omega), Option.bind_some, wi64_id (by omega) (by omega)]
  rw [show numsS l (k + 1) = numsS l k ++ [Lib.itoa (l.getD k 0)] from range_snoc, List.map_append]
  rfl
 ·simp only
  rw [dec_false (show ¬ (l.length : Int) < (l.length : Int) by omega), cond_false]
 ·have hn : (numsS l l.length).length = l.length := by unfold numsS; rw [List.length_map, List.length_range]
  have := numsS_len (k := l.length) hw
  rw [show bytes [44] = bof [44] from rfl, Join_ok (by omega) (by omega)]
  rfl
theorem tFormat_ok {c : Dapi_TraceCourse} (h : FmtIn c) : trace_FormatCourse c = some (bof (courseS c)) := by
 unfold trace_FormatCourse
 have h1 := h.ls
 have h2 := h.la
 have h3 := h.steps
 have h4 := h.name
 rw [max_ok]
 have hm : max c.2.1.length c.2.2.1.length ≤ 1000 := by omega
 generalize hM : max c.2.1.length c.2.2.1.length = M at *
 refine bind_of (loopM_upto (fun k => ((secsS c k).map bof, (k : Int))) M rfl (r := (secsS c M).map bof) ?_ ?_) ?_
 ·intro k hk
  have hn : (secsS c k).length = k := by unfold secsS; rw [List.length_map, List.length_range]
  have hA := h.w1 k
  have hB := h.w2 k
  have lA := itoa_len hA
  have lB := itoa_len hB
  simp only
  rw [dec_true (show (k : Int) < (M : Int) by omega), cond_true, at_ok, Option.bind_some, Itoa_ok hA.1 hA.2, Option.bind_some, show bytes [42] = bof [42] from rfl, cat_bof (by rw [List.length_singleton]; omega), Option.bind_some, at_ok, Option.bind_some, Itoa_ok hB.1 hB.2, Option.bind_some, cat_bof (by rw [List.length_append, List.length_singleton]; omega), Option.bind_some, app_ok (by rw [List.length_map, hn, List.length_singleton]; omega), Option.bind_some, wi64_id (by omega) (by omega)]
  rw [show secsS c (k + 1) = secsS c k ++ [pieceS c.2.1 c.2.2.1 k] from range_snoc, List.map_append]
  rfl
 ·simp only
  rw [dec_false (show ¬ (M : Int) < (M : Int) by omega), cond_false]
 ·have hn : (secsS c M).length = M := by unfold secsS; rw [List.length_map, List.length_range]
  have hsl := secsS_len h (k := M)
  rw [show bytes [44] = bof [44] from rfl, Join_ok (by omega) (by omega), Option.bind_some]
  have hp0 : partsS c 0 = [c.1.data.toList, Lib.join (secsS c M) [44]] := by unfold partsS; rw [hM]; rfl
  have hpl : ∀ k, (partsS c k).length = k + 2 := fun k => by
   unfold partsS
   rw [List.length_append, List.length_map, List.length_range]
   show 2 + k = _
   omega
  refine bind_of (loopM_upto (fun k => ((partsS c k).map bof, (k : Int))) c.2.2.2.length ?_ (r := (partsS c c.2.2.2.length).map bof) ?_ ?_) ?_
  ·show ([c.1, bof (Lib.join (secsS c M) [44])], (0 : Int)) = ((partsS c 0).map bof, ((0 : Nat) : Int))
   rw [hp0, List.map_cons, bof_data]
   rfl
  ·intro k hk
   have hx : c.2.2.2.getD k (0, ([], (0, 0))) ∈ c.2.2.2 := getD_mem hk
   obtain ⟨x1, x2, x3⟩ := h.w3 _ hx
   have x4 := h.areas _ hx
   have hs : partsS c (k + 1) = partsS c k ++ [stepAtS c k] := by
    unfold partsS
    rw [range_snoc, List.append_assoc]
   simp only
   rw [dec_true (show (k : Int) < (c.2.2.2.length : Int) by omega), cond_true, chk_true (and_true' (dec_true (by omega)) rfl), lget_nat, hs, List.map_append]
   unfold stepAtS
   generalize c.2.2.2.getD k (0, ([], (0, 0))) = x at *
   unfold stepS
   have hp : (List.map bof (partsS c k)).length = k + 2 := by rw [List.length_map, hpl]
   by_cases h0 : x.1 = 0
   ·have hnl := numsS_len (k := x.2.1.length) x1
    rw [show (x.1 == 0) = true by rw [h0]; rfl, cond_true, numbers_ok x4 x1, Option.bind_some, show bytes [112, 32] = bof [112, 32] from rfl, cat_bof (by simp only [List.length_cons, List.length_nil]; omega), Option.bind_some, app_ok (by rw [hp, List.length_singleton]; omega), Option.bind_some, wi64_id (by omega) (by omega), if_pos h0]
    rfl
   ·have l2 := itoa_len x2
    have l3 := itoa_len x3
    rw [show (x.1 == 0) = false by rw [beq_eq_false_iff_ne]; exact h0, cond_false, Itoa_ok x2.1 x2.2, Option.bind_some, show bytes [99, 32] = bof [99, 32] from rfl, cat_bof (by simp only [List.length_cons, List.length_nil]; omega), Option.bind_some, show bytes [32] = bof [32] from rfl, cat_bof (by simp only [List.length_append, List.length_cons, List.length_nil]; omega), Option.bind_some, Itoa_ok x3.1 x3.2, Option.bind_some, cat_bof (by simp only [List.length_append, List.length_cons, List.length_nil]; omega), Option.bind_some, app_ok (by rw [hp, List.length_singleton]; omega), Option.bind_some, wi64_id (by omega) (by omega), if_neg h0]
    rfl
  ·simp only
   rw [dec_false (show ¬ (c.2.2.2.length : Int) < (c.2.2.2.length : Int) by omega), cond_false]
  ·have hJ := join_len (sep := [59]) (B := 100000) (l := partsS c c.2.2.2.length) (fun x hx => by
    unfold partsS at hx
    rcases List.mem_append.1 hx with hx | hx
    ·rcases List.mem_cons.1 hx with rfl | hx
     ·have := size_len c.1; omega
     ·rw [List.mem_singleton.1 hx, hM]; omega
    ·obtain ⟨i, hi, rfl⟩ := List.mem_map.1 hx
     have := stepS_len h (getD_mem (d := (0, ([], (0, 0)))) (List.mem_range.1 hi))
     unfold stepAtS
     omega)
   rw [hpl] at hJ
   have hJ2 : (Lib.join (partsS c c.2.2.2.length) [59]).length ≤ 1002 * 100001 := Nat.le_trans hJ (Nat.mul_le_mul (by omega) (Nat.le_refl _))
   rw [show bytes [59] = bof [59] from rfl, Join_ok (by rw [hpl]; omega) (by omega)]
   rfl
end Go.Lift
