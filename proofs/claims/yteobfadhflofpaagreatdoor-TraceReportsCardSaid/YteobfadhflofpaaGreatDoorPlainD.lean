/-
  Courses of the program and of the document; positions moved.
-/
import Derived.Test.YteobfadhflofpaaGreatDoorPlainC
set_option linter.unusedSectionVars false
set_option linter.unusedVariables false
set_option linter.unusedSimpArgs false
namespace Go.Lift
open Go
def nameAt (i : Nat) (c : Int) : Bool := (decide (97 ≤ c ∧ c ≤ 122) || decide (65 ≤ c ∧ c ≤ 90)) || (decide (i ≠ 0) && (decide (c = 45) || decide (48 ≤ c ∧ c ≤ 57)))
def nameL : Nat → List Int → Bool
 | _, [] => true
 | i, c :: l => nameAt i c && nameL (i + 1) l
def nameB (s : ByteArray) : Bool := nameL 0 (sbytes s) && decide (1 ≤ (s.size : Int) ∧ (s.size : Int) ≤ 12)
theorem sbytes_len (s : ByteArray) : (sbytes s).length = s.size := by
 unfold sbytes
 rw [List.length_map]
 rfl
theorem sbytes_range {s : ByteArray} {c : Int} (h : c ∈ sbytes s) : 0 ≤ c ∧ c < 256 := by
 unfold sbytes at h
 obtain ⟨b, _, rfl⟩ := List.mem_map.1 h
 have := b.toNat_lt
 omega
theorem sget_lget {s : ByteArray} {i : Int} (h0 : 0 ≤ i) (h1 : i < s.size) : sget s i = lget 0 (sbytes s) i := by
 unfold sget lget sbytes
 obtain ⟨n, rfl⟩ : ∃ n : Nat, i = (n : Int) := ⟨i.toNat, by omega⟩
 rw [Int.toNat_natCast]
 have hn : n < s.data.size := by
  have : (n : Int) < (s.data.size : Int) := h1
  omega
 have hn2 : n < s.data.toList.length := hn
 rw [Array.getD_eq_getD_getElem?, List.getD_eq_getElem?_getD, List.getElem?_map, Array.getElem?_eq_getElem hn, List.getElem?_eq_getElem hn2]
 rfl
theorem isName_ok {s : ByteArray} (h : s.size ≤ 9223372036854775807) : trace_isName s = some (nameB s) := by
 unfold trace_isName
 have hlen := sbytes_len s
 refine Option.bind_eq_some_iff.2 ⟨(if nameL 0 (sbytes s) then .inl () else .inr false), ?_, ?_⟩
 ·refine loopM_list_eq (X := Int) (l := sbytes s) (fun l' t => ∃ pre, sbytes s = pre ++ l' ∧ t = (pre.length : Int) ∧ nameL 0 (sbytes s) = nameL pre.length l') ?_ ?_ ⟨[], rfl, rfl, rfl⟩
  ·rintro x l' t ⟨pre, e1, rfl, e2⟩
   have hL : (sbytes s).length = pre.length + (l'.length + 1) := by rw [e1, List.length_append, List.length_cons]
   have g1 : ∀ d, lget d (sbytes s) (pre.length : Int) = x := fun d => by rw [e1]; exact lget_mid
   have hx := sbytes_range (s := s) (c := x) (by rw [e1]; simp)
   rw [dec_true (show (pre.length : Int) < ((sbytes s).length : Int) by omega), cond_true, chk_true (and_true' (dec_true (by omega)) rfl), g1]
   simp only
   rw [wi64_id (by omega) (by omega), within_ok, Option.bind_some, within_ok, Option.bind_some, within_ok, Option.bind_some]
   have e3 : nameL pre.length (x :: l') = (nameAt pre.length x && nameL (pre.length + 1) l') := rfl
   rw [e3] at e2
   have hb : ((bif decide (97 ≤ x ∧ x ≤ 122) then some true else some (decide (65 ≤ x ∧ x ≤ 90))).bind fun c_1 =>
     (bif !c_1 then (bif ((pre.length : Int) == 0) then some true else (bif (x != 45) then some (!decide (48 ≤ x ∧ x ≤ 57)) else some false).bind fun c_2 => some c_2).bind fun c_3 => some c_3 else some false)) = some (!nameAt pre.length x) := by
    unfold nameAt
    by_cases h1 : 97 ≤ x ∧ x ≤ 122
    ·rw [dec_true h1]; rfl
    ·rw [dec_false h1, cond_false, Option.bind_some, Bool.false_or]
     by_cases h2 : 65 ≤ x ∧ x ≤ 90
     ·rw [dec_true h2]; rfl
     ·rw [dec_false h2, Bool.not_false, cond_true, Bool.false_or]
      by_cases h3 : pre.length = 0
      ·rw [show ((pre.length : Int) == 0) = true by rw [h3]; rfl, dec_false (show ¬ pre.length ≠ 0 by omega)]; rfl
      ·rw [show ((pre.length : Int) == 0) = false by rw [beq_eq_false_iff_ne]; omega, dec_true (show pre.length ≠ 0 from h3), cond_false, Bool.true_and]
       by_cases h4 : x = 45
       ·rw [dec_true h4, show (x != 45) = false by rw [h4]; rfl]; rfl
       ·rw [dec_false h4, show (x != 45) = true by rw [bne_iff_ne]; exact h4, Bool.false_or]; rfl
   generalize nameAt pre.length x = b at *
   rw [Option.bind_eq_some_iff] at hb
   obtain ⟨c1, hc1, hc2⟩ := hb
   rw [hc1, Option.bind_some, hc2, Option.bind_some]
   cases b with
   | true =>
    left
    rw [Bool.not_true, cond_false, wi64_id (by omega) (by omega)]
    rw [Bool.true_and] at e2
    exact ⟨_, rfl, pre ++ [x], by rw [e1]; simp, by rw [List.length_append, List.length_singleton]; rfl, by rw [List.length_append, List.length_singleton]; exact e2⟩
   | false =>
    right
    rw [Bool.false_and] at e2
    rw [e2]
    rfl
  ·rintro t ⟨pre, e1, rfl, e2⟩
   have hL : (sbytes s).length = pre.length := by rw [e1, List.append_nil]
   rw [dec_false (show ¬ (pre.length : Int) < ((sbytes s).length : Int) by omega), cond_false, e2]
   rfl
 ·unfold nameB
  cases nameL 0 (sbytes s) with
  | true => simp only [if_true, Bool.true_and]; rw [within_ok, Option.bind_some]
  | false => rfl
theorem IsName_ok {s : ByteArray} (h : s.size ≤ 9223372036854775807) : b0_IsName s = some (nameB s) := by
 unfold b0_IsName nameB
 have hlen := sbytes_len s
 by_cases hs : 1 ≤ (s.size : Int) ∧ (s.size : Int) ≤ 12
 ·rw [dec_true hs, Bool.and_true, dec_false (show ¬ (s.size : Int) < 1 by omega), dec_false (show ¬ (s.size : Int) > 12 by omega), Bool.or_self, cond_false]
  refine Option.bind_eq_some_iff.2 ⟨(if nameL 0 (sbytes s) then .inl () else .inr false), ?_, by cases nameL 0 (sbytes s) <;> rfl⟩
  refine loopM_list_eq (X := Int) (l := sbytes s) (fun l' t => ∃ pre, sbytes s = pre ++ l' ∧ t = (pre.length : Int) ∧ nameL 0 (sbytes s) = nameL pre.length l') ?_ ?_ ⟨[], rfl, rfl, rfl⟩
  ·rintro x l' t ⟨pre, e1, rfl, e2⟩
   have hL : (sbytes s).length = pre.length + (l'.length + 1) := by rw [e1, List.length_append, List.length_cons]
   have g1 : sget s (pre.length : Int) = x := by rw [sget_lget (by omega) (by omega), e1]; exact lget_mid
   have hx := sbytes_range (s := s) (c := x) (by rw [e1]; simp)
   rw [dec_true (show (pre.length : Int) < (s.size : Int) by omega), cond_true, chk_true (and_true' (dec_true (by omega)) rfl), g1]
   simp only
   have e3 : nameL pre.length (x :: l') = (nameAt pre.length x && nameL (pre.length + 1) l') := rfl
   rw [e3] at e2
   have hb : ((!((decide (x ≥ 97) && decide (x ≤ 122)) || (decide (x ≥ 65) && decide (x ≤ 90)))) && (((pre.length : Int) == 0) || ((x != 45) && (decide (x < 48) || decide (x > 57))))) = !nameAt pre.length x := by
    unfold nameAt
    rw [Bool.eq_iff_iff]
    simp only [Bool.and_eq_true, Bool.or_eq_true, Bool.not_eq_true', decide_eq_true_eq, beq_iff_eq, bne_iff_ne, Bool.or_eq_false_iff, Bool.and_eq_false_iff, decide_eq_false_iff_not]
    omega
   rw [hb]
   generalize nameAt pre.length x = b at *
   cases b with
   | true =>
    left
    rw [Bool.not_true, cond_false, wi64_id (by omega) (by omega)]
    rw [Bool.true_and] at e2
    exact ⟨_, rfl, pre ++ [x], by rw [e1]; simp, by rw [List.length_append, List.length_singleton]; rfl, by rw [List.length_append, List.length_singleton]; exact e2⟩
   | false =>
    right
    rw [Bool.false_and] at e2
    rw [e2]
    rfl
  ·rintro t ⟨pre, e1, rfl, e2⟩
   have hL : (sbytes s).length = pre.length := by rw [e1, List.append_nil]
   rw [dec_false (show ¬ (pre.length : Int) < (s.size : Int) by omega), cond_false, e2]
   rfl
 ·rw [dec_false hs, Bool.and_false]
  have : (decide ((s.size : Int) < 1) || decide ((s.size : Int) > 12)) = true := by
   rw [Bool.or_eq_true, decide_eq_true_eq, decide_eq_true_eq]; omega
  rw [this, cond_true]
end Go.Lift
namespace Go.Lift
open Go
def slabS : Int → List Int → List Int → List Sec
 | t, n :: l, m :: k => ⟨(t : Rat), ((t + n : Int) : Rat), (t : Rat), ((t + n : Int) : Rat), m, m⟩ :: slabS (t + n) l k
 | _, _, _ => []
def okLA : List Int → List Int → Bool
 | n :: l, m :: k => decide (1 ≤ n ∧ n ≤ 20000) && decide (1 ≤ m ∧ m ≤ 1000) && okLA l k
 | _, _ => true
theorem slab_secs : ∀ {l k : List Int} {t : Int}, okLA l k = true → Secs (t : Rat) (t : Rat) (slabS t l k)
 | [], _, _, _ => by simp [slabS, Secs]
 | n :: l, [], _, _ => by simp [slabS, Secs]
 | n :: l, m :: k, t, h => by
  unfold okLA at h
  rw [Bool.and_eq_true, Bool.and_eq_true, decide_eq_true_eq, decide_eq_true_eq] at h
  obtain ⟨⟨h1, h2⟩, h3⟩ := h
  unfold slabS
  have hlt : (t : Rat) < ((t + n : Int) : Rat) := by rw [Rat.intCast_lt_intCast]; omega
  exact ⟨rfl, rfl, ⟨hlt, hlt, h2.1, h2.2, h2.1, h2.2, rfl⟩, slab_secs h3⟩
theorem slab_len : ∀ {l k : List Int} {t : Int}, l.length = k.length → (slabS t l k).length = l.length
 | [], _, _, _ => by simp [slabS]
 | n :: l, [], _, h => by simp at h
 | n :: l, m :: k, t, h => by unfold slabS; rw [List.length_cons, List.length_cons, slab_len (by simpa using h)]
theorem small_int {n : Int} (h1 : -1000000000 ≤ n) (h2 : n ≤ 1000000000) : smallQ (n : Rat) = true := by
 unfold smallQ
 rw [Rat.num_intCast, Rat.den_intCast, dec_true (by omega), dec_true (by omega)]; rfl
theorem slab_fit : ∀ {l k : List Int} {t : Int}, okLA l k = true → 0 ≤ t → t + 20000 * (l.length : Int) ≤ 1000000 → ∀ x, x ∈ slabS t l k → SecFit 1 x
 | [], _, _, _, _, _, x, hx => by simp [slabS] at hx
 | n :: l, [], _, _, _, _, x, hx => by simp [slabS] at hx
 | n :: l, m :: k, t, h, h0, hb, x, hx => by
  unfold okLA at h
  rw [Bool.and_eq_true, Bool.and_eq_true, decide_eq_true_eq, decide_eq_true_eq] at h
  obtain ⟨⟨h1, h2⟩, h3⟩ := h
  unfold slabS at hx
  rw [List.length_cons] at hb
  rcases List.mem_cons.1 hx with rfl | hx
  ·refine ⟨fit_whole (by omega) (by omega), fit_whole (by omega) (by omega), small_int (by omega) (by omega), small_int (by omega) (by omega), ?_⟩
   show smallQ (((t + n : Int) : Rat) - (t : Rat)) = true
   rw [← Rat.intCast_sub]
   exact small_int (by omega) (by omega)
  ·exact slab_fit h3 (by omega) (by omega) x hx
def outS (l : List Sec) (x : Dapi_TraceStep) : List Sec := if x.1 = 0 then rolledS 0 l x.2.1 else cutS (x.2.2.1 : Rat) (x.2.2.2 : Rat) l
def stS (c : Dapi_TraceCourse) (k : Nat) : List Sec := (c.2.2.2.take k).foldl outS (slabS 0 c.2.1 c.2.2.1)
def stepAt (c : Dapi_TraceCourse) (k : Nat) : Dapi_TraceStep := c.2.2.2.getD k (0, ([], (0, 0)))
theorem stepRel_out {l out : List Sec} {x : Dapi_TraceStep} (h : StepRel l x out) : out = outS l x := by
 unfold outS
 rcases h with ⟨h1, h2, _⟩ | ⟨h1, h2, _⟩
 ·rw [if_pos h1]; exact h2
 ·rw [if_neg (by omega)]; exact h2
theorem stS_zero (c : Dapi_TraceCourse) : stS c 0 = slabS 0 c.2.1 c.2.2.1 := by unfold stS; rw [List.take_zero]; rfl
theorem stS_succ {c : Dapi_TraceCourse} {k : Nat} (h : k < c.2.2.2.length) : stS c (k + 1) = outS (stS c k) (stepAt c k) := by
 unfold stS stepAt
 rw [List.take_add_one, List.foldl_append, List.getD_eq_getElem?_getD, List.getElem?_eq_getElem h]
 rfl
structure Valid (c : Dapi_TraceCourse) : Prop where
 steps : c.2.2.2.length ≤ 10
 len : c.2.1.length = c.2.2.1.length
 la : okLA c.2.1 c.2.2.1 = true
 strip : ∀ k, k ≤ c.2.2.2.length → StripOk (1 + 5 * k) (stS c k)
 rel : ∀ k, k < c.2.2.2.length → StepRel (stS c k) (stepAt c k) (stS c (k + 1))
 norm : ∀ k, k < c.2.2.2.length → (stepAt c k).1 = 0 → (stepAt c k).2.2 = ((0 : Int), (0 : Int))
def stripsQ (c : Dapi_TraceCourse) (n : Nat) : List (List Dtrace_section) := (List.range n).map fun k => (stS c k).map secQ
def stripsW (c : Dapi_TraceCourse) (n : Nat) : List (List Dr9_Section) := (List.range n).map fun k => (stS c k).map secW
theorem stripsQ_len {c : Dapi_TraceCourse} {n : Nat} : (stripsQ c n).length = n := by unfold stripsQ; rw [List.length_map, List.length_range]
theorem stripsW_len {c : Dapi_TraceCourse} {n : Nat} : (stripsW c n).length = n := by unfold stripsW; rw [List.length_map, List.length_range]
theorem stripsQ_get {c : Dapi_TraceCourse} {n k : Nat} {d : List Dtrace_section} (h : k < n) : lget d (stripsQ c n) (k : Int) = (stS c k).map secQ := by
 unfold lget stripsQ
 rw [Int.toNat_natCast, List.getD_eq_getElem?_getD, List.getElem?_map, List.getElem?_range h]
 rfl
theorem stripsW_get {c : Dapi_TraceCourse} {n k : Nat} {d : List Dr9_Section} (h : k < n) : lget d (stripsW c n) (k : Int) = (stS c k).map secW := by
 unfold lget stripsW
 rw [Int.toNat_natCast, List.getD_eq_getElem?_getD, List.getElem?_map, List.getElem?_range h]
 rfl
theorem stripsQ_succ {c : Dapi_TraceCourse} {n : Nat} : stripsQ c (n + 1) = stripsQ c n ++ [(stS c n).map secQ] := by unfold stripsQ; rw [List.range_succ, List.map_append]; rfl
theorem stripsW_succ {c : Dapi_TraceCourse} {n : Nat} : stripsW c (n + 1) = stripsW c n ++ [(stS c n).map secW] := by unfold stripsW; rw [List.range_succ, List.map_append]; rfl
structure CourseIn (c : Dapi_TraceCourse) : Prop where
 to : ∀ x, x ∈ c.2.2.2 → x.2.2.2 < 9223372036854775808
 areas : ∀ x, x ∈ c.2.2.2 → x.2.1.length ≤ 1000
 name : c.1.size ≤ 1000
 ls : c.2.1.length ≤ 1000
 la : c.2.2.1.length ≤ 1000
 steps : c.2.2.2.length ≤ 1000
theorem tslab_ok {c : Dapi_TraceCourse} (hl : c.2.1.length = c.2.2.1.length) (h6 : c.2.1.length ≤ 6) :
  (loopM (S := (List Dtrace_section) × Int × Int) (R := ((List Dtrace_section)) ⊕ (Dtrace_course × Int × Int)) (fun s =>
   let slab : (List Dtrace_section) := s.1
   let at_ : Int := s.2.1
   let t_5 : Int := s.2.2
   bif decide (t_5 < (List.length c.2.1 : Int)) then
    chk (decide ((0 : Int) ≤ t_5) && decide (t_5 < (List.length c.2.1 : Int))) (
     (trace_within (lget 0 c.2.1 t_5) 1 20000).bind fun (t_6 : Bool) =>
     (bif !t_6 then some true else
      chk (decide ((0 : Int) ≤ t_5) && decide (t_5 < (List.length c.2.2.1 : Int))) (
       (trace_isArea (lget 0 c.2.2.1 t_5)).bind fun (t_7 : Bool) =>
       some (!t_7))).bind fun (c_1 : Bool) =>
     bif c_1 then
      Option.map Sum.inr (Option.map Sum.inr (
       some ((c, []), 0, 2)))
     else
      (trace_whole at_).bind fun (t_8 : Dtrace_ratio) =>
      (trace_whole (wi64 (at_ + (lget 0 c.2.1 t_5)))).bind fun (t_9 : Dtrace_ratio) =>
      let ends : (Nat → Dtrace_ratio) := aset (aset (fun _ => (false, ([], []))) 0 t_8) 1 t_9
      chk (decide ((0 : Int) ≤ t_5) && decide (t_5 < (List.length c.2.2.1 : Int))) (
       chk (decide ((0 : Int) ≤ t_5) && decide (t_5 < (List.length c.2.2.1 : Int))) (
        (app slab [(ends, (ends, (lget 0 c.2.2.1 t_5, lget 0 c.2.2.1 t_5)))]).bind fun (t_10 : List Dtrace_section) =>
        let at__1 : Int := wi64 (at_ + (lget 0 c.2.1 t_5))
        some (.inl (t_10, at__1, wi64 (t_5 + 1))))))
   else
    some (.inr (.inl slab))) ([], 0, 0)) = some (if okLA c.2.1 c.2.2.1 then .inl ((slabS 0 c.2.1 c.2.2.1).map secQ) else .inr ((c, []), 0, 2)) := by
 refine loopM_list_eq (X := Int) (l := c.2.1) (fun l' s => ∃ pre preM m' out t, c.2.1 = pre ++ l' ∧ c.2.2.1 = preM ++ m' ∧ pre.length = preM.length ∧ l'.length = m'.length ∧ out.length = pre.length ∧
  s = (out.map secQ, t, (pre.length : Int)) ∧ out ++ slabS t l' m' = slabS 0 c.2.1 c.2.2.1 ∧ okLA c.2.1 c.2.2.1 = okLA l' m' ∧ 0 ≤ t ∧ t ≤ 20000 * (pre.length : Int)) ?_ ?_ ⟨[], [], _, [], 0, rfl, rfl, rfl, hl, rfl, rfl, rfl, rfl, by omega, by simp⟩
 ·rintro n l' s ⟨pre, preM, m', out, t, e1, e2, e3, e4, e5, rfl, e6, e7, e8, e9⟩
  cases m' with
  | nil => simp at e4
  | cons m m' =>
   have hL : c.2.1.length = pre.length + (l'.length + 1) := by rw [e1, List.length_append, List.length_cons]
   have hM : c.2.2.1.length = preM.length + (m'.length + 1) := by rw [e2, List.length_append, List.length_cons]
   have g1 : ∀ d, lget d c.2.1 (pre.length : Int) = n := fun d => by rw [e1]; exact lget_mid
   have g2 : ∀ d, lget d c.2.2.1 (pre.length : Int) = m := fun d => by rw [e2, e3]; exact lget_mid
   simp only
   rw [dec_true (show (pre.length : Int) < (c.2.1.length : Int) by omega), cond_true, chk_true (and_true' (dec_true (by omega)) rfl), g1, g2, within_ok, Option.bind_some, isArea_ok, Option.bind_some]
   rw [chk_idx (by omega)]
   have e10 : okLA (n :: l') (m :: m') = (decide (1 ≤ n ∧ n ≤ 20000) && decide (1 ≤ m ∧ m ≤ 1000) && okLA l' m') := rfl
   rw [e10] at e7
   by_cases h1 : 1 ≤ n ∧ n ≤ 20000
   ·by_cases h2 : 1 ≤ m ∧ m ≤ 1000
    ·left
     rw [dec_true h1, dec_true h2, Bool.true_and, Bool.true_and] at e7
     rw [dec_true h1, dec_true h2, Bool.not_true, cond_false, Option.bind_some, cond_false]
     rw [whole_ok (by omega) (by omega), Option.bind_some, wi64_id (x := t + n) (by omega) (by omega), whole_ok (by omega) (by omega), Option.bind_some, chk_idx (by omega), chk_idx (by omega), app_ok (by rw [List.length_map, List.length_singleton]; omega), Option.bind_some, wi64_id (by omega) (by omega)]
     refine ⟨_, rfl, pre ++ [n], preM ++ [m], m', out ++ [⟨(t : Rat), ((t + n : Int) : Rat), (t : Rat), ((t + n : Int) : Rat), m, m⟩], t + n, by rw [e1]; simp, by rw [e2]; simp, by simp [e3], by simpa using e4, by simp [e5], ?_, ?_, e7, by omega, by rw [List.length_append, List.length_singleton]; omega⟩
     ·rw [List.map_append, List.length_append, List.length_singleton]
      rfl
     ·rw [← e6]
      conv => rhs; unfold slabS
      simp
    ·right
     rw [dec_false h2, Bool.and_false, Bool.false_and] at e7
     rw [dec_true h1, dec_false h2, e7]
     rfl
   ·right
    rw [dec_false h1, Bool.false_and, Bool.false_and] at e7
    rw [dec_false h1, e7]
    rfl
 ·rintro s ⟨pre, preM, m', out, t, e1, e2, e3, e4, e5, rfl, e6, e7, _⟩
  have hL : c.2.1.length = pre.length := by rw [e1, List.append_nil]
  simp only
  rw [dec_false (show ¬ (pre.length : Int) < (c.2.1.length : Int) by omega), cond_false, e7, ← e6]
  simp [slabS, okLA]
theorem rla_ok {c : Dapi_TraceCourse} (hl : c.2.1.length = c.2.2.1.length) (h6 : c.2.1.length ≤ 6) :
  (loopM (S := Int) (R := (Unit) ⊕ (Int × Int)) (fun i =>
     bif decide (i < (List.length c.2.1 : Int)) then
      chk (decide ((0 : Int) ≤ i) && decide (i < (List.length c.2.1 : Int))) (
       (b0_Within (lget 0 c.2.1 i) 1 20000).bind fun (t_1 : Bool) =>
       (bif !t_1 then some true else
        chk (decide ((0 : Int) ≤ i) && decide (i < (List.length c.2.2.1 : Int))) (
         (b0_Within (lget 0 c.2.2.1 i) 1 1000).bind fun (t_2 : Bool) =>
         some (!t_2))).bind fun (c_1 : Bool) =>
       bif c_1 then
        Option.map Sum.inr (Option.map Sum.inr (
         some (0, 2)))
       else
        some (.inl (wi64 (i + 1))))
     else
      some (.inr (.inl ()))) 0) = some (if okLA c.2.1 c.2.2.1 then .inl () else .inr (0, 2)) := by
 refine loopM_list_eq (X := Int) (l := c.2.1) (fun l' s => ∃ pre preM m', c.2.1 = pre ++ l' ∧ c.2.2.1 = preM ++ m' ∧ pre.length = preM.length ∧ l'.length = m'.length ∧
  s = (pre.length : Int) ∧ okLA c.2.1 c.2.2.1 = okLA l' m') ?_ ?_ ⟨[], [], _, rfl, rfl, rfl, hl, rfl, rfl⟩
 ·rintro n l' s ⟨pre, preM, m', e1, e2, e3, e4, rfl, e7⟩
  cases m' with
  | nil => simp at e4
  | cons m m' =>
   have hL : c.2.1.length = pre.length + (l'.length + 1) := by rw [e1, List.length_append, List.length_cons]
   have hM : c.2.2.1.length = preM.length + (m'.length + 1) := by rw [e2, List.length_append, List.length_cons]
   have g1 : ∀ d, lget d c.2.1 (pre.length : Int) = n := fun d => by rw [e1]; exact lget_mid
   have g2 : ∀ d, lget d c.2.2.1 (pre.length : Int) = m := fun d => by rw [e2, e3]; exact lget_mid
   rw [dec_true (show (pre.length : Int) < (c.2.1.length : Int) by omega), cond_true, chk_true (and_true' (dec_true (by omega)) rfl), g1, g2, Within_ok, Option.bind_some, Within_ok, Option.bind_some]
   rw [chk_idx (by omega)]
   have e10 : okLA (n :: l') (m :: m') = (decide (1 ≤ n ∧ n ≤ 20000) && decide (1 ≤ m ∧ m ≤ 1000) && okLA l' m') := rfl
   rw [e10] at e7
   by_cases h1 : 1 ≤ n ∧ n ≤ 20000
   ·by_cases h2 : 1 ≤ m ∧ m ≤ 1000
    ·left
     rw [dec_true h1, dec_true h2, Bool.true_and, Bool.true_and] at e7
     rw [dec_true h1, dec_true h2, Bool.not_true, cond_false, Option.bind_some, cond_false, wi64_id (by omega) (by omega)]
     exact ⟨_, rfl, pre ++ [n], preM ++ [m], m', by rw [e1]; simp, by rw [e2]; simp, by simp [e3], by simpa using e4, by rw [List.length_append, List.length_singleton]; rfl, e7⟩
    ·right
     rw [dec_false h2, Bool.and_false, Bool.false_and] at e7
     rw [dec_true h1, dec_false h2, e7]
     rfl
   ·right
    rw [dec_false h1, Bool.false_and, Bool.false_and] at e7
    rw [dec_false h1, e7]
    rfl
 ·rintro s ⟨pre, preM, m', e1, e2, e3, e4, rfl, e7⟩
  have hL : c.2.1.length = pre.length := by rw [e1, List.append_nil]
  rw [dec_false (show ¬ (pre.length : Int) < (c.2.1.length : Int) by omega), cond_false, e7]
  simp [okLA]
theorem rslab_ok {c : Dapi_TraceCourse} (hl : c.2.1.length = c.2.2.1.length) (h6 : c.2.1.length ≤ 6) (hok : okLA c.2.1 c.2.2.1 = true) :
  r9_slab c = some ((slabS 0 c.2.1 c.2.2.1).map secW) := by
 unfold r9_slab
 refine Option.bind_eq_some_iff.2 ⟨_, ?_, rfl⟩
 refine loopM_list_eq (X := Int) (l := c.2.1) (fun l' s => ∃ pre preM m' out t, c.2.1 = pre ++ l' ∧ c.2.2.1 = preM ++ m' ∧ pre.length = preM.length ∧ l'.length = m'.length ∧ out.length = pre.length ∧
  s = (out.map secW, (pre.length : Int)) ∧ out ++ slabS t l' m' = slabS 0 c.2.1 c.2.2.1 ∧ okLA l' m' = true) ?_ ?_ ⟨[], [], _, [], 0, rfl, rfl, rfl, hl, rfl, rfl, rfl, hok⟩
 ·rintro n l' s ⟨pre, preM, m', out, t, e1, e2, e3, e4, e5, rfl, e6, e7⟩
  left
  cases m' with
  | nil => simp at e4
  | cons m m' =>
   have hL : c.2.1.length = pre.length + (l'.length + 1) := by rw [e1, List.length_append, List.length_cons]
   have hM : c.2.2.1.length = preM.length + (m'.length + 1) := by rw [e2, List.length_append, List.length_cons]
   have g1 : ∀ d, lget d c.2.1 (pre.length : Int) = n := fun d => by rw [e1]; exact lget_mid
   have g2 : ∀ d, lget d c.2.2.1 (pre.length : Int) = m := fun d => by rw [e2, e3]; exact lget_mid
   have e10 : okLA (n :: l') (m :: m') = (decide (1 ≤ n ∧ n ≤ 20000) && decide (1 ≤ m ∧ m ≤ 1000) && okLA l' m') := rfl
   rw [e10, Bool.and_eq_true, Bool.and_eq_true, decide_eq_true_eq, decide_eq_true_eq] at e7
   obtain ⟨⟨h1, h2⟩, e7⟩ := e7
   simp only
   rw [dec_true (show (pre.length : Int) < (c.2.1.length : Int) by omega), cond_true, chk_true (and_true' (dec_true (by omega)) rfl), g1, g2, RatioInt_ok (by omega) (by omega), Option.bind_some, chk_idx (by omega), app_ok (by rw [List.length_map, List.length_singleton]; omega), Option.bind_some, wi64_id (by omega) (by omega)]
   refine ⟨_, rfl, pre ++ [n], preM ++ [m], m', out ++ [⟨(t : Rat), ((t + n : Int) : Rat), (t : Rat), ((t + n : Int) : Rat), m, m⟩], t + n, by rw [e1]; simp, by rw [e2]; simp, by simp [e3], by simpa using e4, by simp [e5], ?_, ?_, e7⟩
   ·rw [List.map_append, List.length_append, List.length_singleton, List.map_singleton]
    have : secW ⟨(t : Rat), ((t + n : Int) : Rat), (t : Rat), ((t + n : Int) : Rat), m, m⟩ = (ratioW (n : Rat), m) := by
     unfold secW
     simp only
     rw [← Rat.intCast_sub]
     congr 3
     omega
    rw [this]
    rfl
   ·rw [← e6]
    conv => rhs; unfold slabS
    simp
 ·rintro s ⟨pre, preM, m', out, t, e1, e2, e3, e4, e5, rfl, e6, e7⟩
  have hL : c.2.1.length = pre.length := by rw [e1, List.append_nil]
  simp only
  rw [dec_false (show ¬ (pre.length : Int) < (c.2.1.length : Int) by omega), cond_false, ← e6]
  simp [slabS]
end Go.Lift
namespace Go.Lift
open Go
structure Upto (c : Dapi_TraceCourse) (n : Nat) : Prop where
 strip : ∀ k, k ≤ n → StripOk (1 + 5 * k) (stS c k)
 rel : ∀ k, k < n → StepRel (stS c k) (stepAt c k) (stS c (k + 1))
 norm : ∀ k, k < n → (stepAt c k).1 = 0 → (stepAt c k).2.2 = ((0 : Int), (0 : Int))
theorem pass_norm {l out : List Dtrace_section} {x : Dapi_TraceStep} (h : trace_strip_step l x = some (out, 0)) (h0 : x.1 = 0) : x.2.2 = ((0 : Int), (0 : Int)) := by
 unfold trace_strip_step at h
 rw [show (x.1 == 0) = true by rw [h0]; rfl, cond_true] at h
 obtain ⟨j, hj, hk⟩ := Option.bind_eq_some_iff.1 h
 obtain ⟨t, _, hj⟩ := Option.bind_eq_some_iff.1 hj
 rw [unless_ok, Option.bind_some, unless_ok, Option.bind_some, unless_ok, Option.bind_some, first_ok (by simp), Option.bind_some] at hj
 by_cases hz : x.2.2.1 = 0 ∧ x.2.2.2 = 0
 ·exact Prod.ext hz.1 hz.2
 ·have hc : ((x.2.2.1 == 0) && (x.2.2.2 == 0)) = false := by
   cases hx : ((x.2.2.1 == 0) && (x.2.2.2 == 0)) with
   | false => rfl
   | true =>
    rw [Bool.and_eq_true, beq_iff_eq, beq_iff_eq] at hx
    exact absurd hx hz
  rw [hc, if_neg (by decide)] at hj
  have hf : ∀ a b : Int, firstE [3, a, b] = 3 := fun a b => by unfold firstE; rw [if_neg (by decide)]
  rw [hf, show ((3 : Int) != 0) = true from rfl, cond_true] at hj
  cases hj
  cases hk
theorem steps_ok {c : Dapi_TraceCourse} (hin : CourseIn c) (h10 : c.2.2.2.length ≤ 10) : ∀ (rest pre : List Dapi_TraceStep), c.2.2.2 = pre ++ rest → Upto c pre.length →
  ∃ (e : Int) (i : Nat) (strips : List (List Dtrace_section)), (e = 0 → i = 0 ∧ strips = stripsQ c (c.2.2.2.length + 1) ∧ Upto c c.2.2.2.length) ∧
  ((loopM (S := Int × Dtrace_course) (R := (Dtrace_course) ⊕ (Dtrace_course × Int × Int)) (fun s_1 =>
     let t_11 : Int := s_1.1
     let out : Dtrace_course := s_1.2
     bif decide (t_11 < (List.length c.2.2.2 : Int)) then
      chk (decide ((0 : Int) ≤ t_11) && decide (t_11 < (List.length c.2.2.2 : Int))) (
       let x : Dapi_TraceStep := lget (0, ([], (0, 0))) c.2.2.2 t_11
       chk (decide ((0 : Int) ≤ t_11) && decide (t_11 < (List.length out.2 : Int))) (
        (trace_strip_step (lget [] out.2 t_11) x).bind fun (r : (List Dtrace_section) × Int) =>
        bif (r.2 != 0) then
         Option.map Sum.inr (Option.map Sum.inr (
          some (out, t_11, r.2)))
        else
         (app out.2 [r.1]).bind fun (t_12 : List (List Dtrace_section)) =>
         some (.inl (wi64 (t_11 + 1), (out.1, t_12)))))
     else
      some (.inr (.inl out))) ((pre.length : Int), (c, stripsQ c (pre.length + 1)))).bind fun j => match j with
    | .inl out_1 => (
     some (out_1, 0, 0))
    | .inr r => some r) = some ((c, strips), (i : Int), e) ∧
  ((loopM (S := (List Dr9_Section) × Int) (R := (Unit) ⊕ (Int × Int)) (fun s =>
       let s_1 : (List Dr9_Section) := s.1
       let i_1 : Int := s.2
       bif decide (i_1 < (List.length c.2.2.2 : Int)) then
        chk (decide ((0 : Int) ≤ i_1) && decide (i_1 < (List.length c.2.2.2 : Int))) (
         (r9_stepErr s_1 (lget (0, ([], (0, 0))) c.2.2.2 i_1)).bind fun (r : (List Dr9_Section) × Int) =>
         bif (r.2 != 0) then
          Option.map Sum.inr (Option.map Sum.inr (
           some (i_1, r.2)))
         else
          some (.inl (r.1, wi64 (i_1 + 1))))
       else
        some (.inr (.inl ()))) ((stS c pre.length).map secW, (pre.length : Int))).bind fun j => match j with
      | .inl _ => (
       some (0, 0))
      | .inr r => some r) = some ((i : Int), e)
 | [], pre, e1, hu => by
  have hL : c.2.2.2.length = pre.length := by rw [e1, List.append_nil]
  refine ⟨0, 0, stripsQ c (pre.length + 1), fun _ => ⟨rfl, by rw [hL], by rw [hL]; exact hu⟩, ?_, ?_⟩
  ·rw [loopM_done (r := .inl (c, stripsQ c (pre.length + 1)))]
   ·rfl
   ·simp only
    rw [dec_false (show ¬ (pre.length : Int) < (c.2.2.2.length : Int) by omega), cond_false]
  ·rw [loopM_done (r := .inl ())]
   ·rfl
   ·simp only
    rw [dec_false (show ¬ (pre.length : Int) < (c.2.2.2.length : Int) by omega), cond_false]
 | x :: rest, pre, e1, hu => by
  have hL : c.2.2.2.length = pre.length + (rest.length + 1) := by rw [e1, List.length_append, List.length_cons]
  have g1 : ∀ d, lget d c.2.2.2 (pre.length : Int) = x := fun d => by rw [e1]; exact lget_mid
  have gx : stepAt c pre.length = x := by
   have := g1 (0, ([], (0, 0)))
   unfold lget at this
   rw [Int.toNat_natCast] at this
   exact this
  have hmem : x ∈ c.2.2.2 := by rw [e1]; simp
  obtain ⟨e, out, s1, s2, s3⟩ := step_ok (x := x) (hu.strip pre.length (Nat.le_refl _)) (by omega) (hin.to x hmem) (hin.areas x hmem)
  by_cases he : e = 0
  ·subst he
   obtain ⟨k1, k2⟩ := s3 rfl
   have hout : out = stS c (pre.length + 1) := by
    rw [stS_succ (by omega), gx]
    exact stepRel_out k2
   subst hout
   have hu2 : Upto c (pre ++ [x]).length := by
    rw [List.length_append, List.length_singleton]
    refine ⟨fun k hk => ?_, fun k hk => ?_, fun k hk => ?_⟩
    ·by_cases h : k ≤ pre.length
     ·exact hu.strip k h
     ·have : k = pre.length + 1 := by omega
      subst this
      rw [show 1 + 5 * (pre.length + 1) = 1 + 5 * pre.length + 5 by omega]
      exact k1
    ·by_cases h : k < pre.length
     ·exact hu.rel k h
     ·have : k = pre.length := by omega
      subst this
      rw [gx]; exact k2
    ·by_cases h : k < pre.length
     ·exact hu.norm k h
     ·have : k = pre.length := by omega
      subst this
      rw [gx]; exact pass_norm s1
   obtain ⟨e', i', st', r1, r2, r3⟩ := steps_ok hin h10 rest (pre ++ [x]) (by rw [e1]; simp) hu2
   refine ⟨e', i', st', r1, ?_, ?_⟩
   ·rw [loopM_next (s' := (((pre ++ [x]).length : Int), (c, stripsQ c ((pre ++ [x]).length + 1))))]
    ·exact r2
    ·simp only
     rw [dec_true (show (pre.length : Int) < (c.2.2.2.length : Int) by omega), cond_true, chk_true (and_true' (dec_true (by omega)) rfl), g1, stripsQ_len, chk_idx (by omega), stripsQ_get (by omega), s1, Option.bind_some, show ((0 : Int) != 0) = false from rfl, cond_false, app_ok (by rw [stripsQ_len, List.length_singleton]; omega), Option.bind_some, wi64_id (by omega) (by omega), List.length_append, List.length_singleton, stripsQ_succ (n := pre.length + 1)]
     rfl
   ·rw [loopM_next (s' := ((stS c (pre ++ [x]).length).map secW, ((pre ++ [x]).length : Int)))]
    ·exact r3
    ·simp only
     rw [dec_true (show (pre.length : Int) < (c.2.2.2.length : Int) by omega), cond_true, chk_true (and_true' (dec_true (by omega)) rfl), g1, s2, Option.bind_some, show ((0 : Int) != 0) = false from rfl, cond_false, if_pos rfl, wi64_id (by omega) (by omega), List.length_append, List.length_singleton]
     rfl
  ·refine ⟨e, pre.length, stripsQ c (pre.length + 1), fun h => absurd h he, ?_, ?_⟩
   ·rw [loopM_done (r := .inr ((c, stripsQ c (pre.length + 1)), (pre.length : Int), e))]
    ·rfl
    ·simp only
     rw [dec_true (show (pre.length : Int) < (c.2.2.2.length : Int) by omega), cond_true, chk_true (and_true' (dec_true (by omega)) rfl), g1, stripsQ_len, chk_idx (by omega), stripsQ_get (by omega), s1, Option.bind_some, show (e != 0) = true by rw [bne_iff_ne]; exact he, cond_true]
     rfl
   ·rw [loopM_done (r := .inr ((pre.length : Int), e))]
    ·rfl
    ·simp only
     rw [dec_true (show (pre.length : Int) < (c.2.2.2.length : Int) by omega), cond_true, chk_true (and_true' (dec_true (by omega)) rfl), g1, s2, Option.bind_some, show (e != 0) = true by rw [bne_iff_ne]; exact he, cond_true]
     rfl
theorem Upto.valid {c : Dapi_TraceCourse} (h : Upto c c.2.2.2.length) (h10 : c.2.2.2.length ≤ 10) (hl : c.2.1.length = c.2.2.1.length) (hla : okLA c.2.1 c.2.2.1 = true) : Valid c := ⟨h10, hl, hla, h.strip, h.rel, h.norm⟩
theorem open_ok {c : Dapi_TraceCourse} (hin : CourseIn c) : ∃ (e : Int) (i : Nat) (strips : List (List Dtrace_section)),
  trace_open c = some ((c, strips), (i : Int), e) ∧ r9_CheckCourse c = some ((i : Int), e) ∧ (e = 0 → i = 0 ∧ strips = stripsQ c (c.2.2.2.length + 1) ∧ Valid c) := by
 have hls := hin.ls
 have hsl := hin.la
 have hst := hin.steps
 unfold trace_open r9_CheckCourse
 rw [isName_ok (Nat.le_trans hin.name (by decide)), Option.bind_some, IsName_ok (Nat.le_trans hin.name (by decide)), Option.bind_some, unless_ok, Option.bind_some, unless_ok, Option.bind_some, unless_ok, Option.bind_some, first_ok (by simp), Option.bind_some]
 cases nameB c.1 with
 | false => exact ⟨4, 0, [], rfl, rfl, fun e => by cases e⟩
 | true =>
  rw [if_pos rfl, Bool.not_true, cond_false]
  by_cases h1 : 0 < c.2.1.length ∧ c.2.2.1.length = c.2.1.length
  ·have d1 : ((decide ((c.2.1.length : Int) > 0)) && ((c.2.2.1.length : Int) == (c.2.1.length : Int))) = true := by
    rw [Bool.and_eq_true, decide_eq_true_eq, beq_iff_eq]; omega
   have d2 : (((c.2.1.length : Int) == 0) || ((c.2.2.1.length : Int) != (c.2.1.length : Int))) = false := by
    rw [Bool.or_eq_false_iff, beq_eq_false_iff_ne, bne_eq_false_iff_eq]; omega
   rw [d1, if_pos rfl, d2, cond_false]
   by_cases h2 : c.2.1.length ≤ 6
   ·rw [dec_true (show (c.2.1.length : Int) ≤ 6 by omega), if_pos rfl, show firstE [0, 0, 0] = 0 from rfl, show ((0 : Int) != 0) = false from rfl, cond_false, dec_false (show ¬ (c.2.1.length : Int) > 6 by omega), cond_false]
    rw [tslab_ok h1.2.symm h2, Option.bind_some, rla_ok h1.2.symm h2, Option.bind_some]
    by_cases h3 : okLA c.2.1 c.2.2.1 = true
    ·rw [if_pos h3, if_pos h3]
     simp only
     by_cases h4 : c.2.2.2.length ≤ 10
     ·rw [dec_false (show ¬ (c.2.2.2.length : Int) > 10 by omega), cond_false, cond_false, rslab_ok h1.2.symm h2 h3, Option.bind_some]
      have hne : slabS 0 c.2.1 c.2.2.1 ≠ [] := by
       intro e
       have := slab_len (t := 0) h1.2.symm
       rw [e] at this
       have : c.2.1.length = 0 := this.symm
       omega
      have hs0 := slab_secs (t := 0) h3
      have hf0 := slab_fit (t := 0) h3 (by omega) (by omega)
      have hu : Upto c 0 := by
       refine ⟨fun k hk => ?_, fun k hk => by omega, fun k hk => by omega⟩
       have : k = 0 := by omega
       subst this
       rw [stS_zero]
       rw [Rat.intCast_zero] at hs0
       exact ⟨hne, by rw [slab_len h1.2.symm]; exact h2, ⟨_, hs0⟩, hf0⟩
      obtain ⟨e, i, strips, r1, r2, r3⟩ := steps_ok hin h4 c.2.2.2 [] rfl hu
      have z : stripsQ c ([] : List Dapi_TraceStep).length.succ = [(slabS 0 c.2.1 c.2.2.1).map secQ] := by
       show stripsQ c 1 = _
       rw [stripsQ_succ, stS_zero]
       rfl
      refine ⟨e, i, strips, ?_, ?_, fun he => ?_⟩
      ·rw [← r2]
       show _ = ((loopM _ (((0 : Nat) : Int), (c, stripsQ c ([] : List Dapi_TraceStep).length.succ))).bind _)
       rw [z]
       rfl
      ·rw [← r3]
       show _ = ((loopM _ ((stS c 0).map secW, ((0 : Nat) : Int))).bind _)
       rw [stS_zero]
       rfl
      ·obtain ⟨a1, a2, a3⟩ := r1 he
       exact ⟨a1, a2, a3.valid h4 h1.2.symm h3⟩
     ·rw [dec_true (show (c.2.2.2.length : Int) > 10 by omega)]
      exact ⟨8, 0, [], rfl, rfl, fun e => by cases e⟩
    ·rw [if_neg h3, if_neg h3]
     exact ⟨2, 0, [], rfl, rfl, fun e => by cases e⟩
   ·rw [dec_false (show ¬ (c.2.1.length : Int) ≤ 6 by omega), dec_true (show (c.2.1.length : Int) > 6 by omega)]
    exact ⟨8, 0, [], rfl, rfl, fun e => by cases e⟩
  ·have d1 : ((decide ((c.2.1.length : Int) > 0)) && ((c.2.2.1.length : Int) == (c.2.1.length : Int))) = false := by
    rw [Bool.and_eq_false_iff, decide_eq_false_iff_not, beq_eq_false_iff_ne]; omega
   have d2 : (((c.2.1.length : Int) == 0) || ((c.2.2.1.length : Int) != (c.2.1.length : Int))) = true := by
    rw [Bool.or_eq_true, beq_iff_eq, bne_iff_ne]; omega
   rw [d1, d2]
   exact ⟨10, 0, [], rfl, rfl, fun e => by cases e⟩
theorem opened_ok {c : Dapi_TraceCourse} (hin : CourseIn c) : ∃ (e : Int) (strips : List (List Dtrace_section)),
  trace_opened c [] = some ((c, strips), e) ∧ r9_CourseErr c = some e ∧ (e = 0 → strips = stripsQ c (c.2.2.2.length + 1) ∧ Valid c) := by
 obtain ⟨e, i, strips, h1, h2, h3⟩ := open_ok hin
 refine ⟨e, strips, ?_, ?_, fun he => (h3 he).2⟩
 ·unfold trace_opened
  rw [h1, Option.bind_some]
  refine Option.bind_eq_some_iff.2 ⟨e, loopM_done ?_, rfl⟩
  rfl
 ·unfold r9_CourseErr
  rw [h2, Option.bind_some]
end Go.Lift
namespace Go.Lift
open Go
theorem lget_step {c : Dapi_TraceCourse} {k : Nat} : lget (0, ([], (0, 0))) c.2.2.2 (k : Int) = stepAt c k := by
 unfold lget stepAt
 rw [Int.toNat_natCast]
theorem strips_ok {c : Dapi_TraceCourse} (hv : Valid c) {n : Nat} (hn : n ≤ c.2.2.2.length) (h6 : c.2.1.length ≤ 6) : r9_strips c (n : Int) = some (stripsW c (n + 1)) := by
 have h10 := hv.steps
 unfold r9_strips
 rw [rslab_ok hv.len h6 hv.la, Option.bind_some]
 refine Option.bind_eq_some_iff.2 ⟨_, ?_, rfl⟩
 refine loopM_upto (fun j => (stripsW c (j + 1), (j : Int))) n ?_ (fun j hj => ?_) ?_
 ·show _ = (stripsW c 1, ((0 : Nat) : Int))
  rw [stripsW_succ, stS_zero]
  rfl
 ·simp only
  have hs := hv.strip j (by omega)
  have he := hs.each
  have hs6 := hs.len
  obtain ⟨p, hp⟩ := hs.secs
  rw [dec_true (show (j : Int) < (n : Int) by omega), cond_true, chk_idx (by omega), lget_step, stripsW_len, chk_idx (by omega), chk_idx (by omega), stripsW_get (by omega), stripsW_succ (n := j + 1)]
  rcases hv.rel j (by omega) with ⟨k1, k2, k3, k4⟩ | ⟨k1, k2, k3, k4, k5, k6, _⟩
  ·rw [k1, show ((0 : Int) == 0) = true from rfl, cond_true, rpass_ok (fun y hy => ⟨(he y hy).1, (he y hy).2.2.2.2.2.l⟩) k4 k3 (by omega), Option.bind_some, app_ok (by rw [stripsW_len, List.length_singleton]; omega), Option.bind_some, Option.bind_some, wi64_id (by omega) (by omega), k2]
   rfl
  ·rw [k1, show ((1 : Int) == 0) = false from rfl, cond_false, rcut_ok hp (fun y hy => (he y hy).2.2.2.2.2) (by omega) k3 (by omega) (by omega) k5, Option.bind_some, app_ok (by rw [stripsW_len, List.length_singleton]; omega), Option.bind_some, Option.bind_some, wi64_id (by omega) (by omega), k2]
   rfl
 ·simp only
  rw [dec_false (show ¬ (n : Int) < (n : Int) by omega), cond_false]
theorem After_ok {c : Dapi_TraceCourse} (hv : Valid c) {n : Nat} (hn : n ≤ c.2.2.2.length) (h6 : c.2.1.length ≤ 6) : r9_After c (n : Int) = some ((stS c n).map secW) := by
 unfold r9_After
 rw [strips_ok hv hn h6, Option.bind_some, stripsW_len, chk_idx (by omega), stripsW_get (by omega)]
theorem Valid.len6 {c : Dapi_TraceCourse} (h : Valid c) : c.2.1.length ≤ 6 := by
 have := (h.strip 0 (Nat.zero_le _)).len
 rw [stS_zero, slab_len h.len] at this
 exact this
theorem Length_ok {S : Nat} {l : List Sec} (h : StripOk S l) : r9_Strip_Length (l.map secW) = some (ratioW (lastV 0 l)) := by
 obtain ⟨p, hp⟩ := h.secs
 have := h.len
 exact length_okW hp (fun y hy => (h.each y hy).2.2.2.2.2) (by decide) (by omega)
theorem through_fit : ∀ {l m : List Sec} {p p' f t q : Rat} {N : Nat}, Secs p f l → Secs p' t m → (∀ x, x ∈ l → SecT 2 x) → (∀ x, x ∈ m → SecT 2 x) → FitT 2 f → FitT 2 t → FitT N q → N ≤ 1000 → FitT (N + 10) (throughS f t l m q)
 | [], _, _, _, _, _, _, _, _, _, _, _, _, ht, _, _ => by unfold throughS; exact ht.mono (by omega)
 | x :: l, [], _, _, _, _, _, _, _, _, _, _, _, ht, _, _ => by unfold throughS; exact ht.mono (by omega)
 | x :: l, y :: m, p, p', f, t, q, N, ⟨h1, h2, hx, hc⟩, ⟨g1, g2, hy, gc⟩, hl, hm, hf, ht, hq, hN => by
  unfold throughS
  have tx := hl x List.mem_cons_self
  have ty := hm y List.mem_cons_self
  have hxv := hx.uv
  split
  ·have s1 := (RatioSub_ok hq hf (by omega)).2
   have s2 := (RatioMul_ok s1 ty.l (by omega)).2
   have s3 := (RatioDiv_ok s2 tx.l (by grind) (by omega)).2
   exact (RatioAdd_ok ht s3 (by omega)).2.mono (by omega)
  ·subst h2 g2
   rw [show x.u + (x.v - x.u) = x.v by grind, show y.u + (y.v - y.u) = y.v by grind]
   exact through_fit hc gc (fun z hz => hl z (List.mem_cons_of_mem _ hz)) (fun z hz => hm z (List.mem_cons_of_mem _ hz)) tx.v ty.v hq hN
theorem through_ok {l m : List Sec} {p p' q : Rat} {N : Nat} (hl : Secs p 0 l) (hm : Secs p' 0 m) (tl : ∀ x, x ∈ l → SecT 2 x) (tm : ∀ x, x ∈ m → SecT 2 x) (hlen : l.length = m.length) (hne : l ≠ []) (h6 : l.length ≤ 100) (hq : FitT N q) (hN : N ≤ 1000) :
  r9_through (l.map secW) (m.map secW) (ratioW q) = some (ratioW (throughS 0 0 l m q)) := by
 unfold r9_through
 rw [RInt0, Option.bind_some, Option.bind_some]
 refine Option.bind_eq_some_iff.2 ⟨.inr (ratioW (throughS 0 0 l m q)), ?_, rfl⟩
 refine loopM_list_eq (X := Sec) (l := l) (fun l' s => ∃ pre preM m' f t pl pm, l = pre ++ l' ∧ m = preM ++ m' ∧ pre.length = preM.length ∧ l'.length = m'.length ∧ l' ≠ [] ∧
  s = ((pre.length : Int), ratioW f, ratioW t) ∧ throughS f t l' m' q = throughS 0 0 l m q ∧ Secs pl f l' ∧ Secs pm t m' ∧ FitT 2 f ∧ FitT 2 t) ?_ ?_ ⟨[], [], m, 0, 0, p, p', rfl, rfl, rfl, hlen, hne, rfl, rfl, hl, hm, fitT_zero.mono (by decide), fitT_zero.mono (by decide)⟩
 ·rintro x l' s ⟨pre, preM, m', f, t, pl, pm, e1, e2, e3, e4, e5, rfl, e6, ⟨h1, h2, hx, hc⟩, e8, hf, ht⟩
  cases m' with
  | nil => simp at e4
  | cons y m' =>
   obtain ⟨g1, g2, hy, gc⟩ := e8
   subst h2 g2
   have hL : l.length = pre.length + (l'.length + 1) := by rw [e1, List.length_append, List.length_cons]
   have hM : m.length = preM.length + (m'.length + 1) := by rw [e2, List.length_append, List.length_cons]
   have gl : ∀ d, lget d (l.map secW) (pre.length : Int) = secW x := fun d => by rw [e1]; exact lget_map
   have gm : ∀ d, lget d (m.map secW) (pre.length : Int) = secW y := fun d => by rw [e2, e3]; exact lget_map
   have tx := tl x (by rw [e1]; simp)
   have ty := tm y (by rw [e2]; simp)
   have hxv := hx.uv
   simp only
   rw [List.length_map, List.length_map, dec_true (show (pre.length : Int) < (l.length : Int) by omega), cond_true, chk_true (and_true' (dec_true (by omega)) rfl), gl, gm]
   rw [show (secW x).1 = ratioW (x.v - x.u) from rfl, show (secW y).1 = ratioW (y.v - y.u) from rfl, (RatioAdd_ok hf tx.l (by omega)).1, Option.bind_some, show x.u + (x.v - x.u) = x.v by grind]
   have e6' : throughS x.u y.u (x :: l') (y :: m') q = if l' = [] ∨ q ≤ x.v then y.u + (q - x.u) * (y.v - y.u) / (x.v - x.u) else throughS x.v y.v l' m' q := by
    conv => lhs; unfold throughS
    rw [show x.u + (x.v - x.u) = x.v by grind, show y.u + (y.v - y.u) = y.v by grind]
   rw [e6'] at e6
   have hcond : (bif ((pre.length : Int) == (wi64 ((l.length : Int) - 1))) then some true else
     (b0_RatioCmp (ratioW q) (ratioW x.v)).bind fun (t_3 : Int) => some (decide (t_3 ≤ 0))) = some (decide (l' = [] ∨ q ≤ x.v)) := by
    rw [RatioCmp_ok hq tx.v (by omega), Option.bind_some, wi64_id (by omega) (by omega)]
    by_cases hnil : l' = []
    ·rw [hnil] at hL
     rw [show ((pre.length : Int) == ((l.length : Int) - 1)) = true by rw [beq_iff_eq, hL]; simp, cond_true, dec_true (Or.inl hnil)]
    ·have : l'.length ≠ 0 := fun e => hnil (List.length_eq_zero_iff.1 e)
     rw [show ((pre.length : Int) == ((l.length : Int) - 1)) = false by rw [beq_eq_false_iff_ne]; omega, cond_false]
     congr 1
     refine decide_eq_decide.2 ?_
     rw [cmp_le]
     exact ⟨Or.inr, fun h => h.resolve_left hnil⟩
   rw [hcond, Option.bind_some]
   by_cases hc2 : l' = [] ∨ q ≤ x.v
   ·right
    rw [if_pos hc2] at e6
    have s1 := RatioSub_ok hq hf (by omega)
    have s2 := RatioMul_ok s1.2 ty.l (by omega)
    have s3 := RatioDiv_ok s2.2 tx.l (by grind) (by omega)
    have s4 := RatioAdd_ok ht s3.2 (by omega)
    rw [dec_true hc2, cond_true, s1.1, Option.bind_some, chk_idx (by omega), s2.1, Option.bind_some, s3.1, Option.bind_some, s4.1, Option.bind_some, e6]
    rfl
   ·left
    rw [if_neg hc2] at e6
    rw [dec_false hc2, cond_false, chk_idx (by omega), (RatioAdd_ok ht ty.l (by omega)).1, Option.bind_some, wi64_id (by omega) (by omega), show y.u + (y.v - y.u) = y.v by grind]
    exact ⟨_, rfl, pre ++ [x], preM ++ [y], m', x.v, y.v, _, _, by rw [e1]; simp, by rw [e2]; simp, by simp [e3], by simpa using e4, fun e => hc2 (Or.inl e), by rw [List.length_append, List.length_singleton]; rfl, e6, hc, gc, tx.v, ty.v⟩
 ·rintro s ⟨pre, preM, m', f, t, pl, pm, e1, e2, e3, e4, e5, _⟩
  exact absurd rfl e5
theorem step_back {l out : List Sec} {x : Dapi_TraceStep} {p P Q : Rat} (h : StepRel l x out) (hp : Secs p 0 l) (hon : On out P Q) : ∃ Q', On l P Q' := by
 rcases h with ⟨_, rfl, k3, k4⟩ | ⟨_, rfl, k3, k4, k5, k6, _⟩
 ·exact ⟨_, through_on (rolled_ok (t := 0) hp k3 k4) hp (same_symm (rolled_same k3)) hon⟩
 ·exact ⟨_, (on_cut hp (by rw [Rat.intCast_lt_intCast]; exact k4) hon).1⟩
theorem on_before {c : Dapi_TraceCourse} (hv : Valid c) {P : Rat} : ∀ {d k : Nat} {Q : Rat}, k + d ≤ c.2.2.2.length → On (stS c (k + d)) P Q → ∃ Q', On (stS c k) P Q'
 | 0, _, Q, _, h => ⟨Q, h⟩
 | d + 1, k, Q, hk, h => by
  obtain ⟨p, hp⟩ := (hv.strip (k + d) (by omega)).secs
  obtain ⟨Q', h'⟩ := step_back (hv.rel (k + d) (by omega)) hp h
  exact on_before hv (by omega) h'
theorem back_loop {c : Dapi_TraceCourse} (hv : Valid c) {P : Rat} {T to : Nat} (hT : T ≤ c.2.2.2.length) : ∀ {d : Nat} {q : Rat} {N : Nat}, to + d ≤ T → N + 10 * d ≤ 1000 → On (stS c (to + d)) P q → FitT N q →
  ∃ q', On (stS c to) P q' ∧ FitT (N + 10 * d) q' ∧ (loopM (S := Int × Db0_Ratio) (R := Db0_Ratio) (fun s =>
  let k : Int := s.1
  let x_1 : Db0_Ratio := s.2
  bif decide (k > (to : Int)) then
   chk (decide ((0 : Int) ≤ (wi64 (k - 1))) && decide ((wi64 (k - 1)) < (List.length c.2.2.2 : Int))) (
    let step : Dapi_TraceStep := lget (0, ([], (0, 0))) c.2.2.2 (wi64 (k - 1))
    (bif (step.1 == 1) then
     (b0_RatioInt step.2.2.1).bind fun (t_1 : Db0_Ratio) =>
     (b0_RatioAdd x_1 t_1).bind fun (t_2 : Db0_Ratio) =>
     some t_2
    else
     chk (decide ((0 : Int) ≤ k) && decide (k < (List.length (stripsW c (T + 1)) : Int))) (
      chk (decide ((0 : Int) ≤ (wi64 (k - 1))) && decide ((wi64 (k - 1)) < (List.length (stripsW c (T + 1)) : Int))) (
       (r9_through (lget [] (stripsW c (T + 1)) k) (lget [] (stripsW c (T + 1)) (wi64 (k - 1))) x_1).bind fun (t_3 : Db0_Ratio) =>
       some t_3))).bind fun (x_2 : Db0_Ratio) =>
    some (.inl (wi64 (k - 1), x_2)))
  else
   some (.inr x_1)) (((to + d : Nat) : Int), ratioW q)) = some (ratioW q')
 | 0, q, N, _, _, hon, hq => ⟨q, hon, hq, by
   refine loopM_done ?_
   simp only
   rw [dec_false (by omega), cond_false]⟩
 | d + 1, q, N, hd, hN, hon, hq => by
  have h10 := hv.steps
  obtain ⟨p, hp⟩ := (hv.strip (to + d) (by omega)).secs
  have hs := hv.strip (to + d) (by omega)
  have hs' := hv.strip (to + d + 1) (by omega)
  have he := hs.each
  have he' := hs'.each
  have hl6 := hs.len
  have hl6' := hs'.len
  rcases hv.rel (to + d) (by omega) with ⟨k1, k2, k3, k4⟩ | ⟨k1, k2, k3, k4, k5, k6, _⟩
  ·have hp' := rolled_ok (t := 0) hp k3 k4
   rw [← k2] at hp'
   have hsame : Same (stS c (to + d + 1)) (stS c (to + d)) := by rw [k2]; exact same_symm (rolled_same k3)
   have hon' := through_on hp' hp hsame hon
   have hlen : (stS c (to + d + 1)).length = (stS c (to + d)).length := by rw [k2]; exact rolled_len k3
   have tok := through_ok hp' hp (fun y hy => (he' y hy).2.2.2.2.2) (fun y hy => (he y hy).2.2.2.2.2) hlen hs'.ne (by omega) hq (by omega)
   have tfit := through_fit hp' hp (fun y hy => (he' y hy).2.2.2.2.2) (fun y hy => (he y hy).2.2.2.2.2) (fitT_zero.mono (by decide)) (fitT_zero.mono (by decide)) hq (by omega)
   obtain ⟨q', r1, r2, r3⟩ := back_loop hv hT (d := d) (N := N + 10) (by omega) (by omega) hon' tfit
   refine ⟨q', r1, r2.mono (by omega), ?_⟩
   rw [← r3]
   refine loopM_next ?_
   simp only
   have ek : ((to + (d + 1) : Nat) : Int) - 1 = ((to + d : Nat) : Int) := by omega
   rw [dec_true (show ((to + (d + 1) : Nat) : Int) > (to : Int) by omega), cond_true, wi64_id (x := ((to + (d + 1) : Nat) : Int) - 1) (by omega) (by omega), ek, chk_idx (by omega), lget_step, k1, show ((0 : Int) == 1) = false from rfl, cond_false, stripsW_len, chk_idx (by omega), chk_idx (by omega), stripsW_get (by omega), stripsW_get (by omega)]
   rw [show to + (d + 1) = to + d + 1 from rfl, tok, Option.bind_some, Option.bind_some]
  ·rw [show to + (d + 1) = to + d + 1 from rfl, k2] at hon
   have hon' := (on_cut hp (by rw [Rat.intCast_lt_intCast]; exact k4) hon).1
   have hfrom : FitT 2 ((stepAt c (to + d)).2.2.1 : Rat) := fitT_int (by omega) (by omega)
   have add := RatioAdd_ok hq hfrom (by omega)
   obtain ⟨q', r1, r2, r3⟩ := back_loop hv hT (d := d) (N := N + 10) (by omega) (by omega) hon' (add.2.mono (by omega))
   refine ⟨q', r1, r2.mono (by omega), ?_⟩
   rw [← r3]
   refine loopM_next ?_
   simp only
   have ek : ((to + (d + 1) : Nat) : Int) - 1 = ((to + d : Nat) : Int) := by omega
   rw [dec_true (show ((to + (d + 1) : Nat) : Int) > (to : Int) by omega), cond_true, wi64_id (x := ((to + (d + 1) : Nat) : Int) - 1) (by omega) (by omega), ek, chk_idx (by omega), lget_step, k1, show ((1 : Int) == 1) = true from rfl, cond_true, RatioInt_ok (by omega) (by omega), Option.bind_some, add.1, Option.bind_some, Option.bind_some]
end Go.Lift
namespace Go.Lift
open Go
abbrev zeroW : Db0_Ratio := ((0, []), (0, []))
def Moved (c : Dapi_TraceCourse) (to : Nat) (P : Rat) (N : Nat) (r : Db0_Ratio × Bool) : Prop :=
 (∃ q', r = (ratioW q', true) ∧ On (stS c to) P q' ∧ FitT N q') ∨ (r = (zeroW, false) ∧ ∀ Q, ¬ On (stS c to) P Q)
theorem Moved.mono {c : Dapi_TraceCourse} {to : Nat} {P : Rat} {N M : Nat} {r : Db0_Ratio × Bool} (h : Moved c to P N r) (hm : N ≤ M) : Moved c to P M r := by
 rcases h with ⟨q, h1, h2, h3⟩ | h
 ·exact Or.inl ⟨q, h1, h2, h3.mono hm⟩
 ·exact Or.inr h
theorem forth_loop {c : Dapi_TraceCourse} (hv : Valid c) {P : Rat} {T to : Nat} (hT : T ≤ c.2.2.2.length) (hto : to ≤ T) : ∀ {d k : Nat} {q : Rat} {N : Nat}, k + d = to → N + 10 * d ≤ 1000 → On (stS c k) P q → FitT N q →
  ∃ r, Moved c to P (N + 10 * d) r ∧ ((loopM (S := Int × Db0_Ratio) (R := (Db0_Ratio) ⊕ (Db0_Ratio × Bool)) (fun s_1 =>
  let k_1 : Int := s_1.1
  let x_4 : Db0_Ratio := s_1.2
  bif decide (k_1 < (to : Int)) then
   chk (decide ((0 : Int) ≤ k_1) && decide (k_1 < (List.length c.2.2.2 : Int))) (
    let step_1 : Dapi_TraceStep := lget (0, ([], (0, 0))) c.2.2.2 k_1
    (bif (step_1.1 == 1) then
     (b0_RatioInt step_1.2.2.1).bind fun (t_4 : Db0_Ratio) =>
     (b0_RatioCmp x_4 t_4).bind fun (t_5 : Int) =>
     (bif decide (t_5 < 0) then some true else
      (b0_RatioInt step_1.2.2.2).bind fun (t_6 : Db0_Ratio) =>
      (b0_RatioCmp x_4 t_6).bind fun (t_7 : Int) =>
      some (decide (t_7 > 0))).bind fun (c_1 : Bool) =>
     bif c_1 then
      Option.map Sum.inr (
       Option.map Sum.inr (Option.map Sum.inr (
        some (((0, []), (0, [])), false))))
     else
      (b0_RatioInt step_1.2.2.1).bind fun (t_8 : Db0_Ratio) =>
      (b0_RatioSub x_4 t_8).bind fun (t_9 : Db0_Ratio) =>
      some (.inl t_9)
    else
     chk (decide ((0 : Int) ≤ k_1) && decide (k_1 < (List.length (stripsW c (T + 1)) : Int))) (
      chk (decide ((0 : Int) ≤ (wi64 (k_1 + 1))) && decide ((wi64 (k_1 + 1)) < (List.length (stripsW c (T + 1)) : Int))) (
       (r9_through (lget [] (stripsW c (T + 1)) k_1) (lget [] (stripsW c (T + 1)) (wi64 (k_1 + 1))) x_4).bind fun (t_10 : Db0_Ratio) =>
       some (.inl t_10))) : Option ((Db0_Ratio) ⊕ ((Int × Db0_Ratio) ⊕ ((Db0_Ratio) ⊕ (Db0_Ratio × Bool))))).bind fun j => match j with
    | .inl x_5 => (
     some (.inl (wi64 (k_1 + 1), x_5)))
    | .inr r => some r)
  else
   some (.inr (.inl x_4))) ((k : Int), ratioW q)).bind fun j => match j with
 | .inl x_6 => (
  some (x_6, true))
 | .inr r => some r) = some r
 | 0, k, q, N, hk, _, hon, hq => by
   refine ⟨(ratioW q, true), Or.inl ⟨q, rfl, by rw [← hk]; exact hon, hq⟩, ?_⟩
   rw [loopM_done (r := .inl (ratioW q))]
   ·rfl
   ·simp only
    rw [dec_false (by omega), cond_false]
 | d + 1, k, q, N, hd, hN, hon, hq => by
  have h10 := hv.steps
  have hs := hv.strip k (by omega)
  have hs' := hv.strip (k + 1) (by omega)
  obtain ⟨p, hp⟩ := hs.secs
  have he := hs.each
  have he' := hs'.each
  have hl6 := hs.len
  have hl6' := hs'.len
  rcases hv.rel k (by omega) with ⟨k1, k2, k3, k4⟩ | ⟨k1, k2, k3, k4, k5, k6, _⟩
  ·have hp' := rolled_ok (t := 0) hp k3 k4
   rw [← k2] at hp'
   have hsame : Same (stS c k) (stS c (k + 1)) := by rw [k2]; exact rolled_same k3
   have hon' := through_on hp hp' hsame hon
   have hlen : (stS c k).length = (stS c (k + 1)).length := by rw [k2]; exact (rolled_len k3).symm
   have tok := through_ok hp hp' (fun y hy => (he y hy).2.2.2.2.2) (fun y hy => (he' y hy).2.2.2.2.2) hlen hs.ne (by omega) hq (by omega)
   have tfit := through_fit hp hp' (fun y hy => (he y hy).2.2.2.2.2) (fun y hy => (he' y hy).2.2.2.2.2) (fitT_zero.mono (by decide)) (fitT_zero.mono (by decide)) hq (by omega)
   obtain ⟨r, r1, r2⟩ := forth_loop hv hT hto (d := d) (k := k + 1) (N := N + 10) (by omega) (by omega) hon' tfit
   refine ⟨r, r1.mono (by omega), ?_⟩
   rw [← r2]
   congr 1
   refine loopM_next ?_
   simp only
   rw [dec_true (show (k : Int) < (to : Int) by omega), cond_true, chk_idx (by omega), lget_step, k1, show ((0 : Int) == 1) = false from rfl, cond_false, stripsW_len, chk_idx (by omega), wi64_id (by omega) (by omega), show (k : Int) + 1 = ((k + 1 : Nat) : Int) from rfl, chk_idx (by omega), stripsW_get (by omega), stripsW_get (by omega), tok, Option.bind_some, Option.bind_some]
  ·have hlt : ((stepAt c k).2.2.1 : Rat) < ((stepAt c k).2.2.2 : Rat) := by rw [Rat.intCast_lt_intCast]; exact k4
   have hfrom : FitT 2 ((stepAt c k).2.2.1 : Rat) := fitT_int (by omega) (by omega)
   have hto2 : FitT 2 ((stepAt c k).2.2.2 : Rat) := fitT_int (by omega) (by omega)
   have h0 : (0 : Rat) ≤ ((stepAt c k).2.2.1 : Rat) := by rw [← Rat.intCast_zero, Rat.intCast_le_intCast]; exact k3
   have hcond : (bif decide ((if q = ((stepAt c k).2.2.1 : Rat) then (0 : Int) else if q < ((stepAt c k).2.2.1 : Rat) then -1 else 1) < 0) then some true else
      (b0_RatioInt (stepAt c k).2.2.2).bind fun (t_6 : Db0_Ratio) =>
      (b0_RatioCmp (ratioW q) t_6).bind fun (t_7 : Int) =>
      some (decide (t_7 > 0))) = some (decide (q < ((stepAt c k).2.2.1 : Rat) ∨ ((stepAt c k).2.2.2 : Rat) < q)) := by
    rw [RatioInt_ok (by omega) (by omega), Option.bind_some, RatioCmp_ok hq hto2 (by omega), Option.bind_some]
    by_cases h1 : q < ((stepAt c k).2.2.1 : Rat)
    ·rw [dec_true (cmp_lt.2 h1), cond_true, dec_true (Or.inl h1)]
    ·rw [dec_false (mt cmp_lt.1 h1), cond_false]
     congr 1
     refine decide_eq_decide.2 ?_
     rw [cmp_gt]
     exact ⟨Or.inr, fun h => h.resolve_left h1⟩
   by_cases hout : q < ((stepAt c k).2.2.1 : Rat) ∨ ((stepAt c k).2.2.2 : Rat) < q
   ·refine ⟨(zeroW, false), Or.inr ⟨rfl, fun Q hQ => ?_⟩, ?_⟩
    ·rw [← show k + 1 + d = to by omega] at hQ
     obtain ⟨Q', hQ'⟩ := on_before hv (by omega) hQ
     rw [k2] at hQ'
     obtain ⟨c1, c2, c3⟩ := on_cut hp hlt hQ'
     have := on_fun hp hon c1
     grind
    ·rw [loopM_done (r := .inr (zeroW, false))]
     ·rfl
     ·simp only
      rw [dec_true (show (k : Int) < (to : Int) by omega), cond_true, chk_idx (by omega), lget_step, k1, show ((1 : Int) == 1) = true from rfl, cond_true, RatioInt_ok (by omega) (by omega), Option.bind_some, RatioCmp_ok hq hfrom (by omega), Option.bind_some, hcond, Option.bind_some, dec_true hout, cond_true]
      rfl
   ·have hon' := cut_on (lo := ((stepAt c k).2.2.1 : Rat)) (hi := ((stepAt c k).2.2.2 : Rat)) hp hlt (by grind) k6 (show _ ≤ q by grind) (by grind) hon
    rw [← k2] at hon'
    have sub := RatioSub_ok hq hfrom (by omega)
    obtain ⟨r, r1, r2⟩ := forth_loop hv hT hto (d := d) (k := k + 1) (N := N + 10) (by omega) (by omega) hon' (sub.2.mono (by omega))
    refine ⟨r, r1.mono (by omega), ?_⟩
    rw [← r2]
    congr 1
    refine loopM_next ?_
    simp only
    rw [dec_true (show (k : Int) < (to : Int) by omega), cond_true, chk_idx (by omega), lget_step, k1, show ((1 : Int) == 1) = true from rfl, cond_true, RatioInt_ok (by omega) (by omega), Option.bind_some, RatioCmp_ok hq hfrom (by omega), Option.bind_some, hcond, Option.bind_some, dec_false hout, cond_false, Option.bind_some, sub.1, Option.bind_some, Option.bind_some, wi64_id (by omega) (by omega)]
    rfl
theorem Move_ok {c : Dapi_TraceCourse} (hv : Valid c) {n to : Nat} (hn : n ≤ c.2.2.2.length) (hto : to ≤ c.2.2.2.length) {P q : Rat} {N : Nat} (hN : N ≤ 500) (hon : On (stS c n) P q) (hq : FitT N q) :
  ∃ r, Moved c to P (N + 200) r ∧ r9_Move c (ratioW q) (n : Int) (to : Int) = some r := by
 have h10 := hv.steps
 unfold r9_Move
 have hT : imax (n : Int) (to : Int) = ((Nat.max n to : Nat) : Int) := by
  unfold imax
  rw [show Nat.max n to = max n to from rfl]
  split <;> omega
 have hT2 : Nat.max n to ≤ c.2.2.2.length := by rw [show Nat.max n to = max n to from rfl]; omega
 have hT3 : n ≤ Nat.max n to := by rw [show Nat.max n to = max n to from rfl]; omega
 have hT4 : to ≤ Nat.max n to := by rw [show Nat.max n to = max n to from rfl]; omega
 generalize Nat.max n to = T at *
 rw [hT, strips_ok hv hT2 hv.len6, Option.bind_some]
 by_cases h : to ≤ n
 ·obtain ⟨d, rfl⟩ : ∃ d, n = to + d := ⟨n - to, by omega⟩
  obtain ⟨q', r1, r2, r3⟩ := back_loop hv hT2 (d := d) (N := N) (by omega) (by omega) hon hq
  refine ⟨(ratioW q', true), Or.inl ⟨q', rfl, r1, r2.mono (by omega)⟩, ?_⟩
  rw [r3, Option.bind_some, loopM_done (r := .inl (ratioW q'))]
  ·rfl
  ·simp only
   rw [dec_false (by omega), cond_false]
 ·obtain ⟨d, hd⟩ : ∃ d, n + d = to := ⟨to - n, by omega⟩
  obtain ⟨r, r1, r2⟩ := forth_loop hv hT2 hT4 (d := d) (N := N) hd (by omega) hon hq
  refine ⟨r, r1.mono (by omega), ?_⟩
  rw [← r2, loopM_done (r := ratioW q), Option.bind_some]
  ·rfl
  ·simp only
   rw [dec_false (by omega), cond_false]
theorem sec_slabAt {x : Sec} {q : Rat} {S N : Nat} (hx : SecOk x) (ha : Fit S x.a) (hu : Fit 1 x.u) (hq : Fit N q) (hS : S + N ≤ 1000) :
  trace_ratio_minus (ratioQ q) (ratioQ x.u) = some (ratioQ (q - x.u)) ∧ trace_quotient x.area x.old = some (ratioQ ((x.area : Rat) / (x.old : Rat))) ∧
   trace_ratio_times (ratioQ (q - x.u)) (ratioQ ((x.area : Rat) / (x.old : Rat))) = some (ratioQ ((q - x.u) * ((x.area : Rat) / (x.old : Rat)))) ∧
   trace_ratio_plus (ratioQ x.a) (ratioQ ((q - x.u) * ((x.area : Rat) / (x.old : Rat)))) = some (ratioQ (x.a + (q - x.u) * ((x.area : Rat) / (x.old : Rat)))) ∧
   Fit (S + N + 4) (x.a + (q - x.u) * ((x.area : Rat) / (x.old : Rat))) := by
 have o1 := hx.old1
 have o2 := hx.old2
 have a1 := hx.area1
 have a2 := hx.area2
 obtain ⟨m1, m2⟩ := rminus_ok hq hu (by omega)
 obtain ⟨q1, q2⟩ := quotient_ok (n := x.area) (d := x.old) (by omega) (by omega) (by omega) (by omega)
 obtain ⟨t1, t2⟩ := rtimes_ok m2 q2 (by omega)
 obtain ⟨p1, p2⟩ := rplus_ok ha t2 (by omega)
 exact ⟨m1, q1, t1, p1, p2.mono (by omega)⟩
theorem sec_at {x : Sec} {p : Rat} {S N : Nat} (hx : SecOk x) (ha : Fit S x.a) (hu : Fit 1 x.u) (hp : Fit N p) (hS : S + N ≤ 1000) :
  trace_ratio_minus (ratioQ p) (ratioQ x.a) = some (ratioQ (p - x.a)) ∧ trace_quotient x.old x.area = some (ratioQ ((x.old : Rat) / (x.area : Rat))) ∧
   trace_ratio_times (ratioQ (p - x.a)) (ratioQ ((x.old : Rat) / (x.area : Rat))) = some (ratioQ ((p - x.a) * ((x.old : Rat) / (x.area : Rat)))) ∧
   trace_ratio_plus (ratioQ x.u) (ratioQ ((p - x.a) * ((x.old : Rat) / (x.area : Rat)))) = some (ratioQ (x.u + (p - x.a) * ((x.old : Rat) / (x.area : Rat)))) ∧
   Fit (S + N + 4) (x.u + (p - x.a) * ((x.old : Rat) / (x.area : Rat))) := by
 have o1 := hx.old1
 have o2 := hx.old2
 have a1 := hx.area1
 have a2 := hx.area2
 obtain ⟨m1, m2⟩ := rminus_ok hp ha (by omega)
 obtain ⟨q1, q2⟩ := quotient_ok (n := x.old) (d := x.area) (by omega) (by omega) (by omega) (by omega)
 obtain ⟨t1, t2⟩ := rtimes_ok m2 q2 (by omega)
 obtain ⟨p1, p2⟩ := rplus_ok hu t2 (by omega)
 exact ⟨m1, q1, t1, p1, p2.mono (by omega)⟩
theorem slabAtS_fit : ∀ {l : List Sec} {q : Rat} {S N : Nat}, (∀ x, x ∈ l → SecOk x ∧ Fit S x.a ∧ Fit 1 x.u) → Fit N q → S + N ≤ 1000 → Fit (S + N + 4) (slabAtS l q)
 | [], _, _, _, _, _, _ => fit_zero.mono (by omega)
 | x :: l, q, S, N, hl, hq, hS => by
  obtain ⟨hx, ha, hu⟩ := hl x List.mem_cons_self
  unfold slabAtS
  split
  ·exact (sec_slabAt hx ha hu hq hS).2.2.2.2
  ·exact slabAtS_fit (fun y hy => hl y (List.mem_cons_of_mem _ hy)) hq hS
theorem tslabAt_ok {l : List Sec} {p q : Rat} {S N : Nat} (hc : Secs p 0 l) (hne : l ≠ []) (h1 : 0 ≤ q) (h2 : q ≤ lastV 0 l) (hl : ∀ x, x ∈ l → SecOk x ∧ Fit S x.a ∧ Fit 1 x.u ∧ Fit 1 x.v) (hq : Fit N q) (hN1 : 1 ≤ N) (hS : S + N ≤ 1000) (h6 : l.length ≤ 100) :
  trace_strip_slabAt (l.map secQ) (ratioQ q) = some (ratioQ (slabAtS l q)) := by
 unfold trace_strip_slabAt
 refine Option.bind_eq_some_iff.2 ⟨.inr (ratioQ (slabAtS l q)), ?_, rfl⟩
 refine loopM_list_eq (X := Sec) (l := l) (fun l' s => ∃ pre p' q', l = pre ++ l' ∧ s = (pre.length : Int) ∧ slabAtS l q = slabAtS l' q ∧ Secs p' q' l' ∧ q' ≤ q ∧ q ≤ lastV q' l' ∧ l' ≠ []) ?_ ?_ ⟨[], p, 0, rfl, rfl, rfl, hc, h1, h2, hne⟩
 ·rintro x l' s ⟨pre, p', q', e1, rfl, e2, ⟨c1, c2, hx, c4⟩, h3, h4, h5⟩
  subst c1 c2
  have hL : l.length = pre.length + (l'.length + 1) := by rw [e1, List.length_append, List.length_cons]
  obtain ⟨_, ha, hu, hv⟩ := hl x (by rw [e1]; simp)
  have g1 : ∀ d, lget d (l.map secQ) (pre.length : Int) = secQ x := fun d => by rw [e1]; exact lget_map
  rw [List.length_map, dec_true (show (pre.length : Int) < (l.length : Int) by omega), cond_true, chk_true (and_true' (dec_true (by omega)) rfl), g1]
  simp only
  rw [chk01, chk11, show aget (secQ x).2.1 0 = ratioQ x.u from rfl, show aget (secQ x).2.1 1 = ratioQ x.v from rfl, show aget (secQ x).1 0 = ratioQ x.a from rfl, show (secQ x).2.2.2 = x.area from rfl, show (secQ x).2.2.1 = x.old from rfl]
  rw [rbetween_ok hq (hu.mono hN1) (hv.mono hN1) (by omega), Option.bind_some]
  by_cases hb : x.u ≤ q ∧ q ≤ x.v
  ·right
   obtain ⟨m1, m2, m3, m4, _⟩ := sec_slabAt hx ha hu hq hS
   rw [dec_true hb, cond_true, chk01, chk01, m1, Option.bind_some, m2, Option.bind_some, m3, Option.bind_some, m4, Option.bind_some, e2]
   unfold slabAtS
   rw [if_pos hb]
   rfl
  ·left
   rw [dec_false hb, cond_false, wi64_id (by omega) (by omega)]
   refine ⟨_, rfl, pre ++ [x], _, _, by rw [e1]; simp, by rw [List.length_append, List.length_singleton]; rfl, ?_, c4, ?_, ?_, ?_⟩
   ·rw [e2]
    conv => lhs; unfold slabAtS
    rw [if_neg hb]
   ·grind
   ·exact h4
   ·intro e
    subst e
    exact hb ⟨h3, h4⟩
 ·rintro s ⟨pre, p', q', e1, rfl, e2, _, _, _, h5⟩
  exact absurd rfl h5
def atR : Option Rat → Dtrace_ratio × Bool
 | some q => (ratioQ q, true)
 | none => ((false, ([], [])), false)
theorem tat_ok {l : List Sec} {P : Rat} {S N : Nat} (hl : ∀ x, x ∈ l → SecOk x ∧ Fit S x.a ∧ Fit S x.b ∧ Fit 1 x.u) (hP : Fit N P) (hSN : S ≤ N) (hS : S + N ≤ 1000) (h6 : l.length ≤ 100) :
  trace_strip_at (l.map secQ) (ratioQ P) = some (atR (atS l P)) ∧ (∀ q, atS l P = some q → Fit (S + N + 4) q) := by
 constructor
 ·unfold trace_strip_at
  refine Option.bind_eq_some_iff.2 ⟨(match atS l P with | some q => .inr (ratioQ q, true) | none => .inl ()), ?_, by cases atS l P <;> rfl⟩
  refine loopM_list_eq (X := Sec) (l := l) (fun l' s => ∃ pre, l = pre ++ l' ∧ s = (pre.length : Int) ∧ atS l P = atS l' P) ?_ ?_ ⟨[], rfl, rfl, rfl⟩
  ·rintro x l' s ⟨pre, e1, rfl, e2⟩
   have hL : l.length = pre.length + (l'.length + 1) := by rw [e1, List.length_append, List.length_cons]
   obtain ⟨hx, ha, hb, hu⟩ := hl x (by rw [e1]; simp)
   have g1 : ∀ d, lget d (l.map secQ) (pre.length : Int) = secQ x := fun d => by rw [e1]; exact lget_map
   rw [List.length_map, dec_true (show (pre.length : Int) < (l.length : Int) by omega), cond_true, chk_true (and_true' (dec_true (by omega)) rfl), g1]
   simp only
   rw [chk01, chk11, show aget (secQ x).1 0 = ratioQ x.a from rfl, show aget (secQ x).1 1 = ratioQ x.b from rfl, show aget (secQ x).2.1 0 = ratioQ x.u from rfl, show (secQ x).2.2.2 = x.area from rfl, show (secQ x).2.2.1 = x.old from rfl]
   rw [rbetween_ok hP (ha.mono hSN) (hb.mono hSN) (by omega), Option.bind_some]
   by_cases hb2 : x.a ≤ P ∧ P ≤ x.b
   ·right
    obtain ⟨m1, m2, m3, m4, _⟩ := sec_at hx ha hu hP hS
    have e3 : atS (x :: l') P = some (x.u + (P - x.a) * ((x.old : Rat) / (x.area : Rat))) := if_pos hb2
    rw [dec_true hb2, cond_true, chk01, chk01, m1, Option.bind_some, m2, Option.bind_some, m3, Option.bind_some, m4, Option.bind_some, e2, e3]
    rfl
   ·left
    have e3 : atS (x :: l') P = atS l' P := if_neg hb2
    rw [dec_false hb2, cond_false, wi64_id (by omega) (by omega)]
    exact ⟨_, rfl, pre ++ [x], by rw [e1]; simp, by rw [List.length_append, List.length_singleton]; rfl, by rw [e2, e3]⟩
  ·rintro s ⟨pre, e1, rfl, e2⟩
   have hL : l.length = pre.length := by rw [e1, List.append_nil]
   rw [List.length_map, dec_false (show ¬ (pre.length : Int) < (l.length : Int) by omega), cond_false, e2]
   rfl
 ·induction l with
  | nil => intro q h; simp [atS] at h
  | cons x l ih =>
   intro q h
   obtain ⟨hx, ha, hb, hu⟩ := hl x List.mem_cons_self
   unfold atS at h
   split at h
   ·rw [Option.some.injEq] at h
    rw [← h]
    exact (sec_at hx ha hu hP hS).2.2.2.2
   ·exact ih (fun y hy => hl y (List.mem_cons_of_mem _ hy)) (by rw [List.length_cons] at h6; omega) q h
end Go.Lift
