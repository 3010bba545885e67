/-
  Maps are checked; values and inverses on both sides.
-/
import Derived.Test.YteobfadhflofpaaGreatPlainH
import Derived.Test.YteobfadhflofpaaGreatFunEv
import Derived.Test.YteobfadhflofpaaGreatPlainR
import Derived.Test.YteobfadhflofpaaGreatFunVa
set_option linter.unusedSectionVars false
set_option linter.unusedVariables false
set_option linter.unusedSimpArgs false
namespace Go.Lift
open Go
theorem mul_bound {a b : Int} {A B : Nat} (ha : a.natAbs ≤ A) (hb : b.natAbs ≤ B) : (a * b).natAbs ≤ A * B := by
  rw [Int.natAbs_mul]; exact Nat.mul_le_mul ha hb
theorem Cmp_ok {p q : Rat} (hp : smallQ p = true) (hq : smallQ q = true) : b0_Cmp (fq p) (fq q) = some (if p < q then -1 else if q < p then 1 else 0) := by
  obtain ⟨p1, p2⟩ := small_parts hp
  obtain ⟨q1, q2⟩ := small_parts hq
  have b1 := mul_bound p1 (show ((q.den : Int)).natAbs ≤ 1000000000 by omega)
  have b2 := mul_bound q1 (show ((p.den : Int)).natAbs ≤ 1000000000 by omega)
  have w1 : wi64 (p.num * (q.den : Int)) = p.num * (q.den : Int) := wi64_id (by omega) (by omega)
  have w2 : wi64 (q.num * (p.den : Int)) = q.num * (p.den : Int) := wi64_id (by omega) (by omega)
  unfold b0_Cmp fq
  simp only
  rw [w1, w2]
  have l1 := Rat.lt_iff p q
  have l2 := Rat.lt_iff q p
  by_cases h : p < q
  · rw [dec_true (l1.1 h), if_pos h]; rfl
  · rw [dec_false (fun e => h (l1.2 e)), if_neg h, cond_false]
    by_cases h' : q < p
    · rw [dec_true (show p.num * (q.den : Int) > q.num * (p.den : Int) from l2.1 h'), if_pos h']; rfl
    · rw [dec_false (show ¬ p.num * (q.den : Int) > q.num * (p.den : Int) from fun e => h' (l2.2 e)), if_neg h']; rfl
end Go.Lift
namespace Go.Lift
open Go
theorem fr_isLowest {f : Dapi_Frac} (hi : In64 f) : trace_isLowest f = some (lowB f) := by
  obtain ⟨h1, h2, h3, h4⟩ := hi
  unfold trace_isLowest lowB
  by_cases h : f.2 ≤ 0
  · rw [dec_true h, cond_true, dec_false (show ¬ f.2 > 0 by omega)]
    rfl
  · rw [dec_false h, cond_false, dec_true (show f.2 > 0 by omega), Bool.true_and, tsize_ok h1 h2, Option.bind_some, naturalOf_ok (by omega), Option.bind_some, tsize_ok h3 h4, Option.bind_some, naturalOf_ok (by omega), Option.bind_some,
      divisor_ok (Nat.le_trans (nw64 (by omega)) (by decide)) (Nat.le_trans (nw64 (by omega)) (by decide)), Option.bind_some, ← nd_one]
    have hg : Nat.gcd f.1.natAbs f.2.natAbs ≤ f.2.natAbs := Nat.gcd_le_right _ (by omega)
    obtain ⟨c, hc, _, h0, _⟩ := cmp_ok (a := Nat.gcd f.1.natAbs f.2.natAbs) (b := 1) (Nat.le_trans (nw64 (by omega)) (by decide)) (Nat.le_trans (nw64 (by decide)) (by decide))
    rw [hc, Option.bind_some]
    congr 1
    rw [Bool.eq_iff_iff, beq_iff_eq, beq_iff_eq]
    exact h0
theorem fr_isSmall (f : Dapi_Frac) : trace_isSmall f = some (smB f) := by
  unfold trace_isSmall smB
  rw [within_ok, Option.bind_some]
theorem fr_IsSmall {f : Dapi_Frac} (h : lowB f = true) : b0_IsSmall f = some (smB f) := by
  have := (low_pos h).1
  unfold b0_IsSmall smB
  rw [Within_ok, Option.bind_some]
  cases decide (-1000000000 ≤ f.1 ∧ f.1 ≤ 1000000000) with
  | false => rfl
  | true =>
    rw [cond_true, Within_ok, Option.bind_some, Option.bind_some, Bool.true_and]
    congr 1
    rw [decide_eq_decide]
    omega
theorem fr_from {f : Dapi_Frac} (h : lowB f = true) (hi : In64 f) : trace_from f = some (ratioQ (frQ f)) ∧ Fit 2 (frQ f) := by
  obtain ⟨h1, h2⟩ := low_fit h hi
  unfold trace_from
  rw [h1, Option.bind_some]
  exact ⟨rfl, h2⟩
def In64s (l : List Dapi_Span) : Prop := ∀ s, s ∈ l → In64 s.1 ∧ In64 s.2
theorem lgetS {l : List Dapi_Span} {i : Nat} : lget ((0, 0), (0, 0)) l (i : Int) = getS l i := by
  unfold lget getS
  rw [Int.toNat_natCast]
def outM (l : List Dapi_Span) (i : Nat) : List Dtrace_knot := (l.take i).map fun s => kQ (kn s)
theorem outM_len {l : List Dapi_Span} {i : Nat} (h : i ≤ l.length) : (outM l i).length = i := by
  unfold outM
  rw [List.length_map, List.length_take]; omega
theorem outM_get {l : List Dapi_Span} {i j : Nat} (h : j < i) (hi : i ≤ l.length) {d : Dtrace_knot} : lget d (outM l i) (j : Int) = kQ (kn (getS l j)) := by
  unfold lget outM getS
  rw [Int.toNat_natCast, List.getD_eq_getElem?_getD, List.getD_eq_getElem?_getD, List.getElem?_map, List.getElem?_take_of_lt h, List.getElem?_eq_getElem (show j < l.length by omega)]
  rfl
theorem outM_succ {l : List Dapi_Span} {i : Nat} (h : i < l.length) : outM l (i + 1) = outM l i ++ [kQ (kn (getS l i))] := by
  unfold outM getS
  rw [List.take_add_one, List.map_append, List.getD_eq_getElem?_getD, List.getElem?_eq_getElem h]
  rfl
theorem errE_bad {p : Option Dapi_Span} {s : Dapi_Span} : (errE p s = 3 ∧ (lowB s.1 && lowB s.2) = false) ∨ (errE p s = 2 ∧ (lowB s.1 && lowB s.2) = true ∧ (smB s.1 && smB s.2) = false) ∨
    ((lowB s.1 && lowB s.2) = true ∧ (smB s.1 && smB s.2) = true ∧ errE p s = (match p with
    | none => 0
    | some p => if frQ s.1 ≤ frQ p.1 ∨ frQ s.2 ≤ frQ p.2 then 9 else 0)) := by
  unfold errE
  cases h1 : (lowB s.1 && lowB s.2) with
  | false => exact .inl ⟨rfl, rfl⟩
  | true =>
    cases h2 : (smB s.1 && smB s.2) with
    | false => exact .inr (.inl ⟨rfl, rfl, rfl⟩)
    | true => exact .inr (.inr ⟨rfl, rfl, rfl⟩)
theorem bad_none {l : List Dapi_Span} {i : Nat} (h : badE l i = none) : errE (prevS l i) (getS l i) = 0 := by
  unfold badE at h
  by_cases h3 : errE (prevS l i) (getS l i) = 0
  · exact h3
  · rw [if_neg h3] at h; cases h
theorem kn_fit {s : Dapi_Span} (h : lowB s.1 = true ∧ lowB s.2 = true ∧ smallQ (frQ s.1) = true ∧ smallQ (frQ s.2) = true) : KFit 2 (kn s) := by
  obtain ⟨h1, h2, h3, h4⟩ := h
  obtain ⟨a1, a2⟩ := fit_small h3
  obtain ⟨b1, b2⟩ := fit_small h4
  exact ⟨a1.mono (by decide), b1.mono (by decide), a2, b2⟩
theorem cmp_le0 {a b : Rat} : decide ((if a = b then (0 : Int) else if a < b then -1 else 1) ≤ 0) = decide (a ≤ b) := by
  rw [decide_eq_decide]
  by_cases h : a = b
  · rw [if_pos h, h]; exact ⟨fun _ => Rat.le_refl, fun _ => by decide⟩
  · rw [if_neg h]
    by_cases h2 : a < b
    · rw [if_pos h2]; exact ⟨fun _ => Rat.le_of_lt h2, fun _ => by decide⟩
    · rw [if_neg h2]; exact ⟨fun h => absurd h (by decide), fun h3 => absurd h3 (by grind)⟩
theorem findF_map {A B : Type} {φ : A → B} {g : Nat → Option A} : ∀ {m k : Nat}, findF (fun i => (g i).map φ) k m = (findF g k m).map φ
  | 0, _ => rfl
  | m + 1, k => by
    unfold findF
    cases g k with
    | none => exact findF_map
    | some r => rfl
theorem openMap_ok {l : List Dapi_Span} (hl : In64s l) : trace_openMap l = some (if (mapE l).2 = 0 then (outM l l.length, 0, 0) else ([], (mapE l).1, (mapE l).2)) := by
  unfold trace_openMap
  rw [unless_ok, Option.bind_some, unless_ok, Option.bind_some, first_ok (by simp), Option.bind_some]
  by_cases h1 : l.length < 2
  · have e : mapE l = (0, 10) := if_pos h1
    rw [e, dec_false (show ¬ (l.length : Int) ≥ 2 by omega), dec_true (show (l.length : Int) ≤ 12 by omega)]
    rfl
  by_cases h2 : 12 < l.length
  · have e : mapE l = (0, 8) := by unfold mapE; rw [if_neg h1, if_pos h2]
    rw [e, dec_true (show (l.length : Int) ≥ 2 by omega), dec_false (show ¬ (l.length : Int) ≤ 12 by omega)]
    rfl
  have e : mapE l = (findF (badE l) 0 l.length).getD (0, 0) := by unfold mapE; rw [if_neg h1, if_neg h2]
  rw [dec_true (show (l.length : Int) ≥ 2 by omega), dec_true (show (l.length : Int) ≤ 12 by omega), show firstE [if true = true then (0 : Int) else 10, if true = true then (0 : Int) else 8] = 0 from rfl, show ((0 : Int) != 0) = false from rfl, cond_false]
  have hmap := @map_ok l
  rw [e] at hmap ⊢
  refine Option.bind_eq_some_iff.2 ⟨((findF (fun i => (badE l i).map fun r => (Sum.inr ([], r.1, r.2) : (List Dtrace_knot) ⊕ ((List Dtrace_knot) × Int × Int))) 0 l.length).getD (Sum.inl (outM l l.length))), loop_findS (st := fun i => (outM l i, (i : Int))) (n := l.length) ?_ ?_ ?_ l.length 0 (by omega) (fun j hj => by omega), ?_⟩
  · intro i hi hp hn
    have hb : badE l i = none := by
      cases hb : badE l i with
      | none => rfl
      | some r => rw [hb] at hn; cases hn
    obtain ⟨e1, e2, e3, e4, e5⟩ := errE_zero (bad_none hb)
    obtain ⟨i1, i2⟩ := hl _ (getS_mem hi)
    obtain ⟨f1, g1⟩ := fr_from e1 i1
    obtain ⟨f2, g2⟩ := fr_from e2 i2
    have hlen := outM_len (l := l) (i := i) (by omega)
    simp only
    rw [dec_true (show (i : Int) < (l.length : Int) by omega), cond_true, chk_true (and_true' (dec_true (by omega)) rfl), lgetS, fr_isLowest i1, Option.bind_some, e1, cond_true, fr_isLowest i2, Option.bind_some, e2, Option.bind_some, unless_ok, Option.bind_some, fr_isSmall, Option.bind_some, e3, cond_true, fr_isSmall, Option.bind_some, e4, Option.bind_some, unless_ok, Option.bind_some, first_ok (by simp), Option.bind_some,
      show firstE [if true = true then (0 : Int) else 3, if true = true then (0 : Int) else 2] = 0 from rfl, show ((0 : Int) != 0) = false from rfl, cond_false, f1, Option.bind_some, f2, Option.bind_some]
    have hc : (bif decide ((i : Int) > 0) then
              chk (decide ((0 : Int) ≤ (wi64 ((i : Int) - 1))) && decide ((wi64 ((i : Int) - 1)) < (List.length (outM l i) : Int))) (
                (trace_ratio_cmp (ratioQ (frQ (getS l i).1)) ((lget ((false, ([], [])), (false, ([], []))) (outM l i) (wi64 ((i : Int) - 1))).1)).bind fun (t_13 : Int) =>
                (bif decide (t_13 ≤ 0) then some true else
                  chk (decide ((0 : Int) ≤ (wi64 ((i : Int) - 1))) && decide ((wi64 ((i : Int) - 1)) < (List.length (outM l i) : Int))) (
                    (trace_ratio_cmp (ratioQ (frQ (getS l i).2)) ((lget ((false, ([], [])), (false, ([], []))) (outM l i) (wi64 ((i : Int) - 1))).2)).bind fun (t_14 : Int) =>
                    some (decide (t_14 ≤ 0)))).bind fun (c_2 : Bool) =>
                some c_2)
            else some false) = some false := by
      cases i with
      | zero => rfl
      | succ j =>
        have hj := bad_none (by
          have := hp j (by omega)
          cases hb : badE l j with
          | none => rfl
          | some r => rw [hb] at this; cases this)
        obtain ⟨q1, q2, q3, q4, _⟩ := errE_zero hj
        obtain ⟨k1, k2⟩ := hl _ (getS_mem (show j < l.length by omega))
        have u := e5 _ rfl
        have w : wi64 (((j + 1 : Nat) : Int) - 1) = (j : Int) := by rw [wi64_id (by omega) (by omega)]; omega
        rw [dec_true (show ((j + 1 : Nat) : Int) > 0 by omega), cond_true, w, chk_true (and_true' (dec_true (by omega)) (dec_true (by omega))), outM_get (by omega) (by omega)]
        simp only [kQ]
        rw [show (kn (getS l j)).1 = frQ (getS l j).1 from rfl, show (kn (getS l j)).2 = frQ (getS l j).2 from rfl, rcmp_ok g1 (fr_from q1 k1).2 (by decide), Option.bind_some, cmp_le0, dec_false (show ¬ frQ (getS l (j + 1)).1 ≤ frQ (getS l j).1 by have : frQ (getS l j).1 < frQ (getS l (j + 1)).1 := u.1; grind), cond_false,
          chk_true (and_true' (dec_true (by omega)) (dec_true (by omega))), rcmp_ok g2 (fr_from q2 k2).2 (by decide), Option.bind_some, cmp_le0, dec_false (show ¬ frQ (getS l (j + 1)).2 ≤ frQ (getS l j).2 by have : frQ (getS l j).2 < frQ (getS l (j + 1)).2 := u.2; grind)]
        rfl
    refine Option.bind_eq_some_iff.2 ⟨_, hc, ?_⟩
    rw [cond_false, app_ok (by rw [hlen, List.length_singleton]; omega), Option.bind_some, wi64_id (by omega) (by omega), outM_succ hi]
    rfl
  · intro i hi hp r hr
    have hb : ∃ e, e ≠ 0 ∧ errE (prevS l i) (getS l i) = e ∧ r = .inr ([], (i : Int), e) := by
      unfold badE at hr
      by_cases h3 : errE (prevS l i) (getS l i) = 0
      · rw [if_pos h3] at hr; cases hr
      · rw [if_neg h3] at hr
        exact ⟨_, h3, rfl, by cases hr; rfl⟩
    obtain ⟨e, he0, he, rfl⟩ := hb
    obtain ⟨i1, i2⟩ := hl _ (getS_mem hi)
    have hlen := outM_len (l := l) (i := i) (by omega)
    simp only
    rw [dec_true (show (i : Int) < (l.length : Int) by omega), cond_true, chk_true (and_true' (dec_true (by omega)) rfl), lgetS, fr_isLowest i1, Option.bind_some]
    have hlow : (bif lowB (getS l i).1 then (trace_isLowest (getS l i).2).bind fun (t_5 : Bool) => some t_5 else some false) = some (lowB (getS l i).1 && lowB (getS l i).2) := by
      rw [fr_isLowest i2]
      cases lowB (getS l i).1 <;> rfl
    have hsm : (bif smB (getS l i).1 then (trace_isSmall (getS l i).2).bind fun (t_5 : Bool) => some t_5 else some false) = some (smB (getS l i).1 && smB (getS l i).2) := by
      rw [fr_isSmall]
      cases smB (getS l i).1 <;> rfl
    rw [hlow, Option.bind_some, unless_ok, Option.bind_some, fr_isSmall, Option.bind_some, hsm, Option.bind_some, unless_ok, Option.bind_some, first_ok (by simp), Option.bind_some]
    rcases errE_bad (p := prevS l i) (s := getS l i) with ⟨h3, h4⟩ | ⟨h3, h4, h5⟩ | ⟨h3, h4, h5⟩
    · rw [h4, show firstE [if false = true then (0 : Int) else 3, if (smB (getS l i).1 && smB (getS l i).2) = true then (0 : Int) else 2] = 3 from rfl, show ((3 : Int) != 0) = true from rfl, cond_true, ← he, h3]
      rfl
    · rw [h4, h5, show firstE [if true = true then (0 : Int) else 3, if false = true then (0 : Int) else 2] = 2 from rfl, show ((2 : Int) != 0) = true from rfl, cond_true, ← he, h3]
      rfl
    · rw [h3, h4, show firstE [if true = true then (0 : Int) else 3, if true = true then (0 : Int) else 2] = 0 from rfl, show ((0 : Int) != 0) = false from rfl, cond_false]
      rw [Bool.and_eq_true] at h3 h4
      obtain ⟨f1, g1⟩ := fr_from h3.1 i1
      obtain ⟨f2, g2⟩ := fr_from h3.2 i2
      rw [f1, Option.bind_some, f2, Option.bind_some]
      cases i with
      | zero => exact absurd (he.symm.trans h5) he0
      | succ j =>
        have hj := bad_none (by
          have := hp j (by omega)
          cases hb : badE l j with
          | none => rfl
          | some r => rw [hb] at this; cases this)
        obtain ⟨q1, q2, q3, q4, _⟩ := errE_zero hj
        obtain ⟨k1, k2⟩ := hl _ (getS_mem (show j < l.length by omega))
        have w : wi64 (((j + 1 : Nat) : Int) - 1) = (j : Int) := by rw [wi64_id (by omega) (by omega)]; omega
        have h9 : (frQ (getS l (j + 1)).1 ≤ frQ (getS l j).1 ∨ frQ (getS l (j + 1)).2 ≤ frQ (getS l j).2) ∧ e = 9 := by
          rw [he] at h5
          change e = (if frQ (getS l (j + 1)).1 ≤ frQ (getS l j).1 ∨ frQ (getS l (j + 1)).2 ≤ frQ (getS l j).2 then 9 else 0) at h5
          by_cases h : frQ (getS l (j + 1)).1 ≤ frQ (getS l j).1 ∨ frQ (getS l (j + 1)).2 ≤ frQ (getS l j).2
          · rw [if_pos h] at h5; exact ⟨h, h5⟩
          · rw [if_neg h] at h5; exact absurd h5 he0
        obtain ⟨h9, rfl⟩ := h9
        have hc : (bif decide (((j + 1 : Nat) : Int) > 0) then
              chk (decide ((0 : Int) ≤ (wi64 (((j + 1 : Nat) : Int) - 1))) && decide ((wi64 (((j + 1 : Nat) : Int) - 1)) < (List.length (outM l (j + 1)) : Int))) (
                (trace_ratio_cmp (ratioQ (frQ (getS l (j + 1)).1)) ((lget ((false, ([], [])), (false, ([], []))) (outM l (j + 1)) (wi64 (((j + 1 : Nat) : Int) - 1))).1)).bind fun (t_13 : Int) =>
                (bif decide (t_13 ≤ 0) then some true else
                  chk (decide ((0 : Int) ≤ (wi64 (((j + 1 : Nat) : Int) - 1))) && decide ((wi64 (((j + 1 : Nat) : Int) - 1)) < (List.length (outM l (j + 1)) : Int))) (
                    (trace_ratio_cmp (ratioQ (frQ (getS l (j + 1)).2)) ((lget ((false, ([], [])), (false, ([], []))) (outM l (j + 1)) (wi64 (((j + 1 : Nat) : Int) - 1))).2)).bind fun (t_14 : Int) =>
                    some (decide (t_14 ≤ 0)))).bind fun (c_2 : Bool) =>
                some c_2)
            else some false) = some true := by
          rw [dec_true (show ((j + 1 : Nat) : Int) > 0 by omega), cond_true, w, chk_true (and_true' (dec_true (by omega)) (dec_true (by omega))), outM_get (by omega) (by omega)]
          simp only [kQ]
          rw [show (kn (getS l j)).1 = frQ (getS l j).1 from rfl, show (kn (getS l j)).2 = frQ (getS l j).2 from rfl, rcmp_ok g1 (fr_from q1 k1).2 (by decide), Option.bind_some, cmp_le0]
          by_cases h : frQ (getS l (j + 1)).1 ≤ frQ (getS l j).1
          · rw [dec_true h]; rfl
          · rw [dec_false h, cond_false, chk_true (and_true' (dec_true (by omega)) (dec_true (by omega))), rcmp_ok g2 (fr_from q2 k2).2 (by decide), Option.bind_some, cmp_le0, dec_true (h9.resolve_left h)]
            rfl
        refine Option.bind_eq_some_iff.2 ⟨_, hc, ?_⟩
        rfl
  · intro hp
    simp only
    rw [dec_false (show ¬ (l.length : Int) < (l.length : Int) by omega), cond_false]
  · rw [findF_map]
    cases hff : findF (badE l) 0 l.length with
    | none => rfl
    | some r =>
      have hr : r.2 ≠ 0 := by
        obtain ⟨i, _, _, hg, _⟩ := findF_some hff
        unfold badE at hg
        by_cases h3 : errE (prevS l i) (getS l i) = 0
        · rw [if_pos h3] at hg; cases hg
        · rw [if_neg h3] at hg
          cases hg
          exact h3
      show some _ = some (if r.2 = 0 then _ else _)
      rw [if_neg hr]
      rfl
theorem fr_Cmp {f g : Dapi_Frac} (h1 : lowB f = true) (h2 : smB f = true) (h3 : lowB g = true) (h4 : smB g = true) : b0_Cmp f g = some (if frQ f < frQ g then -1 else if frQ g < frQ f then 1 else 0) := by
  have := Cmp_ok (p := frQ f) (q := frQ g) (by rw [← smB_small h1]; exact h2) (by rw [← smB_small h3]; exact h4)
  rwa [fq_frQ h1, fq_frQ h3] at this
theorem cmp_le1 {a b : Rat} : decide ((if a < b then (-1 : Int) else if b < a then 1 else 0) ≤ 0) = decide (a ≤ b) := by
  rw [decide_eq_decide]
  by_cases h : a < b
  · rw [if_pos h]; exact ⟨fun _ => Rat.le_of_lt h, fun _ => by decide⟩
  · rw [if_neg h]
    by_cases h2 : b < a
    · rw [if_pos h2]; exact ⟨fun h => absurd h (by decide), fun h3 => absurd h3 (by grind)⟩
    · rw [if_neg h2]; exact ⟨fun _ => by grind, fun _ => by decide⟩
theorem rCheckMap_ok {l : List Dapi_Span} (hl : In64s l) : r9_CheckMap l = some (mapE l) := by
  unfold r9_CheckMap
  by_cases h1 : l.length < 2
  · have e : mapE l = (0, 10) := if_pos h1
    rw [e, dec_true (show (l.length : Int) < 2 by omega)]
    rfl
  by_cases h2 : 12 < l.length
  · have e : mapE l = (0, 8) := by unfold mapE; rw [if_neg h1, if_pos h2]
    rw [e, dec_false (show ¬ (l.length : Int) < 2 by omega), dec_true (show (l.length : Int) > 12 by omega)]
    rfl
  have e : mapE l = (findF (badE l) 0 l.length).getD (0, 0) := by unfold mapE; rw [if_neg h1, if_neg h2]
  rw [e, dec_false (show ¬ (l.length : Int) < 2 by omega), dec_false (show ¬ (l.length : Int) > 12 by omega), cond_false, cond_false]
  refine Option.bind_eq_some_iff.2 ⟨((findF (fun i => (badE l i).map fun r => (Sum.inr r : Unit ⊕ (Int × Int))) 0 l.length).getD (Sum.inl ())), loop_findS (st := fun i => (i : Int)) (n := l.length) ?_ ?_ ?_ l.length 0 (by omega) (fun j hj => by omega), ?_⟩
  · intro i hi hp hn
    have hb : badE l i = none := by
      cases hb : badE l i with
      | none => rfl
      | some r => rw [hb] at hn; cases hn
    obtain ⟨e1, e2, e3, e4, e5⟩ := errE_zero (bad_none hb)
    obtain ⟨i1, i2⟩ := hl _ (getS_mem hi)
    simp only
    rw [dec_true (show (i : Int) < (l.length : Int) by omega), cond_true, chk_true (and_true' (dec_true (by omega)) rfl), lgetS, IsLowest64_ok i1, Option.bind_some, e1, Bool.not_true, cond_false, IsLowest64_ok i2, Option.bind_some, e2, Option.bind_some, Bool.not_true, cond_false, fr_IsSmall e1, Option.bind_some, e3, Bool.not_true, cond_false, fr_IsSmall e2, Option.bind_some, e4, Option.bind_some, Bool.not_true, cond_false]
    have hc : (bif decide ((i : Int) > 0) then
                  chk (decide ((0 : Int) ≤ (wi64 ((i : Int) - 1))) && decide ((wi64 ((i : Int) - 1)) < (List.length l : Int))) (
                    (b0_Cmp (getS l i).1 ((lget ((0, 0), (0, 0)) l (wi64 ((i : Int) - 1))).1)).bind fun (t_4 : Int) =>
                    (bif decide (t_4 ≤ 0) then some true else
                      chk (decide ((0 : Int) ≤ (wi64 ((i : Int) - 1))) && decide ((wi64 ((i : Int) - 1)) < (List.length l : Int))) (
                        (b0_Cmp (getS l i).2 ((lget ((0, 0), (0, 0)) l (wi64 ((i : Int) - 1))).2)).bind fun (t_5 : Int) =>
                        some (decide (t_5 ≤ 0)))).bind fun (c_2 : Bool) =>
                    some c_2)
                else some false) = some false := by
      cases i with
      | zero => rfl
      | succ j =>
        have hj := bad_none (by
          have := hp j (by omega)
          cases hb : badE l j with
          | none => rfl
          | some r => rw [hb] at this; cases this)
        obtain ⟨q1, q2, q3, q4, _⟩ := errE_zero hj
        have u := e5 _ rfl
        have w : wi64 (((j + 1 : Nat) : Int) - 1) = (j : Int) := by rw [wi64_id (by omega) (by omega)]; omega
        rw [dec_true (show ((j + 1 : Nat) : Int) > 0 by omega), cond_true, w, chk_true (and_true' (dec_true (by omega)) (dec_true (by omega))), lgetS, fr_Cmp e1 e3 q1 q3, Option.bind_some, cmp_le1, dec_false (show ¬ frQ (getS l (j + 1)).1 ≤ frQ (getS l j).1 by have : frQ (getS l j).1 < frQ (getS l (j + 1)).1 := u.1; grind), cond_false,
          chk_true (and_true' (dec_true (by omega)) (dec_true (by omega))), fr_Cmp e2 e4 q2 q4, Option.bind_some, cmp_le1, dec_false (show ¬ frQ (getS l (j + 1)).2 ≤ frQ (getS l j).2 by have : frQ (getS l j).2 < frQ (getS l (j + 1)).2 := u.2; grind)]
        rfl
    refine Option.bind_eq_some_iff.2 ⟨_, hc, ?_⟩
    rw [cond_false, wi64_id (by omega) (by omega)]
    rfl
  · intro i hi hp r hr
    have hb : ∃ e, e ≠ 0 ∧ errE (prevS l i) (getS l i) = e ∧ r = .inr ((i : Int), e) := by
      unfold badE at hr
      by_cases h3 : errE (prevS l i) (getS l i) = 0
      · rw [if_pos h3] at hr; cases hr
      · rw [if_neg h3] at hr
        exact ⟨_, h3, rfl, by cases hr; rfl⟩
    obtain ⟨e, he0, he, rfl⟩ := hb
    obtain ⟨i1, i2⟩ := hl _ (getS_mem hi)
    simp only
    rw [dec_true (show (i : Int) < (l.length : Int) by omega), cond_true, chk_true (and_true' (dec_true (by omega)) rfl), lgetS, IsLowest64_ok i1, Option.bind_some]
    have hlow : (bif !lowB (getS l i).1 then some true else (b0_IsLowest (getS l i).2).bind fun (t_5 : Bool) => some (!t_5)) = some (!(lowB (getS l i).1 && lowB (getS l i).2)) := by
      rw [IsLowest64_ok i2]
      cases lowB (getS l i).1 <;> rfl
    rw [hlow, Option.bind_some]
    rcases errE_bad (p := prevS l i) (s := getS l i) with ⟨h3, h4⟩ | ⟨h3, h4, h5⟩ | ⟨h3, h4, h5⟩
    · rw [h4, ← he, h3]
      rfl
    · rw [h4, Bool.not_true, cond_false]
      have h4' := h4
      rw [Bool.and_eq_true] at h4'
      have hsm : (bif !smB (getS l i).1 then some true else (b0_IsSmall (getS l i).2).bind fun (t_5 : Bool) => some (!t_5)) = some (!(smB (getS l i).1 && smB (getS l i).2)) := by
        rw [fr_IsSmall h4'.2]
        cases smB (getS l i).1 <;> rfl
      rw [fr_IsSmall h4'.1, Option.bind_some, hsm, Option.bind_some, h5, ← he, h3]
      rfl
    · rw [h3, Bool.not_true, cond_false]
      rw [Bool.and_eq_true] at h3 h4
      rw [fr_IsSmall h3.1, Option.bind_some, h4.1, Bool.not_true, cond_false, fr_IsSmall h3.2, Option.bind_some, h4.2, Option.bind_some, Bool.not_true, cond_false]
      cases i with
      | zero => exact absurd (he.symm.trans h5) he0
      | succ j =>
        have hj := bad_none (by
          have := hp j (by omega)
          cases hb : badE l j with
          | none => rfl
          | some r => rw [hb] at this; cases this)
        obtain ⟨q1, q2, q3, q4, _⟩ := errE_zero hj
        have w : wi64 (((j + 1 : Nat) : Int) - 1) = (j : Int) := by rw [wi64_id (by omega) (by omega)]; omega
        have h9 : (frQ (getS l (j + 1)).1 ≤ frQ (getS l j).1 ∨ frQ (getS l (j + 1)).2 ≤ frQ (getS l j).2) ∧ e = 9 := by
          rw [he] at h5
          change e = (if frQ (getS l (j + 1)).1 ≤ frQ (getS l j).1 ∨ frQ (getS l (j + 1)).2 ≤ frQ (getS l j).2 then 9 else 0) at h5
          by_cases h : frQ (getS l (j + 1)).1 ≤ frQ (getS l j).1 ∨ frQ (getS l (j + 1)).2 ≤ frQ (getS l j).2
          · rw [if_pos h] at h5; exact ⟨h, h5⟩
          · rw [if_neg h] at h5; exact absurd h5 he0
        obtain ⟨h9, rfl⟩ := h9
        have hc : (bif decide (((j + 1 : Nat) : Int) > 0) then
                  chk (decide ((0 : Int) ≤ (wi64 (((j + 1 : Nat) : Int) - 1))) && decide ((wi64 (((j + 1 : Nat) : Int) - 1)) < (List.length l : Int))) (
                    (b0_Cmp (getS l (j + 1)).1 ((lget ((0, 0), (0, 0)) l (wi64 (((j + 1 : Nat) : Int) - 1))).1)).bind fun (t_4 : Int) =>
                    (bif decide (t_4 ≤ 0) then some true else
                      chk (decide ((0 : Int) ≤ (wi64 (((j + 1 : Nat) : Int) - 1))) && decide ((wi64 (((j + 1 : Nat) : Int) - 1)) < (List.length l : Int))) (
                        (b0_Cmp (getS l (j + 1)).2 ((lget ((0, 0), (0, 0)) l (wi64 (((j + 1 : Nat) : Int) - 1))).2)).bind fun (t_5 : Int) =>
                        some (decide (t_5 ≤ 0)))).bind fun (c_2 : Bool) =>
                    some c_2)
                else some false) = some true := by
          rw [dec_true (show ((j + 1 : Nat) : Int) > 0 by omega), cond_true, w, chk_true (and_true' (dec_true (by omega)) (dec_true (by omega))), lgetS, fr_Cmp h3.1 h4.1 q1 q3, Option.bind_some, cmp_le1]
          by_cases h : frQ (getS l (j + 1)).1 ≤ frQ (getS l j).1
          · rw [dec_true h]; rfl
          · rw [dec_false h, cond_false, chk_true (and_true' (dec_true (by omega)) (dec_true (by omega))), fr_Cmp h3.2 h4.2 q2 q4, Option.bind_some, cmp_le1, dec_true (h9.resolve_left h)]
            rfl
        refine Option.bind_eq_some_iff.2 ⟨_, hc, ?_⟩
        rfl
  · intro hp
    simp only
    rw [dec_false (show ¬ (l.length : Int) < (l.length : Int) by omega), cond_false]
  · rw [findF_map]
    cases findF (badE l) 0 l.length <;> rfl
theorem MapErr_ok {l : List Dapi_Span} (hl : In64s l) : r9_MapErr l = some (mapE l).2 := by
  unfold r9_MapErr
  rw [rCheckMap_ok hl, Option.bind_some]
end Go.Lift
namespace Go.Lift
open Go
def KFits (N : Nat) (l : List Kn) : Prop := ∀ k, k ∈ l → KFit N k
theorem segQ_ok {a b : Kn} {x : Rat} {N M : Nat} (ha : KFit M a) (hb : KFit M b) (hx : Fit N x) (hu : Up2 a b) (h1 : N ≤ 10000) (h2 : M ≤ 10000) :
    ((trace_ratio_minus (ratioQ x) (ratioQ a.1)).bind fun (t_2 : Dtrace_ratio) =>
              (trace_ratio_minus (ratioQ b.2) (ratioQ a.2)).bind fun (t_3 : Dtrace_ratio) =>
              (trace_ratio_times t_2 t_3).bind fun (t_4 : Dtrace_ratio) =>
              (trace_ratio_minus (ratioQ b.1) (ratioQ a.1)).bind fun (t_5 : Dtrace_ratio) =>
              (trace_ratio_over t_4 t_5).bind fun (t_6 : Dtrace_ratio) => trace_ratio_plus (ratioQ a.2) t_6) = some (ratioQ (segK a b x)) ∧ Fit (N + 6 * M + 4) (segK a b x) := by
  obtain ⟨a1, a2⟩ := rminus_ok hx ha.i (by omega)
  obtain ⟨b1, b2⟩ := rminus_ok hb.o ha.o (by omega)
  obtain ⟨c1, c2⟩ := rtimes_ok a2 b2 (by omega)
  obtain ⟨d1, d2⟩ := rminus_ok hb.i ha.i (by omega)
  obtain ⟨e1, e2⟩ := rover_ok c2 d2 (by have := hu.1; grind) (by omega)
  obtain ⟨f1, f2⟩ := rplus_ok ha.o e2 (by omega)
  rw [a1, Option.bind_some, b1, Option.bind_some, c1, Option.bind_some, d1, Option.bind_some, e1, Option.bind_some, f1]
  exact ⟨rfl, f2.mono (by omega)⟩
theorem val_index {l : List Kn} (h : Chart l) (x : Rat) : ∃ i, i + 1 < l.length ∧ (∀ j, j < i → (getK l (j + 1)).1 < x) ∧ (i + 2 < l.length → x ≤ (getK l (i + 1)).1) ∧ valK l x = segK (getK l i) (getK l (i + 1)) x := by
  obtain ⟨a, b, r, rfl⟩ := chart_two h
  have key : ∀ (r : List Kn) {a b : Kn}, ∃ i, i + 1 < (a :: b :: r).length ∧ (∀ j, j < i → (getK (a :: b :: r) (j + 1)).1 < x) ∧ (i + 2 < (a :: b :: r).length → x ≤ (getK (a :: b :: r) (i + 1)).1) ∧ valK (a :: b :: r) x = segK (getK (a :: b :: r) i) (getK (a :: b :: r) (i + 1)) x := by
    intro r
    induction r with
    | nil => intro a b; exact ⟨0, by simp, fun j hj => by omega, fun h => absurd h (by simp), val_nil⟩
    | cons c r ih =>
      intro a b
      by_cases hx : x ≤ b.1
      · exact ⟨0, by simp, fun j hj => by omega, fun _ => hx, val_le hx⟩
      · obtain ⟨i, h1, h2, h3, h4⟩ := ih (a := b) (b := c)
        refine ⟨i + 1, by simpa using h1, fun j hj => ?_, fun hi => h3 (by simpa using hi), ?_⟩
        · cases j with
          | zero => show b.1 < x; grind
          | succ j => exact h2 j (by omega)
        · rw [val_gt (by grind), h4]
          rfl
  exact key r
theorem val_fit {l : List Kn} {x : Rat} {N M : Nat} (h : Chart l) (hl : KFits M l) (hx : Fit N x) (h1 : N ≤ 10000) (h2 : M ≤ 10000) : Fit (N + 6 * M + 4) (valK l x) := by
  obtain ⟨i, hi, _, _, e⟩ := val_index h x
  rw [e]
  exact (segQ_ok (hl _ (getK_mem (by omega))) (hl _ (getK_mem hi)) hx (inc_get h.2 (by omega) hi) h1 h2).2
theorem tvalue_ok {l : List Kn} {x : Rat} {N M : Nat} (h : Chart l) (hl : KFits M l) (hx : Fit N x) (hlen : l.length ≤ 100) (h1 : N ≤ 10000) (h2 : M ≤ 10000)
    (hlo : (getK l 0).1 ≤ x) (hhi : x ≤ (getK l (l.length - 1)).1) : trace_chart_value (l.map kQ) (ratioQ x) = some (ratioQ (valK l x)) := by
  have h2l := h.1
  obtain ⟨i, hi, hbef, haft, e⟩ := val_index h x
  unfold trace_chart_value
  have hdrop : List.drop (Int.toNat 1) (List.take (Int.toNat (l.length : Int)) (l.map kQ)) = List.drop 1 (l.map kQ) := by
    rw [Int.toNat_natCast, List.take_of_length_le (by rw [List.length_map]; exact Nat.le_refl _)]
    rfl
  rw [List.length_map, chk_true (and_true' (and_true' (dec_true (by decide)) (dec_true (by omega))) (dec_true (by omega))), hdrop, List.length_drop, List.length_map]
  have hsub : ((l.length - 1 : Nat) : Int) = (l.length : Int) - 1 := by omega
  have hget : ∀ j, j + 1 < l.length → lget ((false, ([], [])), (false, ([], []))) (List.drop 1 (l.map kQ)) (j : Int) = kQ (getK l (j + 1)) := fun j hj => by
    unfold lget getK
    rw [Int.toNat_natCast, List.getD_eq_getElem?_getD, List.getD_eq_getElem?_getD, List.getElem?_drop, List.getElem?_map, Nat.add_comm 1 j, List.getElem?_eq_getElem hj]
    rfl
  refine Option.bind_eq_some_iff.2 ⟨.inr (ratioQ (valK l x)), ?_, rfl⟩
  have hbt : ∀ j, j + 1 < l.length → trace_ratio_between (ratioQ x) (ratioQ (getK l j).1) (ratioQ (getK l (j + 1)).1) = some (decide ((getK l j).1 ≤ x ∧ x ≤ (getK l (j + 1)).1)) := fun j hj =>
    rbetween_ok (N := N + M) (hx.mono (by omega)) ((hl _ (getK_mem (by omega))).i.mono (by omega)) ((hl _ (getK_mem hj)).i.mono (by omega)) (by omega)
  refine loopM_count (fun t => (t : Int)) i (fun t ht => ?_) ?_
  · rw [dec_true (show (t : Int) < ((l.length - 1 : Nat) : Int) by omega), cond_true, chk_true (and_true' (dec_true (by omega)) rfl), chk_true (and_true' (dec_true (by omega)) (dec_true (by omega))), hget t (by omega), lget_mapK (by omega)]
    simp only [kQ]
    rw [hbt t (by omega), Option.bind_some, dec_false (show ¬ ((getK l t).1 ≤ x ∧ x ≤ (getK l (t + 1)).1) by have := hbef t ht; grind), cond_false, wi64_id (by omega) (by omega)]
    rfl
  · have hle : (getK l i).1 ≤ x := by
      cases i with
      | zero => exact hlo
      | succ i => exact Rat.le_of_lt (hbef i (by omega))
    have hge : x ≤ (getK l (i + 1)).1 := by
      by_cases h3 : i + 2 < l.length
      · exact haft h3
      · have : i + 1 = l.length - 1 := by omega
        rw [this]; exact hhi
    rw [dec_true (show (i : Int) < ((l.length - 1 : Nat) : Int) by omega), cond_true, chk_true (and_true' (dec_true (by omega)) rfl), chk_true (and_true' (dec_true (by omega)) (dec_true (by omega))), hget i (by omega), lget_mapK (by omega)]
    simp only [kQ]
    rw [hbt i hi, Option.bind_some, dec_true ⟨hle, hge⟩, cond_true]
    have hs := (segQ_ok (hl _ (getK_mem (by omega))) (hl _ (getK_mem hi)) hx (inc_get h.2 (show i < i + 1 by omega) hi) h1 h2).1
    obtain ⟨y1, z1, hs⟩ := Option.bind_eq_some_iff.1 hs
    obtain ⟨y2, z2, hs⟩ := Option.bind_eq_some_iff.1 hs
    obtain ⟨y3, z3, hs⟩ := Option.bind_eq_some_iff.1 hs
    obtain ⟨y4, z4, hs⟩ := Option.bind_eq_some_iff.1 hs
    obtain ⟨y5, z5, hs⟩ := Option.bind_eq_some_iff.1 hs
    rw [z1, Option.bind_some, z2, Option.bind_some, z3, Option.bind_some, z4, Option.bind_some, z5, Option.bind_some, hs, e]
    rfl
theorem cmp_lt0 {a b : Rat} : decide ((if a = b then (0 : Int) else if a < b then -1 else 1) < 0) = decide (a < b) := by
  rw [decide_eq_decide]
  by_cases h : a = b
  · rw [if_pos h, h]; exact ⟨fun h => absurd h (by decide), fun h => absurd h Rat.lt_irrefl⟩
  · rw [if_neg h]
    by_cases h2 : a < b
    · rw [if_pos h2]; exact ⟨fun _ => h2, fun _ => by decide⟩
    · rw [if_neg h2]; exact ⟨fun h => absurd h (by decide), fun h3 => absurd h3 h2⟩
theorem cmp_gt0 {a b : Rat} : decide ((if a = b then (0 : Int) else if a < b then -1 else 1) > 0) = decide (b < a) := by
  rw [decide_eq_decide]
  by_cases h : a = b
  · rw [if_pos h, h]; exact ⟨fun h => absurd h (by decide), fun h => absurd h Rat.lt_irrefl⟩
  · rw [if_neg h]
    by_cases h2 : a < b
    · rw [if_pos h2]; exact ⟨fun h => absurd h (by decide), fun h3 => absurd h3 (by grind)⟩
    · rw [if_neg h2]; exact ⟨fun _ => by grind, fun _ => by decide⟩
theorem outM_all (l : List Dapi_Span) : outM l l.length = (l.map kn).map kQ := by
  unfold outM
  rw [List.take_length, List.map_map]
  rfl
theorem MapOk.fits {l : List Dapi_Span} (h : MapOk l) : KFits 2 (l.map kn) := fun k hk => by
  obtain ⟨s, hs, rfl⟩ := List.mem_map.1 hk
  exact kn_fit (h.small s hs)
theorem MapOk.len' {l : List Dapi_Span} (h : MapOk l) : (l.map kn).length ≤ 12 := by rw [List.length_map]; exact h.len
theorem lget_map0 {A : Type} {f : Kn → A} {d : A} {l : List Kn} (h : 0 < l.length) : lget d (l.map f) 0 = f (getK l 0) := lget_mapK (i := 0) h
theorem begin_ok' {l : List Kn} (h : 2 ≤ l.length) : trace_chart_begin (l.map kQ) = some (ratioQ (getK l 0).1) := by
  unfold trace_chart_begin
  rw [List.length_map, chk_true (and_true' (dec_true (by decide)) (dec_true (by omega))), lget_map0 (by omega)]
  rfl
theorem end_ok' {l : List Kn} (h : 2 ≤ l.length) (h2 : l.length ≤ 100) : trace_chart_end (l.map kQ) = some (ratioQ (getK l (l.length - 1)).1) := by
  unfold trace_chart_end
  have w : wi64 ((l.length : Int) - 1) = ((l.length - 1 : Nat) : Int) := by rw [wi64_id (by omega) (by omega)]; omega
  rw [List.length_map, w, chk_true (and_true' (dec_true (by omega)) (dec_true (by omega))), lget_mapK (by omega)]
  rfl
def atE (l : List Dapi_Span) (f : Dapi_Frac) : Dapi_Frac × Int :=
  if lowB f then (if (getK (l.map kn) 0).1 ≤ frQ f ∧ frQ f ≤ (getK (l.map kn) ((l.map kn).length - 1)).1 then fracE (valK (l.map kn) (frQ f)) else ((0, 0), 2)) else ((0, 0), 3)
theorem tValueAt_ok {l : List Dapi_Span} {f : Dapi_Frac} (hl : In64s l) (hf : In64 f) : trace_ValueAt l f = some (if (mapE l).2 = 0 then atE l f else ((0, 0), (mapE l).2)) := by
  unfold trace_ValueAt
  rw [openMap_ok hl, Option.bind_some, fr_isLowest hf, Option.bind_some, unless_ok, Option.bind_some, first_ok (by simp), Option.bind_some]
  by_cases h : (mapE l).2 = 0
  · obtain ⟨_, hm⟩ := map_ok h
    have h12 := hm.len'
    have h2 := hm.chart.1
    rw [if_pos h, if_pos h]
    unfold atE
    by_cases hlow : lowB f = true
    · obtain ⟨q1, q2⟩ := fr_from hlow hf
      rw [hlow, show firstE [((outM l l.length, 0, 0) : (List Dtrace_knot) × Int × Int).2.2, if true = true then (0 : Int) else 3] = 0 from rfl, show ((0 : Int) != 0) = false from rfl, cond_false, q1, Option.bind_some, if_pos rfl]
      simp only
      rw [outM_all, begin_ok' h2, Option.bind_some, end_ok' h2 (by omega), Option.bind_some, rbetween_ok (N := 2) q2 (hm.fits _ (getK_mem (by omega))).i (hm.fits _ (getK_mem (by omega))).i (by decide), Option.bind_some]
      by_cases hr : (getK (l.map kn) 0).1 ≤ frQ f ∧ frQ f ≤ (getK (l.map kn) ((l.map kn).length - 1)).1
      · rw [dec_true hr, Bool.not_true, cond_false, tvalue_ok hm.chart hm.fits q2 (by omega) (by decide) (by decide) hr.1 hr.2, Option.bind_some, small_ok (val_fit hm.chart hm.fits q2 (by decide) (by decide)) (by decide), Option.bind_some, if_pos hr]
        rfl
      · rw [dec_false hr, Bool.not_false, cond_true, if_neg hr]
    · rw [Bool.not_eq_true] at hlow
      rw [hlow, show firstE [((outM l l.length, 0, 0) : (List Dtrace_knot) × Int × Int).2.2, if false = true then (0 : Int) else 3] = 3 from rfl]
      rfl
  · rw [if_neg h, if_neg h]
    have e : firstE [((([] : List Dtrace_knot), (mapE l).1, (mapE l).2) : (List Dtrace_knot) × Int × Int).2.2, if lowB f = true then (0 : Int) else 3] = (mapE l).2 := by
      simp only [firstE]
      rw [if_neg h]
    rw [e, show ((mapE l).2 != 0) = true by rw [bne_iff_ne]; exact h]
    rfl
end Go.Lift
