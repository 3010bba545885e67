/-
  The law of rolls holds of the plain functions.
-/
import Derived.Test.YteobfadhflofpaaGreatPlainY
set_option linter.unusedSectionVars false
set_option linter.unusedVariables false
set_option linter.unusedSimpArgs false
namespace Go.Lift
open Go
theorem sq_iff {x y : ByteArray} : seqb x y = true ↔ x = y := by
  unfold seqb
  rw [beq_iff_eq]
  constructor
  · intro h
    rw [ByteArray.toList_eq, ByteArray.toList_eq] at h
    exact ByteArray.ext (Array.toList_inj.mp h)
  · intro h; rw [h]
theorem mget_put {l : List (ByteArray × Bool)} {x s : ByteArray} {y : Bool} : mget .str .bool (mput .str .bool l x y) s = if s = x then y else mget .str .bool l s := by
  have hq : ∀ a b : ByteArray, Ty.eqb .str a b = seqb a b := fun _ _ => rfl
  induction l with
  | nil =>
    unfold mput mget
    simp only [List.find?_cons, List.find?_nil, hq]
    by_cases h : s = x
    · rw [if_pos h, sq_iff.2 h]
    · rw [if_neg h, show seqb s x = false by rw [Bool.eq_false_iff]; exact fun e => h (sq_iff.1 e)]
  | cons p l ih =>
    unfold mput
    rw [hq]
    by_cases hx : x = p.1
    · rw [sq_iff.2 hx, cond_true]
      unfold mget
      simp only [List.find?_cons, hq]
      by_cases h : s = x
      · rw [if_pos h, sq_iff.2 (h.trans hx)]
      · rw [if_neg h, show seqb s p.1 = false by rw [Bool.eq_false_iff]; exact fun e => h ((sq_iff.1 e).trans hx.symm)]
    · rw [show seqb x p.1 = false by rw [Bool.eq_false_iff]; exact fun e => hx (sq_iff.1 e), cond_false]
      unfold mget at ih ⊢
      simp only [List.find?_cons, hq] at ih ⊢
      by_cases hp : s = p.1
      · rw [sq_iff.2 hp, if_neg (fun e => hx (e.symm.trans hp))]
      · rw [show seqb s p.1 = false by rw [Bool.eq_false_iff]; exact fun e => hp (sq_iff.1 e)]
        exact ih
def knownM (l : List Dapi_TraceRoll) : Nat → List (ByteArray × Bool)
  | 0 => []
  | i + 1 => mput .str .bool (knownM l i) (lget l0 l (i : Int)).1 true
def knownB (l : List Dapi_TraceRoll) (i : Nat) (s : ByteArray) : Bool := (List.range i).any fun k => seqb (lget l0 l (k : Int)).1 s
theorem known_get {l : List Dapi_TraceRoll} {s : ByteArray} : ∀ i, mget .str .bool (knownM l i) s = knownB l i s
  | 0 => rfl
  | i + 1 => by
    unfold knownM knownB
    rw [mget_put, List.range_succ, List.any_append, known_get i]
    simp only [List.any_cons, List.any_nil, Bool.or_false]
    unfold knownB
    by_cases h : s = (lget l0 l (i : Int)).1
    · rw [if_pos h, sq_iff.2 h.symm, Bool.or_true]
    · rw [if_neg h, show seqb (lget l0 l (i : Int)).1 s = false by rw [Bool.eq_false_iff]; exact fun e => h (sq_iff.1 e).symm, Bool.or_false]
def rollR (c : Dapi_TraceCourse) (t : Int) (l : List Dapi_TraceRoll) (i : Nat) : Option Int :=
  if rollE c t (lget l0 l (i : Int)) ≠ 0 then some (rollE c t (lget l0 l (i : Int))) else if knownB l i (lget l0 l (i : Int)).1 then some 5 else none
def namesL (c : Dapi_TraceCourse) (x : Dapi_TraceMarks) (l : List Dapi_TraceRoll) : Nat → List ByteArray
  | 0 => []
  | i + 1 => if (pairO (clashM c x.1 (lget l0 l (i : Int)) x.2) x.1.length).2 then namesL c x l i else namesL c x l i ++ [(lget l0 l (i : Int)).1]
theorem names_len {c : Dapi_TraceCourse} {x : Dapi_TraceMarks} {l : List Dapi_TraceRoll} : ∀ i, (namesL c x l i).length ≤ i
  | 0 => Nat.le_refl _
  | i + 1 => by
    have := names_len (c := c) (x := x) (l := l) i
    unfold namesL
    split
    · omega
    · rw [List.length_append, List.length_singleton]; omega
def rollsE (c : Dapi_TraceCourse) (t : Int) (l : List Dapi_TraceRoll) : Int := if 12 < l.length then 16 else (findF (rollR c t l) 0 l.length).getD 0
def Names64 (l : List Dapi_TraceRoll) : Prop := ∀ r, r ∈ l → r.1.size ≤ 9223372036854775807
theorem rollR_none {c : Dapi_TraceCourse} {t : Int} {l : List Dapi_TraceRoll} {i : Nat} (h : rollR c t l i = none) : rollE c t (lget l0 l (i : Int)) = 0 ∧ knownB l i (lget l0 l (i : Int)).1 = false := by
  unfold rollR at h
  by_cases e : rollE c t (lget l0 l (i : Int)) = 0
  · rw [if_neg (fun q => q e)] at h
    refine ⟨e, ?_⟩
    cases hb : knownB l i (lget l0 l (i : Int)).1 with
    | false => rfl
    | true => rw [hb] at h; cases h
  · rw [if_pos e] at h; cases h
theorem rollR_some {c : Dapi_TraceCourse} {t e : Int} {l : List Dapi_TraceRoll} {i : Nat} (h : rollR c t l i = some e) : firstE [rollE c t (lget l0 l (i : Int)), if knownB l i (lget l0 l (i : Int)).1 then 5 else 0] = e ∧ e ≠ 0 ∧
    ((rollE c t (lget l0 l (i : Int)) = e) ∨ (rollE c t (lget l0 l (i : Int)) = 0 ∧ knownB l i (lget l0 l (i : Int)).1 = true ∧ e = 5)) := by
  unfold rollR at h
  rw [first2]
  by_cases q : rollE c t (lget l0 l (i : Int)) = 0
  · rw [if_neg (fun k => k q)] at h
    cases hb : knownB l i (lget l0 l (i : Int)).1 with
    | false => rw [hb] at h; cases h
    | true =>
      rw [hb] at h
      cases h
      rw [if_pos q]
      exact ⟨rfl, by decide, .inr ⟨q, rfl, rfl⟩⟩
  · rw [if_pos q] at h
    cases h
    rw [if_neg q]
    exact ⟨rfl, q, .inl rfl⟩
theorem tRollsOf_ok {c : Dapi_TraceCourse} (hv : Valid c) {x : Dapi_TraceMarks} {l : List Dapi_TraceRoll} {ms : List Dtrace_ratio} (hm : trace_openMarks c x = some ((c, stripsQ c (c.2.2.2.length + 1)), ms, marksE c x)) (hms : marksE c x = 0 → ms = msL c x.1 x.1.length) (hx : Ints64 x.1) (hl : Names64 l) :
    trace_RollsOf c x l = some (if marksE c x ≠ 0 then ([], marksE c x) else if rollsE c x.2 l ≠ 0 then ([], rollsE c x.2 l) else (namesL c x l l.length, 0)) := by
  unfold trace_RollsOf
  rw [hm, Option.bind_some, unless_ok, Option.bind_some, first_ok (by simp), Option.bind_some, first2]
  simp only
  by_cases h0 : marksE c x = 0
  · rw [if_pos h0, if_neg (fun h : marksE c x ≠ 0 => h h0), hms h0]
    obtain ⟨hmo, ht, h20⟩ := marksOk_of hx h0
    by_cases h12 : 12 < l.length
    · rw [dec_false (show ¬ (l.length : Int) ≤ 12 by omega), show rollsE c x.2 l = 16 by unfold rollsE; rw [if_pos h12]]
      rfl
    · rw [dec_true (show (l.length : Int) ≤ 12 by omega), if_pos rfl, show ((0 : Int) != 0) = false from rfl, cond_false]
      have hE : rollsE c x.2 l = (findF (rollR c x.2 l) 0 l.length).getD 0 := by unfold rollsE; rw [if_neg h12]
      have hk : ∀ m k, findF (fun i => (rollR c x.2 l i).map fun e => (([] : List ByteArray), e)) k m = (findF (rollR c x.2 l) k m).map fun e => (([] : List ByteArray), e) := by
        intro m
        induction m with
        | zero => intro k; rfl
        | succ m ih =>
          intro k
          unfold findF
          cases rollR c x.2 l k with
          | none => exact ih (k + 1)
          | some r => rfl
      refine Option.bind_eq_some_iff.2 ⟨_, loop_gen (S := fun i => (namesL c x l i, (i : Int), knownM l i)) (g := fun i => (rollR c x.2 l i).map fun e => (([] : List ByteArray), e)) (v := namesL c x l l.length) (n := l.length) (fun i hi hg => ?_) (fun i hi r hg => ?_) ?_ l.length 0 (by omega), ?_⟩
      · obtain ⟨z1, z2⟩ := rollR_none (Option.map_eq_none_iff.1 hg)
        have hsz := hl _ (lget_mem (d := l0) hi)
        have hlen := names_len (c := c) (x := x) (l := l) i
        simp only
        refine (bif_t (dec_true (show (i : Int) < (l.length : Int) by omega))).trans ?_
        rw [chk_idx (by omega), rollErr_ok hsz ht, Option.bind_some, known_get, z1, z2, Bool.not_false, unless_ok, Option.bind_some, if_pos rfl, first_ok (by simp), Option.bind_some, show firstE [0, 0] = 0 from rfl, show ((0 : Int) != 0) = false from rfl, cond_false, pair_ok hv hmo h20 ht z1, Option.bind_some]
        rw [show namesL c x l (i + 1) = if (pairO (clashM c x.1 (lget l0 l (i : Int)) x.2) x.1.length).2 then namesL c x l i else namesL c x l i ++ [(lget l0 l (i : Int)).1] from rfl, show knownM l (i + 1) = mput .str .bool (knownM l i) (lget l0 l (i : Int)).1 true from rfl]
        cases hp : (pairO (clashM c x.1 (lget l0 l (i : Int)) x.2) x.1.length).2 with
        | true =>
          rw [Bool.not_true, cond_false, Option.bind_some, if_pos rfl, wi64_id (by omega) (by omega)]
          rfl
        | false =>
          rw [Bool.not_false, cond_true, app_ok (by rw [List.length_singleton]; omega), Option.bind_some, Option.bind_some, if_neg (by decide), wi64_id (by omega) (by omega)]
          rfl
      · obtain ⟨e, hge, rfl⟩ := Option.map_eq_some_iff.1 hg
        obtain ⟨z1, z2, _⟩ := rollR_some hge
        have hsz := hl _ (lget_mem (d := l0) hi)
        simp only
        refine (bif_t (dec_true (show (i : Int) < (l.length : Int) by omega))).trans ?_
        rw [chk_idx (by omega), rollErr_ok hsz ht, Option.bind_some, known_get, unless_ok, Option.bind_some, first_ok (by simp), Option.bind_some, show (if (!knownB l i (lget l0 l (i : Int)).1) = true then (0 : Int) else 5) = (if knownB l i (lget l0 l (i : Int)).1 = true then 5 else 0) by cases knownB l i (lget l0 l (i : Int)).1 <;> rfl, z1, show (e != 0) = true by rw [bne_iff_ne]; exact z2, cond_true]
        rfl
      · simp only
        rw [dec_false (show ¬ (l.length : Int) < (l.length : Int) by omega), cond_false]
      · rw [hk, hE]
        cases hf : findF (rollR c x.2 l) 0 l.length with
        | none => rfl
        | some e =>
          obtain ⟨i, _, _, hg, _⟩ := findF_some hf
          obtain ⟨_, z, _⟩ := rollR_some hg
          simp only [Option.map_some, Option.getD_some]
          rw [if_pos z]
  · rw [if_neg h0, if_pos h0, show (marksE c x != 0) = true by rw [bne_iff_ne]; exact h0, cond_true]
theorem tRollPair_ok {c : Dapi_TraceCourse} (hv : Valid c) {x : Dapi_TraceMarks} {r : Dapi_TraceRoll} {ms : List Dtrace_ratio} (hm : trace_openMarks c x = some ((c, stripsQ c (c.2.2.2.length + 1)), ms, marksE c x)) (hms : marksE c x = 0 → ms = msL c x.1 x.1.length) (hx : Ints64 x.1) (hr : r.1.size ≤ 9223372036854775807) :
    trace_RollPair c x r = some (if marksE c x ≠ 0 then ((fun _ => 0), marksE c x) else if rollE c x.2 r ≠ 0 then ((fun _ => 0), rollE c x.2 r) else
      ((pairO (clashM c x.1 r x.2) x.1.length).1, if (pairO (clashM c x.1 r x.2) x.1.length).2 then 0 else 12)) := by
  unfold trace_RollPair
  rw [hm, Option.bind_some]
  simp only
  by_cases h0 : marksE c x = 0
  · obtain ⟨hmo, ht, h20⟩ := marksOk_of hx h0
    rw [if_neg (fun h => h h0), h0, show ((0 : Int) == 0) = true from rfl, cond_true, rollErr_ok hr ht, Option.bind_some, Option.bind_some, hms h0]
    by_cases h1 : rollE c x.2 r = 0
    · rw [if_neg (fun h => h h1), h1, show ((0 : Int) != 0) = false from rfl, cond_false, pair_ok hv hmo h20 ht h1, Option.bind_some, unless_ok, Option.bind_some]
    · rw [if_pos h1, show (rollE c x.2 r != 0) = true by rw [bne_iff_ne]; exact h1, cond_true]
  · rw [if_pos h0, show (marksE c x == 0) = false by rw [beq_eq_false_iff_ne]; exact h0, cond_false, Option.bind_some, show (marksE c x != 0) = true by rw [bne_iff_ne]; exact h0, cond_true]
theorem Texts_ok {l : List ByteArray} (h : l.length ≤ 1000) : b0_Texts l l = some true := by
  unfold b0_Texts
  rw [bne_self_eq_false, cond_false]
  refine Option.bind_eq_some_iff.2 ⟨_, loop_find (R := Bool) (g := fun _ => none) (n := l.length) (fun i hi _ => ?_) (fun i hi r hg => by cases hg) ?_ l.length 0 (by omega), ?_⟩
  · refine (bif_t (dec_true (show (i : Int) < (l.length : Int) by omega))).trans ?_
    rw [chk_idx (by omega), chk_idx (by omega), sq_iff.2 rfl, Bool.not_true, cond_false, wi64_id (by omega) (by omega)]
    rfl
  · rw [dec_false (show ¬ (l.length : Int) < (l.length : Int) by omega), cond_false]
  · rw [findF_none.2 (fun _ _ _ => rfl)]
    rfl
end Go.Lift
