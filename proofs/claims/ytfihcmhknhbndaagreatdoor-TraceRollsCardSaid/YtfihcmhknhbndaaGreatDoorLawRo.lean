/-
  The law of rolls holds of the plain functions.
-/
import Derived.Test.YtfihcmhknhbndaaGreatDoorPlainY
set_option linter.unusedSectionVars false
set_option linter.unusedVariables false
set_option linter.unusedSimpArgs false
namespace Go.Lift
open Go
theorem sq_iff {x y : ByteArray} : seqb x y = true ↔ x = y := by
  unfold seqb
  rw [beq_iff_eq]
  constructor
  · intro h
    rw [ByteArray.toList_eq, ByteArray.toList_eq] at h
    exact ByteArray.ext (Array.toList_inj.mp h)
  · intro h; rw [h]
theorem mget_put {l : List (ByteArray × Bool)} {x s : ByteArray} {y : Bool} : mget .str .bool (mput .str .bool l x y) s = if s = x then y else mget .str .bool l s := by
  have hq : ∀ a b : ByteArray, Ty.eqb .str a b = seqb a b := fun _ _ => rfl
  induction l with
  | nil =>
    unfold mput mget
    simp only [List.find?_cons, List.find?_nil, hq]
    by_cases h : s = x
    · rw [if_pos h, sq_iff.2 h]
    · rw [if_neg h, show seqb s x = false by rw [Bool.eq_false_iff]; exact fun e => h (sq_iff.1 e)]
  | cons p l ih =>
    unfold mput
    rw [hq]
    by_cases hx : x = p.1
    · rw [sq_iff.2 hx, cond_true]
      unfold mget
      simp only [List.find?_cons, hq]
      by_cases h : s = x
      · rw [if_pos h, sq_iff.2 (h.trans hx)]
      · rw [if_neg h, show seqb s p.1 = false by rw [Bool.eq_false_iff]; exact fun e => h ((sq_iff.1 e).trans hx.symm)]
    · rw [show seqb x p.1 = false by rw [Bool.eq_false_iff]; exact fun e => hx (sq_iff.1 e), cond_false]
      unfold mget at ih ⊢
      simp only [List.find?_cons, hq] at ih ⊢
      by_cases hp : s = p.1
      · rw [sq_iff.2 hp, if_neg (fun e => hx (e.symm.trans hp))]
      · rw [show seqb s p.1 = false by rw [Bool.eq_false_iff]; exact fun e => hp (sq_iff.1 e)]
        exact ih
def knownM (l : List Dapi_TraceRoll) : Nat → List (ByteArray × Bool)
  | 0 => []
  | i + 1 => mput .str .bool (knownM l i) (lget l0 l (i : Int)).1 true
def knownB (l : List Dapi_TraceRoll) (i : Nat) (s : ByteArray) : Bool := (List.range i).any fun k => seqb (lget l0 l (k : Int)).1 s
theorem known_get {l : List Dapi_TraceRoll} {s : ByteArray} : ∀ i, mget .str .bool (knownM l i) s = knownB l i s
  | 0 => rfl
  | i + 1 => by
    unfold knownM knownB
    rw [mget_put, List.range_succ, List.any_append, known_get i]
    simp only [List.any_cons, List.any_nil, Bool.or_false]
    unfold knownB
    by_cases h : s = (lget l0 l (i : Int)).1
    · rw [if_pos h, sq_iff.2 h.symm, Bool.or_true]
    · rw [if_neg h, show seqb (lget l0 l (i : Int)).1 s = false by rw [Bool.eq_false_iff]; exact fun e => h (sq_iff.1 e).symm, Bool.or_false]
def rollR (c : Dapi_TraceCourse) (t : Int) (l : List Dapi_TraceRoll) (i : Nat) : Option Int :=
  if rollE c t (lget l0 l (i : Int)) ≠ 0 then some (rollE c t (lget l0 l (i : Int))) else if knownB l i (lget l0 l (i : Int)).1 then some 5 else none
def namesL (c : Dapi_TraceCourse) (x : Dapi_TraceMarks) (l : List Dapi_TraceRoll) : Nat → List ByteArray
  | 0 => []
  | i + 1 => if (pairO (clashM c x.1 (lget l0 l (i : Int)) x.2) x.1.length).2 then namesL c x l i else namesL c x l i ++ [(lget l0 l (i : Int)).1]
theorem names_len {c : Dapi_TraceCourse} {x : Dapi_TraceMarks} {l : List Dapi_TraceRoll} : ∀ i, (namesL c x l i).length ≤ i
  | 0 => Nat.le_refl _
  | i + 1 => by
    have := names_len (c := c) (x := x) (l := l) i
    unfold namesL
    split
    · omega
    · rw [List.length_append, List.length_singleton]; omega
def rollsE (c : Dapi_TraceCourse) (t : Int) (l : List Dapi_TraceRoll) : Int := if 12 < l.length then 16 else (findF (rollR c t l) 0 l.length).getD 0
def Names64 (l : List Dapi_TraceRoll) : Prop := ∀ r, r ∈ l → r.1.size ≤ 9223372036854775807
theorem rollR_none {c : Dapi_TraceCourse} {t : Int} {l : List Dapi_TraceRoll} {i : Nat} (h : rollR c t l i = none) : rollE c t (lget l0 l (i : Int)) = 0 ∧ knownB l i (lget l0 l (i : Int)).1 = false := by
  unfold rollR at h
  by_cases e : rollE c t (lget l0 l (i : Int)) = 0
  · rw [if_neg (fun q => q e)] at h
    refine ⟨e, ?_⟩
    cases hb : knownB l i (lget l0 l (i : Int)).1 with
    | false => rfl
    | true => rw [hb] at h; cases h
  · rw [if_pos e] at h; cases h
theorem rollR_some {c : Dapi_TraceCourse} {t e : Int} {l : List Dapi_TraceRoll} {i : Nat} (h : rollR c t l i = some e) : firstE [rollE c t (lget l0 l (i : Int)), if knownB l i (lget l0 l (i : Int)).1 then 5 else 0] = e ∧ e ≠ 0 ∧
    ((rollE c t (lget l0 l (i : Int)) = e) ∨ (rollE c t (lget l0 l (i : Int)) = 0 ∧ knownB l i (lget l0 l (i : Int)).1 = true ∧ e = 5)) := by
  unfold rollR at h
  rw [first2]
  by_cases q : rollE c t (lget l0 l (i : Int)) = 0
  · rw [if_neg (fun k => k q)] at h
    cases hb : knownB l i (lget l0 l (i : Int)).1 with
    | false => rw [hb] at h; cases h
    | true =>
      rw [hb] at h
      cases h
      rw [if_pos q]
      exact ⟨rfl, by decide, .inr ⟨q, rfl, rfl⟩⟩
  · rw [if_pos q] at h
    cases h
    rw [if_neg q]
    exact ⟨rfl, q, .inl rfl⟩
theorem tRollsOf_ok {c : Dapi_TraceCourse} (hv : Valid c) {x : Dapi_TraceMarks} {l : List Dapi_TraceRoll} {ms : List Dtrace_ratio} (hm : trace_openMarks c x = some ((c, stripsQ c (c.2.2.2.length + 1)), ms, marksE c x)) (hms : marksE c x = 0 → ms = msL c x.1 x.1.length) (hx : Ints64 x.1) (hl : Names64 l) :
    trace_RollsOf c x l = some (if marksE c x ≠ 0 then ([], marksE c x) else if rollsE c x.2 l ≠ 0 then ([], rollsE c x.2 l) else (namesL c x l l.length, 0)) := by
  unfold trace_RollsOf
  rw [hm, Option.bind_some, unless_ok, Option.bind_some, first_ok (by simp), Option.bind_some, first2]
  simp only
  by_cases h0 : marksE c x = 0
  · rw [if_pos h0, if_neg (fun h : marksE c x ≠ 0 => h h0), hms h0]
    obtain ⟨hmo, ht, h20⟩ := marksOk_of hx h0
    by_cases h12 : 12 < l.length
    · rw [dec_false (show ¬ (l.length : Int) ≤ 12 by omega), show rollsE c x.2 l = 16 by unfold rollsE; rw [if_pos h12]]
      rfl
    · rw [dec_true (show (l.length : Int) ≤ 12 by omega), if_pos rfl, show ((0 : Int) != 0) = false from rfl, cond_false]
      have hE : rollsE c x.2 l = (findF (rollR c x.2 l) 0 l.length).getD 0 := by unfold rollsE; rw [if_neg h12]
      have hk : ∀ m k, findF (fun i => (rollR c x.2 l i).map fun e => (([] : List ByteArray), e)) k m = (findF (rollR c x.2 l) k m).map fun e => (([] : List ByteArray), e) := by
        intro m
        induction m with
        | zero => intro k; rfl
        | succ m ih =>
          intro k
          unfold findF
          cases rollR c x.2 l k with
          | none => exact ih (k + 1)
          | some r => rfl
      refine Option.bind_eq_some_iff.2 ⟨_, loop_gen (S := fun i => (namesL c x l i, (i : Int), knownM l i)) (g := fun i => (rollR c x.2 l i).map fun e => (([] : List ByteArray), e)) (v := namesL c x l l.length) (n := l.length) (fun i hi hg => ?_) (fun i hi r hg => ?_) ?_ l.length 0 (by omega), ?_⟩
      · obtain ⟨z1, z2⟩ := rollR_none (Option.map_eq_none_iff.1 hg)
        have hsz := hl _ (lget_mem (d := l0) hi)
        have hlen := names_len (c := c) (x := x) (l := l) i
        simp only
        refine (bif_t (dec_true (show (i : Int) < (l.length : Int) by omega))).trans ?_
        rw [chk_idx (by omega), rollErr_ok hsz ht, Option.bind_some, known_get, z1, z2, Bool.not_false, unless_ok, Option.bind_some, if_pos rfl, first_ok (by simp), Option.bind_some, show firstE [0, 0] = 0 from rfl, show ((0 : Int) != 0) = false from rfl, cond_false, pair_ok hv hmo h20 ht z1, Option.bind_some]
        rw [show namesL c x l (i + 1) = if (pairO (clashM c x.1 (lget l0 l (i : Int)) x.2) x.1.length).2 then namesL c x l i else namesL c x l i ++ [(lget l0 l (i : Int)).1] from rfl, show knownM l (i + 1) = mput .str .bool (knownM l i) (lget l0 l (i : Int)).1 true from rfl]
        cases hp : (pairO (clashM c x.1 (lget l0 l (i : Int)) x.2) x.1.length).2 with
        | true =>
          rw [Bool.not_true, cond_false, Option.bind_some, if_pos rfl, wi64_id (by omega) (by omega)]
          rfl
        | false =>
          rw [Bool.not_false, cond_true, app_ok (by rw [List.length_singleton]; omega), Option.bind_some, Option.bind_some, if_neg (by decide), wi64_id (by omega) (by omega)]
          rfl
      · obtain ⟨e, hge, rfl⟩ := Option.map_eq_some_iff.1 hg
        obtain ⟨z1, z2, _⟩ := rollR_some hge
        have hsz := hl _ (lget_mem (d := l0) hi)
        simp only
        refine (bif_t (dec_true (show (i : Int) < (l.length : Int) by omega))).trans ?_
        rw [chk_idx (by omega), rollErr_ok hsz ht, Option.bind_some, known_get, unless_ok, Option.bind_some, first_ok (by simp), Option.bind_some, show (if (!knownB l i (lget l0 l (i : Int)).1) = true then (0 : Int) else 5) = (if knownB l i (lget l0 l (i : Int)).1 = true then 5 else 0) by cases knownB l i (lget l0 l (i : Int)).1 <;> rfl, z1, show (e != 0) = true by rw [bne_iff_ne]; exact z2, cond_true]
        rfl
      · simp only
        rw [dec_false (show ¬ (l.length : Int) < (l.length : Int) by omega), cond_false]
      · rw [hk, hE]
        cases hf : findF (rollR c x.2 l) 0 l.length with
        | none => rfl
        | some e =>
          obtain ⟨i, _, _, hg, _⟩ := findF_some hf
          obtain ⟨_, z, _⟩ := rollR_some hg
          simp only [Option.map_some, Option.getD_some]
          rw [if_pos z]
  · rw [if_neg h0, if_pos h0, show (marksE c x != 0) = true by rw [bne_iff_ne]; exact h0, cond_true]
theorem same_names {R : Type} {l : List Dapi_TraceRoll} {i : Nat} (hi : i < l.length) (h14 : l.length ≤ 14) {s : ByteArray} {r : R} :
    loopM (S := Int) (R := (Unit) ⊕ R) (fun k =>
              bif decide (k < (i : Int)) then
                chk (decide ((0 : Int) ≤ k) && decide (k < (List.length l : Int))) (
                  chk (decide ((0 : Int) ≤ (i : Int)) && decide ((i : Int) < (List.length l : Int))) (
                    bif seqb ((lget (ByteArray.empty, (0, 0)) l k).1) s then
                      some (.inr (.inr r))
                    else
                      some (.inl (wi64 (k + 1)))))
              else
                some (.inr (.inl ()))) 0 = some (if knownB l i s then .inr r else .inl ()) := by
  have hf : ∀ m k, k + m = i → findF (fun k => if seqb ((lget l0 l (k : Int)).1) s then some r else none) k m = if ((List.range' k m).any fun k => seqb (lget l0 l (k : Int)).1 s) then some r else none := by
    intro m
    induction m with
    | zero => intro k _; rfl
    | succ m ih =>
      intro k hk
      unfold findF
      rw [List.range'_succ, List.any_cons]
      cases hb : seqb ((lget l0 l (k : Int)).1) s with
      | true => simp
      | false =>
        simp only [Bool.false_eq_true, if_false, Bool.false_or]
        exact ih (k + 1) (by omega)
  refine (loop_find (g := fun k => if seqb ((lget l0 l (k : Int)).1) s then some r else none) (n := i) (fun k hk hg => ?_) (fun k hk r' hg => ?_) ?_ i 0 (by omega)).trans ?_
  · have hb : seqb ((lget l0 l (k : Int)).1) s = false := by
      cases hb : seqb ((lget l0 l (k : Int)).1) s with
      | false => rfl
      | true => rw [hb] at hg; cases hg
    rw [dec_true (show (k : Int) < (i : Int) by omega), cond_true, chk_true (and_true' (dec_true (by omega)) (dec_true (by omega))), chk_true (and_true' (dec_true (by omega)) (dec_true (by omega))), hb, cond_false, wi64_id (by omega) (by omega)]
    rfl
  · have hb : seqb ((lget l0 l (k : Int)).1) s = true ∧ r' = r := by
      cases hb : seqb ((lget l0 l (k : Int)).1) s with
      | false => rw [hb] at hg; cases hg
      | true => rw [hb] at hg; exact ⟨rfl, (Option.some.inj hg).symm⟩
    rw [dec_true (show (k : Int) < (i : Int) by omega), cond_true, chk_true (and_true' (dec_true (by omega)) (dec_true (by omega))), chk_true (and_true' (dec_true (by omega)) (dec_true (by omega))), hb.1, cond_true, hb.2]
  · rw [dec_false (show ¬ (i : Int) < (i : Int) by omega), cond_false]
  · rw [hf i 0 (by omega)]
    unfold knownB
    rw [List.range_eq_range']
    split <;> rfl
theorem rRollsOf_ok {c : Dapi_TraceCourse} (hv : Valid c) {x : Dapi_TraceMarks} {l : List Dapi_TraceRoll} (h0 : marksE c x = 0) (hx : Ints64 x.1) (hl : Names64 l) (h14 : l.length ≤ 14) :
    r9_RollsOf c x l = some (if rollsE c x.2 l ≠ 0 then ([], rollsE c x.2 l) else (namesL c x l l.length, 0)) := by
  obtain ⟨hmo, ht, h20⟩ := marksOk_of hx h0
  unfold r9_RollsOf
  by_cases h12 : 12 < l.length
  · rw [dec_true (show (l.length : Int) > 12 by omega), cond_true, show rollsE c x.2 l = 16 by unfold rollsE; rw [if_pos h12]]
    rfl
  · rw [dec_false (show ¬ (l.length : Int) > 12 by omega), cond_false]
    have hE : rollsE c x.2 l = (findF (rollR c x.2 l) 0 l.length).getD 0 := by unfold rollsE; rw [if_neg h12]
    have hk : ∀ m k, findF (fun i => (rollR c x.2 l i).map fun e => (([] : List ByteArray), e)) k m = (findF (rollR c x.2 l) k m).map fun e => (([] : List ByteArray), e) := by
      intro m
      induction m with
      | zero => intro k; rfl
      | succ m ih =>
        intro k
        unfold findF
        cases rollR c x.2 l k with
        | none => exact ih (k + 1)
        | some r => rfl
    refine Option.bind_eq_some_iff.2 ⟨_, loop_find (g := fun i => (rollR c x.2 l i).map fun e => (([] : List ByteArray), e)) (n := l.length) (fun i hi hg => ?_) (fun i hi r hg => ?_) ?_ l.length 0 (by omega), ?_⟩
    · obtain ⟨z1, z2⟩ := rollR_none (Option.map_eq_none_iff.1 hg)
      have hsz := hl _ (lget_mem (d := l0) hi)
      refine (bif_t (dec_true (show (i : Int) < (l.length : Int) by omega))).trans ?_
      rw [chk_idx (by omega), RollErr_ok hsz ht, Option.bind_some, z1, show ((0 : Int) != 0) = false from rfl, cond_false]
      refine Option.bind_eq_some_iff.2 ⟨_, same_names hi h14, ?_⟩
      rw [z2, if_neg (by decide), wi64_id (by omega) (by omega)]
      rfl
    · obtain ⟨e, hge, rfl⟩ := Option.map_eq_some_iff.1 hg
      obtain ⟨_, z2, z3⟩ := rollR_some hge
      have hsz := hl _ (lget_mem (d := l0) hi)
      refine (bif_t (dec_true (show (i : Int) < (l.length : Int) by omega))).trans ?_
      rw [chk_idx (by omega), RollErr_ok hsz ht, Option.bind_some]
      rcases z3 with z3 | ⟨z3, z4, rfl⟩
      · rw [z3, show (e != 0) = true by rw [bne_iff_ne]; exact z2, cond_true]
        rfl
      · rw [z3, show ((0 : Int) != 0) = false from rfl, cond_false]
        refine Option.bind_eq_some_iff.2 ⟨_, same_names hi h14, ?_⟩
        rw [z4, if_pos rfl]
    · rw [dec_false (show ¬ (l.length : Int) < (l.length : Int) by omega), cond_false]
    · rw [hk, hE]
      cases hf : findF (rollR c x.2 l) 0 l.length with
      | some e =>
        obtain ⟨i, _, _, hg, _⟩ := findF_some hf
        obtain ⟨_, z, _⟩ := rollR_some hg
        simp only [Option.map_some, Option.getD_some, outF]
        rw [if_pos z]
      | none =>
        simp only [Option.map_none, Option.getD_none, outF]
        rw [if_neg (fun h => h rfl)]
        refine Option.bind_eq_some_iff.2 ⟨namesL c x l l.length, loopM_count (fun i => (namesL c x l i, (i : Int))) l.length (fun i hi => ?_) ?_, rfl⟩
        · obtain ⟨z1, _⟩ := rollR_none (findF_none.1 hf i (by omega) (by omega))
          have hlen := names_len (c := c) (x := x) (l := l) i
          simp only
          refine (bif_t (dec_true (show (i : Int) < (l.length : Int) by omega))).trans ?_
          rw [chk_idx (by omega), Pair_ok hv hmo h20 ht z1, Option.bind_some]
          rw [show namesL c x l (i + 1) = if (pairO (clashM c x.1 (lget l0 l (i : Int)) x.2) x.1.length).2 then namesL c x l i else namesL c x l i ++ [(lget l0 l (i : Int)).1] from rfl]
          cases hp : (pairO (clashM c x.1 (lget l0 l (i : Int)) x.2) x.1.length).2 with
          | true =>
            rw [Bool.not_true, cond_false, Option.bind_some, if_pos rfl, wi64_id (by omega) (by omega)]
            rfl
          | false =>
            rw [Bool.not_false, cond_true, chk_idx (by omega), app_ok (by rw [List.length_singleton]; omega), Option.bind_some, Option.bind_some, if_neg (by decide), wi64_id (by omega) (by omega)]
            rfl
        · simp only
          rw [dec_false (show ¬ (l.length : Int) < (l.length : Int) by omega), cond_false]
theorem tRollPair_ok {c : Dapi_TraceCourse} (hv : Valid c) {x : Dapi_TraceMarks} {r : Dapi_TraceRoll} {ms : List Dtrace_ratio} (hm : trace_openMarks c x = some ((c, stripsQ c (c.2.2.2.length + 1)), ms, marksE c x)) (hms : marksE c x = 0 → ms = msL c x.1 x.1.length) (hx : Ints64 x.1) (hr : r.1.size ≤ 9223372036854775807) :
    trace_RollPair c x r = some (if marksE c x ≠ 0 then ((fun _ => 0), marksE c x) else if rollE c x.2 r ≠ 0 then ((fun _ => 0), rollE c x.2 r) else
      ((pairO (clashM c x.1 r x.2) x.1.length).1, if (pairO (clashM c x.1 r x.2) x.1.length).2 then 0 else 12)) := by
  unfold trace_RollPair
  rw [hm, Option.bind_some]
  simp only
  by_cases h0 : marksE c x = 0
  · obtain ⟨hmo, ht, h20⟩ := marksOk_of hx h0
    rw [if_neg (fun h => h h0), h0, show ((0 : Int) == 0) = true from rfl, cond_true, rollErr_ok hr ht, Option.bind_some, Option.bind_some, hms h0]
    by_cases h1 : rollE c x.2 r = 0
    · rw [if_neg (fun h => h h1), h1, show ((0 : Int) != 0) = false from rfl, cond_false, pair_ok hv hmo h20 ht h1, Option.bind_some, unless_ok, Option.bind_some]
    · rw [if_pos h1, show (rollE c x.2 r != 0) = true by rw [bne_iff_ne]; exact h1, cond_true]
  · rw [if_pos h0, show (marksE c x == 0) = false by rw [beq_eq_false_iff_ne]; exact h0, cond_false, Option.bind_some, show (marksE c x != 0) = true by rw [bne_iff_ne]; exact h0, cond_true]
theorem Texts_ok {l : List ByteArray} (h : l.length ≤ 1000) : b0_Texts l l = some true := by
  unfold b0_Texts
  rw [bne_self_eq_false, cond_false]
  refine Option.bind_eq_some_iff.2 ⟨_, loop_find (R := Bool) (g := fun _ => none) (n := l.length) (fun i hi _ => ?_) (fun i hi r hg => by cases hg) ?_ l.length 0 (by omega), ?_⟩
  · refine (bif_t (dec_true (show (i : Int) < (l.length : Int) by omega))).trans ?_
    rw [chk_idx (by omega), chk_idx (by omega), sq_iff.2 rfl, Bool.not_true, cond_false, wi64_id (by omega) (by omega)]
    rfl
  · rw [dec_false (show ¬ (l.length : Int) < (l.length : Int) by omega), cond_false]
  · rw [findF_none.2 (fun _ _ _ => rfl)]
    rfl
theorem eqb_two (p : Nat → Int) : Ty.eqb (.arr 2 (.int .i64)) p p = true := by
  show ((List.range 2).all fun i => p i == p i) = true
  rw [List.all_eq_true]
  intro i _
  exact beq_self_eq_true _
theorem TraceRolls_ok {c : Dapi_TraceCourse} {x : Dapi_TraceMarks} {l : List Dapi_TraceRoll} (hawake : l9_awake = some true) (hc : okv Tapi_TraceCourse c) (hx : okv Tapi_TraceMarks x) (hl : okv (.slice Tapi_TraceRoll) l) : l9_TraceRolls c x l = some true := by
  unfold l9_TraceRolls
  rw [hawake, Option.bind_some, Bool.not_true, cond_false]
  obtain ⟨b, hb, hb2⟩ := Few_ok (c := c)
  rw [hb, Option.bind_some]
  cases b with
  | false => rfl
  | true =>
    obtain ⟨h1, h2, h3, h5, h4⟩ := hb2 rfl
    have hin := courseIn_of hc h1 h2 h3 h5 h4
    have hxi : Ints64 x.1 := fun m hm => by
      have e : IntKind.i64.max = 9223372036854775807 := by decide
      have e' : IntKind.i64.min = -9223372036854775808 := by decide
      have h1 : IntKind.i64.min ≤ m := (hx.1.2 m hm).1
      have h2 : m ≤ IntKind.i64.max := (hx.1.2 m hm).2
      omega
    have hli : Names64 l := fun r hr => by
      have : r.1.size ≤ maxLen := (hl.2 r hr).1
      unfold maxLen at this
      omega
    by_cases h22 : x.1.length > 22
    · rw [dec_true (show (x.1.length : Int) > 22 by omega)]; rfl
    by_cases h14 : l.length > 14
    · rw [dec_true (show (l.length : Int) > 14 by omega), Bool.or_true]; rfl
    rw [dec_false (show ¬ (x.1.length : Int) > 22 by omega), dec_false (show ¬ (l.length : Int) > 14 by omega)]
    have hcm : r9_CopyMarks x = some x := by
      unfold r9_CopyMarks
      rw [CopyInts_ok (by omega), Option.bind_some]
    have hcr : r9_CopyRolls l = some l := by
      unfold r9_CopyRolls
      rw [app_ok (by rw [List.length_nil]; omega), Option.bind_some, List.nil_append]
    rw [show ((!true || false) || false) = false from rfl, cond_false, CopyCourse_ok h1 h2 h3 h4, Option.bind_some, hcm, Option.bind_some, hcr, Option.bind_some]
    have hone : ∃ r, (bif decide ((l.length : Int) > 0) then chk (decide ((0 : Int) ≤ 0) && decide ((0 : Int) < (l.length : Int))) (let one_ : Dapi_TraceRoll := lget (ByteArray.empty, (0, 0)) l 0; some one_) else some (ByteArray.empty, (0, 0))) = some r ∧ r.1.size ≤ 9223372036854775807 := by
      by_cases h0 : l.length > 0
      · rw [dec_true (show (l.length : Int) > 0 by omega), cond_true, chk_true (and_true' (dec_true (Int.le_refl 0)) rfl)]
        exact ⟨_, rfl, hli _ (lget_mem (d := l0) (i := 0) h0)⟩
      · rw [dec_false (show ¬ (l.length : Int) > 0 by omega)]
        exact ⟨_, rfl, by show (0 : Nat) ≤ _; omega⟩
    obtain ⟨r, hr1, hr2⟩ := hone
    obtain ⟨e, strips, q1, q2, q3⟩ := opened_ok hin
    by_cases he : e = 0
    · subst he
      obtain ⟨rfl, hv⟩ := q3 rfl
      obtain ⟨ms, m1, m2⟩ := openMarks_ok hv q1 hxi (by omega)
      rw [tRollsOf_ok hv m1 m2 hxi hli, Option.bind_some, q2, Option.bind_some, show ((0 : Int) == 0) = true from rfl, cond_true, MarksErr_ok hv hxi (by omega), Option.bind_some, Option.bind_some]
      refine Option.bind_eq_some_iff.2 ⟨r, hr1, ?_⟩
      rw [Option.bind_some, Option.bind_some, tRollPair_ok hv m1 m2 hxi hr2, Option.bind_some]
      by_cases h0 : marksE c x = 0
      · obtain ⟨hmo, ht, h20⟩ := marksOk_of hxi h0
        rw [h0, show ((0 : Int) != 0) = false from rfl, cond_false, rRollsOf_ok hv h0 hxi hli (by omega), Option.bind_some, if_neg (fun h : (0 : Int) ≠ 0 => h rfl), if_neg (fun h : (0 : Int) ≠ 0 => h rfl), bne_self_eq_false, cond_false]
        have htx : b0_Texts (if rollsE c x.2 l ≠ 0 then (([] : List ByteArray), rollsE c x.2 l) else (namesL c x l l.length, 0)).1 (if rollsE c x.2 l ≠ 0 then (([] : List ByteArray), rollsE c x.2 l) else (namesL c x l l.length, 0)).1 = some true := by
          have := names_len (c := c) (x := x) (l := l) l.length
          refine Texts_ok ?_
          split
          · exact Nat.zero_le _
          · show (namesL c x l l.length).length ≤ 1000; omega
        rw [htx, Option.bind_some, Option.bind_some, Bool.not_true, cond_false, RollErr_ok hr2 ht, Option.bind_some]
        by_cases h7 : rollE c x.2 r = 0
        · rw [h7, show ((0 : Int) != 0) = false from rfl, cond_false, if_neg (fun h => h rfl), Pair_ok hv hmo h20 ht h7, Option.bind_some]
          generalize hp : pairO (clashM c x.1 r x.2) x.1.length = p
          cases h8 : p.2 with
          | true =>
            rw [Bool.not_true, cond_false]
            show some ((((if true = true then (0 : Int) else 12) == 0)) && (Ty.eqb (.arr 2 (.int .i64)) p.1 p.1)) = some true
            rw [eqb_two]
            rfl
          | false =>
            have hz : p.1 = fun _ => 0 := by
              unfold pairO at hp
              cases hf : pairF (clashM c x.1 r x.2) x.1.length with
              | none => rw [hf] at hp; rw [← hp]; rfl
              | some q =>
                rw [hf] at hp
                unfold pairF at hf
                obtain ⟨i, _, _, hi, _⟩ := findF_some hf
                obtain ⟨k, _, _, hk, _⟩ := findF_some hi
                by_cases hb : clashM c x.1 r x.2 i k = true
                · rw [if_pos hb] at hk
                  cases hk
                  rw [← hp] at h8
                  cases h8
                · rw [if_neg hb] at hk; cases hk
            rw [Bool.not_false, cond_true]
            simp only
            rw [hz, eqb_two]
            rfl
        · rw [show (rollE c x.2 r != 0) = true by rw [bne_iff_ne]; exact h7, cond_true, if_pos h7]
          simp only
          rw [beq_self_eq_true, cond_true, Option.bind_some, eqb_two]
      · rw [show (marksE c x != 0) = true by rw [bne_iff_ne]; exact h0, cond_true, if_pos h0, if_pos h0]
        simp only
        rw [beq_self_eq_true]
        show (some (Ty.eqb (.arr 2 (.int .i64)) (fun _ => (0 : Int)) (fun _ => (0 : Int)))).bind _ = _
        rw [eqb_two]
        rfl
    · have hne : (e != 0) = true := by rw [bne_iff_ne]; exact he
      have hm : trace_openMarks c x = some ((c, strips), [], e) := by
        unfold trace_openMarks
        rw [q1, Option.bind_some, unless_ok, Option.bind_some, first_ok (by simp), Option.bind_some, first2]
        simp only
        rw [if_neg he, hne, cond_true]
      have hro : trace_RollsOf c x l = some ([], e) := by
        unfold trace_RollsOf
        rw [hm, Option.bind_some, unless_ok, Option.bind_some, first_ok (by simp), Option.bind_some, first2]
        simp only
        rw [if_neg he, hne, cond_true]
      have hrp : trace_RollPair c x r = some ((fun _ => 0), e) := by
        unfold trace_RollPair
        rw [hm, Option.bind_some]
        simp only
        rw [show (e == 0) = false by rw [beq_eq_false_iff_ne]; exact he, cond_false, Option.bind_some, hne, cond_true]
      rw [hro, Option.bind_some, q2, Option.bind_some, show (e == 0) = false by rw [beq_eq_false_iff_ne]; exact he, cond_false, Option.bind_some]
      refine Option.bind_eq_some_iff.2 ⟨r, hr1, ?_⟩
      rw [Option.bind_some, Option.bind_some, hrp, Option.bind_some, hne, cond_true]
      simp only
      rw [beq_self_eq_true]
      show (some (Ty.eqb (.arr 2 (.int .i64)) (fun _ => (0 : Int)) (fun _ => (0 : Int)))).bind _ = _
      rw [eqb_two]
      rfl
end Go.Lift
