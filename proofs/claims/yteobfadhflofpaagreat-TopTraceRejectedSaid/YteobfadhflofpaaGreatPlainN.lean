/-
  Causes are checked.
-/
import Derived.Test.YteobfadhflofpaaGreatFunCb
import Derived.Test.YteobfadhflofpaaGreatPlainJ
import Derived.Test.YteobfadhflofpaaGreatPlainE
import Derived.Test.YteobfadhflofpaaGreatPlainF
set_option linter.unusedSectionVars false
set_option linter.unusedVariables false
set_option linter.unusedSimpArgs false
namespace Go.Lift
open Go
theorem containsC_ok {l : List Dapi_TraceCause} {f : Dapi_TraceCause → Option Bool} {g : Dapi_TraceCause → Bool} (hf : ∀ x, f x = some (g x)) (hl : l.length ≤ 1000) : slices_ContainsFunc_apiTraceCause l f = some (l.any g) := by
  unfold slices_ContainsFunc_apiTraceCause slices_IndexFunc_apiTraceCause
  have key : ∃ r : Unit ⊕ Int, loopM (S := Int) (R := (Unit) ⊕ (Int)) (fun t =>
    bif decide (t < (List.length l : Int)) then
      chk (decide ((0 : Int) ≤ t) && decide (t < (List.length l : Int))) (
        (f (lget (ByteArray.empty, (0, (0, (0, 0)))) l t)).bind fun (t_1 : Bool) =>
        bif t_1 then
          Option.map Sum.inr (Option.map Sum.inr (
            some t))
        else
          some (.inl (wi64 (t + 1))))
    else
      some (.inr (.inl ()))) 0 = some r ∧ ((r = .inl () ∧ l.any g = false) ∨ ∃ i : Nat, r = .inr (i : Int) ∧ l.any g = true) := by
    refine loopM_list (X := Dapi_TraceCause) (l := l) (fun l' s => ∃ pre, l = pre ++ l' ∧ s = (pre.length : Int) ∧ l.any g = l'.any g) _ ?_ ?_ ⟨[], rfl, rfl, rfl⟩
    · rintro x l' s ⟨pre, e1, rfl, e2⟩
      have hL : l.length = pre.length + (l'.length + 1) := by rw [e1, List.length_append, List.length_cons]
      have g1 : ∀ d, lget d l (pre.length : Int) = x := fun d => by rw [e1]; exact lget_mid
      rw [dec_true (show (pre.length : Int) < (l.length : Int) by omega), cond_true, chk_true (and_true' (dec_true (by omega)) rfl), g1, hf, Option.bind_some]
      rw [List.any_cons] at e2
      cases hx : g x with
      | false =>
        left
        rw [hx, Bool.false_or] at e2
        rw [cond_false, wi64_id (by omega) (by omega)]
        exact ⟨_, rfl, pre ++ [x], by rw [e1]; simp, by rw [List.length_append, List.length_singleton]; rfl, e2⟩
      | true =>
        right
        rw [hx, Bool.true_or] at e2
        exact ⟨_, rfl, Or.inr ⟨pre.length, rfl, e2⟩⟩
    · rintro s ⟨pre, e1, rfl, e2⟩
      have hL : l.length = pre.length := by rw [e1, List.append_nil]
      rw [dec_false (show ¬ (pre.length : Int) < (l.length : Int) by omega), cond_false]
      exact ⟨_, rfl, Or.inl ⟨rfl, e2⟩⟩
  obtain ⟨r, h1, h2⟩ := key
  rw [h1]
  rcases h2 with ⟨rfl, h2⟩ | ⟨i, rfl, h2⟩
  · rw [h2]; rfl
  · rw [h2, Option.bind_some]
    simp only
    rw [Option.bind_some, dec_true (show (i : Int) ≥ 0 by omega)]
abbrev d0 : Dapi_TraceCause := (ByteArray.empty, (0, (0, (0, 0))))
theorem and3 {a b d : Bool} {A : Type} {k : Bool → Option A} : ((bif a then (some b).bind fun (t_9 : Bool) => some t_9 else some false).bind fun (c_1 : Bool) => (bif c_1 then (some d).bind fun (t_10 : Bool) => some t_10 else some false).bind k) = k (a && b && d) := by
  cases a <;> cases b <;> cases d <;> rfl
def causeE (c : Dapi_TraceCourse) (l : List Dapi_TraceCause) (i : Nat) : Int :=
  let x := lget d0 l (i : Int)
  firstE [if nameB x.1 then 0 else 4, if !((l.take i).any fun o => seqb o.1 x.1) then 0 else 5, if 0 ≤ x.2.1 ∧ x.2.1 ≤ (c.2.2.2.length : Int) then 0 else 2,
    if decide (0 ≤ x.2.2.1 ∧ x.2.2.1 ≤ 1000000) && decide (0 ≤ x.2.2.2.1 ∧ x.2.2.2.1 ≤ 1000000) && decide (0 ≤ x.2.2.2.2 ∧ x.2.2.2.2 ≤ 1000000) then 0 else 2,
    if decide (x.2.2.1 ≤ x.2.2.2.1) then 0 else 9, if (x.2.2.2.2 == 0) || decide (x.2.2.2.2 > wi64 (x.2.2.2.1 - x.2.2.1)) then 0 else 13]
def causeR (c : Dapi_TraceCourse) (l : List Dapi_TraceCause) (i : Nat) : Option (Int × Int) := if causeE c l i = 0 then none else some ((i : Int), causeE c l i)
theorem openCauses_ok {c : Dapi_TraceCourse} {strips : List (List Dtrace_section)} {e : Int} {l : List Dapi_TraceCause} (hop : trace_opened c [] = some ((c, strips), e)) (hl : ∀ x, x ∈ l → x.1.size ≤ 9223372036854775807) :
    trace_openCauses c l = some ((c, strips), if e ≠ 0 then (0, e) else if l.length ≤ 5 then (findF (causeR c l) 0 l.length).getD (0, 0) else (0, 8)) := by
  unfold trace_openCauses
  rw [hop, Option.bind_some, unless_ok, Option.bind_some, first_ok (by simp), Option.bind_some, first2]
  simp only
  by_cases he : e = 0
  · subst he
    rw [if_neg (show ¬ (0 : Int) ≠ 0 from fun h => h rfl), if_pos rfl]
    by_cases h5 : l.length ≤ 5
    · rw [dec_true (show (l.length : Int) ≤ 5 by omega), if_pos rfl, show ((0 : Int) != 0) = false from rfl, cond_false, if_pos h5]
      have step : ∀ i, i < l.length → ∀ d, lget d l (i : Int) ∈ l := fun i hi d => by
        unfold lget
        rw [Int.toNat_natCast, List.getD_eq_getElem?_getD, List.getElem?_eq_getElem hi]
        exact List.getElem_mem hi
      refine Option.bind_eq_some_iff.2 ⟨outF ((findF (causeR c l) 0 l.length).map fun r => ((c, strips), r)), ?_, ?_⟩
      · have hmap : ∀ m k, (findF (causeR c l) k m).map (fun r => ((c, strips), r)) = findF (fun i => (causeR c l i).map fun r => ((c, strips), r)) k m := by
          intro m
          induction m with
          | zero => intro k; rfl
          | succ m ih =>
            intro k
            unfold findF
            cases causeR c l k with
            | none => exact ih (k + 1)
            | some r => rfl
        rw [hmap]
        have body : ∀ i, i < l.length → (slices_ContainsFunc_apiTraceCause (l.take i) fun x => trace_openCauses_1 x (lget d0 l (i : Int))) = some ((l.take i).any fun o => seqb o.1 (lget d0 l (i : Int)).1) := fun i hi =>
          containsC_ok (g := fun o => seqb o.1 (lget d0 l (i : Int)).1) (fun x => rfl) (by rw [List.length_take]; omega)
        refine loop_find (n := l.length) (fun i hi hg => ?_) (fun i hi r hg => ?_) ?_ l.length 0 (by omega)
        · have hz : causeE c l i = 0 := by
            unfold causeR at hg
            split at hg
            · assumption
            · cases hg
          rw [dec_true (show (i : Int) < (l.length : Int) by omega), cond_true, chk_true (and_true' (dec_true (by omega)) rfl), chk_true (by rw [dec_true (show (0 : Int) ≤ 0 by decide), dec_true (show (0 : Int) ≤ (i : Int) by omega), dec_true (show (i : Int) ≤ (l.length : Int) by omega)]; rfl)]
          rw [show List.drop (Int.toNat 0) (List.take (Int.toNat (i : Int)) l) = l.take i by rw [Int.toNat_natCast]; rfl, body i hi, Option.bind_some, isName_ok (hl _ (step i hi _)), Option.bind_some, unless_ok, Option.bind_some, unless_ok, Option.bind_some, tstepsErr_ok, Option.bind_some, isPosition_ok, Option.bind_some, isPosition_ok, isPosition_ok, and3, unless_ok, Option.bind_some, unless_ok, Option.bind_some, unless_ok, Option.bind_some, first_ok (by simp), Option.bind_some]
          rw [show firstE _ = (0 : Int) from hz, wi64_id (x := (i : Int) + 1) (by omega) (by omega)]
          rfl
        · obtain ⟨hz, hr⟩ : causeE c l i ≠ 0 ∧ r = ((c, strips), ((i : Int), causeE c l i)) := by
            unfold causeR at hg
            split at hg
            · cases hg
            · rename_i hz
              exact ⟨hz, (Option.some.inj hg).symm⟩
          rw [dec_true (show (i : Int) < (l.length : Int) by omega), cond_true, chk_true (and_true' (dec_true (by omega)) rfl), chk_true (by rw [dec_true (show (0 : Int) ≤ 0 by decide), dec_true (show (0 : Int) ≤ (i : Int) by omega), dec_true (show (i : Int) ≤ (l.length : Int) by omega)]; rfl)]
          rw [show List.drop (Int.toNat 0) (List.take (Int.toNat (i : Int)) l) = l.take i by rw [Int.toNat_natCast]; rfl, body i hi, Option.bind_some, isName_ok (hl _ (step i hi _)), Option.bind_some, unless_ok, Option.bind_some, unless_ok, Option.bind_some, tstepsErr_ok, Option.bind_some, isPosition_ok, Option.bind_some, isPosition_ok, isPosition_ok, and3, unless_ok, Option.bind_some, unless_ok, Option.bind_some, unless_ok, Option.bind_some, first_ok (by simp), Option.bind_some]
          have hne : (causeE c l i != 0) = true := by rw [bne_iff_ne]; exact hz
          rw [show firstE _ = causeE c l i from rfl, hne, cond_true, hr]
          rfl
        · rw [dec_false (show ¬ (l.length : Int) < (l.length : Int) by omega), cond_false]
      · cases findF (causeR c l) 0 l.length with
        | none => rfl
        | some r => rfl
    · rw [dec_false (show ¬ (l.length : Int) ≤ 5 by omega), if_neg h5]
      rfl
  · rw [if_pos he, if_neg he, show (e != 0) = true by rw [bne_iff_ne]; exact he, cond_true]
theorem lget_getD {A : Type} {d : A} {l : List A} {i : Nat} (hi : i < l.length) : lget d l (i : Int) = l[i] := by
  unfold lget
  rw [Int.toNat_natCast, List.getD_eq_getElem?_getD, List.getElem?_eq_getElem hi]; rfl
theorem same_loop {R : Type} {l : List Dapi_TraceCause} {i : Nat} (hi : i < l.length) (h7 : l.length ≤ 1000) {s : ByteArray} {r : R} :
    loopM (S := Int) (R := Unit ⊕ R) (fun k =>
                bif decide (k < (i : Int)) then
                  chk (decide ((0 : Int) ≤ k) && decide (k < (List.length l : Int))) (
                    bif seqb ((lget (ByteArray.empty, (0, (0, (0, 0)))) l k).1) s then
                      some (.inr (.inr r))
                    else
                      some (.inl (wi64 (k + 1))))
                else
                  some (.inr (.inl ()))) 0 = some (if (l.take i).any (fun o => seqb o.1 s) then .inr r else .inl ()) := by
  refine (loop_find (g := fun k => if seqb ((lget d0 l (k : Int)).1) s then some r else none) (n := i) (fun k hk hg => ?_) (fun k hk r' hg => ?_) ?_ i 0 (by omega)).trans ?_
  rotate_left 3
  · congr 1
    by_cases h : (l.take i).any (fun o => seqb o.1 s) = true
    · rw [if_pos h]
      obtain ⟨o, ho, hs⟩ := List.any_eq_true.1 h
      obtain ⟨k, hk, rfl⟩ := List.getElem_of_mem ho
      rw [List.length_take] at hk
      rw [List.getElem_take] at hs
      cases hf : findF (fun k => if seqb ((lget d0 l (k : Int)).1) s then some r else none) 0 i with
      | none =>
        have := findF_none.1 hf k (by omega) (by omega)
        rw [lget_getD (by omega), if_pos hs] at this
        cases this
      | some r' =>
        obtain ⟨j, _, _, hj, _⟩ := findF_some hf
        split at hj
        · cases hj; rfl
        · cases hj
    · rw [if_neg h]
      have : findF (fun k => if seqb ((lget d0 l (k : Int)).1) s then some r else none) 0 i = none := by
        rw [findF_none]
        intro k _ hk
        rw [Bool.not_eq_true, List.any_eq_false] at h
        have hm : l[k]'(by omega) ∈ l.take i := by
          rw [List.mem_take_iff_getElem]
          exact ⟨k, by omega, rfl⟩
        rw [lget_getD (by omega), if_neg (h _ hm)]
      rw [this]; rfl
  · rw [dec_true (show (k : Int) < (i : Int) by omega), cond_true, chk_true (and_true' (dec_true (by omega)) (dec_true (by omega)))]
    split at hg
    · cases hg
    · rename_i h
      rw [Bool.not_eq_true] at h
      rw [h, cond_false, wi64_id (by omega) (by omega)]
      rfl
  · rw [dec_true (show (k : Int) < (i : Int) by omega), cond_true, chk_true (and_true' (dec_true (by omega)) (dec_true (by omega)))]
    split at hg
    · rename_i h
      cases hg
      rw [h, cond_true]
    · cases hg
  · rw [dec_false (show ¬ (i : Int) < (i : Int) by omega), cond_false]
theorem fE0 {l : List Int} : firstE (0 :: l) = firstE l := by conv => lhs; unfold firstE
                                                              rw [if_pos rfl]
theorem fEn {n : Int} {l : List Int} (h : n ≠ 0) : firstE (n :: l) = n := by unfold firstE; rw [if_neg h]
theorem causeR_of {c : Dapi_TraceCourse} {l : List Dapi_TraceCause} {i : Nat} {e : Int} (h : causeE c l i = e) : causeR c l i = if e = 0 then none else some ((i : Int), e) := by unfold causeR; rw [h]
theorem CheckCauses_ok {c : Dapi_TraceCourse} {e : Int} {l : List Dapi_TraceCause} (hce : r9_CourseErr c = some e) (hl : ∀ x, x ∈ l → x.1.size ≤ 9223372036854775807) :
    r9_CheckCauses c l = some (if e ≠ 0 then (0, e) else if l.length ≤ 5 then (findF (causeR c l) 0 l.length).getD (0, 0) else (0, 8)) := by
  unfold r9_CheckCauses
  rw [hce, Option.bind_some]
  by_cases he : e = 0
  · subst he
    rw [show ((0 : Int) != 0) = false from rfl, cond_false, if_neg (show ¬ (0 : Int) ≠ 0 from fun h => h rfl)]
    by_cases h5 : l.length ≤ 5
    · rw [dec_false (show ¬ (l.length : Int) > 5 by omega), cond_false, if_pos h5]
      refine Option.bind_eq_some_iff.2 ⟨outF (findF (causeR c l) 0 l.length), ?_, ?_⟩
      · have key : ∀ i, i < l.length → ∀ F : Option (Int ⊕ (Unit ⊕ (Int × Int))), F = (
            let x : Dapi_TraceCause := lget (ByteArray.empty, (0, (0, (0, 0)))) l (i : Int)
            (b0_IsName x.1).bind fun (t_1 : Bool) =>
            bif !t_1 then
              Option.map Sum.inr (Option.map Sum.inr (
                some ((i : Int), (4 : Int))))
            else
              (loopM (S := Int) (R := (Unit) ⊕ ((Int) ⊕ ((Unit) ⊕ (Int × Int)))) (fun k =>
                bif decide (k < (i : Int)) then
                  chk (decide ((0 : Int) ≤ k) && decide (k < (List.length l : Int))) (
                    bif seqb ((lget (ByteArray.empty, (0, (0, (0, 0)))) l k).1) x.1 then
                      Option.map Sum.inr (Option.map Sum.inr (
                        Option.map Sum.inr (Option.map Sum.inr (
                          some ((i : Int), 5)))))
                    else
                      some (.inl (wi64 (k + 1))))
                else
                  some (.inr (.inl ()))) 0).bind fun j => match j with
              | .inl _ => (
                (r9_StepsErr c x.2.1).bind fun (t_2 : Int) =>
                bif (t_2 != 0) then
                  Option.map Sum.inr (Option.map Sum.inr (
                    some ((i : Int), t_2)))
                else
                  (b0_Within x.2.2.1 0 1000000).bind fun (t_3 : Bool) =>
                  (bif !t_3 then some true else
                    (b0_Within x.2.2.2.1 0 1000000).bind fun (t_4 : Bool) =>
                    some (!t_4)).bind fun (c_1 : Bool) =>
                  (bif c_1 then some true else
                    (b0_Within x.2.2.2.2 0 1000000).bind fun (t_5 : Bool) =>
                    some (!t_5)).bind fun (c_2 : Bool) =>
                  bif c_2 then
                    Option.map Sum.inr (Option.map Sum.inr (
                      some ((i : Int), 2)))
                  else
                    bif decide (x.2.2.1 > x.2.2.2.1) then
                      Option.map Sum.inr (Option.map Sum.inr (
                        some ((i : Int), 9)))
                    else
                      bif ((x.2.2.2.2 != 0) && (decide (x.2.2.2.2 ≤ (wi64 (x.2.2.2.1 - x.2.2.1))))) then
                        Option.map Sum.inr (Option.map Sum.inr (
                          some ((i : Int), 13)))
                      else
                        some (.inl (wi64 ((i : Int) + 1))))
              | .inr r => some r) → F = some (match causeR c l i with | none => .inl ((i + 1 : Nat) : Int) | some r => .inr (.inr r)) := by
          rintro i hi F rfl
          have hm : lget d0 l (i : Int) ∈ l := by rw [lget_getD hi]; exact List.getElem_mem hi
          have hn := IsName_ok (hl _ hm)
          have hloop := fun (s : ByteArray) => same_loop (R := Int ⊕ (Unit ⊕ (Int × Int))) hi (show l.length ≤ 1000 by omega) (s := s) (r := .inr (.inr ((i : Int), 5)))
          simp only
          change (b0_IsName (lget d0 l (i : Int)).1).bind _ = _
          obtain ⟨x, hx⟩ : ∃ x, lget d0 l (i : Int) = x := ⟨_, rfl⟩
          have hE : causeE c l i = firstE [if nameB x.1 then 0 else 4, if !((l.take i).any fun o => seqb o.1 x.1) then 0 else 5, if 0 ≤ x.2.1 ∧ x.2.1 ≤ (c.2.2.2.length : Int) then 0 else 2,
              if decide (0 ≤ x.2.2.1 ∧ x.2.2.1 ≤ 1000000) && decide (0 ≤ x.2.2.2.1 ∧ x.2.2.2.1 ≤ 1000000) && decide (0 ≤ x.2.2.2.2 ∧ x.2.2.2.2 ≤ 1000000) then 0 else 2,
              if decide (x.2.2.1 ≤ x.2.2.2.1) then 0 else 9, if (x.2.2.2.2 == 0) || decide (x.2.2.2.2 > wi64 (x.2.2.2.1 - x.2.2.1)) then 0 else 13] := by rw [← hx]; rfl
          have hgx : lget (ByteArray.empty, (0, (0, (0, 0)))) l (i : Int) = x := hx
          rw [hx] at hn ⊢
          rw [hn, Option.bind_some]
          by_cases h1 : nameB x.1 = true
          · rw [if_pos h1, fE0] at hE
            rw [h1, Bool.not_true, cond_false]
            by_cases h2 : (l.take i).any (fun o => seqb o.1 x.1) = true
            · rw [h2, show (if (!true) = true then (0 : Int) else 5) = 5 from rfl, fEn (by decide)] at hE
              rw [causeR_of hE, if_neg (by decide)]
              refine Option.bind_eq_some_iff.2 ⟨_, hloop x.1, ?_⟩
              rw [if_pos h2]
            · rw [Bool.not_eq_true] at h2
              rw [h2, show (if (!false) = true then (0 : Int) else 5) = 0 from rfl, fE0] at hE
              refine Option.bind_eq_some_iff.2 ⟨_, hloop x.1, ?_⟩
              rw [if_neg (by rw [h2]; decide)]
              simp only
              rw [rstepsErr_ok, Option.bind_some]
              by_cases h3 : 0 ≤ x.2.1 ∧ x.2.1 ≤ (c.2.2.2.length : Int)
              · rw [if_pos h3, fE0] at hE
                rw [if_pos h3, show ((0 : Int) != 0) = false from rfl, cond_false, Within_ok, Option.bind_some, Within_ok, Option.bind_some, Within_ok, Option.bind_some]
                have h4 : ((bif !decide (0 ≤ x.2.2.1 ∧ x.2.2.1 ≤ 1000000) then some true else some (!decide (0 ≤ x.2.2.2.1 ∧ x.2.2.2.1 ≤ 1000000))).bind fun c_1 => bif c_1 then some true else some (!decide (0 ≤ x.2.2.2.2 ∧ x.2.2.2.2 ≤ 1000000))) =
                    some (!(decide (0 ≤ x.2.2.1 ∧ x.2.2.1 ≤ 1000000) && decide (0 ≤ x.2.2.2.1 ∧ x.2.2.2.1 ≤ 1000000) && decide (0 ≤ x.2.2.2.2 ∧ x.2.2.2.2 ≤ 1000000))) := by
                  cases decide (0 ≤ x.2.2.1 ∧ x.2.2.1 ≤ 1000000) <;> cases decide (0 ≤ x.2.2.2.1 ∧ x.2.2.2.1 ≤ 1000000) <;> cases decide (0 ≤ x.2.2.2.2 ∧ x.2.2.2.2 ≤ 1000000) <;> rfl
                generalize hb4 : (decide (0 ≤ x.2.2.1 ∧ x.2.2.1 ≤ 1000000) && decide (0 ≤ x.2.2.2.1 ∧ x.2.2.2.1 ≤ 1000000) && decide (0 ≤ x.2.2.2.2 ∧ x.2.2.2.2 ≤ 1000000)) = b4 at *
                obtain ⟨c1, hc1, hc2⟩ := Option.bind_eq_some_iff.1 h4
                rw [hc1, Option.bind_some, hc2, Option.bind_some]
                cases b4 with
                | false =>
                  rw [show (if false = true then (0 : Int) else 2) = 2 from rfl, fEn (by decide)] at hE
                  rw [causeR_of hE, if_neg (by decide)]
                  rfl
                | true =>
                  rw [if_pos rfl, fE0] at hE
                  rw [Bool.not_true, cond_false]
                  by_cases h5 : x.2.2.1 ≤ x.2.2.2.1
                  · rw [dec_true h5, if_pos rfl, fE0] at hE
                    rw [dec_false (show ¬ x.2.2.1 > x.2.2.2.1 by omega), cond_false]
                    by_cases h6 : ((x.2.2.2.2 == 0) || decide (x.2.2.2.2 > wi64 (x.2.2.2.1 - x.2.2.1))) = true
                    · rw [if_pos h6, fE0] at hE
                      have h7 : ((x.2.2.2.2 != 0) && (decide (x.2.2.2.2 ≤ (wi64 (x.2.2.2.1 - x.2.2.1))))) = false := by
                        rw [Bool.or_eq_true, beq_iff_eq, decide_eq_true_eq] at h6
                        rw [Bool.and_eq_false_iff, bne_eq_false_iff_eq, decide_eq_false_iff_not]
                        omega
                      rw [h7, cond_false, causeR_of (show causeE c l i = 0 from hE), if_pos rfl, wi64_id (x := (i : Int) + 1) (by omega) (by omega)]
                      rfl
                    · rw [if_neg h6, fEn (by decide)] at hE
                      have h7 : ((x.2.2.2.2 != 0) && (decide (x.2.2.2.2 ≤ (wi64 (x.2.2.2.1 - x.2.2.1))))) = true := by
                        rw [Bool.not_eq_true, Bool.or_eq_false_iff, beq_eq_false_iff_ne, decide_eq_false_iff_not] at h6
                        rw [Bool.and_eq_true, bne_iff_ne, decide_eq_true_eq]
                        exact ⟨h6.1, by omega⟩
                      rw [h7, cond_true, causeR_of hE, if_neg (by decide)]
                      rfl
                  · rw [dec_false h5, show (if false = true then (0 : Int) else 9) = 9 from rfl, fEn (by decide)] at hE
                    rw [dec_true (show x.2.2.1 > x.2.2.2.1 by omega), cond_true, causeR_of hE, if_neg (by decide)]
                    rfl
              · rw [if_neg h3, fEn (by decide)] at hE
                rw [if_neg h3, show ((2 : Int) != 0) = true from rfl, cond_true, causeR_of hE, if_neg (by decide)]
                rfl
          · rw [if_neg h1, fEn (by decide)] at hE
            rw [Bool.not_eq_true] at h1
            rw [h1, Bool.not_false, cond_true, causeR_of hE, if_neg (by decide)]
            rfl
        refine loop_find (n := l.length) (fun i hi hg => ?_) (fun i hi r hg => ?_) ?_ l.length 0 (by omega)
        · rw [dec_true (show (i : Int) < (l.length : Int) by omega), cond_true, chk_true (and_true' (dec_true (by omega)) rfl)]
          refine (key i hi _ rfl).trans ?_
          rw [hg]
        · rw [dec_true (show (i : Int) < (l.length : Int) by omega), cond_true, chk_true (and_true' (dec_true (by omega)) rfl)]
          refine (key i hi _ rfl).trans ?_
          rw [hg]
        · rw [dec_false (show ¬ (l.length : Int) < (l.length : Int) by omega), cond_false]
      · cases findF (causeR c l) 0 l.length with
        | none => rfl
        | some r => rfl
    · rw [dec_true (show (l.length : Int) > 5 by omega), if_neg h5]
      rfl
  · rw [if_pos he, show (e != 0) = true by rw [bne_iff_ne]; exact he, cond_true]
end Go.Lift
