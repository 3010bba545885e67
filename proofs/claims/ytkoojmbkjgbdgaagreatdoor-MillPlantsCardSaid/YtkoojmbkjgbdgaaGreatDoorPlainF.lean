/-
  Plants are checked alike on both sides.
-/
import Derived.Test.YtkoojmbkjgbdgaaGreatDoorPlainE
set_option linter.unusedSectionVars false
set_option linter.unusedVariables false
set_option linter.unusedSimpArgs false
set_option linter.unusedVariables false
set_option linter.unusedSimpArgs false
namespace Go.Lift
open Go
def dupB (l : List ByteArray) (s : ByteArray) : Bool := l.any fun x => seqb s x
def namE {X : Type} (name : X → ByteArray) (err : X → Int) : List ByteArray → Nat → List X → Option (Int × Int)
  | _, _, [] => none
  | kn, i, x :: l => if nameB (name x) = false then some ((i : Int), 4) else if dupB kn (name x) = true then some ((i : Int), 5) else if err x ≠ 0 then some ((i : Int), err x) else namE name err (kn ++ [name x]) (i + 1) l
theorem namE_cons {X : Type} {name : X → ByteArray} {err : X → Int} (kn : List ByteArray) (i : Nat) (x : X) (l : List X) : namE name err kn i (x :: l) = if nameB (name x) = false then some ((i : Int), 4) else if dupB kn (name x) = true then some ((i : Int), 5) else if err x ≠ 0 then some ((i : Int), err x) else namE name err (kn ++ [name x]) (i + 1) l := rfl
def resE : Option (Int × Int) → Unit ⊕ (Int × Int)
  | none => .inl ()
  | some e => .inr e
theorem nam_loop {X S : Type} {F : S → Option (S ⊕ (Unit ⊕ (Int × Int)))} {l : List X} {s0 : S} (name : X → ByteArray) (err : X → Int) (g : List X → S) (h0 : s0 = g [])
    (hstep : ∀ pre x post, l = pre ++ x :: post → F (g pre) = if nameB (name x) = false then some (.inr (.inr ((pre.length : Int), 4))) else if dupB (pre.map name) (name x) = true then some (.inr (.inr ((pre.length : Int), 5))) else if err x ≠ 0 then some (.inr (.inr ((pre.length : Int), err x))) else some (.inl (g (pre ++ [x]))))
    (hend : F (g l) = some (.inr (.inl ()))) : loopM F s0 = some (resE (namE name err [] 0 l)) := by
  subst h0
  refine loopM_list_eq (X := X) (l := l) (fun l' s => ∃ pre : List X, l = pre ++ l' ∧ s = g pre ∧ namE name err [] 0 l = namE name err (pre.map name) pre.length l') ?_ ?_ ⟨[], rfl, rfl, rfl⟩
  · rintro x l' _ ⟨pre, e1, rfl, e2⟩
    have h := hstep pre x l' e1
    rw [namE_cons] at e2
    rw [e2]
    by_cases h1 : nameB (name x) = false
    · rw [if_pos h1] at h ⊢; exact .inr h
    · rw [if_neg h1] at h ⊢
      by_cases h2 : dupB (pre.map name) (name x) = true
      · rw [if_pos h2] at h ⊢; exact .inr h
      · rw [if_neg h2] at h ⊢
        by_cases h3 : err x ≠ 0
        · rw [if_pos h3] at h ⊢; exact .inr h
        · rw [if_neg h3] at h ⊢
          exact .inl ⟨_, h, pre ++ [x], by rw [e1]; simp, rfl, by rw [List.length_append, List.length_singleton, List.map_append]; rfl⟩
  · rintro _ ⟨pre, e1, rfl, e2⟩
    rw [List.append_nil] at e1
    subst e1
    rw [hend, e2]; rfl
theorem Contains_ok {l : List ByteArray} {s : ByteArray} (hl : l.length ≤ 60000) : slices_Contains_string l s = some (dupB l s) := by
  unfold slices_Contains_string slices_Index_string
  have key : ∃ r, loopM (S := Int) (R := (Unit) ⊕ (Int)) (fun t =>
    bif decide (t < (List.length l : Int)) then
      chk (decide ((0 : Int) ≤ t) && decide (t < (List.length l : Int))) (
        bif seqb s (lget ByteArray.empty l t) then
          Option.map Sum.inr (Option.map Sum.inr (
            some t))
        else
          some (.inl (wi64 (t + 1))))
    else
      some (.inr (.inl ()))) 0 = some r ∧ ((dupB l s = false ∧ r = .inl ()) ∨ (dupB l s = true ∧ ∃ n : Nat, r = .inr (n : Int))) := by
    refine loopM_list (X := ByteArray) (l := l) (fun l' t => ∃ pre, l = pre ++ l' ∧ t = (pre.length : Int) ∧ dupB l s = dupB l' s) _ ?_ ?_ ⟨[], rfl, rfl, rfl⟩
    · rintro x l' _ ⟨pre, e1, rfl, e2⟩
      have hL : l.length = pre.length + (l'.length + 1) := by rw [e1, List.length_append, List.length_cons]
      have g1 : ∀ d, lget d l (pre.length : Int) = x := fun d => by rw [e1]; exact lget_mid
      rw [dec_true (show (pre.length : Int) < (l.length : Int) by omega), cond_true, chk_true (and_true' (dec_true (by omega)) rfl), g1]
      have e3 : dupB (x :: l') s = (seqb s x || dupB l' s) := rfl
      rw [e3] at e2
      cases h : seqb s x with
      | true =>
        right
        rw [h, Bool.true_or] at e2
        exact ⟨_, rfl, .inr ⟨e2, _, rfl⟩⟩
      | false =>
        left
        rw [h, Bool.false_or] at e2
        rw [cond_false, wi64_id (by omega) (by omega)]
        exact ⟨_, rfl, pre ++ [x], by rw [e1]; simp, by rw [List.length_append, List.length_singleton]; rfl, e2⟩
    · rintro _ ⟨pre, e1, rfl, e2⟩
      rw [List.append_nil] at e1
      subst e1
      rw [dec_false (by omega), cond_false]
      exact ⟨_, rfl, .inl ⟨e2, rfl⟩⟩
  obtain ⟨r, h1, ⟨h2, rfl⟩ | ⟨h2, n, rfl⟩⟩ := key
  · rw [h1, h2]; rfl
  · rw [h1, h2]
    show some (decide ((n : Int) ≥ 0)) = _
    rw [dec_true (by omega)]
theorem seqb_comm (a b : ByteArray) : seqb a b = seqb b a := by rw [seqb_data, seqb_data, Bool.eq_iff_iff, beq_iff_eq, beq_iff_eq]; exact eq_comm
theorem index_ok {l : List ByteArray} {s : ByteArray} (hl : l.length ≤ 60000) : ∃ i, cobbleref10_index l s = some i ∧ decide (i ≥ 0) = dupB l s := by
  unfold cobbleref10_index
  have key : ∃ r, loopM (S := Int) (R := (Unit) ⊕ (Int)) (fun i =>
    bif decide (i < (List.length l : Int)) then
      chk (decide ((0 : Int) ≤ i) && decide (i < (List.length l : Int))) (
        bif seqb (lget ByteArray.empty l i) s then
          Option.map Sum.inr (Option.map Sum.inr (
            some i))
        else
          some (.inl (wi64 (i + 1))))
    else
      some (.inr (.inl ()))) 0 = some r ∧ ((dupB l s = false ∧ r = .inl ()) ∨ (dupB l s = true ∧ ∃ n : Nat, r = .inr (n : Int))) := by
    refine loopM_list (X := ByteArray) (l := l) (fun l' t => ∃ pre, l = pre ++ l' ∧ t = (pre.length : Int) ∧ dupB l s = dupB l' s) _ ?_ ?_ ⟨[], rfl, rfl, rfl⟩
    · rintro x l' _ ⟨pre, e1, rfl, e2⟩
      have hL : l.length = pre.length + (l'.length + 1) := by rw [e1, List.length_append, List.length_cons]
      have g1 : ∀ d, lget d l (pre.length : Int) = x := fun d => by rw [e1]; exact lget_mid
      rw [dec_true (show (pre.length : Int) < (l.length : Int) by omega), cond_true, chk_true (and_true' (dec_true (by omega)) rfl), g1, seqb_comm]
      have e3 : dupB (x :: l') s = (seqb s x || dupB l' s) := rfl
      rw [e3] at e2
      cases h : seqb s x with
      | true =>
        right
        rw [h, Bool.true_or] at e2
        exact ⟨_, rfl, .inr ⟨e2, _, rfl⟩⟩
      | false =>
        left
        rw [h, Bool.false_or] at e2
        rw [cond_false, wi64_id (by omega) (by omega)]
        exact ⟨_, rfl, pre ++ [x], by rw [e1]; simp, by rw [List.length_append, List.length_singleton]; rfl, e2⟩
    · rintro _ ⟨pre, e1, rfl, e2⟩
      rw [List.append_nil] at e1
      subst e1
      rw [dec_false (by omega), cond_false]
      exact ⟨_, rfl, .inl ⟨e2, rfl⟩⟩
  obtain ⟨r, h1, ⟨h2, rfl⟩ | ⟨h2, n, rfl⟩⟩ := key
  · rw [h1, h2]; exact ⟨-1, rfl, rfl⟩
  · rw [h1, h2]
    exact ⟨(n : Int), rfl, dec_true (by omega)⟩
theorem name_step {S : Type} {n : Int} {b1 b2 : Bool} {e : Int} {s : S} : ((mill_first [bif b1 then 0 else 4, bif !b2 then 0 else 5, e]).bind fun (t_7 : Int) =>
        bif (t_7 != 0) then
          Option.map Sum.inr (Option.map Sum.inr (
            some (n, t_7)))
        else
          some (.inl s) : Option (S ⊕ (Unit ⊕ (Int × Int)))) = if b1 = false then some (.inr (.inr (n, 4))) else if b2 = true then some (.inr (.inr (n, 5))) else if e ≠ 0 then some (.inr (.inr (n, e))) else some (.inl s) := by
  rw [first_ok (by simp), Option.bind_some]
  cases b1 with
  | false => rfl
  | true =>
    cases b2 with
    | true => rfl
    | false =>
      simp only [firstE_cons, cond_true, Bool.not_false, if_true, reduceCtorEq, if_false]
      by_cases h : e = 0
      · subst h; rfl
      · rw [if_neg h, if_pos h, show (e != 0) = true from bne_iff_ne.2 h]; rfl
theorem role_ok (x : Dapi_MillPerson) : mill_open_1 x = some (bif inB x.2 0 3 then 0 else 15) := by
  unfold mill_open_1
  rw [mill_within_ok, Option.bind_some, unless_ok]; rfl
def perE (l : List Dapi_MillPerson) : Option (Int × Int) := namE (fun x : Dapi_MillPerson => x.1) (fun x => bif inB x.2 0 3 then 0 else 15) [] 0 l
def stdE (l : List ByteArray) : Option (Int × Int) := namE (fun x : ByteArray => x) (fun _ => 0) [] 0 l
theorem resE_end (o : Option (Int × Int)) : (match resE o with | .inl _ => some ((0 : Int), (0 : Int)) | .inr r => some r) = some (o.getD (0, 0)) := by cases o <;> rfl
theorem persons_ok {l : List Dapi_MillPerson} (hl : l.length ≤ 1000) (hs : ∀ x ∈ l, x.1.size ≤ 60000) : mill_named_apiMillPerson l (fun x => mill_open_2 x) (fun x => mill_open_1 x) = some ((perE l).getD (0, 0)) := by
  unfold mill_named_apiMillPerson
  refine Option.bind_eq_some_iff.2 ⟨_, nam_loop (l := l) (fun x : Dapi_MillPerson => x.1) (fun x => bif inB x.2 0 3 then 0 else 15) (fun pre => (pre.map fun x => x.1, (pre.length : Int))) rfl ?_ ?_, resE_end _⟩
  · intro pre x post e1
    have hL : l.length = pre.length + (post.length + 1) := by rw [e1, List.length_append, List.length_cons]
    have g1 : ∀ d, lget d l (pre.length : Int) = x := fun d => by rw [e1]; exact lget_mid
    have hx := hs x (by rw [e1]; simp)
    simp only
    rw [dec_true (show (pre.length : Int) < (l.length : Int) by omega), cond_true, chk_true (and_true' (dec_true (by omega)) rfl), g1]
    simp only [mill_open_2, Option.bind_some, role_ok]
    rw [isName_ok (by omega), Option.bind_some, unless_ok, Option.bind_some, Contains_ok (by rw [List.length_map]; omega), Option.bind_some, unless_ok, Option.bind_some, app_ok (by rw [List.length_map, List.length_singleton]; omega), wi64_id (by omega) (by omega)]
    rw [← name_step (S := List ByteArray × Int)]
    rw [List.map_append, List.length_append, List.length_singleton]
    rfl
  · simp only
    rw [dec_false (by omega), cond_false]
theorem stands_ok {l : List ByteArray} (hl : l.length ≤ 1000) (hs : ∀ x ∈ l, x.size ≤ 60000) : mill_named_string l (fun x => mill_open_3 x) (fun x => mill_open_4 x) = some ((stdE l).getD (0, 0)) := by
  unfold mill_named_string
  refine Option.bind_eq_some_iff.2 ⟨_, nam_loop (l := l) (fun x : ByteArray => x) (fun x => 0) (fun pre => (pre.map fun x => x, (pre.length : Int))) rfl ?_ ?_, resE_end _⟩
  · intro pre x post e1
    have hL : l.length = pre.length + (post.length + 1) := by rw [e1, List.length_append, List.length_cons]
    have g1 : ∀ d, lget d l (pre.length : Int) = x := fun d => by rw [e1]; exact lget_mid
    have hx := hs x (by rw [e1]; simp)
    simp only
    rw [dec_true (show (pre.length : Int) < (l.length : Int) by omega), cond_true, chk_true (and_true' (dec_true (by omega)) rfl), g1]
    simp only [mill_open_3, mill_open_4, Option.bind_some]
    rw [isName_ok (by omega), Option.bind_some, unless_ok, Option.bind_some, Contains_ok (by rw [List.length_map]; omega), Option.bind_some, unless_ok, Option.bind_some, app_ok (by rw [List.length_map, List.length_singleton]; omega), wi64_id (by omega) (by omega)]
    rw [← name_step (S := List ByteArray × Int)]
    rw [List.map_append, List.length_append, List.length_singleton]
    rfl
  · simp only
    rw [dec_false (by omega), cond_false]
theorem namE_ne {X : Type} {name : X → ByteArray} {err : X → Int} : ∀ {l : List X} {kn : List ByteArray} {i : Nat} {e : Int × Int}, namE name err kn i l = some e → e.2 ≠ 0
  | [], _, _, _, h => by cases h
  | x :: l, kn, i, e, h => by
    rw [namE_cons] at h
    split at h
    · cases h; exact (by decide : (4 : Int) ≠ 0)
    · split at h
      · cases h; exact (by decide : (5 : Int) ≠ 0)
      · split at h
        · rename_i h3; cases h; exact h3
        · exact namE_ne h
theorem bind_of {A B : Type} {m : Option A} {r : A} {K : A → Option B} {t : Option B} (h : m = some r) (hk : K r = t) : m.bind K = t := by rw [h]; exact hk
def plantE (p : Dapi_MillPlant) (e : Int) : Int × Int := if p.1.length = 0 then (0, 10) else if 8 < p.1.length then (0, 8) else match perE p.1 with
  | some e => e
  | none => if p.2.1.length < 2 then (0, 10) else if 6 < p.2.1.length then (0, 8) else match stdE p.2.1 with
    | some e => e
    | none => (0, firstE [(rulesL p.2.2.1.data.toList).2, e, bif ((rulesL p.2.2.1.data.toList).1.2.2.2.2.2.1.length : Int) == (p.2.1.length : Int) then 0 else 13])
structure FewP (p : Dapi_MillPlant) : Prop where
  n1 : p.1.length ≤ 1000
  n2 : p.2.1.length ≤ 1000
  s1 : ∀ x ∈ p.1, x.1.size ≤ 50000
  s2 : ∀ x ∈ p.2.1, x.size ≤ 50000
  s3 : p.2.2.1.size ≤ 50000
  s4 : p.2.2.2.size ≤ 50000
theorem own_plant {p : Dapi_MillPlant} (h : FewP p) {z : Dapi_ModelRules × Int} (hz : model_ParseRules p.2.2.2 = some z) : mill_CheckPlant p = some (plantE p z.2) := by
  obtain ⟨h1, h2, h3, h4, h5, h6⟩ := h
  unfold mill_CheckPlant mill_open plantE
  rw [unless_ok, Option.bind_some, unless_ok, Option.bind_some, first_ok (by simp), Option.bind_some]
  simp only [firstE_cons]
  by_cases e0 : p.1.length = 0
  · rw [dec_false (show ¬ (p.1.length : Int) > 0 by omega), if_pos e0]; rfl
  rw [dec_true (show (p.1.length : Int) > 0 by omega), if_neg e0]
  by_cases e8 : 8 < p.1.length
  · rw [dec_false (show ¬ (p.1.length : Int) ≤ 8 by omega), if_pos e8]; rfl
  rw [dec_true (show (p.1.length : Int) ≤ 8 by omega), if_neg e8, persons_ok h1 (fun x hx => Nat.le_trans (h3 x hx) (by decide))]
  cases hp : perE p.1 with
  | some e =>
    simp only [Option.getD_some, Option.bind_some, show (e.2 != 0) = true from bne_iff_ne.2 (namE_ne hp)]; rfl
  | none =>
    rw [Option.getD_none, Option.bind_some, show (((0 : Int), (0 : Int)).2 != 0) = false from rfl, cond_false, unless_ok, Option.bind_some, unless_ok, Option.bind_some, first_ok (by simp), Option.bind_some]
    simp only [firstE_cons]
    by_cases e2 : p.2.1.length < 2
    · rw [dec_false (show ¬ (p.2.1.length : Int) ≥ 2 by omega), if_pos e2]; rfl
    rw [dec_true (show (p.2.1.length : Int) ≥ 2 by omega), if_neg e2]
    by_cases e6 : 6 < p.2.1.length
    · rw [dec_false (show ¬ (p.2.1.length : Int) ≤ 6 by omega), if_pos e6]; rfl
    rw [dec_true (show (p.2.1.length : Int) ≤ 6 by omega), if_neg e6, stands_ok h2 (fun x hx => Nat.le_trans (h4 x hx) (by decide))]
    cases hq : stdE p.2.1 with
    | some e =>
      simp only [Option.getD_some, Option.bind_some, show (e.2 != 0) = true from bne_iff_ne.2 (namE_ne hq)]; rfl
    | none =>
      rw [pass_ParseRules_ok h5, hz]
      simp only [Option.bind_some]
      rw [unless_ok, Option.bind_some, first_ok (by simp), Option.bind_some]
      rfl
theorem ref_plant {p : Dapi_MillPlant} (h : FewP p) {z : Dapi_ModelRules × Int} (hz : cobbleref04_ParseRules p.2.2.2 = some z) : cobbleref10_CheckPlant p = some (plantE p z.2) := by
  obtain ⟨h1, h2, h3, h4, h5, h6⟩ := h
  unfold cobbleref10_CheckPlant plantE
  by_cases e0 : p.1.length = 0
  · rw [show ((p.1.length : Int) == 0) = true by rw [e0]; rfl, if_pos e0]; rfl
  rw [show ((p.1.length : Int) == 0) = false by rw [beq_eq_false_iff_ne]; omega, cond_false, if_neg e0]
  by_cases e8 : 8 < p.1.length
  · rw [dec_true (show (p.1.length : Int) > 8 by omega), if_pos e8]; rfl
  rw [dec_false (show ¬ (p.1.length : Int) > 8 by omega), cond_false, if_neg e8]
  refine bind_of (nam_loop (l := p.1) (fun x : Dapi_MillPerson => x.1) (fun x => bif inB x.2 0 3 then 0 else 15) (fun pre => (pre.length : Int)) rfl ?_ ?_) ?_
  · intro pre x post e1
    have hL : p.1.length = pre.length + (post.length + 1) := by rw [e1, List.length_append, List.length_cons]
    have g1 : ∀ d, lget d p.1 (pre.length : Int) = x := fun d => by rw [e1]; exact lget_mid
    have hx := h3 x (by rw [e1]; simp)
    have hck : (decide ((0 : Int) ≤ (pre.length : Int)) && true) = true := and_true' (dec_true (by omega)) rfl
    rw [dec_true (show (pre.length : Int) < (p.1.length : Int) by omega), cond_true, chk_true hck, g1, IsName_ok (by omega), Option.bind_some]
    cases hn : nameB x.1 with
    | false => rfl
    | true =>
      rw [Bool.not_true, cond_false, if_neg (by decide)]
      refine bind_of (r := if dupB (pre.map fun x => x.1) x.1 = true then .inr (.inr (.inr ((pre.length : Int), 5))) else .inl ()) ?_ ?_
      · refine loopM_list_eq (X := Dapi_MillPerson) (l := pre) (fun l' s => ∃ u, pre = u ++ l' ∧ s = (u.length : Int) ∧ dupB (pre.map fun x => x.1) x.1 = dupB (l'.map fun x => x.1) x.1) ?_ ?_ ⟨[], rfl, rfl, rfl⟩
        · rintro y l' _ ⟨u, f1, rfl, f2⟩
          have hU : pre.length = u.length + (l'.length + 1) := by rw [f1, List.length_append, List.length_cons]
          have gy : ∀ d, lget d p.1 (u.length : Int) = y := fun d => by rw [e1, f1, List.append_assoc]; exact lget_mid
          rw [dec_true (show (u.length : Int) < (pre.length : Int) by omega), cond_true, chk_true (and_true' (dec_true (by omega)) (dec_true (by omega))), chk_true hck, gy, seqb_comm]
          have f3 : dupB ((y :: l').map fun x => x.1) x.1 = (seqb x.1 y.1 || dupB (l'.map fun x => x.1) x.1) := rfl
          rw [f3] at f2
          cases hq : seqb x.1 y.1 with
          | true =>
            right
            rw [hq, Bool.true_or] at f2
            rw [f2]; rfl
          | false =>
            left
            rw [hq, Bool.false_or] at f2
            rw [cond_false, wi64_id (by omega) (by omega)]
            exact ⟨_, rfl, u ++ [y], by rw [f1]; simp, by rw [List.length_append, List.length_singleton]; rfl, f2⟩
        · rintro _ ⟨u, f1, rfl, f2⟩
          rw [List.append_nil] at f1
          rw [f1, dec_false (by omega), cond_false, ← f1, f2]
          rfl
      · cases hd : dupB (pre.map fun x => x.1) x.1 with
        | true => rfl
        | false =>
          rw [if_neg (by decide), if_neg (by decide)]
          simp only
          rw [chk_true hck, Within_ok, Option.bind_some, wi64_id (by omega) (by omega), List.length_append, List.length_singleton]
          show (bif !inB x.2 0 3 then _ else _) = _
          cases inB x.2 0 3 <;> rfl
  · rw [dec_false (by omega), cond_false]
  have hperE : namE (fun x : Dapi_MillPerson => x.1) (fun x => bif inB x.2 0 3 then 0 else 15) [] 0 p.1 = perE p.1 := rfl
  rw [hperE]
  cases hp : perE p.1 with
  | some e => rfl
  | none =>
    simp only [resE]
    by_cases e2 : p.2.1.length < 2
    · rw [dec_true (show (p.2.1.length : Int) < 2 by omega), if_pos e2]; rfl
    rw [dec_false (show ¬ (p.2.1.length : Int) < 2 by omega), cond_false, if_neg e2]
    by_cases e6 : 6 < p.2.1.length
    · rw [dec_true (show (p.2.1.length : Int) > 6 by omega), if_pos e6]; rfl
    rw [dec_false (show ¬ (p.2.1.length : Int) > 6 by omega), cond_false, if_neg e6]
    refine bind_of (nam_loop (l := p.2.1) (fun x : ByteArray => x) (fun x => 0) (fun pre => (pre.length : Int)) rfl ?_ ?_) ?_
    · intro pre x post e1
      have hL : p.2.1.length = pre.length + (post.length + 1) := by rw [e1, List.length_append, List.length_cons]
      have g1 : ∀ d, lget d p.2.1 (pre.length : Int) = x := fun d => by rw [e1]; exact lget_mid
      have hx := h4 x (by rw [e1]; simp)
      have hck : (decide ((0 : Int) ≤ (pre.length : Int)) && true) = true := and_true' (dec_true (by omega)) rfl
      have htk : List.drop (Int.toNat 0) (List.take (Int.toNat (pre.length : Int)) p.2.1) = pre := by
        rw [Int.toNat_natCast, e1, List.take_left]; rfl
      obtain ⟨i, i1, i2⟩ := index_ok (l := pre) (s := x) (by omega)
      rw [dec_true (show (pre.length : Int) < (p.2.1.length : Int) by omega), cond_true, chk_true hck, g1, IsName_ok (by omega), Option.bind_some, htk, i1, Option.bind_some, i2, List.map_id']
      cases hn : nameB x with
      | false => rfl
      | true =>
        rw [Bool.not_true, cond_false, if_neg (by decide), chk_true (show (decide ((0 : Int) ≤ 0) && decide ((0 : Int) ≤ (pre.length : Int)) && decide ((pre.length : Int) ≤ (p.2.1.length : Int))) = true from and_true' (and_true' rfl (dec_true (by omega))) (dec_true (by omega))), chk_true hck, wi64_id (by omega) (by omega), List.length_append, List.length_singleton]
        cases dupB pre x <;> rfl
    · rw [dec_false (by omega), cond_false]
    have hstdE : namE (fun x : ByteArray => x) (fun x => 0) [] 0 p.2.1 = stdE p.2.1 := rfl
    rw [hstdE]
    cases hq : stdE p.2.1 with
    | some e => rfl
    | none =>
      simp only [resE]
      rw [ref_ParseRules_ok h5, hz, Option.bind_some]
      simp only [firstE_cons]
      by_cases r0 : (rulesL p.2.2.1.data.toList).2 = 0
      · rw [show ((rulesL p.2.2.1.data.toList).2 != 0) = false by rw [r0]; rfl, cond_false, if_pos r0, Option.bind_some]
        by_cases m0 : z.2 = 0
        · rw [show (z.2 != 0) = false by rw [m0]; rfl, cond_false, if_pos m0]
          by_cases k0 : ((rulesL p.2.2.1.data.toList).1.2.2.2.2.2.1.length : Int) = (p.2.1.length : Int)
          · rw [show (((rulesL p.2.2.1.data.toList).1.2.2.2.2.2.1.length : Int) != (p.2.1.length : Int)) = false by rw [bne_eq_false_iff_eq]; exact k0, show (((rulesL p.2.2.1.data.toList).1.2.2.2.2.2.1.length : Int) == (p.2.1.length : Int)) = true by rw [beq_iff_eq]; exact k0]
            rfl
          · rw [show (((rulesL p.2.2.1.data.toList).1.2.2.2.2.2.1.length : Int) != (p.2.1.length : Int)) = true by rw [bne_iff_ne]; exact k0, show (((rulesL p.2.2.1.data.toList).1.2.2.2.2.2.1.length : Int) == (p.2.1.length : Int)) = false by rw [beq_eq_false_iff_ne]; exact k0]
            rfl
        · rw [show (z.2 != 0) = true from bne_iff_ne.2 m0, cond_true, if_neg m0]
      · rw [show ((rulesL p.2.2.1.data.toList).2 != 0) = true from bne_iff_ne.2 r0, cond_true, if_neg r0]
theorem plant_both {p : Dapi_MillPlant} (h : FewP p) : ∃ z, mill_CheckPlant p = some z ∧ cobbleref10_CheckPlant p = some z := by
  obtain ⟨z, z1, z2⟩ := model_ParseRules_both h.s4
  exact ⟨_, own_plant h z1, ref_plant h z2⟩
end Go.Lift
set_option linter.unusedVariables false
set_option linter.unusedSimpArgs false
namespace Go.Lift
open Go
theorem long_loop {X : Type} {F : Int → Option (Int ⊕ (Unit ⊕ Bool))} {l : List X} (sz : X → Nat)
    (hstep : ∀ pre x post, l = pre ++ x :: post → F (pre.length : Int) = if 30 < sz x then some (.inr (.inr false)) else some (.inl ((pre.length : Int) + 1)))
    (hend : F (l.length : Int) = some (.inr (.inl ()))) : ∃ r, loopM F 0 = some r ∧ ((r = .inr false) ∨ (r = .inl () ∧ ∀ x ∈ l, sz x ≤ 30)) := by
  refine loopM_list (X := X) (l := l) (fun l' s => ∃ pre, l = pre ++ l' ∧ s = (pre.length : Int) ∧ ∀ x ∈ pre, sz x ≤ 30) _ ?_ ?_ ⟨[], rfl, rfl, fun x hx => by cases hx⟩
  · rintro x l' _ ⟨pre, e1, rfl, e2⟩
    have h := hstep pre x l' e1
    by_cases hx : 30 < sz x
    · rw [if_pos hx] at h; exact .inr ⟨_, h, .inl rfl⟩
    · rw [if_neg hx] at h
      exact .inl ⟨_, h, pre ++ [x], by rw [e1]; simp, by rw [List.length_append, List.length_singleton]; rfl, fun y hy => (List.mem_append.1 hy).elim (e2 y) (fun e => by rw [List.mem_singleton.1 e]; omega)⟩
  · rintro _ ⟨pre, e1, rfl, e2⟩
    rw [List.append_nil] at e1
    subst e1
    exact ⟨_, hend, .inr ⟨rfl, e2⟩⟩
theorem Few_ok (p : Dapi_MillPlant) : ∃ b, cobblelaw10_Few p = some b ∧ (b = true → FewP p ∧ p.1.length ≤ 10 ∧ p.2.1.length ≤ 8) := by
  unfold cobblelaw10_Few
  cases hc : ((((decide ((List.length p.1 : Int) > 10)) || (decide ((List.length p.2.1 : Int) > 8))) || (decide ((ByteArray.size p.2.2.1 : Int) > 300))) || (decide ((ByteArray.size p.2.2.2 : Int) > 300))) with
  | true => exact ⟨false, rfl, fun h => by cases h⟩
  | false =>
    simp only [Bool.or_eq_false_iff, decide_eq_false_iff_not] at hc
    obtain ⟨⟨⟨h1, h2⟩, h3⟩, h4⟩ := hc
    rw [cond_false]
    obtain ⟨r, hr, h⟩ := long_loop (F := fun i =>
      bif decide (i < (List.length p.1 : Int)) then
        chk (decide ((0 : Int) ≤ i) && decide (i < (List.length p.1 : Int))) (
          bif decide ((ByteArray.size ((lget (ByteArray.empty, 0) p.1 i).1) : Int) > 30) then
            Option.map Sum.inr (Option.map Sum.inr (
              some false))
          else
            some (.inl (wi64 (i + 1))))
      else
        some (.inr (.inl ()))) (l := p.1) (fun x : Dapi_MillPerson => x.1.size) (by
        intro pre x post e1
        have hL : p.1.length = pre.length + (post.length + 1) := by rw [e1, List.length_append, List.length_cons]
        have g1 : ∀ d, lget d p.1 (pre.length : Int) = x := fun d => by rw [e1]; exact lget_mid
        rw [dec_true (show (pre.length : Int) < (p.1.length : Int) by omega), cond_true, chk_true (and_true' (dec_true (by omega)) rfl), g1, wi64_id (by omega) (by omega)]
        by_cases hx : 30 < x.1.size
        · rw [dec_true (show (x.1.size : Int) > 30 by omega), if_pos hx]; rfl
        · rw [dec_false (show ¬ (x.1.size : Int) > 30 by omega), if_neg hx]; rfl) (by rw [dec_false (by omega), cond_false])
    rw [hr, Option.bind_some]
    rcases h with rfl | ⟨rfl, s1⟩
    · exact ⟨false, rfl, fun h => by cases h⟩
    obtain ⟨r, hr, h⟩ := long_loop (F := fun i =>
      bif decide (i < (List.length p.2.1 : Int)) then
        chk (decide ((0 : Int) ≤ i) && decide (i < (List.length p.2.1 : Int))) (
          bif decide ((ByteArray.size (lget ByteArray.empty p.2.1 i) : Int) > 30) then
            Option.map Sum.inr (Option.map Sum.inr (
              some false))
          else
            some (.inl (wi64 (i + 1))))
      else
        some (.inr (.inl ()))) (l := p.2.1) (fun x : ByteArray => x.size) (by
        intro pre x post e1
        have hL : p.2.1.length = pre.length + (post.length + 1) := by rw [e1, List.length_append, List.length_cons]
        have g1 : ∀ d, lget d p.2.1 (pre.length : Int) = x := fun d => by rw [e1]; exact lget_mid
        rw [dec_true (show (pre.length : Int) < (p.2.1.length : Int) by omega), cond_true, chk_true (and_true' (dec_true (by omega)) rfl), g1, wi64_id (by omega) (by omega)]
        by_cases hx : 30 < x.size
        · rw [dec_true (show (x.size : Int) > 30 by omega), if_pos hx]; rfl
        · rw [dec_false (show ¬ (x.size : Int) > 30 by omega), if_neg hx]; rfl) (by rw [dec_false (by omega), cond_false])
    simp only
    rw [hr, Option.bind_some]
    rcases h with rfl | ⟨rfl, s2⟩
    · exact ⟨false, rfl, fun h => by cases h⟩
    exact ⟨true, rfl, fun _ => ⟨⟨by omega, by omega, fun x hx => Nat.le_trans (s1 x hx) (by decide), fun x hx => Nat.le_trans (s2 x hx) (by decide), by omega, by omega⟩, by omega, by omega⟩⟩
theorem Copy_ok {p : Dapi_MillPlant} (h1 : p.1.length ≤ 1000) (h2 : p.2.1.length ≤ 1000) : cobbleref10_CopyPlant p = some p := by
  unfold cobbleref10_CopyPlant b0_CopyTexts
  rw [app_ok (by rw [List.length_nil]; omega), app_ok (by rw [List.length_nil]; omega)]
  rfl
end Go.Lift
