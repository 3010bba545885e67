/-
  The chapter's examples, evaluated.
-/
import Derived.Test.YtkoojmbkjgbdgaaGreatDoorPlainA
import Derived.KernelRfl
set_option linter.unusedSectionVars false
set_option linter.unusedVariables false
set_option linter.unusedSimpArgs false
namespace Go.Lift
open Go
def Lq {A : Type} (a b : Option A) : Prop := ∀ v, a = some v → b = some v
theorem lq_refl {A : Type} (a : Option A) : Lq a a := fun _ h => h
theorem lq_bind {A B : Type} {a a' : Option A} {f f' : A → Option B} (h : Lq a a') (k : ∀ x, Lq (f x) (f' x)) : Lq (a.bind f) (a'.bind f') := by
  intro v hv
  obtain ⟨x, hx, hf⟩ := Option.bind_eq_some_iff.1 hv
  exact Option.bind_eq_some_iff.2 ⟨x, h x hx, k x v hf⟩
theorem lq_cond {A : Type} {c : Bool} {a a' b b' : Option A} (h : Lq a a') (k : Lq b b') : Lq (bif c then a else b) (bif c then a' else b') := by
  cases c <;> assumption
theorem lq_chk {A : Type} {c : Bool} {a a' : Option A} (h : Lq a a') : Lq (chk c a) (chk c a') := by
  unfold chk
  exact lq_cond h (lq_refl _)
theorem lq_map {A B : Type} {g : A → B} {a a' : Option A} (h : Lq a a') : Lq (Option.map g a) (Option.map g a') := by
  intro v hv
  obtain ⟨x, hx, hf⟩ := Option.map_eq_some_iff.1 hv
  exact Option.map_eq_some_iff.2 ⟨x, h x hx, hf⟩
def loopE {S R : Type} (f : S → Option (S ⊕ R)) (s : S) : Option R := loopN f 300 s
theorem lq_loopN {S R : Type} {f f' : S → Option (S ⊕ R)} (h : ∀ s, Lq (f s) (f' s)) : ∀ (n : Nat) (s : S), Lq (loopN f n s) (loopN f' n s)
  | 0, s => fun v hv => by simp [loopN] at hv
  | n + 1, s => fun v hv => by
    unfold loopN at hv ⊢
    cases hf : f s with
    | none => rw [hf] at hv; cases hv
    | some j =>
      rw [hf] at hv
      rw [h s j hf]
      cases j with
      | inl s' => exact lq_loopN h n s' v hv
      | inr r => exact hv
theorem lq_loop {S R : Type} {f f' : S → Option (S ⊕ R)} {s : S} (h : ∀ s, Lq (f s) (f' s)) : Lq (loopE f s) (loopM f' s) :=
  fun _ hv => loopM_of (lq_loopN h 300 s _ hv)
theorem lq_sumfun {A B C : Type} {f g : A ⊕ B → Option C} (h1 : ∀ a, Lq (f (.inl a)) (g (.inl a))) (h2 : ∀ b, Lq (f (.inr b)) (g (.inr b))) : ∀ j, Lq (f j) (g j) := by
  intro j
  cases j with
  | inl a => exact h1 a
  | inr b => exact h2 b
def seqbE (a b : ByteArray) : Bool := a.data.toList == b.data.toList
def catE (a b : ByteArray) : Option ByteArray := if a.size + b.size ≤ 4294967296 then some ⟨(a.data.toList ++ b.data.toList).toArray⟩ else none
theorem toList_loop (b : ByteArray) : b.toList = b.data.toList := by
  have h : ∀ (n i : Nat) (r : List UInt8), b.size - i = n → ByteArray.toList.loop b i r = r.reverse ++ b.data.toList.drop i := by
    intro n
    induction n with
    | zero =>
      intro i r hn
      unfold ByteArray.toList.loop
      rw [if_neg (by omega), List.drop_eq_nil_of_le (show b.data.toList.length ≤ i by show b.size ≤ i; omega), List.append_nil]
    | succ n ih =>
      intro i r hn
      unfold ByteArray.toList.loop
      have hi : i < b.size := by omega
      rw [if_pos hi, ih (i + 1) _ (by omega)]
      have hi2 : i < b.data.toList.length := hi
      rw [List.drop_eq_getElem_cons hi2, List.reverse_cons, List.append_assoc]
      congr 1
      show [b.get! i] ++ _ = _
      have : b.get! i = b.data.toList[i] := by
        unfold ByteArray.get!
        show b.data[i]! = _
        rw [getElem!_pos b.data i hi]
        rfl
      rw [this]; rfl
  have := h b.size 0 [] rfl
  rw [List.reverse_nil, List.nil_append, List.drop_zero] at this
  exact this
theorem seqb_eq (a b : ByteArray) : seqb a b = seqbE a b := by unfold seqb seqbE; rw [toList_loop, toList_loop]
theorem le_cat (a b : ByteArray) : Lq (catE a b) (cat a b) := by
  intro v hv
  unfold catE at hv
  unfold cat
  split at hv
  · rename_i h
    rw [if_pos h]
    rw [← hv]
    congr 1
  · cases hv
def itoaTab : List (Int × List UInt8) := [(0, [48]), (1, [49]), (2, [50]), (3, [51]), (4, [52]), (7, [55]), (8, [56]), (10, [49, 48]), (60, [54, 48]), (100, [49, 48, 48]), (200, [50, 48, 48]), (300, [51, 48, 48]), (8000, [56, 48, 48, 48]), (9000, [57, 48, 48, 48]), (10000, [49, 48, 48, 48, 48]), (20000, [50, 48, 48, 48, 48]), (400000, [52, 48, 48, 48, 48, 48])]
theorem itoa_tab : ∀ p ∈ itoaTab, strconv_Itoa p.1 = some (bytes p.2) := by
  intro p hp
  simp only [itoaTab, List.mem_cons, List.not_mem_nil, or_false] at hp
  rcases hp with rfl | rfl | rfl | rfl | rfl | rfl | rfl | rfl | rfl | rfl | rfl | rfl | rfl | rfl | rfl | rfl | rfl
  all_goals simp [strconv_Itoa, Lib.itoa, Lib.decDigits, bytes]
def E_strconv_Itoa (n : Int) : Option ByteArray := (itoaTab.find? fun p => p.1 == n).map fun p => bytes p.2
theorem le_strconv_Itoa (n : Int) : Lq (E_strconv_Itoa n) (strconv_Itoa n) := by
  intro v hv
  unfold E_strconv_Itoa at hv
  obtain ⟨p, hp, rfl⟩ := Option.map_eq_some_iff.1 hv
  have h1 := List.find?_some hp
  have h2 := itoa_tab p (List.mem_of_find?_eq_some hp)
  rw [← h2]
  congr 1
  exact (by simpa using h1 : p.1 = n).symm
noncomputable def E_strconv_Atoi (s : ByteArray) : Option (Int × Bool) := strconv_Atoi s
theorem le_strconv_Atoi (s : ByteArray) : Lq (E_strconv_Atoi s) (strconv_Atoi s) := lq_refl _
noncomputable def E_strings_Split (s sep : ByteArray) : Option (List ByteArray) := strings_Split s sep
theorem le_strings_Split (s sep : ByteArray) : Lq (E_strings_Split s sep) (strings_Split s sep) := lq_refl _
noncomputable def E_strings_Cut (s sep : ByteArray) : Option (ByteArray × ByteArray × Bool) := strings_Cut s sep
theorem le_strings_Cut (s sep : ByteArray) : Lq (E_strings_Cut s sep) (strings_Cut s sep) := lq_refl _
noncomputable def E_mill_unless (is : Bool) (e : Int) : Option (Int) :=
 bif is then
 some 0
 else
 some e
theorem le_mill_unless (is : Bool) (e : Int) : Lq (E_mill_unless is e) (mill_unless is e) := by
  unfold E_mill_unless mill_unless
  repeat' with_reducible first | exact lq_refl _ | apply le_cat | apply lq_bind | apply lq_loop | apply lq_cond | apply lq_chk | apply lq_map | (refine lq_sumfun (fun _ => ?_) (fun _ => ?_) <;> dsimp only) | (intro _; try dsimp only) | dsimp only
noncomputable def E_mill_first (l : (List Int)) : Option (Int) :=
 (loopE (S := Int) (R := (Unit) ⊕ (Int)) (fun t =>
 bif decide (t < (List.length l : Int)) then
 chk (decide ((0 : Int) ≤ t) && decide (t < (List.length l : Int))) (
 bif ((lget 0 l t) != 0) then
 Option.map Sum.inr (Option.map Sum.inr (
 some (lget 0 l t)))
 else
 some (.inl (wi64 (t + 1))))
 else
 some (.inr (.inl ()))) 0).bind fun j => match j with
 | .inl _ => (
 some 0)
 | .inr r => some r
theorem le_mill_first (l : (List Int)) : Lq (E_mill_first l) (mill_first l) := by
  unfold E_mill_first mill_first
  repeat' with_reducible first | exact lq_refl _ | apply le_cat | apply lq_bind | apply lq_loop | apply lq_cond | apply lq_chk | apply lq_map | (refine lq_sumfun (fun _ => ?_) (fun _ => ?_) <;> dsimp only) | (intro _; try dsimp only) | dsimp only
noncomputable def E_mill_within (n : Int) (lo : Int) (hi : Int) : Option (Bool) :=
 let t : Bool := ((decide (lo ≤ n)) && (decide (n ≤ hi)))
 some t
theorem le_mill_within (n : Int) (lo : Int) (hi : Int) : Lq (E_mill_within n lo hi) (mill_within n lo hi) := by
  unfold E_mill_within mill_within
  repeat' with_reducible first | exact lq_refl _ | apply le_cat | apply lq_bind | apply lq_loop | apply lq_cond | apply lq_chk | apply lq_map | (refine lq_sumfun (fun _ => ?_) (fun _ => ?_) <;> dsimp only) | (intro _; try dsimp only) | dsimp only
noncomputable def E_mill_isName (s : ByteArray) : Option (Bool) :=
 (loopE (S := Int) (R := (Unit) ⊕ (Bool)) (fun t =>
 bif decide (t < (List.length (sbytes s) : Int)) then
 chk (decide ((0 : Int) ≤ t) && decide (t < (List.length (sbytes s) : Int))) (
 let c : Int := lget 0 (sbytes s) t
 let letter : Bool := (((decide (c ≥ 97)) && (decide (c ≤ 122))) || ((decide (c ≥ 65)) && (decide (c ≤ 90))))
 (bif !letter then
 (bif (t == 0) then some true else
 (bif (c != 45) then
 (E_mill_within (wi64 c) 48 57).bind fun (t_1 : Bool) =>
 some (!t_1)
 else some false).bind fun (c_1 : Bool) =>
 some c_1).bind fun (c_2 : Bool) =>
 some c_2
 else some false).bind fun (c_3 : Bool) =>
 bif c_3 then
 Option.map Sum.inr (Option.map Sum.inr (
 some false))
 else
 some (.inl (wi64 (t + 1))))
 else
 some (.inr (.inl ()))) 0).bind fun j => match j with
 | .inl _ => (
 (E_mill_within (ByteArray.size s : Int) 1 12).bind fun (t_2 : Bool) =>
 some t_2)
 | .inr r => some r
theorem le_mill_isName (s : ByteArray) : Lq (E_mill_isName s) (mill_isName s) := by
  unfold E_mill_isName mill_isName
  repeat' with_reducible first | exact lq_refl _ | apply le_mill_within | apply le_cat | apply lq_bind | apply lq_loop | apply lq_cond | apply lq_chk | apply lq_map | (refine lq_sumfun (fun _ => ?_) (fun _ => ?_) <;> dsimp only) | (intro _; try dsimp only) | dsimp only
noncomputable def E_slices_Index_string (s : (List ByteArray)) (v : ByteArray) : Option (Int) :=
 (loopE (S := Int) (R := (Unit) ⊕ (Int)) (fun t =>
 bif decide (t < (List.length s : Int)) then
 chk (decide ((0 : Int) ≤ t) && decide (t < (List.length s : Int))) (
 bif seqbE v (lget ByteArray.empty s t) then
 Option.map Sum.inr (Option.map Sum.inr (
 some t))
 else
 some (.inl (wi64 (t + 1))))
 else
 some (.inr (.inl ()))) 0).bind fun j => match j with
 | .inl _ => (
 some (-1))
 | .inr r => some r
theorem le_slices_Index_string (s : (List ByteArray)) (v : ByteArray) : Lq (E_slices_Index_string s v) (slices_Index_string s v) := by
  unfold E_slices_Index_string slices_Index_string
  try simp only [seqb_eq]
  repeat' with_reducible first | exact lq_refl _ | apply le_cat | apply lq_bind | apply lq_loop | apply lq_cond | apply lq_chk | apply lq_map | (refine lq_sumfun (fun _ => ?_) (fun _ => ?_) <;> dsimp only) | (intro _; try dsimp only) | dsimp only
noncomputable def E_slices_Contains_string (s : (List ByteArray)) (v : ByteArray) : Option (Bool) :=
 (E_slices_Index_string s v).bind fun (t : Int) =>
 some (decide (t ≥ 0))
theorem le_slices_Contains_string (s : (List ByteArray)) (v : ByteArray) : Lq (E_slices_Contains_string s v) (slices_Contains_string s v) := by
  unfold E_slices_Contains_string slices_Contains_string
  repeat' with_reducible first | exact lq_refl _ | apply le_slices_Index_string | apply le_cat | apply lq_bind | apply lq_loop | apply lq_cond | apply lq_chk | apply lq_map | (refine lq_sumfun (fun _ => ?_) (fun _ => ?_) <;> dsimp only) | (intro _; try dsimp only) | dsimp only
noncomputable def E_mill_named_apiMillPerson (l : (List Dapi_MillPerson)) (name : (Dapi_MillPerson → Option ByteArray)) (err : (Dapi_MillPerson → Option Int)) : Option (Int × Int) :=
 (loopE (S := (List ByteArray) × Int) (R := (Unit) ⊕ (Int × Int)) (fun s =>
 let known : (List ByteArray) := s.1
 let t : Int := s.2
 bif decide (t < (List.length l : Int)) then
 chk (decide ((0 : Int) ≤ t) && decide (t < (List.length l : Int))) (
 let x : Dapi_MillPerson := lget (ByteArray.empty, 0) l t
 (name x).bind fun (t_1 : ByteArray) =>
 (E_mill_isName t_1).bind fun (t_2 : Bool) =>
 (E_mill_unless t_2 4).bind fun (t_3 : Int) =>
 (E_slices_Contains_string known t_1).bind fun (t_4 : Bool) =>
 (E_mill_unless (!t_4) 5).bind fun (t_5 : Int) =>
 (err x).bind fun (t_6 : Int) =>
 (E_mill_first [t_3, t_5, t_6]).bind fun (t_7 : Int) =>
 bif (t_7 != 0) then
 Option.map Sum.inr (Option.map Sum.inr (
 some (t, t_7)))
 else
 (app known [t_1]).bind fun (t_8 : List ByteArray) =>
 some (.inl (t_8, wi64 (t + 1))))
 else
 some (.inr (.inl ()))) ([], 0)).bind fun j => match j with
 | .inl _ => (
 some (0, 0))
 | .inr r => some r
theorem le_mill_named_apiMillPerson (l : (List Dapi_MillPerson)) {name name' : (Dapi_MillPerson → Option ByteArray)} (h_name : ∀ x, Lq (name x) (name' x)) {err err' : (Dapi_MillPerson → Option Int)} (h_err : ∀ x, Lq (err x) (err' x)) : Lq (E_mill_named_apiMillPerson l name err) (mill_named_apiMillPerson l name' err') := by
  unfold E_mill_named_apiMillPerson mill_named_apiMillPerson
  repeat' with_reducible first | exact lq_refl _ | exact h_name _ | exact h_err _ | apply le_mill_unless | apply le_mill_first | apply le_mill_isName | apply le_slices_Contains_string | apply le_cat | apply lq_bind | apply lq_loop | apply lq_cond | apply lq_chk | apply lq_map | (refine lq_sumfun (fun _ => ?_) (fun _ => ?_) <;> dsimp only) | (intro _; try dsimp only) | dsimp only
noncomputable def E_mill_open_2 (x : Dapi_MillPerson) : Option (ByteArray) :=
 some x.1
theorem le_mill_open_2 (x : Dapi_MillPerson) : Lq (E_mill_open_2 x) (mill_open_2 x) := by
  unfold E_mill_open_2 mill_open_2
  repeat' with_reducible first | exact lq_refl _ | apply le_cat | apply lq_bind | apply lq_loop | apply lq_cond | apply lq_chk | apply lq_map | (refine lq_sumfun (fun _ => ?_) (fun _ => ?_) <;> dsimp only) | (intro _; try dsimp only) | dsimp only
noncomputable def E_mill_open_1 (x : Dapi_MillPerson) : Option (Int) :=
 (E_mill_within x.2 0 3).bind fun (t : Bool) =>
 (E_mill_unless t 15).bind fun (t_1 : Int) =>
 some t_1
theorem le_mill_open_1 (x : Dapi_MillPerson) : Lq (E_mill_open_1 x) (mill_open_1 x) := by
  unfold E_mill_open_1 mill_open_1
  repeat' with_reducible first | exact lq_refl _ | apply le_mill_unless | apply le_mill_within | apply le_cat | apply lq_bind | apply lq_loop | apply lq_cond | apply lq_chk | apply lq_map | (refine lq_sumfun (fun _ => ?_) (fun _ => ?_) <;> dsimp only) | (intro _; try dsimp only) | dsimp only
noncomputable def E_mill_named_string (l : (List ByteArray)) (name : (ByteArray → Option ByteArray)) (err : (ByteArray → Option Int)) : Option (Int × Int) :=
 (loopE (S := (List ByteArray) × Int) (R := (Unit) ⊕ (Int × Int)) (fun s =>
 let known : (List ByteArray) := s.1
 let t : Int := s.2
 bif decide (t < (List.length l : Int)) then
 chk (decide ((0 : Int) ≤ t) && decide (t < (List.length l : Int))) (
 let x : ByteArray := lget ByteArray.empty l t
 (name x).bind fun (t_1 : ByteArray) =>
 (E_mill_isName t_1).bind fun (t_2 : Bool) =>
 (E_mill_unless t_2 4).bind fun (t_3 : Int) =>
 (E_slices_Contains_string known t_1).bind fun (t_4 : Bool) =>
 (E_mill_unless (!t_4) 5).bind fun (t_5 : Int) =>
 (err x).bind fun (t_6 : Int) =>
 (E_mill_first [t_3, t_5, t_6]).bind fun (t_7 : Int) =>
 bif (t_7 != 0) then
 Option.map Sum.inr (Option.map Sum.inr (
 some (t, t_7)))
 else
 (app known [t_1]).bind fun (t_8 : List ByteArray) =>
 some (.inl (t_8, wi64 (t + 1))))
 else
 some (.inr (.inl ()))) ([], 0)).bind fun j => match j with
 | .inl _ => (
 some (0, 0))
 | .inr r => some r
theorem le_mill_named_string (l : (List ByteArray)) {name name' : (ByteArray → Option ByteArray)} (h_name : ∀ x, Lq (name x) (name' x)) {err err' : (ByteArray → Option Int)} (h_err : ∀ x, Lq (err x) (err' x)) : Lq (E_mill_named_string l name err) (mill_named_string l name' err') := by
  unfold E_mill_named_string mill_named_string
  repeat' with_reducible first | exact lq_refl _ | exact h_name _ | exact h_err _ | apply le_mill_unless | apply le_mill_first | apply le_mill_isName | apply le_slices_Contains_string | apply le_cat | apply lq_bind | apply lq_loop | apply lq_cond | apply lq_chk | apply lq_map | (refine lq_sumfun (fun _ => ?_) (fun _ => ?_) <;> dsimp only) | (intro _; try dsimp only) | dsimp only
noncomputable def E_mill_open_3 (s : ByteArray) : Option (ByteArray) :=
 some s
theorem le_mill_open_3 (s : ByteArray) : Lq (E_mill_open_3 s) (mill_open_3 s) := by
  unfold E_mill_open_3 mill_open_3
  repeat' with_reducible first | exact lq_refl _ | apply le_cat | apply lq_bind | apply lq_loop | apply lq_cond | apply lq_chk | apply lq_map | (refine lq_sumfun (fun _ => ?_) (fun _ => ?_) <;> dsimp only) | (intro _; try dsimp only) | dsimp only
noncomputable def E_mill_open_4 (x : ByteArray) : Option (Int) :=
 some 0
theorem le_mill_open_4 (x : ByteArray) : Lq (E_mill_open_4 x) (mill_open_4 x) := by
  unfold E_mill_open_4 mill_open_4
  repeat' with_reducible first | exact lq_refl _ | apply le_cat | apply lq_bind | apply lq_loop | apply lq_cond | apply lq_chk | apply lq_map | (refine lq_sumfun (fun _ => ?_) (fun _ => ?_) <;> dsimp only) | (intro _; try dsimp only) | dsimp only
noncomputable def E_pass_numbers (words : (List ByteArray)) : Option ((List Int) × Bool) :=
 (loopE (S := (List Int) × Int) (R := ((List Int)) ⊕ ((List Int) × Bool)) (fun s =>
 let out : (List Int) := s.1
 let t : Int := s.2
 bif decide (t < (List.length words : Int)) then
 chk (decide ((0 : Int) ≤ t) && decide (t < (List.length words : Int))) (
 let w : ByteArray := lget ByteArray.empty words t
 (E_strconv_Atoi w).bind fun (r : Int × Bool) =>
 (bif ((!r.2) || (decide (r.1 < 0))) then some true else
 (E_strconv_Itoa r.1).bind fun (t_1 : ByteArray) =>
 some (!seqbE t_1 w)).bind fun (c : Bool) =>
 bif (c || (decide ((ByteArray.size w : Int) > 13))) then
 Option.map Sum.inr (Option.map Sum.inr (
 some ([], false)))
 else
 (app out [r.1]).bind fun (t_2 : List Int) =>
 some (.inl (t_2, wi64 (t + 1))))
 else
 some (.inr (.inl out))) ([], 0)).bind fun j => match j with
 | .inl out_1 => (
 some (out_1, true))
 | .inr r => some r
theorem le_pass_numbers (words : (List ByteArray)) : Lq (E_pass_numbers words) (pass_numbers words) := by
  unfold E_pass_numbers pass_numbers
  try simp only [seqb_eq]
  repeat' with_reducible first | exact lq_refl _ | apply le_strconv_Atoi | apply le_strconv_Itoa | apply le_cat | apply lq_bind | apply lq_loop | apply lq_cond | apply lq_chk | apply lq_map | (refine lq_sumfun (fun _ => ?_) (fun _ => ?_) <;> dsimp only) | (intro _; try dsimp only) | dsimp only
noncomputable def E_filled (s : ByteArray) (n : Nat) : Option (Option (List Int)) :=
 (E_strings_Split s (bytes [32])).bind fun ws => (E_pass_numbers ws).bind fun r => bif !r.2 || ((r.1.length : Int) != (n : Int)) then some none else some (some r.1)
theorem le_filled (s : ByteArray) (n : Nat) : Lq (E_filled s n) (filled s n) := by
  unfold E_filled filled
  repeat' with_reducible first | exact lq_refl _ | apply le_strings_Split | apply le_pass_numbers | apply le_cat | apply lq_bind | apply lq_loop | apply lq_cond | apply lq_chk | apply lq_map | (refine lq_sumfun (fun _ => ?_) (fun _ => ?_) <;> dsimp only) | (intro _; try dsimp only) | dsimp only
noncomputable def E_standsF : List ByteArray → List Dapi_PassStand → Option (Option (List Dapi_PassStand))
 | [], out => some (some out)
 | s :: l, out => (E_filled s 5).bind fun r => match r with
 | none => some none
 | some x => (app out [standOf x]).bind fun o => E_standsF l o
theorem le_standsF : ∀ (l : List ByteArray) (out : List Dapi_PassStand), Lq (E_standsF l out) (standsF l out)
  | [], out => lq_refl _
  | s :: l, out => by
    unfold E_standsF standsF
    refine lq_bind (le_filled _ _) fun r => ?_
    cases r with
    | none => exact lq_refl _
    | some x => exact lq_bind (lq_refl _) fun o => le_standsF l o
noncomputable def E_pass_within (n : Int) (lo : Int) (hi : Int) : Option (Bool) :=
 let t : Bool := ((decide (lo ≤ n)) && (decide (n ≤ hi)))
 some t
theorem le_pass_within (n : Int) (lo : Int) (hi : Int) : Lq (E_pass_within n lo hi) (pass_within n lo hi) := by
  unfold E_pass_within pass_within
  repeat' with_reducible first | exact lq_refl _ | apply le_cat | apply lq_bind | apply lq_loop | apply lq_cond | apply lq_chk | apply lq_map | (refine lq_sumfun (fun _ => ?_) (fun _ => ?_) <;> dsimp only) | (intro _; try dsimp only) | dsimp only
noncomputable def E_pass_isThickness (n : Int) : Option (Bool) :=
 (E_pass_within n (((1, 1000) : Int × Int).1) (((1, 1000) : Int × Int).2)).bind fun (t : Bool) =>
 some t
theorem le_pass_isThickness (n : Int) : Lq (E_pass_isThickness n) (pass_isThickness n) := by
  unfold E_pass_isThickness pass_isThickness
  repeat' with_reducible first | exact lq_refl _ | apply le_pass_within | apply le_cat | apply lq_bind | apply lq_loop | apply lq_cond | apply lq_chk | apply lq_map | (refine lq_sumfun (fun _ => ?_) (fun _ => ?_) <;> dsimp only) | (intro _; try dsimp only) | dsimp only
noncomputable def E_pass_bounds_holds (b : Dapi_ModelCorrection) (r : Dapi_ModelCorrection) : Option (Bool) :=
 (E_pass_within r.1 b.1 b.2).bind fun (t : Bool) =>
 (bif t then
 (E_pass_within r.2 b.1 b.2).bind fun (t_1 : Bool) =>
 some t_1
 else some false).bind fun (c : Bool) =>
 some c
theorem le_pass_bounds_holds (b : Dapi_ModelCorrection) (r : Dapi_ModelCorrection) : Lq (E_pass_bounds_holds b r) (pass_bounds_holds b r) := by
  unfold E_pass_bounds_holds pass_bounds_holds
  repeat' with_reducible first | exact lq_refl _ | apply le_pass_within | apply le_cat | apply lq_bind | apply lq_loop | apply lq_cond | apply lq_chk | apply lq_map | (refine lq_sumfun (fun _ => ?_) (fun _ => ?_) <;> dsimp only) | (intro _; try dsimp only) | dsimp only
noncomputable def E_pass_unless (ok : Bool) (e : Int) : Option (Int) :=
 bif ok then
 some 0
 else
 some e
theorem le_pass_unless (ok : Bool) (e : Int) : Lq (E_pass_unless ok e) (pass_unless ok e) := by
  unfold E_pass_unless pass_unless
  repeat' with_reducible first | exact lq_refl _ | apply le_cat | apply lq_bind | apply lq_loop | apply lq_cond | apply lq_chk | apply lq_map | (refine lq_sumfun (fun _ => ?_) (fun _ => ?_) <;> dsimp only) | (intro _; try dsimp only) | dsimp only
noncomputable def E_slices_IndexFunc_apiRange (s : (List Dapi_ModelCorrection)) (f : (Dapi_ModelCorrection → Option Bool)) : Option (Int) :=
 (loopE (S := Int) (R := (Unit) ⊕ (Int)) (fun t =>
 bif decide (t < (List.length s : Int)) then
 chk (decide ((0 : Int) ≤ t) && decide (t < (List.length s : Int))) (
 (f (lget (0, 0) s t)).bind fun (t_1 : Bool) =>
 bif t_1 then
 Option.map Sum.inr (Option.map Sum.inr (
 some t))
 else
 some (.inl (wi64 (t + 1))))
 else
 some (.inr (.inl ()))) 0).bind fun j => match j with
 | .inl _ => (
 some (-1))
 | .inr r => some r
theorem le_slices_IndexFunc_apiRange (s : (List Dapi_ModelCorrection)) {f f' : (Dapi_ModelCorrection → Option Bool)} (h_f : ∀ x, Lq (f x) (f' x)) : Lq (E_slices_IndexFunc_apiRange s f) (slices_IndexFunc_apiRange s f') := by
  unfold E_slices_IndexFunc_apiRange slices_IndexFunc_apiRange
  repeat' with_reducible first | exact lq_refl _ | exact h_f _ | apply le_cat | apply lq_bind | apply lq_loop | apply lq_cond | apply lq_chk | apply lq_map | (refine lq_sumfun (fun _ => ?_) (fun _ => ?_) <;> dsimp only) | (intro _; try dsimp only) | dsimp only
noncomputable def E_slices_ContainsFunc_apiRange (s : (List Dapi_ModelCorrection)) (f : (Dapi_ModelCorrection → Option Bool)) : Option (Bool) :=
 (E_slices_IndexFunc_apiRange s f).bind fun (t : Int) =>
 some (decide (t ≥ 0))
theorem le_slices_ContainsFunc_apiRange (s : (List Dapi_ModelCorrection)) {f f' : (Dapi_ModelCorrection → Option Bool)} (h_f : ∀ x, Lq (f x) (f' x)) : Lq (E_slices_ContainsFunc_apiRange s f) (slices_ContainsFunc_apiRange s f') := by
  unfold E_slices_ContainsFunc_apiRange slices_ContainsFunc_apiRange
  repeat' with_reducible first | exact lq_refl _ | exact h_f _ | apply le_slices_IndexFunc_apiRange | apply le_cat | apply lq_bind | apply lq_loop | apply lq_cond | apply lq_chk | apply lq_map | (refine lq_sumfun (fun _ => ?_) (fun _ => ?_) <;> dsimp only) | (intro _; try dsimp only) | dsimp only
noncomputable def E_pass_ordered_1 (r : Dapi_ModelCorrection) : Option (Bool) :=
 some (decide (r.1 > r.2))
theorem le_pass_ordered_1 (r : Dapi_ModelCorrection) : Lq (E_pass_ordered_1 r) (pass_ordered_1 r) := by
  unfold E_pass_ordered_1 pass_ordered_1
  repeat' with_reducible first | exact lq_refl _ | apply le_cat | apply lq_bind | apply lq_loop | apply lq_cond | apply lq_chk | apply lq_map | (refine lq_sumfun (fun _ => ?_) (fun _ => ?_) <;> dsimp only) | (intro _; try dsimp only) | dsimp only
noncomputable def E_pass_ordered (l : (List Dapi_ModelCorrection)) : Option (Bool) :=
 (E_slices_ContainsFunc_apiRange l (fun x => E_pass_ordered_1 x)).bind fun (t : Bool) =>
 some (!t)
theorem le_pass_ordered (l : (List Dapi_ModelCorrection)) : Lq (E_pass_ordered l) (pass_ordered l) := by
  unfold E_pass_ordered pass_ordered
  repeat' with_reducible first | exact lq_refl _ | apply le_slices_ContainsFunc_apiRange | apply le_pass_ordered_1 | apply le_cat | apply lq_bind | apply lq_loop | apply lq_cond | apply lq_chk | apply lq_map | (refine lq_sumfun (fun _ => ?_) (fun _ => ?_) <;> dsimp only) | (intro _; try dsimp only) | dsimp only
noncomputable def E_pass_first (l : (List Int)) : Option (Int) :=
 (loopE (S := Int) (R := (Unit) ⊕ (Int)) (fun t =>
 bif decide (t < (List.length l : Int)) then
 chk (decide ((0 : Int) ≤ t) && decide (t < (List.length l : Int))) (
 bif ((lget 0 l t) != 0) then
 Option.map Sum.inr (Option.map Sum.inr (
 some (lget 0 l t)))
 else
 some (.inl (wi64 (t + 1))))
 else
 some (.inr (.inl ()))) 0).bind fun j => match j with
 | .inl _ => (
 some 0)
 | .inr r => some r
theorem le_pass_first (l : (List Int)) : Lq (E_pass_first l) (pass_first l) := by
  unfold E_pass_first pass_first
  repeat' with_reducible first | exact lq_refl _ | apply le_cat | apply lq_bind | apply lq_loop | apply lq_cond | apply lq_chk | apply lq_map | (refine lq_sumfun (fun _ => ?_) (fun _ => ?_) <;> dsimp only) | (intro _; try dsimp only) | dsimp only
noncomputable def E_pass_CheckRules (r : Dapi_PassRules) : Option (Int × Int) :=
 (E_pass_within r.1 1 2500).bind fun (t : Bool) =>
 (bif t then
 (E_pass_isThickness r.2.1).bind fun (t_1 : Bool) =>
 some t_1
 else some false).bind fun (c : Bool) =>
 (bif c then
 (E_pass_isThickness r.2.2.1).bind fun (t_2 : Bool) =>
 some t_2
 else some false).bind fun (c_1 : Bool) =>
 (bif c_1 then
 (E_pass_bounds_holds ((0, 20000) : Int × Int) r.2.2.2.1).bind fun (t_3 : Bool) =>
 some t_3
 else some false).bind fun (c_2 : Bool) =>
 (bif c_2 then
 (E_pass_within r.2.2.2.2.1 (((0, 20000) : Int × Int).1) (((0, 20000) : Int × Int).2)).bind fun (t_4 : Bool) =>
 some t_4
 else some false).bind fun (c_3 : Bool) =>
 (bif c_3 then
 (E_pass_bounds_holds ((1, 100) : Int × Int) r.2.2.2.2.2.2.1).bind fun (t_5 : Bool) =>
 some t_5
 else some false).bind fun (c_4 : Bool) =>
 (bif c_4 then
 (E_pass_bounds_holds ((0, 100) : Int × Int) r.2.2.2.2.2.2.2).bind fun (t_6 : Bool) =>
 some t_6
 else some false).bind fun (c_5 : Bool) =>
 (E_pass_unless c_5 2).bind fun (t_7 : Int) =>
 (bif decide (r.2.2.1 ≤ r.2.1) then
 (E_pass_ordered [r.2.2.2.1, r.2.2.2.2.2.2.1, r.2.2.2.2.2.2.2]).bind fun (t_8 : Bool) =>
 some t_8
 else some false).bind fun (c_6 : Bool) =>
 (E_pass_unless c_6 9).bind fun (t_9 : Int) =>
 (E_pass_unless (decide ((List.length r.2.2.2.2.2.1 : Int) > 0)) 10).bind fun (t_10 : Int) =>
 (E_pass_unless (decide ((List.length r.2.2.2.2.2.1 : Int) ≤ 6)) 8).bind fun (t_11 : Int) =>
 (E_pass_first [t_7, t_9, t_10, t_11]).bind fun (t_12 : Int) =>
 bif (t_12 != 0) then
 some (0, t_12)
 else
 (loopE (S := Int) (R := (Unit) ⊕ (Int × Int)) (fun t_13 =>
 bif decide (t_13 < (List.length r.2.2.2.2.2.1 : Int)) then
 chk (decide ((0 : Int) ≤ t_13) && decide (t_13 < (List.length r.2.2.2.2.2.1 : Int))) (
 let s : Dapi_PassStand := lget (0, (0, (0, (0, 0)))) r.2.2.2.2.2.1 t_13
 (E_pass_within s.1 1 1000).bind fun (t_14 : Bool) =>
 (bif t_14 then
 (E_pass_within s.2.1 0 1000000000000).bind fun (t_15 : Bool) =>
 some t_15
 else some false).bind fun (c_7 : Bool) =>
 (bif c_7 then
 (E_pass_within s.2.2.1 0 1000000000000).bind fun (t_16 : Bool) =>
 some t_16
 else some false).bind fun (c_8 : Bool) =>
 (bif c_8 then
 (E_pass_bounds_holds ((0, 1000) : Int × Int) s.2.2.2).bind fun (t_17 : Bool) =>
 some t_17
 else some false).bind fun (c_9 : Bool) =>
 (E_pass_unless c_9 2).bind fun (t_18 : Int) =>
 (E_pass_ordered [s.2.2.2]).bind fun (t_19 : Bool) =>
 (E_pass_unless t_19 9).bind fun (t_20 : Int) =>
 (E_pass_first [t_18, t_20]).bind fun (t_21 : Int) =>
 bif (t_21 != 0) then
 Option.map Sum.inr (Option.map Sum.inr (
 some (t_13, t_21)))
 else
 some (.inl (wi64 (t_13 + 1))))
 else
 some (.inr (.inl ()))) 0).bind fun j => match j with
 | .inl _ => (
 some (0, 0))
 | .inr r => some r
theorem le_pass_CheckRules (r : Dapi_PassRules) : Lq (E_pass_CheckRules r) (pass_CheckRules r) := by
  unfold E_pass_CheckRules pass_CheckRules
  repeat' with_reducible first | exact lq_refl _ | apply le_pass_within | apply le_pass_isThickness | apply le_pass_bounds_holds | apply le_pass_unless | apply le_pass_ordered | apply le_pass_first | apply le_cat | apply lq_bind | apply lq_loop | apply lq_cond | apply lq_chk | apply lq_map | (refine lq_sumfun (fun _ => ?_) (fun _ => ?_) <;> dsimp only) | (intro _; try dsimp only) | dsimp only
noncomputable def E_pass_ParseRules (s : ByteArray) : Option (Dapi_PassRules × Int) :=
 bif decide (s.size ≤ 1000000) then (strings_Split s (bytes [32, 59, 32])).bind fun parts => match parts with
 | [] => none
 | p :: l => (E_filled p 10).bind fun r => match r with
 | none => some (noRules, 7)
 | some x => (E_standsF l []).bind fun st => match st with
 | none => some (noRules, 7)
 | some st => (E_pass_CheckRules (rulesOf x st)).bind fun e => bif e.2 != 0 then some (noRules, e.2) else some (rulesOf x st, 0)
 else none
theorem le_pass_ParseRules (s : ByteArray) : Lq (E_pass_ParseRules s) (pass_ParseRules s) := by
  unfold E_pass_ParseRules pass_ParseRules
  refine lq_cond (lq_bind (lq_refl _) fun parts => ?_) (lq_refl _)
  cases parts with
  | nil => exact lq_refl _
  | cons p l =>
    refine lq_bind (le_filled _ _) fun r => ?_
    cases r with
    | none => exact lq_refl _
    | some x =>
      refine lq_bind (le_standsF _ _) fun st => ?_
      cases st with
      | none => exact lq_refl _
      | some st => exact lq_bind (le_pass_CheckRules _) fun e => lq_refl _
noncomputable def E_model_number (s : ByteArray) : Option (Int × Bool) :=
 (E_strconv_Atoi s).bind fun (r : Int × Bool) =>
 (bif (r.2 && (decide (r.1 ≥ 0))) then
 (E_strconv_Itoa r.1).bind fun (t : ByteArray) =>
 some (seqbE t s)
 else some false).bind fun (c : Bool) =>
 let t_1 : Bool := (c && (decide ((ByteArray.size s : Int) ≤ 7)))
 some (r.1, t_1)
theorem le_model_number (s : ByteArray) : Lq (E_model_number s) (model_number s) := by
  unfold E_model_number model_number
  try simp only [seqb_eq]
  repeat' with_reducible first | exact lq_refl _ | apply le_strconv_Atoi | apply le_strconv_Itoa | apply le_cat | apply lq_bind | apply lq_loop | apply lq_cond | apply lq_chk | apply lq_map | (refine lq_sumfun (fun _ => ?_) (fun _ => ?_) <;> dsimp only) | (intro _; try dsimp only) | dsimp only
noncomputable def E_model_pair (s : ByteArray) (between : ByteArray) : Option (Int × Int × Bool) :=
 (E_strings_Cut s between).bind fun (r : ByteArray × ByteArray × Bool) =>
 (E_model_number r.1).bind fun (r_1 : Int × Bool) =>
 (E_model_number r.2.1).bind fun (r_2 : Int × Bool) =>
 some (r_1.1, r_2.1, (r_1.2 && r_2.2))
theorem le_model_pair (s : ByteArray) (between : ByteArray) : Lq (E_model_pair s between) (model_pair s between) := by
  unfold E_model_pair model_pair
  repeat' with_reducible first | exact lq_refl _ | apply le_strings_Cut | apply le_model_number | apply le_cat | apply lq_bind | apply lq_loop | apply lq_cond | apply lq_chk | apply lq_map | (refine lq_sumfun (fun _ => ?_) (fun _ => ?_) <;> dsimp only) | (intro _; try dsimp only) | dsimp only
noncomputable def E_knotsF : List ByteArray → List (Int × Int) → Bool → Option (List (Int × Int) × Bool)
 | [], out, ok => some (out, ok)
 | s :: l, out, ok => (E_model_pair s (bytes [64])).bind fun r => (app out [(r.1, r.2.1)]).bind fun o => E_knotsF l o (bif ok then r.2.2 else false)
theorem le_knotsF : ∀ (l : List ByteArray) (out : List (Int × Int)) (ok : Bool), Lq (E_knotsF l out ok) (knotsF l out ok)
  | [], _, _ => lq_refl _
  | s :: l, out, ok => by
    unfold E_knotsF knotsF
    exact lq_bind (le_model_pair _ _) fun r => lq_bind (lq_refl _) fun o => le_knotsF l o _
noncomputable def E_model_unless (is : Bool) (e : Int) : Option (Int) :=
 bif is then
 some 0
 else
 some e
theorem le_model_unless (is : Bool) (e : Int) : Lq (E_model_unless is e) (model_unless is e) := by
  unfold E_model_unless model_unless
  repeat' with_reducible first | exact lq_refl _ | apply le_cat | apply lq_bind | apply lq_loop | apply lq_cond | apply lq_chk | apply lq_map | (refine lq_sumfun (fun _ => ?_) (fun _ => ?_) <;> dsimp only) | (intro _; try dsimp only) | dsimp only
noncomputable def E_model_first (l : (List Int)) : Option (Int) :=
 (loopE (S := Int) (R := (Unit) ⊕ (Int)) (fun t =>
 bif decide (t < (List.length l : Int)) then
 chk (decide ((0 : Int) ≤ t) && decide (t < (List.length l : Int))) (
 bif ((lget 0 l t) != 0) then
 Option.map Sum.inr (Option.map Sum.inr (
 some (lget 0 l t)))
 else
 some (.inl (wi64 (t + 1))))
 else
 some (.inr (.inl ()))) 0).bind fun j => match j with
 | .inl _ => (
 some 0)
 | .inr r => some r
theorem le_model_first (l : (List Int)) : Lq (E_model_first l) (model_first l) := by
  unfold E_model_first model_first
  repeat' with_reducible first | exact lq_refl _ | apply le_cat | apply lq_bind | apply lq_loop | apply lq_cond | apply lq_chk | apply lq_map | (refine lq_sumfun (fun _ => ?_) (fun _ => ?_) <;> dsimp only) | (intro _; try dsimp only) | dsimp only
noncomputable def E_model_within (n : Int) (lo : Int) (hi : Int) : Option (Bool) :=
 let t : Bool := ((decide (lo ≤ n)) && (decide (n ≤ hi)))
 some t
theorem le_model_within (n : Int) (lo : Int) (hi : Int) : Lq (E_model_within n lo hi) (model_within n lo hi) := by
  unfold E_model_within model_within
  repeat' with_reducible first | exact lq_refl _ | apply le_cat | apply lq_bind | apply lq_loop | apply lq_cond | apply lq_chk | apply lq_map | (refine lq_sumfun (fun _ => ?_) (fun _ => ?_) <;> dsimp only) | (intro _; try dsimp only) | dsimp only
noncomputable def E_model_isX (n : Int) : Option (Bool) :=
 (E_model_within n 0 20000).bind fun (t : Bool) =>
 some t
theorem le_model_isX (n : Int) : Lq (E_model_isX n) (model_isX n) := by
  unfold E_model_isX model_isX
  repeat' with_reducible first | exact lq_refl _ | apply le_model_within | apply le_cat | apply lq_bind | apply lq_loop | apply lq_cond | apply lq_chk | apply lq_map | (refine lq_sumfun (fun _ => ?_) (fun _ => ?_) <;> dsimp only) | (intro _; try dsimp only) | dsimp only
noncomputable def E_model_CheckTable (l : (List Dapi_ModelCorrection)) : Option (Int × Int) :=
 (E_model_unless (decide ((List.length l : Int) > 0)) 10).bind fun (t : Int) =>
 (E_model_unless (decide ((List.length l : Int) ≤ 12)) 8).bind fun (t_1 : Int) =>
 (E_model_first [t, t_1]).bind fun (t_2 : Int) =>
 bif (t_2 != 0) then
 some (0, t_2)
 else
 (loopE (S := Int) (R := (Unit) ⊕ (Int × Int)) (fun t_3 =>
 bif decide (t_3 < (List.length l : Int)) then
 chk (decide ((0 : Int) ≤ t_3) && decide (t_3 < (List.length l : Int))) (
 (E_model_isX ((lget (0, 0) l t_3).1)).bind fun (t_4 : Bool) =>
 (bif t_4 then
 (E_model_within ((lget (0, 0) l t_3).2) 1 100000).bind fun (t_5 : Bool) =>
 some t_5
 else some false).bind fun (c : Bool) =>
 (E_model_unless c 2).bind fun (t_6 : Int) =>
 (bif (t_3 == 0) then some true else
 chk (decide ((0 : Int) ≤ (imax 0 (wi64 (t_3 - 1)))) && decide ((imax 0 (wi64 (t_3 - 1))) < (List.length l : Int))) (
 some (decide (((lget (0, 0) l t_3).1) > ((lget (0, 0) l (imax 0 (wi64 (t_3 - 1)))).1))))).bind fun (c_1 : Bool) =>
 (E_model_unless c_1 9).bind fun (t_7 : Int) =>
 (E_model_first [t_6, t_7]).bind fun (t_8 : Int) =>
 bif (t_8 != 0) then
 Option.map Sum.inr (Option.map Sum.inr (
 some (t_3, t_8)))
 else
 some (.inl (wi64 (t_3 + 1))))
 else
 some (.inr (.inl ()))) 0).bind fun j => match j with
 | .inl _ => (
 some (0, 0))
 | .inr r => some r
theorem le_model_CheckTable (l : (List Dapi_ModelCorrection)) : Lq (E_model_CheckTable l) (model_CheckTable l) := by
  unfold E_model_CheckTable model_CheckTable
  repeat' with_reducible first | exact lq_refl _ | apply le_model_unless | apply le_model_first | apply le_model_within | apply le_model_isX | apply le_cat | apply lq_bind | apply lq_loop | apply lq_cond | apply lq_chk | apply lq_map | (refine lq_sumfun (fun _ => ?_) (fun _ => ?_) <;> dsimp only) | (intro _; try dsimp only) | dsimp only
noncomputable def E_model_CheckRules_1 (n : Int) : Option (Bool) :=
 (E_model_within n 1 900).bind fun (t : Bool) =>
 some t
theorem le_model_CheckRules_1 (n : Int) : Lq (E_model_CheckRules_1 n) (model_CheckRules_1 n) := by
  unfold E_model_CheckRules_1 model_CheckRules_1
  repeat' with_reducible first | exact lq_refl _ | apply le_model_within | apply le_cat | apply lq_bind | apply lq_loop | apply lq_cond | apply lq_chk | apply lq_map | (refine lq_sumfun (fun _ => ?_) (fun _ => ?_) <;> dsimp only) | (intro _; try dsimp only) | dsimp only
noncomputable def E_model_divisor (a : Int) (b : Int) : Option (Int) :=
 (loopE (S := Int × Int) (R := Int) (fun s =>
 let a_1 : Int := s.1
 let b_1 : Int := s.2
 bif (b_1 != 0) then
 chk (b_1 != 0) (
 some (.inl (b_1, Int.tmod a_1 b_1)))
 else
 some (.inr a_1)) (a, b)).bind fun (a_2 : Int) =>
 let t : Int := imax a_2 (wi64 (0 - a_2))
 some t
theorem le_model_divisor (a : Int) (b : Int) : Lq (E_model_divisor a b) (model_divisor a b) := by
  unfold E_model_divisor model_divisor
  repeat' with_reducible first | exact lq_refl _ | apply le_cat | apply lq_bind | apply lq_loop | apply lq_cond | apply lq_chk | apply lq_map | (refine lq_sumfun (fun _ => ?_) (fun _ => ?_) <;> dsimp only) | (intro _; try dsimp only) | dsimp only
noncomputable def E_model_isLowest (f : Dapi_ModelCorrection) : Option (Bool) :=
 (bif decide (f.2 > 0) then
 (E_model_divisor f.1 f.2).bind fun (t : Int) =>
 some (t == 1)
 else some false).bind fun (c : Bool) =>
 some c
theorem le_model_isLowest (f : Dapi_ModelCorrection) : Lq (E_model_isLowest f) (model_isLowest f) := by
  unfold E_model_isLowest model_isLowest
  repeat' with_reducible first | exact lq_refl _ | apply le_model_divisor | apply le_cat | apply lq_bind | apply lq_loop | apply lq_cond | apply lq_chk | apply lq_map | (refine lq_sumfun (fun _ => ?_) (fun _ => ?_) <;> dsimp only) | (intro _; try dsimp only) | dsimp only
noncomputable def E_model_CheckRules (r : Dapi_ModelRules) : Option (Int × Int) :=
 (E_model_CheckTable r.1).bind fun (r_1 : Int × Int) =>
 bif (r_1.2 != 0) then
 some (r_1.1, r_1.2)
 else
 (E_model_within r.2.2.2 0 900).bind fun (t : Bool) =>
 (loopE (S := Bool × Int) (R := Bool) (fun s =>
 let right_ : Bool := s.1
 let t_1 : Int := s.2
 bif decide (t_1 < 2) then
 chk (decide ((0 : Int) ≤ t_1) && decide ((t_1 : Int) < 2)) (
 let f : Dapi_ModelCorrection := aget (aset (aset (fun _ => (0, 0)) 0 r.2.1) 1 r.2.2.1) t_1
 (bif right_ then
 (E_model_CheckRules_1 f.1).bind fun (t_2 : Bool) =>
 some t_2
 else some false).bind fun (c : Bool) =>
 (bif c then
 (E_model_CheckRules_1 f.2).bind fun (t_3 : Bool) =>
 some t_3
 else some false).bind fun (c_1 : Bool) =>
 some (.inl (c_1, wi64 (t_1 + 1))))
 else
 some (.inr right_)) (t, 0)).bind fun (right__1 : Bool) =>
 (E_model_isLowest r.2.1).bind fun (t_4 : Bool) =>
 (bif t_4 then
 (E_model_isLowest r.2.2.1).bind fun (t_5 : Bool) =>
 some t_5
 else some false).bind fun (c_2 : Bool) =>
 (E_model_unless c_2 3).bind fun (t_6 : Int) =>
 (E_model_unless right__1 2).bind fun (t_7 : Int) =>
 (E_model_first [t_6, t_7]).bind fun (t_8 : Int) =>
 some (0, t_8)
theorem le_model_CheckRules (r : Dapi_ModelRules) : Lq (E_model_CheckRules r) (model_CheckRules r) := by
  unfold E_model_CheckRules model_CheckRules
  repeat' with_reducible first | exact lq_refl _ | apply le_model_unless | apply le_model_first | apply le_model_within | apply le_model_CheckTable | apply le_model_CheckRules_1 | apply le_model_isLowest | apply le_cat | apply lq_bind | apply lq_loop | apply lq_cond | apply lq_chk | apply lq_map | (refine lq_sumfun (fun _ => ?_) (fun _ => ?_) <;> dsimp only) | (intro _; try dsimp only) | dsimp only
noncomputable def E_model_ParseRules (s : ByteArray) : Option (Dapi_ModelRules × Int) :=
 bif decide (s.size ≤ 1000000) then (strings_Split s (bytes [32])).bind fun w => match w with
 | a :: b :: c :: l => (E_model_pair a (bytes [47])).bind fun x => (E_model_pair b (bytes [47])).bind fun y => (E_model_number c).bind fun n =>
 (E_knotsF l [] ((x.2.2 && y.2.2) && n.2)).bind fun t => bif !t.2 then some (noModel, 7) else
 (E_model_CheckRules (t.1, ((x.1, x.2.1), ((y.1, y.2.1), n.1)))).bind fun e => bif e.2 != 0 then some (noModel, e.2) else some ((t.1, ((x.1, x.2.1), ((y.1, y.2.1), n.1))), 0)
 | _ => some (noModel, 7)
 else none
theorem le_model_ParseRules (s : ByteArray) : Lq (E_model_ParseRules s) (model_ParseRules s) := by
  unfold E_model_ParseRules model_ParseRules
  refine lq_cond (lq_bind (lq_refl _) fun w => ?_) (lq_refl _)
  match w with
  | [] => exact lq_refl _
  | [_] => exact lq_refl _
  | [_, _] => exact lq_refl _
  | a :: b :: c :: l => exact lq_bind (le_model_pair _ _) fun x => lq_bind (le_model_pair _ _) fun y => lq_bind (le_model_number _) fun n => lq_bind (le_knotsF _ _ _) fun t => lq_cond (lq_refl _) (lq_bind (le_model_CheckRules _) fun e => lq_refl _)
noncomputable def E_mill_open (p : Dapi_MillPlant) : Option (Dmill_works × Int × Int) :=
 (E_mill_unless (decide ((List.length p.1 : Int) > 0)) 10).bind fun (t : Int) =>
 (E_mill_unless (decide ((List.length p.1 : Int) ≤ 8)) 8).bind fun (t_1 : Int) =>
 (E_mill_first [t, t_1]).bind fun (t_2 : Int) =>
 bif (t_2 != 0) then
 some ((p, ((0, (0, (0, ((0, 0), (0, ([], ((0, 0), (0, 0)))))))), ([], ((0, 0), ((0, 0), 0))))), 0, t_2)
 else
 (E_mill_named_apiMillPerson p.1 (fun x => E_mill_open_2 x) (fun x => E_mill_open_1 x)).bind fun (r : Int × Int) =>
 bif (r.2 != 0) then
 some ((p, ((0, (0, (0, ((0, 0), (0, ([], ((0, 0), (0, 0)))))))), ([], ((0, 0), ((0, 0), 0))))), r.1, r.2)
 else
 (E_mill_unless (decide ((List.length p.2.1 : Int) ≥ 2)) 10).bind fun (t_3 : Int) =>
 (E_mill_unless (decide ((List.length p.2.1 : Int) ≤ 6)) 8).bind fun (t_4 : Int) =>
 (E_mill_first [t_3, t_4]).bind fun (t_5 : Int) =>
 bif (t_5 != 0) then
 some ((p, ((0, (0, (0, ((0, 0), (0, ([], ((0, 0), (0, 0)))))))), ([], ((0, 0), ((0, 0), 0))))), 0, t_5)
 else
 (E_mill_named_string p.2.1 (fun x => E_mill_open_3 x) (fun x => E_mill_open_4 x)).bind fun (r_1 : Int × Int) =>
 bif (r_1.2 != 0) then
 some ((p, ((0, (0, (0, ((0, 0), (0, ([], ((0, 0), (0, 0)))))))), ([], ((0, 0), ((0, 0), 0))))), r_1.1, r_1.2)
 else
 (E_pass_ParseRules p.2.2.1).bind fun (r_2 : Dapi_PassRules × Int) =>
 (E_model_ParseRules p.2.2.2).bind fun (r_3 : Dapi_ModelRules × Int) =>
 (E_mill_unless ((List.length r_2.1.2.2.2.2.2.1 : Int) == (List.length p.2.1 : Int)) 13).bind fun (t_6 : Int) =>
 (E_mill_first [r_2.2, r_3.2, t_6]).bind fun (t_7 : Int) =>
 some ((p, (r_2.1, r_3.1)), 0, t_7)
theorem le_mill_open (p : Dapi_MillPlant) : Lq (E_mill_open p) (mill_open p) := by
  unfold E_mill_open mill_open
  repeat' with_reducible first | exact lq_refl _ | apply le_mill_unless | apply le_mill_first | apply le_mill_named_apiMillPerson | apply le_mill_open_2 | apply le_mill_open_1 | apply le_mill_named_string | apply le_mill_open_3 | apply le_mill_open_4 | apply le_pass_ParseRules | apply le_model_ParseRules | apply le_cat | apply lq_bind | apply lq_loop | apply lq_cond | apply lq_chk | apply lq_map | (refine lq_sumfun (fun _ => ?_) (fun _ => ?_) <;> dsimp only) | (intro _; try dsimp only) | dsimp only
end Go.Lift
namespace Go.Lift
open Go
noncomputable def plantV : Dapi_MillPlant := ([((bytes [111, 108, 97]), 1), ((bytes [116, 111, 109]), 2), ((bytes [109, 105, 97]), 3)], ([(bytes [102, 49]), (bytes [102, 50])], (bytes [49, 48, 32, 49, 48, 48, 32, 54, 48, 32, 49, 48, 48, 48, 48, 32, 49, 48, 48, 48, 48, 32, 57, 48, 48, 48, 32, 50, 32, 51, 32, 55, 32, 56, 32, 59, 32, 51, 48, 48, 32, 50, 48, 48, 48, 48, 32, 52, 48, 48, 48, 48, 48, 32, 48, 32, 49, 48, 48, 32, 59, 32, 51, 48, 48, 32, 50, 48, 48, 48, 48, 32, 52, 48, 48, 48, 48, 48, 32, 48, 32, 49, 48, 48], bytes [49, 47, 50, 32, 49, 47, 52, 32, 52, 32, 56, 48, 48, 48, 64, 50, 48, 48, 32, 57, 48, 48, 48, 64, 49, 48, 48, 32, 49, 48, 48, 48, 48, 64, 54, 48])))
theorem plant_true : cobblelaw10_Plant = some plantV := by kernel_rfl
theorem open_plant : ∃ ru, mill_open plantV = some ((plantV, ru), 0, 0) := by
  have h : (E_mill_open plantV).map (fun r => (r.1.1, r.2.1, r.2.2)) = some (plantV, 0, 0) := by kernel_rfl
  obtain ⟨⟨⟨a, ru⟩, i, e⟩, h1, h2⟩ := Option.map_eq_some_iff.1 h
  simp only [Prod.mk.injEq] at h2
  obtain ⟨rfl, rfl, rfl⟩ := h2
  exact ⟨ru, le_mill_open _ _ h1⟩
end Go.Lift
namespace Go.Lift
open Go
noncomputable def E_mill_sum (s : ByteArray) (after : Int) : Option (Int) :=
  (loopE (S := Int × Int) (R := Int) (fun s_1 =>
    let after_1 : Int := s_1.1
    let t : Int := s_1.2
    bif decide (t < (List.length (sbytes s) : Int)) then
      chk (decide ((0 : Int) ≤ t) && decide (t < (List.length (sbytes s) : Int))) (
        let c : Int := lget 0 (sbytes s) t
        chk (1000033 != 0) (
          let t_1 : Int := Int.tmod (wi64 ((wi64 ((wi64 (after_1 * 137)) + (wi64 c))) + 1)) 1000033
          some (.inl (t_1, wi64 (t + 1)))))
    else
      some (.inr after_1)) (after, 0)).bind fun (after_2 : Int) =>
  some after_2
theorem le_mill_sum (s : ByteArray) (after : Int) : Lq (E_mill_sum s after) (mill_sum s after) := by
  unfold E_mill_sum mill_sum
  repeat' with_reducible first | exact lq_refl _ | apply le_cat | apply lq_bind | apply lq_loop | apply lq_cond | apply lq_chk | apply lq_map | (refine lq_sumfun (fun _ => ?_) (fun _ => ?_) <;> dsimp only) | (intro _; try dsimp only) | dsimp only
noncomputable def E_mill_SumOf (s : ByteArray) (after : Int) : Option (Int × Int) :=
  (E_mill_within after 0 1000032).bind fun (t : Bool) =>
  bif !t then
    some (0, 2)
  else
    (E_mill_sum s after).bind fun (t_1 : Int) =>
    some (t_1, 0)
theorem le_mill_SumOf (s : ByteArray) (after : Int) : Lq (E_mill_SumOf s after) (mill_SumOf s after) := by
  unfold E_mill_SumOf mill_SumOf
  repeat' with_reducible first | exact lq_refl _ | apply le_mill_within | apply le_mill_sum | apply le_cat | apply lq_bind | apply lq_loop | apply lq_cond | apply lq_chk | apply lq_map | (refine lq_sumfun (fun _ => ?_) (fun _ => ?_) <;> dsimp only) | (intro _; try dsimp only) | dsimp only
end Go.Lift
