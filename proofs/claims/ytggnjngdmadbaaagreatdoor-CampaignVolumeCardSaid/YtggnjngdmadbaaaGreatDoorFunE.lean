/-
  The chapter's examples.
-/
import Derived.Test.YtggnjngdmadbaaaGreatDoorPlainA
import Derived.KernelRfl
set_option linter.unusedSectionVars false
set_option linter.unusedVariables false
set_option linter.unusedSimpArgs false
namespace Go.Lift
open Go
def Lq {A : Type} (a b : Option A) : Prop := ∀ v, a = some v → b = some v
theorem lq_refl {A : Type} (a : Option A) : Lq a a := fun _ h => h
theorem lq_bind {A B : Type} {a a' : Option A} {f f' : A → Option B} (h : Lq a a') (k : ∀ x, Lq (f x) (f' x)) : Lq (a.bind f) (a'.bind f') := by
  intro v hv
  obtain ⟨x, hx, hf⟩ := Option.bind_eq_some_iff.1 hv
  exact Option.bind_eq_some_iff.2 ⟨x, h x hx, k x v hf⟩
theorem lq_cond {A : Type} {c : Bool} {a a' b b' : Option A} (h : Lq a a') (k : Lq b b') : Lq (bif c then a else b) (bif c then a' else b') := by
  cases c <;> assumption
theorem lq_chk {A : Type} {c : Bool} {a a' : Option A} (h : Lq a a') : Lq (chk c a) (chk c a') := by
  unfold chk
  exact lq_cond h (lq_refl _)
theorem lq_map {A B : Type} {g : A → B} {a a' : Option A} (h : Lq a a') : Lq (Option.map g a) (Option.map g a') := by
  intro v hv
  obtain ⟨x, hx, hf⟩ := Option.map_eq_some_iff.1 hv
  exact Option.map_eq_some_iff.2 ⟨x, h x hx, hf⟩
def loopE {S R : Type} (f : S → Option (S ⊕ R)) (s : S) : Option R := loopN f 300 s
theorem lq_loopN {S R : Type} {f f' : S → Option (S ⊕ R)} (h : ∀ s, Lq (f s) (f' s)) : ∀ (n : Nat) (s : S), Lq (loopN f n s) (loopN f' n s)
  | 0, s => fun v hv => by simp [loopN] at hv
  | n + 1, s => fun v hv => by
    unfold loopN at hv ⊢
    cases hf : f s with
    | none => rw [hf] at hv; cases hv
    | some j =>
      rw [hf] at hv
      rw [h s j hf]
      cases j with
      | inl s' => exact lq_loopN h n s' v hv
      | inr r => exact hv
theorem lq_loop {S R : Type} {f f' : S → Option (S ⊕ R)} {s : S} (h : ∀ s, Lq (f s) (f' s)) : Lq (loopE f s) (loopM f' s) :=
  fun _ hv => loopM_of (lq_loopN h 300 s _ hv)
theorem lq_sumfun {A B C : Type} {f g : A ⊕ B → Option C} (h1 : ∀ a, Lq (f (.inl a)) (g (.inl a))) (h2 : ∀ b, Lq (f (.inr b)) (g (.inr b))) : ∀ j, Lq (f j) (g j) := by
  intro j
  cases j with
  | inl a => exact h1 a
  | inr b => exact h2 b
def seqbE (a b : ByteArray) : Bool := a.data.toList == b.data.toList
def catE (a b : ByteArray) : Option ByteArray := if a.size + b.size ≤ 4294967296 then some ⟨(a.data.toList ++ b.data.toList).toArray⟩ else none
theorem toList_loop (b : ByteArray) : b.toList = b.data.toList := by
  have h : ∀ (n i : Nat) (r : List UInt8), b.size - i = n → ByteArray.toList.loop b i r = r.reverse ++ b.data.toList.drop i := by
    intro n
    induction n with
    | zero =>
      intro i r hn
      unfold ByteArray.toList.loop
      rw [if_neg (by omega), List.drop_eq_nil_of_le (show b.data.toList.length ≤ i by show b.size ≤ i; omega), List.append_nil]
    | succ n ih =>
      intro i r hn
      unfold ByteArray.toList.loop
      have hi : i < b.size := by omega
      rw [if_pos hi, ih (i + 1) _ (by omega)]
      have hi2 : i < b.data.toList.length := hi
      rw [List.drop_eq_getElem_cons hi2, List.reverse_cons, List.append_assoc]
      congr 1
      show [b.get! i] ++ _ = _
      have : b.get! i = b.data.toList[i] := by
        unfold ByteArray.get!
        show b.data[i]! = _
        rw [getElem!_pos b.data i hi]
        rfl
      rw [this]; rfl
  have := h b.size 0 [] rfl
  rw [List.reverse_nil, List.nil_append, List.drop_zero] at this
  exact this
theorem seqb_eq (a b : ByteArray) : seqb a b = seqbE a b := by unfold seqb seqbE; rw [toList_loop, toList_loop]
theorem le_cat (a b : ByteArray) : Lq (catE a b) (cat a b) := by
  intro v hv
  unfold catE at hv
  unfold cat
  split at hv
  · rename_i h
    rw [if_pos h]
    rw [← hv]
    congr 1
  · cases hv
def E_strconv_Itoa (n : Int) : Option ByteArray :=
 bif n == 3 then some (bytes [51]) else bif n == 5 then some (bytes [53]) else bif n == 12 then some (bytes [49, 50]) else bif n == 50 then some (bytes [53, 48]) else bif n == 1200 then some (bytes [49, 50, 48, 48]) else none
theorem le_strconv_Itoa (n : Int) : Lq (E_strconv_Itoa n) (strconv_Itoa n) := by
  intro v hv
  unfold E_strconv_Itoa at hv
  by_cases h3 : n = 3
  · subst h3
    have e : some (bytes [51]) = some v := hv
    rw [← e]
    simp [strconv_Itoa, Lib.itoa, Lib.decDigits, bytes]
  rw [show (n == 3) = false by rw [beq_eq_false_iff_ne]; exact h3, cond_false] at hv
  by_cases h5 : n = 5
  · subst h5
    have e : some (bytes [53]) = some v := hv
    rw [← e]
    simp [strconv_Itoa, Lib.itoa, Lib.decDigits, bytes]
  rw [show (n == 5) = false by rw [beq_eq_false_iff_ne]; exact h5, cond_false] at hv
  by_cases h12 : n = 12
  · subst h12
    have e : some (bytes [49, 50]) = some v := hv
    rw [← e]
    simp [strconv_Itoa, Lib.itoa, Lib.decDigits, bytes]
  rw [show (n == 12) = false by rw [beq_eq_false_iff_ne]; exact h12, cond_false] at hv
  by_cases h50 : n = 50
  · subst h50
    have e : some (bytes [53, 48]) = some v := hv
    rw [← e]
    simp [strconv_Itoa, Lib.itoa, Lib.decDigits, bytes]
  rw [show (n == 50) = false by rw [beq_eq_false_iff_ne]; exact h50, cond_false] at hv
  by_cases h1200 : n = 1200
  · subst h1200
    have e : some (bytes [49, 50, 48, 48]) = some v := hv
    rw [← e]
    simp [strconv_Itoa, Lib.itoa, Lib.decDigits, bytes]
  rw [show (n == 1200) = false by rw [beq_eq_false_iff_ne]; exact h1200, cond_false] at hv
  cases hv
noncomputable def E_strconv_Atoi (s : ByteArray) : Option (Int × Bool) := strconv_Atoi s
theorem le_strconv_Atoi (s : ByteArray) : Lq (E_strconv_Atoi s) (strconv_Atoi s) := lq_refl _
noncomputable def E_campaign_within (n : Int) (lo : Int) (hi : Int) : Option (Bool) :=
 let t : Bool := ((decide (lo ≤ n)) && (decide (n ≤ hi)))
 some t
theorem le_campaign_within (n : Int) (lo : Int) (hi : Int) : Lq (E_campaign_within n lo hi) (campaign_within n lo hi) := by
  unfold E_campaign_within campaign_within
  repeat' with_reducible first | exact lq_refl _ | apply le_cat | apply lq_bind | apply lq_loop | apply lq_cond | apply lq_chk | apply lq_map | (refine lq_sumfun (fun _ => ?_) (fun _ => ?_) <;> dsimp only) | (intro _; try dsimp only) | dsimp only
noncomputable def E_campaign_isName (s : ByteArray) : Option (Bool) :=
 (loopE (S := Int) (R := (Unit) ⊕ (Bool)) (fun t =>
 bif decide (t < (List.length (sbytes s) : Int)) then
 chk (decide ((0 : Int) ≤ t) && decide (t < (List.length (sbytes s) : Int))) (
 let c : Int := lget 0 (sbytes s) t
 (E_campaign_within (wi64 c) 97 122).bind fun (t_1 : Bool) =>
 (bif t_1 then some true else
 (E_campaign_within (wi64 c) 65 90).bind fun (t_2 : Bool) =>
 some t_2).bind fun (c_1 : Bool) =>
 (bif !c_1 then
 (bif (t == 0) then some true else
 (bif (c != 45) then
 (E_campaign_within (wi64 c) 48 57).bind fun (t_3 : Bool) =>
 some (!t_3)
 else some false).bind fun (c_2 : Bool) =>
 some c_2).bind fun (c_3 : Bool) =>
 some c_3
 else some false).bind fun (c_4 : Bool) =>
 bif c_4 then
 Option.map Sum.inr (Option.map Sum.inr (
 some false))
 else
 some (.inl (wi64 (t + 1))))
 else
 some (.inr (.inl ()))) 0).bind fun j => match j with
 | .inl _ => (
 (E_campaign_within (ByteArray.size s : Int) 1 12).bind fun (t_4 : Bool) =>
 some t_4)
 | .inr r => some r
theorem le_campaign_isName (s : ByteArray) : Lq (E_campaign_isName s) (campaign_isName s) := by
  unfold E_campaign_isName campaign_isName
  repeat' with_reducible first | exact lq_refl _ | apply le_campaign_within | apply le_cat | apply lq_bind | apply lq_loop | apply lq_cond | apply lq_chk | apply lq_map | (refine lq_sumfun (fun _ => ?_) (fun _ => ?_) <;> dsimp only) | (intro _; try dsimp only) | dsimp only
noncomputable def E_campaign_isGrade (n : Int) : Option (Bool) :=
 (E_campaign_within n 1 99).bind fun (t : Bool) =>
 some t
theorem le_campaign_isGrade (n : Int) : Lq (E_campaign_isGrade n) (campaign_isGrade n) := by
  unfold E_campaign_isGrade campaign_isGrade
  repeat' with_reducible first | exact lq_refl _ | apply le_campaign_within | apply le_cat | apply lq_bind | apply lq_loop | apply lq_cond | apply lq_chk | apply lq_map | (refine lq_sumfun (fun _ => ?_) (fun _ => ?_) <;> dsimp only) | (intro _; try dsimp only) | dsimp only
noncomputable def E_campaign_isThickness (n : Int) : Option (Bool) :=
 (E_campaign_within n 1 300000).bind fun (t : Bool) =>
 some t
theorem le_campaign_isThickness (n : Int) : Lq (E_campaign_isThickness n) (campaign_isThickness n) := by
  unfold E_campaign_isThickness campaign_isThickness
  repeat' with_reducible first | exact lq_refl _ | apply le_campaign_within | apply le_cat | apply lq_bind | apply lq_loop | apply lq_cond | apply lq_chk | apply lq_map | (refine lq_sumfun (fun _ => ?_) (fun _ => ?_) <;> dsimp only) | (intro _; try dsimp only) | dsimp only
noncomputable def E_campaign_isWidth (n : Int) : Option (Bool) :=
 (E_campaign_within n 500 2500).bind fun (t : Bool) =>
 some t
theorem le_campaign_isWidth (n : Int) : Lq (E_campaign_isWidth n) (campaign_isWidth n) := by
  unfold E_campaign_isWidth campaign_isWidth
  repeat' with_reducible first | exact lq_refl _ | apply le_campaign_within | apply le_cat | apply lq_bind | apply lq_loop | apply lq_cond | apply lq_chk | apply lq_map | (refine lq_sumfun (fun _ => ?_) (fun _ => ?_) <;> dsimp only) | (intro _; try dsimp only) | dsimp only
noncomputable def E_campaign_isHeat (n : Int) : Option (Bool) :=
 (E_campaign_within n 0 20000).bind fun (t : Bool) =>
 some t
theorem le_campaign_isHeat (n : Int) : Lq (E_campaign_isHeat n) (campaign_isHeat n) := by
  unfold E_campaign_isHeat campaign_isHeat
  repeat' with_reducible first | exact lq_refl _ | apply le_campaign_within | apply le_cat | apply lq_bind | apply lq_loop | apply lq_cond | apply lq_chk | apply lq_map | (refine lq_sumfun (fun _ => ?_) (fun _ => ?_) <;> dsimp only) | (intro _; try dsimp only) | dsimp only
noncomputable def E_campaign_unless (is : Bool) (e : Int) : Option (Int) :=
 bif is then
 some 0
 else
 some e
theorem le_campaign_unless (is : Bool) (e : Int) : Lq (E_campaign_unless is e) (campaign_unless is e) := by
  unfold E_campaign_unless campaign_unless
  repeat' with_reducible first | exact lq_refl _ | apply le_cat | apply lq_bind | apply lq_loop | apply lq_cond | apply lq_chk | apply lq_map | (refine lq_sumfun (fun _ => ?_) (fun _ => ?_) <;> dsimp only) | (intro _; try dsimp only) | dsimp only
noncomputable def E_campaign_first (l : (List Int)) : Option (Int) :=
 (loopE (S := Int) (R := (Unit) ⊕ (Int)) (fun t =>
 bif decide (t < (List.length l : Int)) then
 chk (decide ((0 : Int) ≤ t) && decide (t < (List.length l : Int))) (
 bif ((lget 0 l t) != 0) then
 Option.map Sum.inr (Option.map Sum.inr (
 some (lget 0 l t)))
 else
 some (.inl (wi64 (t + 1))))
 else
 some (.inr (.inl ()))) 0).bind fun j => match j with
 | .inl _ => (
 some 0)
 | .inr r => some r
theorem le_campaign_first (l : (List Int)) : Lq (E_campaign_first l) (campaign_first l) := by
  unfold E_campaign_first campaign_first
  repeat' with_reducible first | exact lq_refl _ | apply le_cat | apply lq_bind | apply lq_loop | apply lq_cond | apply lq_chk | apply lq_map | (refine lq_sumfun (fun _ => ?_) (fun _ => ?_) <;> dsimp only) | (intro _; try dsimp only) | dsimp only
noncomputable def E_campaign_CheckOrder (o : Dapi_CampaignOrder) : Option (Int) :=
 (E_campaign_isGrade o.2.1).bind fun (t : Bool) =>
 (bif t then
 (E_campaign_isThickness o.2.2.1).bind fun (t_1 : Bool) =>
 some t_1
 else some false).bind fun (c : Bool) =>
 (bif c then
 (E_campaign_within o.2.2.2.1 0 (wi64 (o.2.2.1 - 1))).bind fun (t_2 : Bool) =>
 some t_2
 else some false).bind fun (c_1 : Bool) =>
 (bif c_1 then
 (E_campaign_isWidth o.2.2.2.2.1).bind fun (t_3 : Bool) =>
 some t_3
 else some false).bind fun (c_2 : Bool) =>
 (bif c_2 then
 (E_campaign_isHeat o.2.2.2.2.2.1.1).bind fun (t_4 : Bool) =>
 some t_4
 else some false).bind fun (c_3 : Bool) =>
 (bif c_3 then
 (E_campaign_isHeat o.2.2.2.2.2.1.2).bind fun (t_5 : Bool) =>
 some t_5
 else some false).bind fun (c_4 : Bool) =>
 (E_campaign_isName o.1).bind fun (t_6 : Bool) =>
 (E_campaign_unless t_6 4).bind fun (t_7 : Int) =>
 (E_campaign_unless c_4 2).bind fun (t_8 : Int) =>
 (E_campaign_unless (decide (o.2.2.2.2.2.1.1 ≤ o.2.2.2.2.2.1.2)) 9).bind fun (t_9 : Int) =>
 chk (10 != 0) (
 let t_10 : Int := Int.tmod o.2.2.2.2.2.1.1 10
 (bif (t_10 == 0) then
 chk (10 != 0) (
 let t_11 : Int := Int.tmod o.2.2.2.2.2.1.2 10
 some (t_11 == 0))
 else some false).bind fun (c_5 : Bool) =>
 (E_campaign_unless c_5 3).bind fun (t_12 : Int) =>
 (E_campaign_within o.2.2.2.2.2.2 0 100000).bind fun (t_13 : Bool) =>
 (E_campaign_unless t_13 2).bind fun (t_14 : Int) =>
 (E_campaign_first [t_7, t_8, t_9, t_12, t_14]).bind fun (t_15 : Int) =>
 some t_15)
theorem le_campaign_CheckOrder (o : Dapi_CampaignOrder) : Lq (E_campaign_CheckOrder o) (campaign_CheckOrder o) := by
  unfold E_campaign_CheckOrder campaign_CheckOrder
  repeat' with_reducible first | exact lq_refl _ | apply le_campaign_within | apply le_campaign_isName | apply le_campaign_isGrade | apply le_campaign_isThickness | apply le_campaign_isWidth | apply le_campaign_isHeat | apply le_campaign_unless | apply le_campaign_first | apply le_cat | apply lq_bind | apply lq_loop | apply lq_cond | apply lq_chk | apply lq_map | (refine lq_sumfun (fun _ => ?_) (fun _ => ?_) <;> dsimp only) | (intro _; try dsimp only) | dsimp only
noncomputable def E_campaign_number (s : ByteArray) : Option (Int × Bool) :=
 (E_strconv_Atoi s).bind fun (r : Int × Bool) =>
 (bif (r.2 && (decide (r.1 ≥ 0))) then
 (E_strconv_Itoa r.1).bind fun (t : ByteArray) =>
 some (seqbE t s)
 else some false).bind fun (c : Bool) =>
 let t_1 : Bool := (c && (decide ((ByteArray.size s : Int) ≤ 6)))
 some (r.1, t_1)
theorem le_campaign_number (s : ByteArray) : Lq (E_campaign_number s) (campaign_number s) := by
  unfold E_campaign_number campaign_number
  try simp only [seqb_eq]
  repeat' with_reducible first | exact lq_refl _ | apply le_strconv_Atoi | apply le_strconv_Itoa | apply le_cat | apply lq_bind | apply lq_loop | apply lq_cond | apply lq_chk | apply lq_map | (refine lq_sumfun (fun _ => ?_) (fun _ => ?_) <;> dsimp only) | (intro _; try dsimp only) | dsimp only
noncomputable def E_rdNumber (ws : List ByteArray) (i : Int) : Option (Option Int) := (E_campaign_number (wordAt ws i)).bind fun r => some (bif r.2 then some r.1 else none)
theorem le_rdNumber (ws : List ByteArray) (i : Int) : Lq (E_rdNumber ws i) (rdNumber ws i) := lq_bind (le_campaign_number _) fun _ => lq_refl _
def E_rdUnit (us : List (ByteArray × Int)) (ws : List ByteArray) (i : Int) : Option Int := if i < (ws.length : Int) then (us.find? fun p => seqbE (wordAt ws i) p.1).map (·.2) else none
theorem E_rdUnit_eq (us : List (ByteArray × Int)) (ws : List ByteArray) (i : Int) : rdUnit us ws i = E_rdUnit us ws i := by
  unfold rdUnit E_rdUnit unitOf
  simp only [seqb_eq]
def E_clauseOf (w : ByteArray) : Option Nat := clauseWords.findIdx? fun c => seqbE c w
theorem E_clauseOf_eq (w : ByteArray) : clauseOf w = E_clauseOf w := by
  unfold clauseOf E_clauseOf
  simp only [seqb_eq]
noncomputable def E_rdMeasured (us : List (ByteArray × Int)) (ws : List ByteArray) (i : Int) : Option (Int ⊕ Int) :=
  (E_rdNumber ws i).bind fun n => match n with
    | none => some (.inl i)
    | some n => match E_rdUnit us ws (i + 1) with
      | none => some (.inl (i + 1))
      | some b => some (.inr (wi64 (n * b)))
theorem le_rdMeasured (us : List (ByteArray × Int)) (ws : List ByteArray) (i : Int) : Lq (E_rdMeasured us ws i) (rdMeasured us ws i) := by
  unfold rdMeasured E_rdMeasured
  simp only [E_rdUnit_eq]
  exact lq_bind (le_rdNumber _ _) fun _ => lq_refl _
noncomputable def E_rdClause (k : Nat) (ws : List ByteArray) (o : Dapi_CampaignOrder) (i : Int) : Option (Int ⊕ (Dapi_CampaignOrder × Int)) :=
  match k with
  | 0 => (E_rdNumber ws i).bind fun n => match n with
    | none => some (.inl i)
    | some n => some (.inr ((o.1, (n, o.2.2)), i + 1))
  | 1 => (E_rdMeasured unFine ws i).bind fun v => match v with
    | .inl j => some (.inl j)
    | .inr v => some (.inr ((o.1, (o.2.1, (v, o.2.2.2))), i + 2))
  | 2 => (E_rdMeasured unFine ws i).bind fun v => match v with
    | .inl j => some (.inl j)
    | .inr v => some (.inr ((o.1, (o.2.1, (o.2.2.1, (v, o.2.2.2.2)))), i + 2))
  | 3 => (E_rdMeasured unMm ws i).bind fun v => match v with
    | .inl j => some (.inl j)
    | .inr v => some (.inr ((o.1, (o.2.1, (o.2.2.1, (o.2.2.2.1, (v, o.2.2.2.2.2))))), i + 2))
  | 4 => (E_rdMeasured unTo ws i).bind fun v => match v with
    | .inl j => some (.inl j)
    | .inr v => (E_rdMeasured unC ws (i + 2)).bind fun u => match u with
      | .inl j => some (.inl j)
      | .inr u => some (.inr ((o.1, (o.2.1, (o.2.2.1, (o.2.2.2.1, (o.2.2.2.2.1, ((v, u), o.2.2.2.2.2.2)))))), i + 4))
  | _ => (E_rdNumber ws i).bind fun n => match n with
    | none => some (.inl i)
    | some n => some (.inr ((o.1, (o.2.1, (o.2.2.1, (o.2.2.2.1, (o.2.2.2.2.1, (o.2.2.2.2.2.1, n)))))), i + 1))
theorem le_rdClause (k : Nat) (ws : List ByteArray) (o : Dapi_CampaignOrder) (i : Int) : Lq (E_rdClause k ws o i) (rdClause k ws o i) := by
  match k with
  | 0 => exact lq_bind (le_rdNumber _ _) fun _ => lq_refl _
  | 1 => exact lq_bind (le_rdMeasured _ _ _) fun _ => lq_refl _
  | 2 => exact lq_bind (le_rdMeasured _ _ _) fun _ => lq_refl _
  | 3 => exact lq_bind (le_rdMeasured _ _ _) fun _ => lq_refl _
  | 4 =>
    refine lq_bind (le_rdMeasured _ _ _) fun v => ?_
    cases v with
    | inl _ => exact lq_refl _
    | inr _ => exact lq_bind (le_rdMeasured _ _ _) fun _ => lq_refl _
  | k + 5 => exact lq_bind (le_rdNumber _ _) fun _ => lq_refl _
noncomputable def E_rdClauses (ws : List ByteArray) : Nat → Dapi_CampaignOrder → Int → (Nat → Bool) → Option ((Int × Int) ⊕ (Dapi_CampaignOrder × (Nat → Bool)))
  | 0, _, _, _ => none
  | n + 1, o, i, given => if i < (ws.length : Int) then match E_clauseOf (wordAt ws i) with
      | none => some (.inl (i, 7))
      | some k => bif given k then some (.inl (i, 23)) else (E_rdClause k ws o (i + 1)).bind fun r => match r with
        | .inl j => some (.inl (j, 7))
        | .inr r => E_rdClauses ws n r.1 r.2 (upd given k true)
    else some (.inr (o, given))
theorem le_rdClauses (ws : List ByteArray) : ∀ (n : Nat) (o : Dapi_CampaignOrder) (i : Int) (given : Nat → Bool), Lq (E_rdClauses ws n o i given) (rdClauses ws n o i given)
  | 0, _, _, _ => lq_refl _
  | n + 1, o, i, given => by
    unfold E_rdClauses rdClauses
    rw [E_clauseOf_eq]
    split
    · cases E_clauseOf (wordAt ws i) with
      | none => exact lq_refl _
      | some k =>
        refine lq_cond (lq_refl _) (lq_bind (le_rdClause _ _ _ _) fun r => ?_)
        cases r with
        | inl _ => exact lq_refl _
        | inr r => exact le_rdClauses ws n _ _ _
    · exact lq_refl _
noncomputable def E_campaign_ParseOrder (s : ByteArray) : Option (Dapi_CampaignOrder × Int × Int) :=
  (strings_Split s (bytes [32])).bind fun ws => (E_campaign_isName (wordAt ws 0)).bind fun is => bif !is then some (noOrder, 0, 7) else
    (E_rdClauses ws (ws.length + 1) (wordAt ws 0, (0, (0, (0, (0, ((0, 20000), 0)))))) 1 (fun _ => false)).bind fun r => match r with
      | .inl f => some (noOrder, f.1, f.2)
      | .inr r => bif !(r.2 0 && r.2 1 && r.2 3) then some (noOrder, 0, 14) else (E_campaign_CheckOrder r.1).bind fun e => bif e != 0 then some (noOrder, 0, e) else some (r.1, 0, 0)
theorem le_campaign_ParseOrder (s : ByteArray) : Lq (E_campaign_ParseOrder s) (campaign_ParseOrder s) := by
  unfold E_campaign_ParseOrder campaign_ParseOrder
  refine lq_bind (lq_refl _) fun ws => lq_bind (le_campaign_isName _) fun is => lq_cond (lq_refl _) (lq_bind (le_rdClauses _ _ _ _ _) fun r => ?_)
  cases r with
  | inl _ => exact lq_refl _
  | inr r => exact lq_cond (lq_refl _) (lq_bind (le_campaign_CheckOrder _) fun _ => lq_refl _)
noncomputable def E_campaign_CheckSlab (s : Dapi_CampaignSlab) : Option (Int) :=
 (E_campaign_isGrade s.2.1).bind fun (t : Bool) =>
 (bif t then
 (E_campaign_isThickness s.2.2.1).bind fun (t_1 : Bool) =>
 some t_1
 else some false).bind fun (c : Bool) =>
 (bif c then
 (E_campaign_isWidth s.2.2.2.1).bind fun (t_2 : Bool) =>
 some t_2
 else some false).bind fun (c_1 : Bool) =>
 (bif c_1 then
 (E_campaign_within s.2.2.2.2 1 20000).bind fun (t_3 : Bool) =>
 some t_3
 else some false).bind fun (c_2 : Bool) =>
 (E_campaign_isName s.1).bind fun (t_4 : Bool) =>
 (E_campaign_unless t_4 4).bind fun (t_5 : Int) =>
 (E_campaign_unless c_2 2).bind fun (t_6 : Int) =>
 (E_campaign_first [t_5, t_6]).bind fun (t_7 : Int) =>
 some t_7
theorem le_campaign_CheckSlab (s : Dapi_CampaignSlab) : Lq (E_campaign_CheckSlab s) (campaign_CheckSlab s) := by
  unfold E_campaign_CheckSlab campaign_CheckSlab
  repeat' with_reducible first | exact lq_refl _ | apply le_campaign_within | apply le_campaign_isName | apply le_campaign_isGrade | apply le_campaign_isThickness | apply le_campaign_isWidth | apply le_campaign_unless | apply le_campaign_first | apply le_cat | apply lq_bind | apply lq_loop | apply lq_cond | apply lq_chk | apply lq_map | (refine lq_sumfun (fun _ => ?_) (fun _ => ?_) <;> dsimp only) | (intro _; try dsimp only) | dsimp only
noncomputable def E_campaign_suits (s : Dapi_CampaignSlab) (o : Dapi_CampaignOrder) : Option (Bool) :=
 (bif (s.2.1 == o.2.1) then
 (E_campaign_within s.2.2.2.1 o.2.2.2.2.1 (wi64 (o.2.2.2.2.1 + 100))).bind fun (t : Bool) =>
 some t
 else some false).bind fun (c : Bool) =>
 some c
theorem le_campaign_suits (s : Dapi_CampaignSlab) (o : Dapi_CampaignOrder) : Lq (E_campaign_suits s o) (campaign_suits s o) := by
  unfold E_campaign_suits campaign_suits
  repeat' with_reducible first | exact lq_refl _ | apply le_campaign_within | apply le_cat | apply lq_bind | apply lq_loop | apply lq_cond | apply lq_chk | apply lq_map | (refine lq_sumfun (fun _ => ?_) (fun _ => ?_) <;> dsimp only) | (intro _; try dsimp only) | dsimp only
noncomputable def E_campaign_CoilLength (s : Dapi_CampaignSlab) (o : Dapi_CampaignOrder) : Option (Dapi_Range × Int) :=
 (E_campaign_CheckSlab s).bind fun (t : Int) =>
 (E_campaign_CheckOrder o).bind fun (t_1 : Int) =>
 (E_campaign_suits s o).bind fun (t_2 : Bool) =>
 (E_campaign_unless t_2 13).bind fun (t_3 : Int) =>
 (E_campaign_first [t, t_1, t_3]).bind fun (t_4 : Int) =>
 bif (t_4 != 0) then
 some ((0, 0), t_4)
 else
 let volume : Int := wi64 ((wi64 (s.2.2.1 * s.2.2.2.1)) * s.2.2.2.2)
 let thin : Int := wi64 ((wi64 (o.2.2.1 - o.2.2.2.1)) * o.2.2.2.2.1)
 let thick : Int := wi64 ((wi64 (o.2.2.1 + o.2.2.2.1)) * o.2.2.2.2.1)
 chk (thick != 0) (
 let t_5 : Int := wi64 (Int.tdiv volume thick)
 chk (thin != 0) (
 let t_6 : Int := wi64 (Int.tdiv (wi64 ((wi64 (volume + thin)) - 1)) thin)
 some ((t_5, t_6), 0)))
theorem le_campaign_CoilLength (s : Dapi_CampaignSlab) (o : Dapi_CampaignOrder) : Lq (E_campaign_CoilLength s o) (campaign_CoilLength s o) := by
  unfold E_campaign_CoilLength campaign_CoilLength
  repeat' with_reducible first | exact lq_refl _ | apply le_campaign_unless | apply le_campaign_first | apply le_campaign_CheckOrder | apply le_campaign_CheckSlab | apply le_campaign_suits | apply le_cat | apply lq_bind | apply lq_loop | apply lq_cond | apply lq_chk | apply lq_map | (refine lq_sumfun (fun _ => ?_) (fun _ => ?_) <;> dsimp only) | (intro _; try dsimp only) | dsimp only
noncomputable def E_cobblelaw01_Yard  : Option ((List (List ByteArray))) :=
 let t : (List (List ByteArray)) := [[(bytes [97]), (bytes [98]), (bytes [99])], [(bytes [100])], []]
 some t
theorem le_cobblelaw01_Yard  : Lq (E_cobblelaw01_Yard ) (cobblelaw01_Yard ) := by
  unfold E_cobblelaw01_Yard cobblelaw01_Yard
  repeat' with_reducible first | exact lq_refl _ | apply le_cat | apply lq_bind | apply lq_loop | apply lq_cond | apply lq_chk | apply lq_map | (refine lq_sumfun (fun _ => ?_) (fun _ => ?_) <;> dsimp only) | (intro _; try dsimp only) | dsimp only
noncomputable def E_campaign_CheckYard (y : (List (List ByteArray))) : Option (Int × Int) :=
 (E_campaign_unless (decide ((List.length y : Int) > 0)) 10).bind fun (t : Int) =>
 (E_campaign_unless (decide ((List.length y : Int) ≤ 4)) 8).bind fun (t_1 : Int) =>
 (E_campaign_first [t, t_1]).bind fun (t_2 : Int) =>
 bif (t_2 != 0) then
 some (0, t_2)
 else
 (loopE (S := Int × (List (ByteArray × Bool))) (R := ((List (ByteArray × Bool))) ⊕ (Int × Int)) (fun s =>
 let t_3 : Int := s.1
 let t_4 : (List (ByteArray × Bool)) := s.2
 bif decide (t_3 < (List.length y : Int)) then
 chk (decide ((0 : Int) ≤ t_3) && decide (t_3 < (List.length y : Int))) (
 bif decide ((List.length (lget [] y t_3) : Int) > 6) then
 Option.map Sum.inr (Option.map Sum.inr (
 some (t_3, 8)))
 else
 (loopE (S := Int × (List (ByteArray × Bool))) (R := ((List (ByteArray × Bool))) ⊕ ((Int × (List (ByteArray × Bool))) ⊕ (((List (ByteArray × Bool))) ⊕ (Int × Int)))) (fun s_1 =>
 let t_5 : Int := s_1.1
 let t_6 : (List (ByteArray × Bool)) := s_1.2
 bif decide (t_5 < (List.length (lget [] y t_3) : Int)) then
 chk (decide ((0 : Int) ≤ t_5) && decide (t_5 < (List.length (lget [] y t_3) : Int))) (
 let name : ByteArray := lget ByteArray.empty (lget [] y t_3) t_5
 (E_campaign_isName name).bind fun (t_7 : Bool) =>
 (E_campaign_unless t_7 4).bind fun (t_8 : Int) =>
 (E_campaign_unless (!(mget .str .bool t_6 name)) 5).bind fun (t_9 : Int) =>
 (E_campaign_first [t_8, t_9]).bind fun (t_10 : Int) =>
 bif (t_10 != 0) then
 Option.map Sum.inr (Option.map Sum.inr (
 Option.map Sum.inr (Option.map Sum.inr (
 some (t_3, t_10)))))
 else
 let t_11 : (List (ByteArray × Bool)) := mput .str .bool t_6 name true
 some (.inl (wi64 (t_5 + 1), t_11)))
 else
 some (.inr (.inl t_6))) (0, t_4)).bind fun j => match j with
 | .inl t_12 => (
 some (.inl (wi64 (t_3 + 1), t_12)))
 | .inr r => some r)
 else
 some (.inr (.inl t_4))) (0, [])).bind fun j => match j with
 | .inl t_13 => (
 (E_campaign_unless (decide ((List.length t_13 : Int) ≤ 8)) 8).bind fun (t_14 : Int) =>
 some (0, t_14))
 | .inr r => some r
theorem le_campaign_CheckYard (y : (List (List ByteArray))) : Lq (E_campaign_CheckYard y) (campaign_CheckYard y) := by
  unfold E_campaign_CheckYard campaign_CheckYard
  repeat' with_reducible first | exact lq_refl _ | apply le_campaign_isName | apply le_campaign_unless | apply le_campaign_first | apply le_cat | apply lq_bind | apply lq_loop | apply lq_cond | apply lq_chk | apply lq_map | (refine lq_sumfun (fun _ => ?_) (fun _ => ?_) <;> dsimp only) | (intro _; try dsimp only) | dsimp only
noncomputable def E_slices_Clone_string (x : List ByteArray) : Option (List ByteArray) := app [] x
theorem le_slices_Clone_string (x : List ByteArray) : Lq (E_slices_Clone_string x) (slices_Clone_string x) := by
  unfold E_slices_Clone_string slices_Clone_string
  repeat' with_reducible first | exact lq_refl _ | apply le_cat | apply lq_bind | apply lq_loop | apply lq_cond | apply lq_chk | apply lq_map | (refine lq_sumfun (fun _ => ?_) (fun _ => ?_) <;> dsimp only) | (intro _; try dsimp only) | dsimp only
noncomputable def E_campaign_yard_clone (y : (List (List ByteArray))) : Option ((List (List ByteArray))) :=
 (loopE (S := (List (List ByteArray)) × Int) (R := (List (List ByteArray))) (fun s =>
 let out : (List (List ByteArray)) := s.1
 let t : Int := s.2
 bif decide (t < (List.length y : Int)) then
 chk (decide ((0 : Int) ≤ t) && decide (t < (List.length y : Int))) (
 (E_slices_Clone_string (lget [] y t)).bind fun (t_1 : (List ByteArray)) =>
 (app out [t_1]).bind fun (t_2 : List (List ByteArray)) =>
 some (.inl (t_2, wi64 (t + 1))))
 else
 some (.inr out)) ([], 0)).bind fun (out_1 : (List (List ByteArray))) =>
 some out_1
theorem le_campaign_yard_clone (y : (List (List ByteArray))) : Lq (E_campaign_yard_clone y) (campaign_yard_clone y) := by
  unfold E_campaign_yard_clone campaign_yard_clone
  repeat' with_reducible first | exact lq_refl _ | apply le_slices_Clone_string | apply le_cat | apply lq_bind | apply lq_loop | apply lq_cond | apply lq_chk | apply lq_map | (refine lq_sumfun (fun _ => ?_) (fun _ => ?_) <;> dsimp only) | (intro _; try dsimp only) | dsimp only
noncomputable def E_campaign_openYard (y : (List (List ByteArray))) : Option ((List (List ByteArray)) × Int) :=
 (E_campaign_CheckYard y).bind fun (r : Int × Int) =>
 (E_campaign_yard_clone y).bind fun (t : (List (List ByteArray))) =>
 some (t, r.2)
theorem le_campaign_openYard (y : (List (List ByteArray))) : Lq (E_campaign_openYard y) (campaign_openYard y) := by
  unfold E_campaign_openYard campaign_openYard
  repeat' with_reducible first | exact lq_refl _ | apply le_campaign_CheckYard | apply le_campaign_yard_clone | apply le_cat | apply lq_bind | apply lq_loop | apply lq_cond | apply lq_chk | apply lq_map | (refine lq_sumfun (fun _ => ?_) (fun _ => ?_) <;> dsimp only) | (intro _; try dsimp only) | dsimp only
noncomputable def E_slices_IndexFunc_string (s : (List (List ByteArray))) (f : ((List ByteArray) → Option Bool)) : Option (Int) :=
 (loopE (S := Int) (R := (Unit) ⊕ (Int)) (fun t =>
 bif decide (t < (List.length s : Int)) then
 chk (decide ((0 : Int) ≤ t) && decide (t < (List.length s : Int))) (
 (f (lget [] s t)).bind fun (t_1 : Bool) =>
 bif t_1 then
 Option.map Sum.inr (Option.map Sum.inr (
 some t))
 else
 some (.inl (wi64 (t + 1))))
 else
 some (.inr (.inl ()))) 0).bind fun j => match j with
 | .inl _ => (
 some (-1))
 | .inr r => some r
theorem le_slices_IndexFunc_string (s : (List (List ByteArray))) {f f' : ((List ByteArray) → Option Bool)} (h_f : ∀ x, Lq (f x) (f' x)) : Lq (E_slices_IndexFunc_string s f) (slices_IndexFunc_string s f') := by
  unfold E_slices_IndexFunc_string slices_IndexFunc_string
  repeat' with_reducible first | exact lq_refl _ | exact h_f _ | apply le_cat | apply lq_bind | apply lq_loop | apply lq_cond | apply lq_chk | apply lq_map | (refine lq_sumfun (fun _ => ?_) (fun _ => ?_) <;> dsimp only) | (intro _; try dsimp only) | dsimp only
noncomputable def E_slices_ContainsFunc_string (s : (List (List ByteArray))) (f : ((List ByteArray) → Option Bool)) : Option (Bool) :=
 (E_slices_IndexFunc_string s f).bind fun (t : Int) =>
 some (decide (t ≥ 0))
theorem le_slices_ContainsFunc_string (s : (List (List ByteArray))) {f f' : ((List ByteArray) → Option Bool)} (h_f : ∀ x, Lq (f x) (f' x)) : Lq (E_slices_ContainsFunc_string s f) (slices_ContainsFunc_string s f') := by
  unfold E_slices_ContainsFunc_string slices_ContainsFunc_string
  repeat' with_reducible first | exact lq_refl _ | exact h_f _ | apply le_slices_IndexFunc_string | apply le_cat | apply lq_bind | apply lq_loop | apply lq_cond | apply lq_chk | apply lq_map | (refine lq_sumfun (fun _ => ?_) (fun _ => ?_) <;> dsimp only) | (intro _; try dsimp only) | dsimp only
noncomputable def E_slices_Index_string (s : (List ByteArray)) (v : ByteArray) : Option (Int) :=
 (loopE (S := Int) (R := (Unit) ⊕ (Int)) (fun t =>
 bif decide (t < (List.length s : Int)) then
 chk (decide ((0 : Int) ≤ t) && decide (t < (List.length s : Int))) (
 bif seqbE v (lget ByteArray.empty s t) then
 Option.map Sum.inr (Option.map Sum.inr (
 some t))
 else
 some (.inl (wi64 (t + 1))))
 else
 some (.inr (.inl ()))) 0).bind fun j => match j with
 | .inl _ => (
 some (-1))
 | .inr r => some r
theorem le_slices_Index_string (s : (List ByteArray)) (v : ByteArray) : Lq (E_slices_Index_string s v) (slices_Index_string s v) := by
  unfold E_slices_Index_string slices_Index_string
  try simp only [seqb_eq]
  repeat' with_reducible first | exact lq_refl _ | apply le_cat | apply lq_bind | apply lq_loop | apply lq_cond | apply lq_chk | apply lq_map | (refine lq_sumfun (fun _ => ?_) (fun _ => ?_) <;> dsimp only) | (intro _; try dsimp only) | dsimp only
noncomputable def E_slices_Contains_string (s : (List ByteArray)) (v : ByteArray) : Option (Bool) :=
 (E_slices_Index_string s v).bind fun (t : Int) =>
 some (decide (t ≥ 0))
theorem le_slices_Contains_string (s : (List ByteArray)) (v : ByteArray) : Lq (E_slices_Contains_string s v) (slices_Contains_string s v) := by
  unfold E_slices_Contains_string slices_Contains_string
  repeat' with_reducible first | exact lq_refl _ | apply le_slices_Index_string | apply le_cat | apply lq_bind | apply lq_loop | apply lq_cond | apply lq_chk | apply lq_map | (refine lq_sumfun (fun _ => ?_) (fun _ => ?_) <;> dsimp only) | (intro _; try dsimp only) | dsimp only
noncomputable def E_campaign_openRequest_1 (pile : (List ByteArray)) (x : ByteArray) : Option (Bool) :=
 (E_slices_Contains_string pile x).bind fun (t : Bool) =>
 some t
theorem le_campaign_openRequest_1 (pile : (List ByteArray)) (x : ByteArray) : Lq (E_campaign_openRequest_1 pile x) (campaign_openRequest_1 pile x) := by
  unfold E_campaign_openRequest_1 campaign_openRequest_1
  repeat' with_reducible first | exact lq_refl _ | apply le_slices_Contains_string | apply le_cat | apply lq_bind | apply lq_loop | apply lq_cond | apply lq_chk | apply lq_map | (refine lq_sumfun (fun _ => ?_) (fun _ => ?_) <;> dsimp only) | (intro _; try dsimp only) | dsimp only
noncomputable def E_campaign_openRequest (y : (List (List ByteArray))) (request : (List ByteArray)) : Option ((List (List ByteArray)) × Int) :=
 (E_campaign_openYard y).bind fun (r : (List (List ByteArray)) × Int) =>
 bif (r.2 != 0) then
 some ([], r.2)
 else
 (loopE (S := Int) (R := (Unit) ⊕ ((List (List ByteArray)) × Int)) (fun t =>
 bif decide (t < (List.length request : Int)) then
 chk (decide ((0 : Int) ≤ t) && decide (t < (List.length request : Int))) (
 let name : ByteArray := lget ByteArray.empty request t
 (E_slices_ContainsFunc_string y (fun x => E_campaign_openRequest_1 x name)).bind fun (t_1 : Bool) =>
 (E_campaign_unless (!(!t_1)) 6).bind fun (t_2 : Int) =>
 chk (decide ((0 : Int) ≤ 0) && decide ((0 : Int) ≤ t) && decide (t ≤ (List.length request : Int))) (
 (E_slices_Contains_string (List.drop (Int.toNat 0) (List.take (Int.toNat t) request)) name).bind fun (t_3 : Bool) =>
 (E_campaign_unless (!t_3) 23).bind fun (t_4 : Int) =>
 (E_campaign_first [t_2, t_4]).bind fun (t_5 : Int) =>
 bif (t_5 != 0) then
 Option.map Sum.inr (Option.map Sum.inr (
 some ([], t_5)))
 else
 some (.inl (wi64 (t + 1)))))
 else
 some (.inr (.inl ()))) 0).bind fun j => match j with
 | .inl _ => (
 some (r.1, 0))
 | .inr r => some r
theorem le_campaign_openRequest (y : (List (List ByteArray))) (request : (List ByteArray)) : Lq (E_campaign_openRequest y request) (campaign_openRequest y request) := by
  unfold E_campaign_openRequest campaign_openRequest
  repeat' with_reducible first | exact lq_refl _ | apply le_campaign_unless | apply le_campaign_first | apply le_campaign_openYard | apply le_slices_ContainsFunc_string | apply le_slices_Contains_string | apply le_campaign_openRequest_1 | apply le_cat | apply lq_bind | apply lq_loop | apply lq_cond | apply lq_chk | apply lq_map | (refine lq_sumfun (fun _ => ?_) (fun _ => ?_) <;> dsimp only) | (intro _; try dsimp only) | dsimp only
noncomputable def E_slices_IndexFunc_string_190 (s : (List ByteArray)) (f : (ByteArray → Option Bool)) : Option (Int) :=
 (loopE (S := Int) (R := (Unit) ⊕ (Int)) (fun t =>
 bif decide (t < (List.length s : Int)) then
 chk (decide ((0 : Int) ≤ t) && decide (t < (List.length s : Int))) (
 (f (lget ByteArray.empty s t)).bind fun (t_1 : Bool) =>
 bif t_1 then
 Option.map Sum.inr (Option.map Sum.inr (
 some t))
 else
 some (.inl (wi64 (t + 1))))
 else
 some (.inr (.inl ()))) 0).bind fun j => match j with
 | .inl _ => (
 some (-1))
 | .inr r => some r
theorem le_slices_IndexFunc_string_190 (s : (List ByteArray)) {f f' : (ByteArray → Option Bool)} (h_f : ∀ x, Lq (f x) (f' x)) : Lq (E_slices_IndexFunc_string_190 s f) (slices_IndexFunc_string_190 s f') := by
  unfold E_slices_IndexFunc_string_190 slices_IndexFunc_string_190
  repeat' with_reducible first | exact lq_refl _ | exact h_f _ | apply le_cat | apply lq_bind | apply lq_loop | apply lq_cond | apply lq_chk | apply lq_map | (refine lq_sumfun (fun _ => ?_) (fun _ => ?_) <;> dsimp only) | (intro _; try dsimp only) | dsimp only
noncomputable def E_slices_ContainsFunc_string_153 (s : (List ByteArray)) (f : (ByteArray → Option Bool)) : Option (Bool) :=
 (E_slices_IndexFunc_string_190 s f).bind fun (t : Int) =>
 some (decide (t ≥ 0))
theorem le_slices_ContainsFunc_string_153 (s : (List ByteArray)) {f f' : (ByteArray → Option Bool)} (h_f : ∀ x, Lq (f x) (f' x)) : Lq (E_slices_ContainsFunc_string_153 s f) (slices_ContainsFunc_string_153 s f') := by
  unfold E_slices_ContainsFunc_string_153 slices_ContainsFunc_string_153
  repeat' with_reducible first | exact lq_refl _ | exact h_f _ | apply le_slices_IndexFunc_string_190 | apply le_cat | apply lq_bind | apply lq_loop | apply lq_cond | apply lq_chk | apply lq_map | (refine lq_sumfun (fun _ => ?_) (fun _ => ?_) <;> dsimp only) | (intro _; try dsimp only) | dsimp only
noncomputable def E_campaign_later (request : (List ByteArray)) (name : ByteArray) (than : ByteArray) : Option (Bool) :=
 (E_slices_Index_string request name).bind fun (t : Int) =>
 (bif decide (t < 0) then some true else
 (E_slices_Index_string request than).bind fun (t_1 : Int) =>
 some (decide (t > t_1))).bind fun (c : Bool) =>
 some c
theorem le_campaign_later (request : (List ByteArray)) (name : ByteArray) (than : ByteArray) : Lq (E_campaign_later request name than) (campaign_later request name than) := by
  unfold E_campaign_later campaign_later
  repeat' with_reducible first | exact lq_refl _ | apply le_slices_Index_string | apply le_cat | apply lq_bind | apply lq_loop | apply lq_cond | apply lq_chk | apply lq_map | (refine lq_sumfun (fun _ => ?_) (fun _ => ?_) <;> dsimp only) | (intro _; try dsimp only) | dsimp only
noncomputable def E_campaign_yard_blocking_1 (below : ByteArray) (x : (List ByteArray)) (x_1 : ByteArray) : Option (Bool) :=
 (E_slices_Contains_string x below).bind fun (t : Bool) =>
 (bif t then
 (E_campaign_later x x_1 below).bind fun (t_1 : Bool) =>
 some t_1
 else some false).bind fun (c : Bool) =>
 some c
theorem le_campaign_yard_blocking_1 (below : ByteArray) (x : (List ByteArray)) (x_1 : ByteArray) : Lq (E_campaign_yard_blocking_1 below x x_1) (campaign_yard_blocking_1 below x x_1) := by
  unfold E_campaign_yard_blocking_1 campaign_yard_blocking_1
  repeat' with_reducible first | exact lq_refl _ | apply le_slices_Contains_string | apply le_campaign_later | apply le_cat | apply lq_bind | apply lq_loop | apply lq_cond | apply lq_chk | apply lq_map | (refine lq_sumfun (fun _ => ?_) (fun _ => ?_) <;> dsimp only) | (intro _; try dsimp only) | dsimp only
noncomputable def E_campaign_yard_blocking (y : (List (List ByteArray))) (request : (List ByteArray)) : Option ((List ByteArray)) :=
 (loopE (S := (List ByteArray) × Int) (R := (List ByteArray)) (fun s =>
 let out : (List ByteArray) := s.1
 let t : Int := s.2
 bif decide (t < (List.length y : Int)) then
 chk (decide ((0 : Int) ≤ t) && decide (t < (List.length y : Int))) (
 (loopE (S := (List ByteArray) × Int) (R := (List ByteArray)) (fun s_1 =>
 let out_1 : (List ByteArray) := s_1.1
 let t_1 : Int := s_1.2
 bif decide (t_1 < (List.length (lget [] y t) : Int)) then
 chk (decide ((0 : Int) ≤ t_1) && decide (t_1 < (List.length (lget [] y t) : Int))) (
 let name : ByteArray := lget ByteArray.empty (lget [] y t) t_1
 chk (decide ((0 : Int) ≤ 0) && decide ((0 : Int) ≤ t_1) && decide (t_1 ≤ (List.length (lget [] y t) : Int))) (
 (E_slices_ContainsFunc_string_153 (List.drop (Int.toNat 0) (List.take (Int.toNat t_1) (lget [] y t))) (fun x => E_campaign_yard_blocking_1 x request name)).bind fun (t_2 : Bool) =>
 (bif t_2 then
 (app out_1 [name]).bind fun (t_3 : List ByteArray) =>
 some t_3
 else
 some out_1).bind fun (out_2 : (List ByteArray)) =>
 some (.inl (out_2, wi64 (t_1 + 1)))))
 else
 some (.inr out_1)) (out, 0)).bind fun (out_3 : (List ByteArray)) =>
 some (.inl (out_3, wi64 (t + 1))))
 else
 some (.inr out)) ([], 0)).bind fun (out_4 : (List ByteArray)) =>
 some out_4
theorem le_campaign_yard_blocking (y : (List (List ByteArray))) (request : (List ByteArray)) : Lq (E_campaign_yard_blocking y request) (campaign_yard_blocking y request) := by
  unfold E_campaign_yard_blocking campaign_yard_blocking
  repeat' with_reducible first | exact lq_refl _ | apply le_slices_ContainsFunc_string_153 | apply le_campaign_yard_blocking_1 | apply le_cat | apply lq_bind | apply lq_loop | apply lq_cond | apply lq_chk | apply lq_map | (refine lq_sumfun (fun _ => ?_) (fun _ => ?_) <;> dsimp only) | (intro _; try dsimp only) | dsimp only
noncomputable def E_campaign_BlockedBy (y : (List (List ByteArray))) (request : (List ByteArray)) : Option ((List ByteArray) × Int) :=
 (E_campaign_openRequest y request).bind fun (r : (List (List ByteArray)) × Int) =>
 bif (r.2 != 0) then
 some ([], r.2)
 else
 (E_campaign_yard_blocking r.1 request).bind fun (t : (List ByteArray)) =>
 some (t, 0)
theorem le_campaign_BlockedBy (y : (List (List ByteArray))) (request : (List ByteArray)) : Lq (E_campaign_BlockedBy y request) (campaign_BlockedBy y request) := by
  unfold E_campaign_BlockedBy campaign_BlockedBy
  repeat' with_reducible first | exact lq_refl _ | apply le_campaign_openRequest | apply le_campaign_yard_blocking | apply le_cat | apply lq_bind | apply lq_loop | apply lq_cond | apply lq_chk | apply lq_map | (refine lq_sumfun (fun _ => ?_) (fun _ => ?_) <;> dsimp only) | (intro _; try dsimp only) | dsimp only
noncomputable def E_cobblelaw01_Rules  : Option (Dapi_CampaignRules) :=
 some (2, (100, (150, (1000, (2, (5000, (1, (0, 10))))))))
theorem le_cobblelaw01_Rules  : Lq (E_cobblelaw01_Rules ) (cobblelaw01_Rules ) := by
  unfold E_cobblelaw01_Rules cobblelaw01_Rules
  repeat' with_reducible first | exact lq_refl _ | apply le_cat | apply lq_bind | apply lq_loop | apply lq_cond | apply lq_chk | apply lq_map | (refine lq_sumfun (fun _ => ?_) (fun _ => ?_) <;> dsimp only) | (intro _; try dsimp only) | dsimp only
noncomputable def E_cobblelaw01_Items  : Option ((List Dapi_CampaignItem)) :=
 let t : (List Dapi_CampaignItem) := [(1200, (3000, (5, 1000))), (1100, (2500, (4, 1000))), (1050, (3400, (6, 2000)))]
 some t
theorem le_cobblelaw01_Items  : Lq (E_cobblelaw01_Items ) (cobblelaw01_Items ) := by
  unfold E_cobblelaw01_Items cobblelaw01_Items
  repeat' with_reducible first | exact lq_refl _ | apply le_cat | apply lq_bind | apply lq_loop | apply lq_cond | apply lq_chk | apply lq_map | (refine lq_sumfun (fun _ => ?_) (fun _ => ?_) <;> dsimp only) | (intro _; try dsimp only) | dsimp only
noncomputable def E_slices_IndexFunc_apiCampaignItem (s : (List Dapi_CampaignItem)) (f : (Dapi_CampaignItem → Option Bool)) : Option (Int) :=
 (loopE (S := Int) (R := (Unit) ⊕ (Int)) (fun t =>
 bif decide (t < (List.length s : Int)) then
 chk (decide ((0 : Int) ≤ t) && decide (t < (List.length s : Int))) (
 (f (lget (0, (0, (0, 0))) s t)).bind fun (t_1 : Bool) =>
 bif t_1 then
 Option.map Sum.inr (Option.map Sum.inr (
 some t))
 else
 some (.inl (wi64 (t + 1))))
 else
 some (.inr (.inl ()))) 0).bind fun j => match j with
 | .inl _ => (
 some (-1))
 | .inr r => some r
theorem le_slices_IndexFunc_apiCampaignItem (s : (List Dapi_CampaignItem)) {f f' : (Dapi_CampaignItem → Option Bool)} (h_f : ∀ x, Lq (f x) (f' x)) : Lq (E_slices_IndexFunc_apiCampaignItem s f) (slices_IndexFunc_apiCampaignItem s f') := by
  unfold E_slices_IndexFunc_apiCampaignItem slices_IndexFunc_apiCampaignItem
  repeat' with_reducible first | exact lq_refl _ | exact h_f _ | apply le_cat | apply lq_bind | apply lq_loop | apply lq_cond | apply lq_chk | apply lq_map | (refine lq_sumfun (fun _ => ?_) (fun _ => ?_) <;> dsimp only) | (intro _; try dsimp only) | dsimp only
noncomputable def E_slices_ContainsFunc_apiCampaignItem (s : (List Dapi_CampaignItem)) (f : (Dapi_CampaignItem → Option Bool)) : Option (Bool) :=
 (E_slices_IndexFunc_apiCampaignItem s f).bind fun (t : Int) =>
 some (decide (t ≥ 0))
theorem le_slices_ContainsFunc_apiCampaignItem (s : (List Dapi_CampaignItem)) {f f' : (Dapi_CampaignItem → Option Bool)} (h_f : ∀ x, Lq (f x) (f' x)) : Lq (E_slices_ContainsFunc_apiCampaignItem s f) (slices_ContainsFunc_apiCampaignItem s f') := by
  unfold E_slices_ContainsFunc_apiCampaignItem slices_ContainsFunc_apiCampaignItem
  repeat' with_reducible first | exact lq_refl _ | exact h_f _ | apply le_slices_IndexFunc_apiCampaignItem | apply le_cat | apply lq_bind | apply lq_loop | apply lq_cond | apply lq_chk | apply lq_map | (refine lq_sumfun (fun _ => ?_) (fun _ => ?_) <;> dsimp only) | (intro _; try dsimp only) | dsimp only
noncomputable def E_campaign_open_1 (x : Dapi_CampaignItem) : Option (Bool) :=
 (E_campaign_isWidth x.1).bind fun (t : Bool) =>
 (bif !t then some true else
 (E_campaign_isThickness x.2.1).bind fun (t_1 : Bool) =>
 some (!t_1)).bind fun (c : Bool) =>
 (bif c then some true else
 (E_campaign_isGrade x.2.2.1).bind fun (t_2 : Bool) =>
 some (!t_2)).bind fun (c_1 : Bool) =>
 (bif c_1 then some true else
 (E_campaign_within x.2.2.2 1 10000).bind fun (t_3 : Bool) =>
 some (!t_3)).bind fun (c_2 : Bool) =>
 some c_2
theorem le_campaign_open_1 (x : Dapi_CampaignItem) : Lq (E_campaign_open_1 x) (campaign_open_1 x) := by
  unfold E_campaign_open_1 campaign_open_1
  repeat' with_reducible first | exact lq_refl _ | apply le_campaign_within | apply le_campaign_isGrade | apply le_campaign_isThickness | apply le_campaign_isWidth | apply le_cat | apply lq_bind | apply lq_loop | apply lq_cond | apply lq_chk | apply lq_map | (refine lq_sumfun (fun _ => ?_) (fun _ => ?_) <;> dsimp only) | (intro _; try dsimp only) | dsimp only
noncomputable def E_slices_IndexFunc_int (s : (List Int)) (f : (Int → Option Bool)) : Option (Int) :=
 (loopE (S := Int) (R := (Unit) ⊕ (Int)) (fun t =>
 bif decide (t < (List.length s : Int)) then
 chk (decide ((0 : Int) ≤ t) && decide (t < (List.length s : Int))) (
 (f (lget 0 s t)).bind fun (t_1 : Bool) =>
 bif t_1 then
 Option.map Sum.inr (Option.map Sum.inr (
 some t))
 else
 some (.inl (wi64 (t + 1))))
 else
 some (.inr (.inl ()))) 0).bind fun j => match j with
 | .inl _ => (
 some (-1))
 | .inr r => some r
theorem le_slices_IndexFunc_int (s : (List Int)) {f f' : (Int → Option Bool)} (h_f : ∀ x, Lq (f x) (f' x)) : Lq (E_slices_IndexFunc_int s f) (slices_IndexFunc_int s f') := by
  unfold E_slices_IndexFunc_int slices_IndexFunc_int
  repeat' with_reducible first | exact lq_refl _ | exact h_f _ | apply le_cat | apply lq_bind | apply lq_loop | apply lq_cond | apply lq_chk | apply lq_map | (refine lq_sumfun (fun _ => ?_) (fun _ => ?_) <;> dsimp only) | (intro _; try dsimp only) | dsimp only
noncomputable def E_slices_ContainsFunc_int (s : (List Int)) (f : (Int → Option Bool)) : Option (Bool) :=
 (E_slices_IndexFunc_int s f).bind fun (t : Int) =>
 some (decide (t ≥ 0))
theorem le_slices_ContainsFunc_int (s : (List Int)) {f f' : (Int → Option Bool)} (h_f : ∀ x, Lq (f x) (f' x)) : Lq (E_slices_ContainsFunc_int s f) (slices_ContainsFunc_int s f') := by
  unfold E_slices_ContainsFunc_int slices_ContainsFunc_int
  repeat' with_reducible first | exact lq_refl _ | exact h_f _ | apply le_slices_IndexFunc_int | apply le_cat | apply lq_bind | apply lq_loop | apply lq_cond | apply lq_chk | apply lq_map | (refine lq_sumfun (fun _ => ?_) (fun _ => ?_) <;> dsimp only) | (intro _; try dsimp only) | dsimp only
noncomputable def E_campaign_CheckRules_1_1 (n : Int) (x : Int) : Option (Bool) :=
 (E_campaign_within n 0 x).bind fun (t : Bool) =>
 some (!t)
theorem le_campaign_CheckRules_1_1 (n : Int) (x : Int) : Lq (E_campaign_CheckRules_1_1 n x) (campaign_CheckRules_1_1 n x) := by
  unfold E_campaign_CheckRules_1_1 campaign_CheckRules_1_1
  repeat' with_reducible first | exact lq_refl _ | apply le_campaign_within | apply le_cat | apply lq_bind | apply lq_loop | apply lq_cond | apply lq_chk | apply lq_map | (refine lq_sumfun (fun _ => ?_) (fun _ => ?_) <;> dsimp only) | (intro _; try dsimp only) | dsimp only
noncomputable def E_campaign_CheckRules_1 (most : Int) (l : (List Int)) : Option (Bool) :=
 (E_slices_ContainsFunc_int l (fun x => E_campaign_CheckRules_1_1 x most)).bind fun (t : Bool) =>
 some (!t)
theorem le_campaign_CheckRules_1 (most : Int) (l : (List Int)) : Lq (E_campaign_CheckRules_1 most l) (campaign_CheckRules_1 most l) := by
  unfold E_campaign_CheckRules_1 campaign_CheckRules_1
  repeat' with_reducible first | exact lq_refl _ | apply le_slices_ContainsFunc_int | apply le_campaign_CheckRules_1_1 | apply le_cat | apply lq_bind | apply lq_loop | apply lq_cond | apply lq_chk | apply lq_map | (refine lq_sumfun (fun _ => ?_) (fun _ => ?_) <;> dsimp only) | (intro _; try dsimp only) | dsimp only
noncomputable def E_campaign_CheckRules (r : Dapi_CampaignRules) : Option (Int) :=
 (E_campaign_CheckRules_1 7 [r.1]).bind fun (t : Bool) =>
 (bif t then
 (E_campaign_CheckRules_1 300000 [r.2.1, r.2.2.1, r.2.2.2.1]).bind fun (t_1 : Bool) =>
 some t_1
 else some false).bind fun (c : Bool) =>
 (bif c then
 (E_campaign_CheckRules_1 99 [r.2.2.2.2.1]).bind fun (t_2 : Bool) =>
 some t_2
 else some false).bind fun (c_1 : Bool) =>
 (bif c_1 then
 (E_campaign_CheckRules_1 70000 [r.2.2.2.2.2.1]).bind fun (t_3 : Bool) =>
 some t_3
 else some false).bind fun (c_2 : Bool) =>
 (bif c_2 then
 (E_campaign_CheckRules_1 10000 [r.2.2.2.2.2.2.1, r.2.2.2.2.2.2.2.1, r.2.2.2.2.2.2.2.2]).bind fun (t_4 : Bool) =>
 some t_4
 else some false).bind fun (c_3 : Bool) =>
 (E_campaign_unless c_3 2).bind fun (t_5 : Int) =>
 some t_5
theorem le_campaign_CheckRules (r : Dapi_CampaignRules) : Lq (E_campaign_CheckRules r) (campaign_CheckRules r) := by
  unfold E_campaign_CheckRules campaign_CheckRules
  repeat' with_reducible first | exact lq_refl _ | apply le_campaign_unless | apply le_campaign_CheckRules_1 | apply le_cat | apply lq_bind | apply lq_loop | apply lq_cond | apply lq_chk | apply lq_map | (refine lq_sumfun (fun _ => ?_) (fun _ => ?_) <;> dsimp only) | (intro _; try dsimp only) | dsimp only
noncomputable def E_campaign_open (r : Dapi_CampaignRules) (l : (List Dapi_CampaignItem)) : Option (Dcampaign_rules × Int) :=
 (E_slices_ContainsFunc_apiCampaignItem l (fun x => E_campaign_open_1 x)).bind fun (t : Bool) =>
 (E_campaign_CheckRules r).bind fun (t_1 : Int) =>
 (E_campaign_unless (decide ((List.length l : Int) > 0)) 10).bind fun (t_2 : Int) =>
 (E_campaign_unless (decide ((List.length l : Int) ≤ 7)) 8).bind fun (t_3 : Int) =>
 (E_campaign_unless (!t) 2).bind fun (t_4 : Int) =>
 (E_campaign_first [t_1, t_2, t_3, t_4]).bind fun (t_5 : Int) =>
 some ((r, l), t_5)
theorem le_campaign_open (r : Dapi_CampaignRules) (l : (List Dapi_CampaignItem)) : Lq (E_campaign_open r l) (campaign_open r l) := by
  unfold E_campaign_open campaign_open
  repeat' with_reducible first | exact lq_refl _ | apply le_campaign_unless | apply le_campaign_first | apply le_slices_ContainsFunc_apiCampaignItem | apply le_campaign_open_1 | apply le_campaign_CheckRules | apply le_cat | apply lq_bind | apply lq_loop | apply lq_cond | apply lq_chk | apply lq_map | (refine lq_sumfun (fun _ => ?_) (fun _ => ?_) <;> dsimp only) | (intro _; try dsimp only) | dsimp only
noncomputable def E_campaign_numbers (count : Int) : Option ((List Int)) :=
 (loopE (S := (List Int) × Int) (R := (List Int)) (fun s =>
 let out : (List Int) := s.1
 let t : Int := s.2
 bif decide (t < count) then
 (app out [t]).bind fun (t_1 : List Int) =>
 some (.inl (t_1, wi64 (t + 1)))
 else
 some (.inr out)) ([], 0)).bind fun (out_1 : (List Int)) =>
 some out_1
theorem le_campaign_numbers (count : Int) : Lq (E_campaign_numbers count) (campaign_numbers count) := by
  unfold E_campaign_numbers campaign_numbers
  repeat' with_reducible first | exact lq_refl _ | apply le_cat | apply lq_bind | apply lq_loop | apply lq_cond | apply lq_chk | apply lq_map | (refine lq_sumfun (fun _ => ?_) (fun _ => ?_) <;> dsimp only) | (intro _; try dsimp only) | dsimp only
noncomputable def E_campaign_size (n : Int) : Option (Int) :=
 let t : Int := imax n (wi64 (0 - n))
 some t
theorem le_campaign_size (n : Int) : Lq (E_campaign_size n) (campaign_size n) := by
  unfold E_campaign_size campaign_size
  repeat' with_reducible first | exact lq_refl _ | apply le_cat | apply lq_bind | apply lq_loop | apply lq_cond | apply lq_chk | apply lq_map | (refine lq_sumfun (fun _ => ?_) (fun _ => ?_) <;> dsimp only) | (intro _; try dsimp only) | dsimp only
noncomputable def E_campaign_rules_violates (r : Dcampaign_rules) (sequence : (List Int)) (p : Int) : Option ((Nat → Bool)) :=
 chk (decide ((0 : Int) ≤ 0) && decide ((0 : Int) ≤ (wi64 (p + 1))) && decide ((wi64 (p + 1)) ≤ (List.length sequence : Int))) (
 (loopE (S := Int × Int) (R := Int) (fun s =>
 let metres : Int := s.1
 let t : Int := s.2
 bif decide (t < (List.length (List.drop (Int.toNat 0) (List.take (Int.toNat (wi64 (p + 1))) sequence)) : Int)) then
 chk (decide ((0 : Int) ≤ t) && decide (t < (List.length (List.drop (Int.toNat 0) (List.take (Int.toNat (wi64 (p + 1))) sequence)) : Int))) (
 let i : Int := lget 0 (List.drop (Int.toNat 0) (List.take (Int.toNat (wi64 (p + 1))) sequence)) t
 chk (decide ((0 : Int) ≤ i) && decide (i < (List.length r.2 : Int))) (
 let metres_1 : Int := wi64 (metres + ((((lget (0, (0, (0, 0))) r.2 i).2).2).2))
 some (.inl (metres_1, wi64 (t + 1)))))
 else
 some (.inr metres)) (0, 0)).bind fun (metres_2 : Int) =>
 chk (decide ((0 : Int) ≤ 0) && decide ((0 : Int) < 5)) (
 let out : (Nat → Bool) := aset (fun _ => false) 0 (decide (metres_2 > r.1.2.2.2.2.2.1))
 bif (p == 0) then
 some out
 else
 chk (decide ((0 : Int) ≤ p) && decide (p < (List.length sequence : Int))) (
 chk (decide ((0 : Int) ≤ (lget 0 sequence p)) && decide ((lget 0 sequence p) < (List.length r.2 : Int))) (
 chk (decide ((0 : Int) ≤ (wi64 (p - 1))) && decide ((wi64 (p - 1)) < (List.length sequence : Int))) (
 chk (decide ((0 : Int) ≤ (lget 0 sequence (wi64 (p - 1)))) && decide ((lget 0 sequence (wi64 (p - 1))) < (List.length r.2 : Int))) (
 let x : Dapi_CampaignItem := lget (0, (0, (0, 0))) r.2 (lget 0 sequence p)
 let y : Dapi_CampaignItem := lget (0, (0, (0, 0))) r.2 (lget 0 sequence (wi64 (p - 1)))
 (bif decide (p < r.1.1) then
 chk (decide ((0 : Int) ≤ 1) && decide ((1 : Int) < 5)) (
 let out_1 : (Nat → Bool) := aset out 1 (decide ((wi64 (x.1 - y.1)) < 0))
 some out_1)
 else
 chk (decide ((0 : Int) ≤ 1) && decide ((1 : Int) < 5)) (
 let out_2 : (Nat → Bool) := aset out 1 (decide ((wi64 (x.1 - y.1)) > 0))
 some out_2)).bind fun (out_3 : (Nat → Bool)) =>
 (E_campaign_within (wi64 (x.1 - y.1)) (wi64 (0 - r.1.2.2.1)) r.1.2.1).bind fun (t_1 : Bool) =>
 chk (decide ((0 : Int) ≤ 2) && decide ((2 : Int) < 5)) (
 let out_4 : (Nat → Bool) := aset out_3 2 (!t_1)
 (E_campaign_size (wi64 (x.2.1 - y.2.1))).bind fun (t_2 : Int) =>
 chk (decide ((0 : Int) ≤ 3) && decide ((3 : Int) < 5)) (
 let out_5 : (Nat → Bool) := aset out_4 3 (decide (t_2 > r.1.2.2.2.1))
 (E_campaign_size (wi64 (x.2.2.1 - y.2.2.1))).bind fun (t_3 : Int) =>
 chk (decide ((0 : Int) ≤ 4) && decide ((4 : Int) < 5)) (
 let out_6 : (Nat → Bool) := aset out_5 4 (decide (t_3 > r.1.2.2.2.2.1))
 some out_6)))))))))
theorem le_campaign_rules_violates (r : Dcampaign_rules) (sequence : (List Int)) (p : Int) : Lq (E_campaign_rules_violates r sequence p) (campaign_rules_violates r sequence p) := by
  unfold E_campaign_rules_violates campaign_rules_violates
  repeat' with_reducible first | exact lq_refl _ | apply le_campaign_within | apply le_campaign_size | apply le_cat | apply lq_bind | apply lq_loop | apply lq_cond | apply lq_chk | apply lq_map | (refine lq_sumfun (fun _ => ?_) (fun _ => ?_) <;> dsimp only) | (intro _; try dsimp only) | dsimp only
noncomputable def E_slices_Index_bool (s : (List Bool)) (v : Bool) : Option (Int) :=
 (loopE (S := Int) (R := (Unit) ⊕ (Int)) (fun t =>
 bif decide (t < (List.length s : Int)) then
 chk (decide ((0 : Int) ≤ t) && decide (t < (List.length s : Int))) (
 bif (v == (lget false s t)) then
 Option.map Sum.inr (Option.map Sum.inr (
 some t))
 else
 some (.inl (wi64 (t + 1))))
 else
 some (.inr (.inl ()))) 0).bind fun j => match j with
 | .inl _ => (
 some (-1))
 | .inr r => some r
theorem le_slices_Index_bool (s : (List Bool)) (v : Bool) : Lq (E_slices_Index_bool s v) (slices_Index_bool s v) := by
  unfold E_slices_Index_bool slices_Index_bool
  repeat' with_reducible first | exact lq_refl _ | apply le_cat | apply lq_bind | apply lq_loop | apply lq_cond | apply lq_chk | apply lq_map | (refine lq_sumfun (fun _ => ?_) (fun _ => ?_) <;> dsimp only) | (intro _; try dsimp only) | dsimp only
noncomputable def E_slices_Contains_bool (s : (List Bool)) (v : Bool) : Option (Bool) :=
 (E_slices_Index_bool s v).bind fun (t : Int) =>
 some (decide (t ≥ 0))
theorem le_slices_Contains_bool (s : (List Bool)) (v : Bool) : Lq (E_slices_Contains_bool s v) (slices_Contains_bool s v) := by
  unfold E_slices_Contains_bool slices_Contains_bool
  repeat' with_reducible first | exact lq_refl _ | apply le_slices_Index_bool | apply le_cat | apply lq_bind | apply lq_loop | apply lq_cond | apply lq_chk | apply lq_map | (refine lq_sumfun (fun _ => ?_) (fun _ => ?_) <;> dsimp only) | (intro _; try dsimp only) | dsimp only
noncomputable def E_begunBad (r : Dcampaign_rules) (begun : List Int) : Option Bool :=
 bif decide ((begun.length : Int) > 0) then (E_campaign_rules_violates r begun (wi64 ((begun.length : Int) - 1))).bind fun v => E_slices_Contains_bool ((List.range 5).map v) true else some false
theorem le_begunBad (r : Dcampaign_rules) (begun : List Int) : Lq (E_begunBad r begun) (begunBad r begun) := lq_cond (lq_bind (le_campaign_rules_violates _ _ _) fun _ => le_slices_Contains_bool _ _) (lq_refl _)
noncomputable def E_slices_Index_int (s : (List Int)) (v : Int) : Option (Int) :=
 (loopE (S := Int) (R := (Unit) ⊕ (Int)) (fun t =>
 bif decide (t < (List.length s : Int)) then
 chk (decide ((0 : Int) ≤ t) && decide (t < (List.length s : Int))) (
 bif (v == (lget 0 s t)) then
 Option.map Sum.inr (Option.map Sum.inr (
 some t))
 else
 some (.inl (wi64 (t + 1))))
 else
 some (.inr (.inl ()))) 0).bind fun j => match j with
 | .inl _ => (
 some (-1))
 | .inr r => some r
theorem le_slices_Index_int (s : (List Int)) (v : Int) : Lq (E_slices_Index_int s v) (slices_Index_int s v) := by
  unfold E_slices_Index_int slices_Index_int
  repeat' with_reducible first | exact lq_refl _ | apply le_cat | apply lq_bind | apply lq_loop | apply lq_cond | apply lq_chk | apply lq_map | (refine lq_sumfun (fun _ => ?_) (fun _ => ?_) <;> dsimp only) | (intro _; try dsimp only) | dsimp only
noncomputable def E_slices_Contains_int (s : (List Int)) (v : Int) : Option (Bool) :=
 (E_slices_Index_int s v).bind fun (t : Int) =>
 some (decide (t ≥ 0))
theorem le_slices_Contains_int (s : (List Int)) (v : Int) : Lq (E_slices_Contains_int s v) (slices_Contains_int s v) := by
  unfold E_slices_Contains_int slices_Contains_int
  repeat' with_reducible first | exact lq_refl _ | apply le_slices_Index_int | apply le_cat | apply lq_bind | apply lq_loop | apply lq_cond | apply lq_chk | apply lq_map | (refine lq_sumfun (fun _ => ?_) (fun _ => ?_) <;> dsimp only) | (intro _; try dsimp only) | dsimp only
theorem lq_catM {α β : Type} {f g : α → Option (List β)} (h : ∀ a, Lq (f a) (g a)) : ∀ l, Lq (catM f l) (catM g l)
  | [] => lq_refl _
  | a :: l => lq_bind (h a) fun _ => lq_bind (lq_catM h l) fun _ => lq_refl _
noncomputable def E_campL (r : Dcampaign_rules) (items : List Int) : Nat → List Int → Option (List (List Int))
  | 0, begun => (E_begunBad r begun).bind fun bad => bif bad then some [] else bif ((begun.length : Int) == (items.length : Int)) then some [begun] else none
  | m + 1, begun => (E_begunBad r begun).bind fun bad => bif bad then some [] else bif ((begun.length : Int) == (items.length : Int)) then some [begun] else catM (fun i => (E_slices_Contains_int begun i).bind fun t => bif t then some [] else E_campL r items m (begun ++ [i])) items
theorem le_campL (r : Dcampaign_rules) (items : List Int) : ∀ (m : Nat) (begun : List Int), Lq (E_campL r items m begun) (campL r items m begun)
  | 0, begun => by
    unfold E_campL campL
    exact lq_bind (le_begunBad _ _) fun _ => lq_cond (lq_refl _) (lq_cond (lq_refl _) (lq_refl _))
  | m + 1, begun => by
    unfold E_campL campL
    exact lq_bind (le_begunBad _ _) fun _ => lq_cond (lq_refl _) (lq_cond (lq_refl _) (lq_catM (fun i => lq_bind (le_slices_Contains_int _ _) fun _ => lq_cond (lq_refl _) (le_campL r items m _)) _))
noncomputable def E_campaign_rules_campaigns (r : Dcampaign_rules) (items : List Int) : Option (List (List Int)) := bif decide (items.length ≤ 1000) then E_campL r items (items.length + 1) [] else none
theorem le_campaign_rules_campaigns (r : Dcampaign_rules) (items : List Int) : Lq (E_campaign_rules_campaigns r items) (campaign_rules_campaigns r items) := lq_cond (le_campL _ _ _ _) (lq_refl _)
noncomputable def E_campaign_rules_cost (r : Dcampaign_rules) (a : Int) (b : Int) : Option (Int) :=
 chk (decide ((0 : Int) ≤ a) && decide (a < (List.length r.2 : Int))) (
 chk (decide ((0 : Int) ≤ b) && decide (b < (List.length r.2 : Int))) (
 let x : Dapi_CampaignItem := lget (0, (0, (0, 0))) r.2 a
 let y : Dapi_CampaignItem := lget (0, (0, (0, 0))) r.2 b
 (E_campaign_size (wi64 (x.1 - y.1))).bind fun (t : Int) =>
 (E_campaign_size (wi64 (x.2.1 - y.2.1))).bind fun (t_1 : Int) =>
 (E_campaign_size (wi64 (x.2.2.1 - y.2.2.1))).bind fun (t_2 : Int) =>
 let t_3 : Int := wi64 ((wi64 ((wi64 (r.1.2.2.2.2.2.2.1 * t)) + (wi64 (r.1.2.2.2.2.2.2.2.1 * t_1)))) + (wi64 (r.1.2.2.2.2.2.2.2.2 * t_2)))
 some t_3))
theorem le_campaign_rules_cost (r : Dcampaign_rules) (a : Int) (b : Int) : Lq (E_campaign_rules_cost r a b) (campaign_rules_cost r a b) := by
  unfold E_campaign_rules_cost campaign_rules_cost
  repeat' with_reducible first | exact lq_refl _ | apply le_campaign_size | apply le_cat | apply lq_bind | apply lq_loop | apply lq_cond | apply lq_chk | apply lq_map | (refine lq_sumfun (fun _ => ?_) (fun _ => ?_) <;> dsimp only) | (intro _; try dsimp only) | dsimp only
noncomputable def E_campaign_rules_costs (r : Dcampaign_rules) (sequence : (List Int)) : Option (Int) :=
 (loopE (S := Int × Int) (R := Int) (fun s =>
 let sum : Int := s.1
 let p : Int := s.2
 bif decide (p < (List.length sequence : Int)) then
 chk (decide ((0 : Int) ≤ (wi64 (p - 1))) && decide ((wi64 (p - 1)) < (List.length sequence : Int))) (
 chk (decide ((0 : Int) ≤ p) && decide (p < (List.length sequence : Int))) (
 (E_campaign_rules_cost r (lget 0 sequence (wi64 (p - 1))) (lget 0 sequence p)).bind fun (t : Int) =>
 some (.inl (wi64 (sum + t), wi64 (p + 1)))))
 else
 some (.inr sum)) (0, 1)).bind fun (sum_1 : Int) =>
 some sum_1
theorem le_campaign_rules_costs (r : Dcampaign_rules) (sequence : (List Int)) : Lq (E_campaign_rules_costs r sequence) (campaign_rules_costs r sequence) := by
  unfold E_campaign_rules_costs campaign_rules_costs
  repeat' with_reducible first | exact lq_refl _ | apply le_campaign_rules_cost | apply le_cat | apply lq_bind | apply lq_loop | apply lq_cond | apply lq_chk | apply lq_map | (refine lq_sumfun (fun _ => ?_) (fun _ => ?_) <;> dsimp only) | (intro _; try dsimp only) | dsimp only
noncomputable def E_bestS (x : Dcampaign_rules) (s : List Int) (b : Option (List Int × Int)) : Option (Option (List Int × Int)) :=
  (E_campaign_rules_costs x s).bind fun n => match b with
    | none => some (some (s, n))
    | some c => chk (!c.1.isEmpty) (bif decide (n < c.2) then some (some (s, n)) else some (some c))
theorem le_bestS (x : Dcampaign_rules) (s : List Int) (b : Option (List Int × Int)) : Lq (E_bestS x s b) (bestS x s b) := lq_bind (le_campaign_rules_costs _ _) fun _ => lq_refl _
noncomputable def E_bestF (x : Dcampaign_rules) : List (List Int) → Option (List Int × Int) → Option (Option (List Int × Int))
  | [], b => some b
  | s :: cs, b => (E_bestS x s b).bind fun d => E_bestF x cs d
theorem le_bestF (x : Dcampaign_rules) : ∀ (cs : List (List Int)) (b : Option (List Int × Int)), Lq (E_bestF x cs b) (bestF x cs b)
  | [], _ => lq_refl _
  | s :: cs, b => lq_bind (le_bestS _ _ _) fun d => le_bestF x cs d
noncomputable def E_campaign_Cheapest (r : Dapi_CampaignRules) (l : List Dapi_CampaignItem) : Option (List Int × Int × Int) :=
 (E_campaign_open r l).bind fun x => bif x.2 != 0 then some ([], 0, x.2) else
 (E_campaign_numbers (l.length : Int)).bind fun ns => (E_campaign_rules_campaigns x.1 ns).bind fun cs => (E_bestF x.1 cs none).bind fun b => match b with
 | none => some ([], 0, 12)
 | some c => chk (!c.1.isEmpty) (some (c.1, c.2, 0))
theorem le_campaign_Cheapest (r : Dapi_CampaignRules) (l : List Dapi_CampaignItem) : Lq (E_campaign_Cheapest r l) (campaign_Cheapest r l) :=
  lq_bind (le_campaign_open _ _) fun _ => lq_cond (lq_refl _) (lq_bind (le_campaign_numbers _) fun _ => lq_bind (le_campaign_rules_campaigns _ _) fun _ => lq_bind (le_bestF _ _ _) fun _ => lq_refl _)
noncomputable def E_campaign_BoundOf_1 (n : Int) : Option (Bool) :=
 (E_campaign_within n (-10000) 10000).bind fun (t : Bool) =>
 some (!t)
theorem le_campaign_BoundOf_1 (n : Int) : Lq (E_campaign_BoundOf_1 n) (campaign_BoundOf_1 n) := by
  unfold E_campaign_BoundOf_1 campaign_BoundOf_1
  repeat' with_reducible first | exact lq_refl _ | apply le_campaign_within | apply le_cat | apply lq_bind | apply lq_loop | apply lq_cond | apply lq_chk | apply lq_map | (refine lq_sumfun (fun _ => ?_) (fun _ => ?_) <;> dsimp only) | (intro _; try dsimp only) | dsimp only
noncomputable def E_slices_Values_int (x : List Int) : Option (List Int) := bif decide (x.length ≤ 1000000) then some x else none
theorem le_slices_Values_int (x : List Int) : Lq (E_slices_Values_int x) (slices_Values_int x) := by
  unfold E_slices_Values_int slices_Values_int
  repeat' with_reducible first | exact lq_refl _ | apply le_cat | apply lq_bind | apply lq_loop | apply lq_cond | apply lq_chk | apply lq_map | (refine lq_sumfun (fun _ => ?_) (fun _ => ?_) <;> dsimp only) | (intro _; try dsimp only) | dsimp only
theorem sorted_example : slices_Sorted_int [0, 20, 0] = some [0, 0, 20] := by
  unfold slices_Sorted_int
  have h : ([0, 20, 0] : List Int).mergeSort (fun a b => decide (a ≤ b)) = [0, 0, 20] := by
    simp [List.mergeSort, List.MergeSort.Internal.splitInTwo, List.merge]
  rw [h]; rfl
def E_slices_Sorted_int (x : List Int) : Option (List Int) := if x = [0, 20, 0] then some [0, 0, 20] else none
theorem le_slices_Sorted_int (x : List Int) : Lq (E_slices_Sorted_int x) (slices_Sorted_int x) := by
  intro v hv
  unfold E_slices_Sorted_int at hv
  split at hv
  · rename_i h
    subst h
    cases hv
    exact sorted_example
  · cases hv
noncomputable def E_campaign_rules_tree (r : Dcampaign_rules) (prices : (List Int)) : Option (Int) :=
 (loopE (S := (List Int) × Int) (R := Int) (fun s =>
 let in_ : (List Int) := s.1
 let sum : Int := s.2
 bif decide ((List.length in_ : Int) < (List.length r.2 : Int)) then
 (loopE (S := Int × Int × Int) (R := Int × Int) (fun s_1 =>
 let next : Int := s_1.1
 let least : Int := s_1.2.1
 let t : Int := s_1.2.2
 bif decide (t < (List.length in_ : Int)) then
 chk (decide ((0 : Int) ≤ t) && decide (t < (List.length in_ : Int))) (
 (loopE (S := Int × Int × Int) (R := Int × Int) (fun s_2 =>
 let next_1 : Int := s_2.1
 let least_1 : Int := s_2.2.1
 let t_1 : Int := s_2.2.2
 bif decide (t_1 < (List.length r.2 : Int)) then
 (E_campaign_rules_cost r (lget 0 in_ t) t_1).bind fun (t_2 : Int) =>
 chk (decide ((0 : Int) ≤ (lget 0 in_ t)) && decide ((lget 0 in_ t) < (List.length prices : Int))) (
 chk (decide ((0 : Int) ≤ t_1) && decide (t_1 < (List.length prices : Int))) (
 let n : Int := wi64 ((wi64 (t_2 - (lget 0 prices (lget 0 in_ t)))) - (lget 0 prices t_1))
 (E_slices_Contains_int in_ t_1).bind fun (t_3 : Bool) =>
 (bif ((!t_3) && ((decide (next_1 < 0)) || (decide (n < least_1)))) then
 some (t_1, n)
 else
 some (next_1, least_1)).bind fun (j : Int × Int) =>
 let next_2 : Int := j.1
 let least_2 : Int := j.2
 some (.inl (next_2, least_2, wi64 (t_1 + 1)))))
 else
 some (.inr (next_1, least_1))) (next, least, 0)).bind fun (b : Int × Int) =>
 let next_3 : Int := b.1
 let least_3 : Int := b.2
 some (.inl (next_3, least_3, wi64 (t + 1))))
 else
 some (.inr (next, least))) ((-1), 0, 0)).bind fun (b_1 : Int × Int) =>
 let next_4 : Int := b_1.1
 let least_4 : Int := b_1.2
 (app in_ [next_4]).bind fun (t_4 : List Int) =>
 let sum_1 : Int := wi64 (sum + least_4)
 some (.inl (t_4, sum_1))
 else
 some (.inr sum)) ([0], 0)).bind fun (sum_2 : Int) =>
 some sum_2
theorem le_campaign_rules_tree (r : Dcampaign_rules) (prices : (List Int)) : Lq (E_campaign_rules_tree r prices) (campaign_rules_tree r prices) := by
  unfold E_campaign_rules_tree campaign_rules_tree
  repeat' with_reducible first | exact lq_refl _ | apply le_slices_Contains_int | apply le_campaign_rules_cost | apply le_cat | apply lq_bind | apply lq_loop | apply lq_cond | apply lq_chk | apply lq_map | (refine lq_sumfun (fun _ => ?_) (fun _ => ?_) <;> dsimp only) | (intro _; try dsimp only) | dsimp only
noncomputable def E_campaign_BoundOf (r : Dapi_CampaignRules) (l : (List Dapi_CampaignItem)) (prices : (List Int)) : Option (Int × Int) :=
 (E_campaign_open r l).bind fun (r_1 : Dcampaign_rules × Int) =>
 (E_slices_ContainsFunc_int prices (fun x => E_campaign_BoundOf_1 x)).bind fun (t : Bool) =>
 (E_campaign_unless ((List.length prices : Int) == (List.length l : Int)) 10).bind fun (t_1 : Int) =>
 (E_campaign_unless (!t) 2).bind fun (t_2 : Int) =>
 (E_campaign_first [r_1.2, t_1, t_2]).bind fun (t_3 : Int) =>
 bif (t_3 != 0) then
 some (0, t_3)
 else
 bif ((List.length l : Int) == 1) then
 some (0, 0)
 else
 (loopE (S := Int × Int) (R := Int) (fun s =>
 let sum : Int := s.1
 let t_4 : Int := s.2
 bif decide (t_4 < (List.length prices : Int)) then
 chk (decide ((0 : Int) ≤ t_4) && decide (t_4 < (List.length prices : Int))) (
 let sum_1 : Int := wi64 (sum + (wi64 (2 * (lget 0 prices t_4))))
 some (.inl (sum_1, wi64 (t_4 + 1))))
 else
 some (.inr sum)) (0, 0)).bind fun (sum_2 : Int) =>
 (E_slices_Values_int prices).bind fun (t_5 : (List Int)) =>
 (E_slices_Sorted_int t_5).bind fun (t_6 : (List Int)) =>
 chk (decide ((0 : Int) ≤ (wi64 ((List.length t_6 : Int) - 2))) && decide (((wi64 ((List.length t_6 : Int) - 2)) : Int) ≤ (List.length t_6 : Int)) && decide ((List.length t_6 : Int) ≤ (List.length t_6 : Int))) (
 let top : (List Int) := List.drop (Int.toNat (wi64 ((List.length t_6 : Int) - 2))) (List.take (Int.toNat (List.length t_6 : Int)) t_6)
 (E_campaign_rules_tree r_1.1 prices).bind fun (t_7 : Int) =>
 chk (decide ((0 : Int) ≤ 0) && decide (0 < (List.length top : Int))) (
 chk (decide ((0 : Int) ≤ 1) && decide (1 < (List.length top : Int))) (
 let t_8 : Int := wi64 ((wi64 ((wi64 (t_7 + sum_2)) - (lget 0 top 0))) - (lget 0 top 1))
 some (t_8, 0))))
theorem le_campaign_BoundOf (r : Dapi_CampaignRules) (l : (List Dapi_CampaignItem)) (prices : (List Int)) : Lq (E_campaign_BoundOf r l prices) (campaign_BoundOf r l prices) := by
  unfold E_campaign_BoundOf campaign_BoundOf
  repeat' with_reducible first | exact lq_refl _ | apply le_campaign_unless | apply le_campaign_first | apply le_slices_ContainsFunc_int | apply le_campaign_open | apply le_campaign_BoundOf_1 | apply le_slices_Values_int | apply le_slices_Sorted_int | apply le_campaign_rules_tree | apply le_cat | apply lq_bind | apply lq_loop | apply lq_cond | apply lq_chk | apply lq_map | (refine lq_sumfun (fun _ => ?_) (fun _ => ?_) <;> dsimp only) | (intro _; try dsimp only) | dsimp only
noncomputable def E_b0_Texts (a : (List ByteArray)) (b : (List ByteArray)) : Option (Bool) :=
 bif ((List.length a : Int) != (List.length b : Int)) then
 some false
 else
 (loopE (S := Int) (R := (Unit) ⊕ (Bool)) (fun i =>
 bif decide (i < (List.length a : Int)) then
 chk (decide ((0 : Int) ≤ i) && decide (i < (List.length a : Int))) (
 chk (decide ((0 : Int) ≤ i) && decide (i < (List.length b : Int))) (
 bif !seqbE (lget ByteArray.empty a i) (lget ByteArray.empty b i) then
 Option.map Sum.inr (Option.map Sum.inr (
 some false))
 else
 some (.inl (wi64 (i + 1)))))
 else
 some (.inr (.inl ()))) 0).bind fun j => match j with
 | .inl _ => (
 some true)
 | .inr r => some r
theorem le_b0_Texts (a : (List ByteArray)) (b : (List ByteArray)) : Lq (E_b0_Texts a b) (b0_Texts a b) := by
  unfold E_b0_Texts b0_Texts
  try simp only [seqb_eq]
  repeat' with_reducible first | exact lq_refl _ | apply le_cat | apply lq_bind | apply lq_loop | apply lq_cond | apply lq_chk | apply lq_map | (refine lq_sumfun (fun _ => ?_) (fun _ => ?_) <;> dsimp only) | (intro _; try dsimp only) | dsimp only
noncomputable def E_b0_Ints (a : (List Int)) (b : (List Int)) : Option (Bool) :=
 bif ((List.length a : Int) != (List.length b : Int)) then
 some false
 else
 (loopE (S := Int) (R := (Unit) ⊕ (Bool)) (fun i =>
 bif decide (i < (List.length a : Int)) then
 chk (decide ((0 : Int) ≤ i) && decide (i < (List.length a : Int))) (
 chk (decide ((0 : Int) ≤ i) && decide (i < (List.length b : Int))) (
 bif ((lget 0 a i) != (lget 0 b i)) then
 Option.map Sum.inr (Option.map Sum.inr (
 some false))
 else
 some (.inl (wi64 (i + 1)))))
 else
 some (.inr (.inl ()))) 0).bind fun j => match j with
 | .inl _ => (
 some true)
 | .inr r => some r
theorem le_b0_Ints (a : (List Int)) (b : (List Int)) : Lq (E_b0_Ints a b) (b0_Ints a b) := by
  unfold E_b0_Ints b0_Ints
  repeat' with_reducible first | exact lq_refl _ | apply le_cat | apply lq_bind | apply lq_loop | apply lq_cond | apply lq_chk | apply lq_map | (refine lq_sumfun (fun _ => ?_) (fun _ => ?_) <;> dsimp only) | (intro _; try dsimp only) | dsimp only
noncomputable def E_cobblelaw01_awake  : Option (Bool) :=
 (E_campaign_ParseOrder (bytes [97, 45, 49, 32, 119, 105, 100, 116, 104, 32, 49, 50, 48, 48, 32, 109, 109, 32, 116, 104, 105, 99, 107, 110, 101, 115, 115, 32, 51, 32, 109, 109, 32, 103, 114, 97, 100, 101, 32, 53, 32, 116, 111, 108, 101, 114, 97, 110, 99, 101, 32, 53, 48, 32, 117, 109, 32, 100, 117, 101, 32, 49, 50])).bind fun (r : Dapi_CampaignOrder × Int × Int) =>
 (E_campaign_CoilLength ((bytes [115]), (5, (200000, (1250, 8000)))) r.1).bind fun (r_1 : Dapi_Range × Int) =>
 (E_cobblelaw01_Yard).bind fun (t : (List (List ByteArray))) =>
 (E_campaign_BlockedBy t [(bytes [97]), (bytes [99])]).bind fun (r_2 : (List ByteArray) × Int) =>
 (E_cobblelaw01_Rules).bind fun (t_1 : Dapi_CampaignRules) =>
 (E_cobblelaw01_Items).bind fun (t_2 : (List Dapi_CampaignItem)) =>
 (E_campaign_Cheapest t_1 t_2).bind fun (r_3 : (List Int) × Int × Int) =>
 (E_cobblelaw01_Rules).bind fun (t_3 : Dapi_CampaignRules) =>
 (E_cobblelaw01_Items).bind fun (t_4 : (List Dapi_CampaignItem)) =>
 (E_campaign_BoundOf t_3 t_4 [0, 20, 0]).bind fun (r_4 : Int × Int) =>
 (bif ((r.2.2 == 0) && (r_1.2 == 0)) then
 some (Ty.eqb Tapi_Range r_1.1 (546448, 564972))
 else some false).bind fun (c : Bool) =>
 (bif (c && (r_2.2 == 0)) then
 (E_b0_Texts r_2.1 [(bytes [98]), (bytes [99])]).bind fun (t_5 : Bool) =>
 some t_5
 else some false).bind fun (c_1 : Bool) =>
 (bif (c_1 && (r_3.2.2 == 0)) then
 (E_b0_Ints r_3.1 [1, 0, 2]).bind fun (t_6 : Bool) =>
 some t_6
 else some false).bind fun (c_2 : Bool) =>
 let t_7 : Bool := (((c_2 && (r_3.2.1 == 270)) && (r_4.2 == 0)) && (r_4.1 == 160))
 some t_7
theorem le_cobblelaw01_awake  : Lq (E_cobblelaw01_awake ) (cobblelaw01_awake ) := by
  unfold E_cobblelaw01_awake cobblelaw01_awake
  repeat' with_reducible first | exact lq_refl _ | apply le_campaign_ParseOrder | apply le_campaign_CoilLength | apply le_cobblelaw01_Yard | apply le_campaign_BlockedBy | apply le_cobblelaw01_Rules | apply le_cobblelaw01_Items | apply le_campaign_Cheapest | apply le_campaign_BoundOf | apply le_b0_Texts | apply le_b0_Ints | apply le_cat | apply lq_bind | apply lq_loop | apply lq_cond | apply lq_chk | apply lq_map | (refine lq_sumfun (fun _ => ?_) (fun _ => ?_) <;> dsimp only) | (intro _; try dsimp only) | dsimp only
end Go.Lift
namespace Go.Lift
open Go
theorem awake_true : cobblelaw01_awake = some true := le_cobblelaw01_awake _ (by kernel_rfl)
end Go.Lift
