/-
  The rules of models, parsed on both sides.
-/
import Derived.Test.YtkoojmbkjgbdgaaGreatDoorPlainD
set_option linter.unusedSectionVars false
set_option linter.unusedVariables false
set_option linter.unusedSimpArgs false
set_option linter.unusedVariables false
set_option linter.unusedSimpArgs false
namespace Go.Lift
open Go
theorem gcd_loop : ∀ (n : Nat) {a b : Int}, b.natAbs ≤ n →
    ∃ r : Int, loopM (S := Int × Int) (R := Int) (fun s =>
    let a_1 : Int := s.1
    let b_1 : Int := s.2
    bif (b_1 != 0) then
      chk (b_1 != 0) (
        some (.inl (b_1, Int.tmod a_1 b_1)))
    else
      some (.inr a_1)) (a, b) = some r ∧ r.natAbs = Nat.gcd a.natAbs b.natAbs
  | n, a, b, hn => by
    by_cases hb : b = 0
    · subst hb
      refine ⟨a, loopM_done ?_, ?_⟩
      · simp only
        rw [show ((0 : Int) != 0) = false from rfl, cond_false]
      · rw [Int.natAbs_zero, Nat.gcd_zero_right]
    · cases n with
      | zero => exact absurd (Int.natAbs_eq_zero.1 (by omega)) hb
      | succ n =>
        have hm : (Int.tmod a b).natAbs = a.natAbs % b.natAbs := Int.natAbs_tmod a b
        have hpos : 0 < b.natAbs := by omega
        have hlt := Nat.mod_lt a.natAbs hpos
        obtain ⟨r, h1, h2⟩ := gcd_loop n (a := b) (b := Int.tmod a b) (by omega)
        refine ⟨r, ?_, ?_⟩
        · rw [loopM_next (s' := (b, Int.tmod a b))]
          · exact h1
          · simp only
            rw [show (b != 0) = true by rw [bne_iff_ne]; exact hb, cond_true]
            rfl
        · rw [h2, hm, Nat.gcd_comm b.natAbs, ← Nat.gcd_rec, Nat.gcd_comm]
theorem IsLowest_ok (f : Int × Int) (h : f.1.natAbs ≤ 1000000000 ∧ f.2.natAbs ≤ 1000000000) : ∃ b, b0_IsLowest f = some b ∧ model_isLowest f = some b ∧ (b = true → 0 < f.2) := by
  obtain ⟨r, e1, e2⟩ := gcd_loop f.2.natAbs (a := f.1) (b := f.2) (Nat.le_refl _)
  unfold b0_IsLowest model_isLowest b0_Gcd model_divisor b0_Size
  rw [e1]
  simp only [Option.bind_some]
  cases h2 : decide (f.2 > 0) with
  | false => exact ⟨false, rfl, rfl, fun h => by cases h⟩
  | true => exact ⟨_, rfl, rfl, fun _ => of_decide_eq_true h2⟩
def knB (k : Int × Int) : Bool := inB k.1 0 20000 && inB k.2 1 100000
def prevB : Option Int → Int → Bool
  | some x, k => decide (k ≤ x)
  | none, _ => false
def tbE : Option Int → Nat → List (Int × Int) → Int × Int
  | _, _, [] => (0, 0)
  | p, i, k :: l => if knB k = false then ((i : Int), 2) else if prevB p k.1 = true then ((i : Int), 9) else tbE (some k.1) (i + 1) l
theorem tbE_cons (p : Option Int) (i : Nat) (k : Int × Int) (l : List (Int × Int)) : tbE p i (k :: l) = if knB k = false then ((i : Int), 2) else if prevB p k.1 = true then ((i : Int), 9) else tbE (some k.1) (i + 1) l := rfl
def tabE (l : List (Int × Int)) : Int × Int := if l.length = 0 then (0, 10) else if 12 < l.length then (0, 8) else tbE none 0 l
theorem tb_loop {F : Int → Option (Int ⊕ (Unit ⊕ (Int × Int)))} {l : List (Int × Int)}
    (hstep : ∀ pre k post, l = pre ++ k :: post → F (pre.length : Int) = if knB k = false then some (.inr (.inr ((pre.length : Int), 2))) else if prevB ((pre.getLast?).map (·.1)) k.1 = true then some (.inr (.inr ((pre.length : Int), 9))) else some (.inl ((pre.length : Int) + 1)))
    (hend : F (l.length : Int) = some (.inr (.inl ()))) : ((loopM F 0).bind fun j => match j with
    | .inl _ => (
      some (0, 0))
    | .inr r => some r) = some (tbE none 0 l) := by
  have key : ∃ r, loopM F 0 = some r ∧ (match r with | .inl _ => (0, 0) | .inr r => r) = tbE none 0 l := by
    refine loopM_list (X := Int × Int) (l := l) (fun l' s => ∃ pre : List (Int × Int), l = pre ++ l' ∧ s = (pre.length : Int) ∧ tbE none 0 l = tbE ((pre.getLast?).map (·.1)) pre.length l') _ ?_ ?_ ⟨[], rfl, rfl, rfl⟩
    · rintro s l' _ ⟨pre, e1, rfl, e2⟩
      have h := hstep pre s l' e1
      rw [tbE_cons] at e2
      rw [e2]
      by_cases h1 : knB s = false
      · rw [if_pos h1] at h ⊢; exact .inr ⟨_, h, rfl⟩
      · rw [if_neg h1] at h ⊢
        by_cases h2 : prevB ((pre.getLast?).map (·.1)) s.1 = true
        · rw [if_pos h2] at h ⊢; exact .inr ⟨_, h, rfl⟩
        · rw [if_neg h2] at h ⊢
          refine .inl ⟨_, h, pre ++ [s], by rw [e1]; simp, by rw [List.length_append, List.length_singleton]; rfl, ?_⟩
          rw [List.length_append, List.length_singleton, List.getLast?_concat]; rfl
    · rintro _ ⟨pre, e1, rfl, e2⟩
      rw [List.append_nil] at e1
      subst e1
      exact ⟨_, hend, by rw [e2]; rfl⟩
  obtain ⟨r, h1, h2⟩ := key
  rw [h1, Option.bind_some, ← h2]
  cases r <;> rfl
theorem isX_ok (n : Int) : model_isX n = some (inB n 0 20000) := by unfold model_isX; rw [model_within_ok]; rfl
theorem prev_get {l pre post : List (Int × Int)} {k : Int × Int} (e : l = pre ++ k :: post) (h : 1 ≤ pre.length) : ∃ x, pre.getLast? = some x ∧ lget (0, 0) l ((pre.length : Int) - 1) = x := by
  obtain ⟨u, x, rfl⟩ : ∃ u x, pre = u ++ [x] := ⟨pre.dropLast, pre.getLast (by intro h0; rw [h0] at h; cases h), (List.dropLast_concat_getLast _).symm⟩
  refine ⟨x, List.getLast?_concat, ?_⟩
  rw [e, List.length_append, List.length_singleton, show ((u.length + 1 : Nat) : Int) - 1 = (u.length : Int) by omega, List.append_assoc]
  exact lget_mid
theorem model_CheckTable_ok {l : List (Int × Int)} (hl : l.length ≤ 60000) : model_CheckTable l = some (tabE l) := by
  unfold model_CheckTable tabE
  simp only [model_unless_ok, Option.bind_some]
  rw [model_first_ok (by simp), Option.bind_some]
  simp only [firstE_cons]
  by_cases h0 : l.length = 0
  · rw [dec_false (show ¬ (l.length : Int) > 0 by omega), if_pos h0]; rfl
  · rw [dec_true (show (l.length : Int) > 0 by omega), if_neg h0]
    by_cases h6 : 12 < l.length
    · rw [dec_false (show ¬ (l.length : Int) ≤ 12 by omega), if_pos h6]; rfl
    · rw [dec_true (show (l.length : Int) ≤ 12 by omega), if_neg h6]
      show ((loopM _ 0).bind _) = _
      refine tb_loop ?_ ?_
      · intro pre k post e1
        have hL : l.length = pre.length + (post.length + 1) := by rw [e1, List.length_append, List.length_cons]
        have g1 : ∀ d, lget d l (pre.length : Int) = k := fun d => by rw [e1]; exact lget_mid
        rw [dec_true (show (pre.length : Int) < (l.length : Int) by omega), cond_true, chk_true (and_true' (dec_true (by omega)) rfl)]
        simp only [g1, isX_ok, model_within_ok, Option.bind_some, cond_and, model_unless_ok]
        rw [show (inB k.1 0 20000 && decide (1 ≤ k.2 ∧ k.2 ≤ 100000)) = knB k from rfl]
        by_cases hp : pre.length = 0
        · have hp' : pre = [] := List.length_eq_zero_iff.1 hp
          subst hp'
          rw [show ((([] : List (Int × Int)).length : Int) == 0) = true from rfl, cond_true, Option.bind_some, cond_true, model_first_ok (by simp), Option.bind_some, wi64_id (by decide) (by decide)]
          cases knB k <;> rfl
        · obtain ⟨x, p1, p2⟩ := prev_get e1 (by omega)
          rw [show ((pre.length : Int) == 0) = false by rw [beq_eq_false_iff_ne]; omega, cond_false, wi64_id (x := (pre.length : Int) - 1) (by omega) (by omega), show imax 0 ((pre.length : Int) - 1) = (pre.length : Int) - 1 by unfold imax; split <;> omega, p2, chk_true (and_true' (dec_true (by omega)) (dec_true (by omega))), Option.bind_some, model_first_ok (by simp), Option.bind_some, p1, wi64_id (by omega) (by omega)]
          rw [show Option.map (fun x : Int × Int => x.1) (some x) = some x.1 from rfl, show decide (k.1 > x.1) = !prevB (some x.1) k.1 by show _ = !decide (k.1 ≤ x.1); rw [← decide_not, decide_eq_decide]; omega]
          cases knB k <;> cases prevB (some x.1) k.1 <;> rfl
      · rw [dec_false (by omega), cond_false]
theorem ref_CheckTable_ok {l : List (Int × Int)} (hl : l.length ≤ 60000) : cobbleref04_CheckTable l = some (tabE l) := by
  unfold cobbleref04_CheckTable tabE
  by_cases h0 : l.length = 0
  · rw [show ((l.length : Int) == 0) = true by rw [h0]; rfl, if_pos h0]; rfl
  · rw [show ((l.length : Int) == 0) = false by rw [beq_eq_false_iff_ne]; omega, if_neg h0, cond_false]
    by_cases h6 : 12 < l.length
    · rw [dec_true (show (l.length : Int) > 12 by omega), if_pos h6]; rfl
    · rw [dec_false (show ¬ (l.length : Int) > 12 by omega), if_neg h6, cond_false]
      refine tb_loop ?_ ?_
      · intro pre k post e1
        have hL : l.length = pre.length + (post.length + 1) := by rw [e1, List.length_append, List.length_cons]
        have g1 : ∀ d, lget d l (pre.length : Int) = k := fun d => by rw [e1]; exact lget_mid
        have hck : (decide ((0 : Int) ≤ (pre.length : Int)) && true) = true := and_true' (dec_true (by omega)) rfl
        rw [dec_true (show (pre.length : Int) < (l.length : Int) by omega), cond_true, chk_true hck, chk_true hck, chk_true hck, g1]
        unfold cobbleref04_XErr
        rw [Within_ok, Option.bind_some, Within_ok]
        by_cases hk : knB k = true
        · have hk' := hk
          unfold knB inB at hk'
          rw [Bool.and_eq_true] at hk'
          rw [hk'.1, hk'.2, hk]
          simp only [Bool.not_true, cond_false, Option.bind_some]
          rw [show ((0 : Int) != 0) = false from rfl, cond_false, Option.bind_some, cond_false]
          by_cases hp : pre.length = 0
          · have hp' : pre = [] := List.length_eq_zero_iff.1 hp
            subst hp'
            rw [dec_false (show ¬ ((([] : List (Int × Int)).length : Int) > 0) by decide), cond_false, Option.bind_some, wi64_id (by decide) (by decide)]
            rfl
          · obtain ⟨x, p1, p2⟩ := prev_get e1 (by omega)
            rw [dec_true (show (pre.length : Int) > 0 by omega), cond_true, wi64_id (x := (pre.length : Int) - 1) (by omega) (by omega), p2, chk_true (and_true' (dec_true (by omega)) (dec_true (by omega))), Option.bind_some, p1, wi64_id (by omega) (by omega)]
            rw [show Option.map (fun x : Int × Int => x.1) (some x) = some x.1 from rfl, show decide (k.1 ≤ x.1) = prevB (some x.1) k.1 from rfl]
            cases prevB (some x.1) k.1 <;> rfl
        · rw [if_pos (by simpa using hk)]
          have hk' := hk
          unfold knB inB at hk'
          cases h1 : decide (0 ≤ k.1 ∧ k.1 ≤ 20000) with
          | false => rfl
          | true =>
            rw [h1, Bool.true_and, Bool.not_eq_true] at hk'
            rw [hk']
            rfl
      · rw [dec_false (by omega), cond_false]
theorem aset0 {A : Type} (d x y : A) : aget (aset (aset (fun _ => d) 0 x) 1 y) 0 = x := rfl
theorem aset1 {A : Type} (d x y : A) : aget (aset (aset (fun _ => d) 0 x) 1 y) 1 = y := rfl
def smallR (r : Dapi_ModelRules) : Prop := (r.2.1.1.natAbs ≤ 1000000000 ∧ r.2.1.2.natAbs ≤ 1000000000) ∧ (r.2.2.1.1.natAbs ≤ 1000000000 ∧ r.2.2.1.2.natAbs ≤ 1000000000)
theorem model_CheckRules_both {r : Dapi_ModelRules} (hl : r.1.length ≤ 60000) (hs : smallR r) : ∃ e, model_CheckRules r = some e ∧ cobbleref04_CheckRules r = some e := by
  obtain ⟨b1, p1, q1, c1⟩ := IsLowest_ok r.2.1 hs.1
  obtain ⟨b2, p2, q2, c2⟩ := IsLowest_ok r.2.2.1 hs.2
  unfold model_CheckRules cobbleref04_CheckRules
  rw [model_CheckTable_ok hl, ref_CheckTable_ok hl, Option.bind_some, Option.bind_some]
  cases ht : ((tabE r.1).2 != 0) with
  | true => exact ⟨_, rfl, rfl⟩
  | false =>
    rw [cond_false, cond_false, p1, p2, q1, q2]
    have hlp : loopM (S := Bool × Int) (R := Bool) (fun s =>
      let right_ : Bool := s.1
      let t_1 : Int := s.2
      bif decide (t_1 < 2) then
        chk (decide ((0 : Int) ≤ t_1) && decide ((t_1 : Int) < 2)) (
          let f : Dapi_ModelCorrection := aget (aset (aset (fun _ => (0, 0)) 0 r.2.1) 1 r.2.2.1) t_1
          (bif right_ then
            (model_CheckRules_1 f.1).bind fun (t_2 : Bool) =>
            some t_2
          else some false).bind fun (c : Bool) =>
          (bif c then
            (model_CheckRules_1 f.2).bind fun (t_3 : Bool) =>
            some t_3
          else some false).bind fun (c_1 : Bool) =>
          some (.inl (c_1, wi64 (t_1 + 1))))
      else
        some (.inr right_)) (decide (0 ≤ r.2.2.2 ∧ r.2.2.2 ≤ 900), 0) = some (decide (0 ≤ r.2.2.2 ∧ r.2.2.2 ≤ 900) && inB r.2.1.1 1 900 && inB r.2.1.2 1 900 && inB r.2.2.1.1 1 900 && inB r.2.2.1.2 1 900) := by
      have step : ∀ (f : Dapi_ModelCorrection) (b : Bool) (t : Int), (((bif b then
            (model_CheckRules_1 f.1).bind fun (t_2 : Bool) =>
            some t_2
          else some false).bind fun (c : Bool) =>
          (bif c then
            (model_CheckRules_1 f.2).bind fun (t_3 : Bool) =>
            some t_3
          else some false).bind fun (c_1 : Bool) =>
          some (.inl (c_1, t))) : Option ((Bool × Int) ⊕ Bool)) = some (.inl (b && inB f.1 1 900 && inB f.2 1 900, t)) := by
        intro f b t
        unfold model_CheckRules_1
        rw [model_within_ok, Option.bind_some, Option.bind_some, cond_and, Option.bind_some, model_within_ok, Option.bind_some, Option.bind_some, cond_and, Option.bind_some]
        rfl
      rw [loopM_next (s' := _) (by simp only; rw [show decide ((0 : Int) < 2) = true from rfl, cond_true, chk_true (show (decide ((0 : Int) ≤ 0) && true) = true from rfl), aset0]; exact step _ _ _)]
      rw [loopM_next (s' := _) (by simp only; rw [show wi64 (0 + 1) = 1 from rfl, show decide ((1 : Int) < 2) = true from rfl, cond_true, chk_true (show (decide ((0 : Int) ≤ 1) && true) = true from rfl), aset1]; exact step _ _ _)]
      rw [loopM_done (r := _) (by simp only; rw [show wi64 (1 + 1) = 2 from rfl, show decide ((2 : Int) < 2) = false from rfl, cond_false])]
    rw [model_within_ok, Option.bind_some, hlp]
    simp only [Option.bind_some, cond_and, cond_or, model_unless_ok]
    rw [model_first_ok (by simp), Option.bind_some]
    unfold cobbleref04_isGain
    simp only [Within_ok, Option.bind_some, cond_or]
    cases b1 with
    | false => exact ⟨(0, 3), rfl, rfl⟩
    | true =>
      cases b2 with
      | false => exact ⟨(0, 3), rfl, rfl⟩
      | true =>
        refine ⟨_, rfl, ?_⟩
        have d1 := c1 rfl
        have d2 := c2 rfl
        have e : (!(decide (1 ≤ r.2.1.1 ∧ r.2.1.1 ≤ 900) && decide (r.2.1.2 ≤ 900)) || !(decide (1 ≤ r.2.2.1.1 ∧ r.2.2.1.1 ≤ 900) && decide (r.2.2.1.2 ≤ 900)) || !decide (0 ≤ r.2.2.2 ∧ r.2.2.2 ≤ 900)) = !(decide (0 ≤ r.2.2.2 ∧ r.2.2.2 ≤ 900) && inB r.2.1.1 1 900 && inB r.2.1.2 1 900 && inB r.2.2.1.1 1 900 && inB r.2.2.1.2 1 900) := by
          unfold inB
          rw [Bool.eq_iff_iff]
          simp only [Bool.or_eq_true, Bool.not_eq_true', Bool.and_eq_false_iff, decide_eq_false_iff_not]
          omega
        show (bif (!(decide (1 ≤ r.2.1.1 ∧ r.2.1.1 ≤ 900) && decide (r.2.1.2 ≤ 900)) || !(decide (1 ≤ r.2.2.1.1 ∧ r.2.2.1.1 ≤ 900) && decide (r.2.2.1.2 ≤ 900)) || !decide (0 ≤ r.2.2.2 ∧ r.2.2.2 ≤ 900)) then some (0, 2) else some (0, 0)) = _
        rw [e]
        cases (decide (0 ≤ r.2.2.2 ∧ r.2.2.2 ≤ 900) && inB r.2.1.1 1 900 && inB r.2.1.2 1 900 && inB r.2.2.1.1 1 900 && inB r.2.2.1.2 1 900) <;> rfl
end Go.Lift
set_option linter.unusedVariables false
set_option linter.unusedSimpArgs false
namespace Go.Lift
open Go
def pairL (c : UInt8) (w : List UInt8) : Option (Nat × Nat) := match pcs c w with
  | [a, b] => (numD 7 a).bind fun x => (numD 7 b).map fun y => (x, y)
  | _ => none
theorem numD_all {D : Nat} {l : List UInt8} {n : Nat} (h : numD D l = some n) : l.all isD = true := by
  unfold numD at h
  split at h
  · rename_i hc; exact hc.2.2.1
  · cases h
theorem numD_empty {D : Nat} : numD D [] = none := by unfold numD; rw [if_neg (fun e => e.1 rfl)]
theorem pair_ok {c : UInt8} (hc : isD c = false) {w : List UInt8} (h : w.length ≤ 60000) : ∃ r : Int × Int × Bool, model_pair (bof w) ⟨#[c]⟩ = some r ∧ (∀ p, pairL c w = some p → r = ((p.1 : Int), (p.2 : Int), true)) ∧ (pairL c w = none → r.2.2 = false) := by
  have h' : (bof w).size ≤ 60000 := h
  unfold model_pair strings_Cut
  rw [cutF_ok (by omega), Option.bind_some, data_bof]
  cases hcut : cutL c w with
  | none =>
    simp only
    obtain ⟨r1, a1, a2, a3⟩ := model_number_ok (s := bof w) h'
    obtain ⟨r2, b1, b2, b3⟩ := model_number_ok (s := ByteArray.empty) (by decide)
    rw [a1, b1, Option.bind_some, Option.bind_some]
    refine ⟨_, rfl, fun p hp => ?_, fun _ => ?_⟩
    · unfold pairL at hp; rw [pcs_none hcut] at hp; cases hp
    · show (r1.2 && r2.2) = false
      rw [b3 numD_empty, Bool.and_false]
  | some xy =>
    obtain ⟨x, y⟩ := xy
    have hl := congrArg List.length (cutL_len hcut)
    rw [List.length_append, List.length_cons] at hl
    simp only
    obtain ⟨r1, a1, a2, a3⟩ := model_number_ok (s := bof x) (by rw [bof_size]; omega)
    obtain ⟨r2, b1, b2, b3⟩ := model_number_ok (s := bof y) (by rw [bof_size]; omega)
    rw [data_bof] at a2 a3 b2 b3
    rw [a1, b1, Option.bind_some, Option.bind_some]
    have hpair : pairL c w = (numD 7 x).bind fun a => (numD 7 y).map fun b => (a, b) := by
      unfold pairL
      rw [pcs_some hcut]
      cases hy : cutL c y with
      | none => rw [pcs_none hy]
      | some uv =>
        have hn : numD 7 y = none := by
          cases hny : numD 7 y with
          | none => rfl
          | some n =>
            have hall := numD_all hny
            have hm : c ∈ y := by rw [cutL_len (x := uv.1) (y := uv.2) hy]; simp
            have := List.all_eq_true.1 hall c hm
            rw [hc] at this; cases this
        have hne : pcs c uv.2 ≠ [] := pcs_ne
        rw [pcs_some (x := uv.1) (y := uv.2) hy, hn]
        cases hz : pcs c uv.2 with
        | nil => exact absurd hz hne
        | cons z zs => cases numD 7 x <;> rfl
    rw [hpair]
    refine ⟨_, rfl, fun p hp => ?_, fun hp => ?_⟩
    · cases hx : numD 7 x with
      | none => rw [hx] at hp; cases hp
      | some a =>
        cases hy : numD 7 y with
        | none => rw [hx, hy] at hp; cases hp
        | some b =>
          rw [hx, hy] at hp
          cases hp
          rw [a2 a hx, b2 b hy]; rfl
    · show (r1.2 && r2.2) = false
      cases hx : numD 7 x with
      | none => rw [a3 hx, Bool.false_and]
      | some a =>
        cases hy : numD 7 y with
        | none => rw [b3 hy, Bool.and_false]
        | some b => rw [hx, hy] at hp; cases hp
theorem parsedNumber_ok {s : ByteArray} (hs : s.size ≤ 60000) : ∃ r : Int × Bool, cobbleref04_parsedNumber s = some r ∧ (∀ n, numD 7 s.data.toList = some n → r = ((n : Int), true)) ∧ (numD 7 s.data.toList = none → r.2 = false) := by
  obtain ⟨r, h1, h2, h3⟩ := Number_ok (D := 7) (by decide) (by decide) hs
  unfold cobbleref04_parsedNumber
  rw [show (7 : Int) = ((7 : Nat) : Int) from rfl, h1, Option.bind_some]
  refine ⟨_, rfl, fun n hn => ?_, fun hn => h3 hn⟩
  rw [h2 n hn]
  show ((n : Int), (true && decide ((n : Int) ≥ 0))) = ((n : Int), true)
  rw [dec_true (by omega)]
  rfl
theorem parsedPair_ok {c : UInt8} {w : List UInt8} (h : w.length ≤ 60000) : ∃ r : Int × Int × Bool, cobbleref04_parsedPair (bof w) (c.toNat : Int) = some r ∧ (∀ p, pairL c w = some p → r = ((p.1 : Int), (p.2 : Int), true)) ∧ (pairL c w = none → r.2.2 = false) := by
  have h' : (bof w).size ≤ 60000 := h
  unfold cobbleref04_parsedPair pairL
  rw [Cut_ok h', Option.bind_some, data_bof, List.length_map]
  have hm := fun (x : List UInt8) (hx : x ∈ pcs c w) => pcs_mem hx
  generalize pcs c w = W at *
  have hbad : W.length ≠ 2 → ∃ r : Int × Int × Bool, (bif ((W.length : Int) != 2) then some (0, 0, false) else chk (decide ((0 : Int) ≤ 0) && decide (0 < (W.length : Int))) (
      (cobbleref04_parsedNumber (lget ByteArray.empty (W.map bof) 0)).bind fun (r : Int × Bool) =>
      chk (decide ((0 : Int) ≤ 1) && decide (1 < (W.length : Int))) (
        (cobbleref04_parsedNumber (lget ByteArray.empty (W.map bof) 1)).bind fun (r_1 : Int × Bool) =>
        some (r.1, r_1.1, (r.2 && r_1.2))))) = some r ∧ r = (0, 0, false) := fun hl => by
    rw [show ((W.length : Int) != 2) = true by rw [bne_iff_ne]; omega]
    exact ⟨_, rfl, rfl⟩
  match W, hm, hbad with
  | [], _, hbad => obtain ⟨r, h1, rfl⟩ := hbad (by simp); exact ⟨_, h1, fun p hp => (by cases hp), fun _ => rfl⟩
  | [a], _, hbad => obtain ⟨r, h1, rfl⟩ := hbad (by simp); exact ⟨_, h1, fun p hp => (by cases hp), fun _ => rfl⟩
  | a :: b :: d :: l, _, hbad => obtain ⟨r, h1, rfl⟩ := hbad (by simp); exact ⟨_, h1, fun p hp => (by cases hp), fun _ => rfl⟩
  | [a, b], hm, _ =>
    obtain ⟨r1, a1, a2, a3⟩ := parsedNumber_ok (s := bof a) (by have := hm a (by simp); rw [bof_size]; omega)
    obtain ⟨r2, b1, b2, b3⟩ := parsedNumber_ok (s := bof b) (by have := hm b (by simp); rw [bof_size]; omega)
    rw [data_bof] at a2 a3 b2 b3
    show ∃ r, (cobbleref04_parsedNumber (bof a)).bind (fun (r : Int × Bool) => (cobbleref04_parsedNumber (bof b)).bind fun (r_1 : Int × Bool) => some (r.1, r_1.1, (r.2 && r_1.2))) = some r ∧ _
    rw [a1, Option.bind_some, b1, Option.bind_some]
    refine ⟨_, rfl, fun p hp => ?_, fun hp => ?_⟩
    · cases hx : numD 7 a with
      | none => simp only [hx] at hp; cases hp
      | some x =>
        cases hy : numD 7 b with
        | none => simp only [hx, hy] at hp; cases hp
        | some y =>
          simp only [hx, hy] at hp
          cases hp
          rw [a2 x hx, b2 y hy]; rfl
    · show (r1.2 && r2.2) = false
      cases hx : numD 7 a with
      | none => rw [a3 hx, Bool.false_and]
      | some x =>
        cases hy : numD 7 b with
        | none => rw [b3 hy, Bool.and_false]
        | some y => simp only [hx, hy] at hp; cases hp
def kL : List (List UInt8) → Option (List (Int × Int))
  | [] => some []
  | w :: l => (pairL 64 w).bind fun p => (kL l).map fun r => ((p.1 : Int), (p.2 : Int)) :: r
theorem kL_len : ∀ {l : List (List UInt8)} {r : List (Int × Int)}, kL l = some r → r.length = l.length
  | [], _, h => by cases h; rfl
  | w :: l, r, h => by
    simp only [kL] at h
    cases h1 : pairL 64 w with
    | none => rw [h1] at h; cases h
    | some p =>
      cases h2 : kL l with
      | none => rw [h1, h2] at h; cases h
      | some r' => rw [h1, h2] at h; cases h; rw [List.length_cons, List.length_cons, kL_len h2]
theorem knotsF_ok : ∀ {l : List (List UInt8)} {out : List (Int × Int)} {ok : Bool}, (∀ w ∈ l, w.length ≤ 60000) → out.length + l.length ≤ 60000 →
    ∃ t, knotsF (l.map bof) out ok = some t ∧ (∀ r, kL l = some r → t = (out ++ r, ok)) ∧ (kL l = none → t.2 = false)
  | [], out, ok, _, _ => ⟨_, rfl, fun r hr => by cases hr; simp, fun h => by cases h⟩
  | w :: l, out, ok, hw, hl => by
    rw [List.length_cons] at hl
    obtain ⟨r, h1, h2, h3⟩ := pair_ok (c := 64) (by decide) (hw w List.mem_cons_self)
    obtain ⟨t, i1, i2, i3⟩ := knotsF_ok (l := l) (out := out ++ [(r.1, r.2.1)]) (ok := bif ok then r.2.2 else false) (fun x hx => hw x (List.mem_cons_of_mem _ hx)) (by rw [List.length_append, List.length_singleton]; omega)
    refine ⟨t, ?_, fun q hq => ?_, fun hq => ?_⟩
    · rw [List.map_cons, knotsF, show bytes [64] = (⟨#[64]⟩ : ByteArray) from rfl, h1, Option.bind_some, app_ok (by rw [List.length_singleton]; omega), Option.bind_some, i1]
    · simp only [kL] at hq
      cases hp : pairL 64 w with
      | none => rw [hp] at hq; cases hq
      | some p =>
        cases hk : kL l with
        | none => rw [hp, hk] at hq; cases hq
        | some k =>
          rw [hp, hk] at hq
          cases hq
          rw [i2 k hk, h2 p hp]
          cases ok <;> simp
    · simp only [kL] at hq
      cases hk : kL l with
      | none => exact i3 hk
      | some k =>
        cases hp : pairL 64 w with
        | some p => rw [hp, hk] at hq; cases hq
        | none =>
          rw [i2 k hk, h3 hp]
          cases ok <;> rfl
theorem pairL_small {c : UInt8} {w : List UInt8} {p : Nat × Nat} (h : pairL c w = some p) : p.1 ≤ 1000000000 ∧ p.2 ≤ 1000000000 := by
  unfold pairL at h
  split at h
  · rename_i a b _
    cases hx : numD 7 a with
    | none => rw [hx] at h; cases h
    | some x =>
      cases hy : numD 7 b with
      | none => rw [hx, hy] at h; cases h
      | some y =>
        rw [hx, hy] at h
        cases h
        have h1 := numD_lt hx
        have h2 := numD_lt hy
        rw [show (10 : Nat) ^ 7 = 10000000 from rfl] at h1 h2
        exact ⟨by show x ≤ _; omega, by show y ≤ _; omega⟩
  · cases h
theorem model_ParseRules_both {s : ByteArray} (h : s.size ≤ 50000) : ∃ z : Dapi_ModelRules × Int, model_ParseRules s = some z ∧ cobbleref04_ParseRules s = some z := by
  have hsz := size_len s
  have hW := pcs_len (c := 32) (l := s.data.toList)
  have hWm := fun (w : List UInt8) (hw : w ∈ pcs 32 s.data.toList) => pcs_mem hw
  unfold model_ParseRules cobbleref04_ParseRules strings_Split
  rw [dec_true (show s.size ≤ 1000000 by omega), cond_true, show bytes [32] = (⟨#[32]⟩ : ByteArray) from rfl, splitF_ok (by omega), show (32 : Int) = ((32 : UInt8).toNat : Int) from rfl, Cut_ok (by omega), Option.bind_some, Option.bind_some]
  generalize pcs 32 s.data.toList = W at *
  match W, hW, hWm with
  | [], _, _ => exact ⟨_, rfl, rfl⟩
  | [a], _, _ => exact ⟨_, rfl, rfl⟩
  | [a, b], _, _ => exact ⟨_, rfl, rfl⟩
  | a :: b :: c :: l, hW, hWm =>
    simp only [List.length_cons] at hW
    have ha : a.length ≤ 60000 := by have := hWm a (by simp); omega
    have hb : b.length ≤ 60000 := by have := hWm b (by simp); omega
    have hc : (bof c).size ≤ 60000 := by have := hWm c (by simp); rw [bof_size]; omega
    have hl : ∀ w ∈ l, w.length ≤ 60000 := fun w hw => by have := hWm w (by simp [hw]); omega
    obtain ⟨x, x1, x2, x3⟩ := pair_ok (c := 47) (by decide) ha
    obtain ⟨y, y1, y2, y3⟩ := pair_ok (c := 47) (by decide) hb
    obtain ⟨n, n1, n2, n3⟩ := model_number_ok hc
    obtain ⟨t, t1, t2, t3⟩ := knotsF_ok (l := l) (out := []) (ok := (x.2.2 && y.2.2) && n.2) hl (by rw [List.length_nil]; omega)
    obtain ⟨u, u1, u2, u3⟩ := parsedPair_ok (c := 47) ha
    obtain ⟨v, v1, v2, v3⟩ := parsedPair_ok (c := 47) hb
    obtain ⟨m, m1, m2, m3⟩ := parsedNumber_ok hc
    rw [data_bof] at n2 n3 m2 m3
    simp only [List.map_cons]
    rw [show bytes [47] = (⟨#[47]⟩ : ByteArray) from rfl, x1, Option.bind_some, y1, Option.bind_some, n1, Option.bind_some, t1, Option.bind_some]
    have g0 : lget ByteArray.empty (bof a :: bof b :: bof c :: l.map bof) 0 = bof a := rfl
    have g1 : lget ByteArray.empty (bof a :: bof b :: bof c :: l.map bof) 1 = bof b := rfl
    have g2 : lget ByteArray.empty (bof a :: bof b :: bof c :: l.map bof) 2 = bof c := rfl
    have hlen : ((bof a :: bof b :: bof c :: l.map bof).length : Int) = ((l.length + 3 : Nat) : Int) := by simp; omega
    rw [hlen, dec_false (show ¬ ((l.length + 3 : Nat) : Int) < 3 by omega), cond_false, chk_true (show (decide ((0 : Int) ≤ 0) && decide ((0 : Int) < ((l.length + 3 : Nat) : Int))) = true from and_true' rfl (dec_true (by omega))), g0, show (47 : Int) = ((47 : UInt8).toNat : Int) from rfl, u1, Option.bind_some, chk_true (show (decide ((0 : Int) ≤ 1) && decide ((1 : Int) < ((l.length + 3 : Nat) : Int))) = true from and_true' rfl (dec_true (by omega))), g1, v1, Option.bind_some, chk_true (show (decide ((0 : Int) ≤ 2) && decide ((2 : Int) < ((l.length + 3 : Nat) : Int))) = true from and_true' rfl (dec_true (by omega))), g2, m1, Option.bind_some]
    have hloop : ∀ (z : Dapi_ModelRules), z.1 = [] → ((loopM (S := Int × Dapi_ModelRules) (R := (Dapi_ModelRules) ⊕ (Dapi_ModelRules × Int)) (fun s_1 =>
              let i : Int := s_1.1
              let r_3 : Dapi_ModelRules := s_1.2
              bif decide (i < ((l.length + 3 : Nat) : Int)) then
                chk (decide ((0 : Int) ≤ i) && decide (i < ((l.length + 3 : Nat) : Int))) (
                  (cobbleref04_parsedPair (lget ByteArray.empty (bof a :: bof b :: bof c :: l.map bof) i) 64).bind fun (r_4 : Int × Int × Bool) =>
                  bif !r_4.2.2 then
                    Option.map Sum.inr (Option.map Sum.inr (
                      some (([], ((0, 0), ((0, 0), 0))), 7)))
                  else
                    (app r_3.1 [(r_4.1, r_4.2.1)]).bind fun (t_1 : List Dapi_ModelCorrection) =>
                    some (.inl (wi64 (i + 1), (t_1, r_3.2))))
              else
                some (.inr (.inl r_3))) (3, z))) = some (match kL l with | some k => .inl (k, z.2) | none => .inr (noModel, 7)) := by
      intro z hz
      refine loopM_list_eq (X := List UInt8) (l := l) (fun l' st => ∃ pre out, l = pre ++ l' ∧ st = (((pre.length + 3 : Nat) : Int), (out, z.2)) ∧ out.length = pre.length ∧ kL l = (kL l').map fun r => out ++ r) ?_ ?_ ⟨[], [], rfl, by rw [← hz]; rfl, rfl, by cases kL l <;> rfl⟩
      · rintro w l' _ ⟨pre, out, e1, rfl, e2, e3⟩
        have hL : l.length = pre.length + (l'.length + 1) := by rw [e1, List.length_append, List.length_cons]
        have gw : lget ByteArray.empty (bof a :: bof b :: bof c :: l.map bof) ((pre.length + 3 : Nat) : Int) = bof w := by
          have e : (bof a :: bof b :: bof c :: l.map bof) = (bof a :: bof b :: bof c :: pre.map bof) ++ bof w :: l'.map bof := by rw [e1]; simp
          rw [e, show pre.length + 3 = (bof a :: bof b :: bof c :: pre.map bof).length by simp]
          exact lget_mid
        obtain ⟨r, h1, h2, h3⟩ := parsedPair_ok (c := 64) (hl w (by rw [e1]; simp))
        simp only
        rw [dec_true (show ((pre.length + 3 : Nat) : Int) < ((l.length + 3 : Nat) : Int) by omega), cond_true, chk_true (and_true' (dec_true (by omega)) rfl), gw, show (64 : Int) = ((64 : UInt8).toNat : Int) from rfl, h1, Option.bind_some]
        simp only [kL] at e3
        cases hp : pairL 64 w with
        | none =>
          right
          rw [h3 hp, e3, hp]
          rfl
        | some p =>
          left
          rw [h2 p hp, Bool.not_true, cond_false, app_ok (by rw [List.length_singleton]; omega), Option.bind_some, wi64_id (by omega) (by omega)]
          rw [hp, Option.bind_some] at e3
          refine ⟨_, rfl, pre ++ [w], out ++ [((p.1 : Int), (p.2 : Int))], by rw [e1]; simp, ?_, by rw [List.length_append, List.length_append, List.length_singleton, List.length_singleton, e2], ?_⟩
          · rw [List.length_append, List.length_singleton, show pre.length + 1 + 3 = pre.length + 3 + 1 by omega]; rfl
          · rw [e3]
            cases kL l' with
            | none => rfl
            | some k => simp
      · rintro _ ⟨pre, out, e1, rfl, e2, e3⟩
        rw [List.append_nil] at e1
        subst e1
        simp only
        rw [dec_false (by omega), cond_false, e3]
        simp [kL]
    cases hx : pairL 47 a with
    | none =>
      rw [u3 hx]
      rw [x3 hx] at t2
      have ht : t.2 = false := by
        cases hk : kL l with
        | none => exact t3 hk
        | some k => rw [t2 k hk]; rfl
      rw [ht]
      exact ⟨_, rfl, rfl⟩
    | some p =>
      rw [u2 p hx]
      cases hy : pairL 47 b with
      | none =>
        rw [v3 hy]
        rw [y3 hy, Bool.and_false] at t2
        have ht : t.2 = false := by
          cases hk : kL l with
          | none => exact t3 hk
          | some k => rw [t2 k hk]; rfl
        rw [ht]
        exact ⟨_, rfl, rfl⟩
      | some q =>
        rw [v2 q hy]
        cases hn : numD 7 c with
        | none =>
          rw [m3 hn]
          rw [n3 hn, Bool.and_false] at t2
          have ht : t.2 = false := by
            cases hk : kL l with
            | none => exact t3 hk
            | some k => rw [t2 k hk]
          rw [ht]
          exact ⟨_, rfl, rfl⟩
        | some d =>
          rw [m2 d hn]
          simp only [Bool.not_true, Bool.or_self, cond_false]
          rw [hloop _ rfl, Option.bind_some]
          cases hk : kL l with
          | none =>
            rw [t3 hk]
            exact ⟨_, rfl, rfl⟩
          | some k =>
            have hkl := kL_len hk
            rw [t2 k hk, x2 p hx, y2 q hy, n2 d hn]
            have hs : smallR (k, (((p.1 : Int), (p.2 : Int)), (((q.1 : Int), (q.2 : Int)), (d : Int)))) := by
              have h1 := pairL_small hx
              have h2 := pairL_small hy
              exact ⟨⟨by show ((p.1 : Nat) : Int).natAbs ≤ _; omega, by show ((p.2 : Nat) : Int).natAbs ≤ _; omega⟩, ⟨by show ((q.1 : Nat) : Int).natAbs ≤ _; omega, by show ((q.2 : Nat) : Int).natAbs ≤ _; omega⟩⟩
            obtain ⟨e, e1, e2⟩ := model_CheckRules_both (r := (k, (((p.1 : Int), (p.2 : Int)), (((q.1 : Int), (q.2 : Int)), (d : Int))))) (by show k.length ≤ _; omega) hs
            simp only [List.nil_append, Bool.and_self, Bool.not_true, cond_false]
            rw [e1, Option.bind_some]
            unfold cobbleref04_RulesErr
            rw [e2, Option.bind_some, Option.bind_some]
            cases e.2 != 0 <;> exact ⟨_, rfl, rfl⟩
end Go.Lift
