/-
  The explanations of the document.
-/
import Derived.Test.YtfihcmhknhbndaaGreatDoorPlainO
import Derived.Test.YtfihcmhknhbndaaGreatDoorFunRe
set_option linter.unusedSectionVars false
set_option linter.unusedVariables false
set_option linter.unusedSimpArgs false
namespace Go.Lift
open Go
theorem Before_go {a b : List Int} (ha : a.length ≤ 1000) : ∀ (a' b' pre : List Int), a = pre ++ a' → b = pre ++ b' →
    ∃ o : Unit ⊕ Bool, loopM (S := Int) (R := (Unit) ⊕ (Bool)) (fun i =>
    bif ((decide (i < (List.length a : Int))) && (decide (i < (List.length b : Int)))) then
      chk (decide ((0 : Int) ≤ i) && decide (i < (List.length a : Int))) (
        chk (decide ((0 : Int) ≤ i) && decide (i < (List.length b : Int))) (
          bif ((lget 0 a i) != (lget 0 b i)) then
            chk (decide ((0 : Int) ≤ i) && decide (i < (List.length a : Int))) (
              chk (decide ((0 : Int) ≤ i) && decide (i < (List.length b : Int))) (
                let t : Bool := decide ((lget 0 a i) < (lget 0 b i))
                Option.map Sum.inr (Option.map Sum.inr (
                  some t))))
          else
            some (.inl (wi64 (i + 1)))))
    else
      some (.inr (.inl ()))) (pre.length : Int) = some o ∧ (match o with | .inl _ => decide ((List.length a : Int) < (List.length b : Int)) | .inr r => r) = bef a' b'
  | [], b', pre, e1, e2 => by
    have hL : a.length = pre.length := by rw [e1, List.append_nil]
    have hM : b.length = pre.length + b'.length := by rw [e2, List.length_append]
    refine ⟨.inl (), loopM_done ?_, ?_⟩
    · rw [dec_false (show ¬ (pre.length : Int) < (a.length : Int) by omega), Bool.false_and, cond_false]
    · simp only
      cases b' with
      | nil =>
        rw [List.length_nil] at hM
        exact dec_false (by omega)
      | cons x m =>
        rw [List.length_cons] at hM
        exact dec_true (by omega)
  | x :: l, [], pre, e1, e2 => by
    have hL : a.length = pre.length + (l.length + 1) := by rw [e1, List.length_append, List.length_cons]
    have hM : b.length = pre.length := by rw [e2, List.append_nil]
    refine ⟨.inl (), loopM_done ?_, ?_⟩
    · rw [dec_false (show ¬ (pre.length : Int) < (b.length : Int) by omega), Bool.and_false, cond_false]
    · simp only
      exact dec_false (by omega)
  | x :: l, y :: m, pre, e1, e2 => by
    have hL : a.length = pre.length + (l.length + 1) := by rw [e1, List.length_append, List.length_cons]
    have hM : b.length = pre.length + (m.length + 1) := by rw [e2, List.length_append, List.length_cons]
    have g1 : ∀ d, lget d a (pre.length : Int) = x := fun d => by rw [e1]; exact lget_mid
    have g2 : ∀ d, lget d b (pre.length : Int) = y := fun d => by rw [e2]; exact lget_mid
    by_cases hxy : x = y
    · subst hxy
      obtain ⟨o, o1, o2⟩ := Before_go (b := b) ha l m (pre ++ [x]) (by rw [e1]; simp) (by rw [e2]; simp)
      refine ⟨o, ?_, ?_⟩
      · rw [loopM_next (s' := ((pre ++ [x]).length : Int))]
        · exact o1
        · rw [dec_true (show (pre.length : Int) < (a.length : Int) by omega), dec_true (show (pre.length : Int) < (b.length : Int) by omega), dec_true (show (0 : Int) ≤ (pre.length : Int) by omega), show (true && true) = true from rfl, cond_true, chk_true rfl, chk_true rfl, g1, g2, bne_self_eq_false, cond_false, wi64_id (by omega) (by omega), List.length_append]
          rfl
      · rw [o2]
        conv => rhs; unfold bef
        rw [if_pos rfl]
    · refine ⟨.inr (decide (x < y)), loopM_done ?_, ?_⟩
      · rw [dec_true (show (pre.length : Int) < (a.length : Int) by omega), dec_true (show (pre.length : Int) < (b.length : Int) by omega), dec_true (show (0 : Int) ≤ (pre.length : Int) by omega), show (true && true) = true from rfl, cond_true, chk_true rfl, chk_true rfl, g1, g2, show (x != y) = true by rw [bne_iff_ne]; exact hxy, cond_true, chk_true rfl, chk_true rfl]
        rfl
      · simp only
        unfold bef
        rw [if_neg hxy]
theorem Before_ok {a b : List Int} (ha : a.length ≤ 1000) : b0_Before a b = some (bef a b) := by
  unfold b0_Before
  obtain ⟨o, o1, o2⟩ := Before_go (b := b) ha a b [] rfl rfl
  refine Option.bind_eq_some_iff.2 ⟨o, o1, ?_⟩
  cases o with
  | inl u => exact congrArg some o2
  | inr r => exact congrArg some o2
theorem members_ok {s : Nat} (h : s < W64) : r9_members (s : Int) = some (memL s) := by
  unfold r9_members
  refine Option.bind_eq_some_iff.2 ⟨memL s, ?_, rfl⟩
  have key : ∀ d i : Nat, i + d = 64 → loopM (S := Int × (List Int) × Int) (R := (List Int)) (fun s =>
    let n_1 : Int := s.1
    let out : (List Int) := s.2.1
    let i : Int := s.2.2
    bif decide (n_1 > 0) then
      chk (2 != 0) (
        (bif ((Int.tmod n_1 2) == 1) then
          (app out [i]).bind fun (t : List Int) =>
          some t
        else
          some out).bind fun (out_1 : (List Int)) =>
        chk (2 != 0) (
          let t_1 : Int := wi64 (Int.tdiv n_1 2)
          some (.inl (t_1, out_1, wi64 (i + 1)))))
    else
      some (.inr out)) (((s / 2 ^ i : Nat) : Int), (((List.range i).filter s.testBit).map fun (i : Nat) => (i : Int)), (i : Int)) = some (memL s) := by
    intro d
    induction d with
    | zero =>
      intro i hi
      have : i = 64 := by omega
      subst this
      rw [show s / 2 ^ 64 = 0 from Nat.div_eq_of_lt (by rw [← pow64]; exact h)]
      exact loopM_done rfl
    | succ d ih =>
      intro i hi
      by_cases hz : s / 2 ^ i = 0
      · rw [hz]
        have : (List.range i).filter s.testBit = (List.range 64).filter s.testBit := by
          have hb : ∀ j, i ≤ j → s.testBit j = false := fun j hj => by
            refine Nat.testBit_lt_two_pow (Nat.lt_of_lt_of_le (m := 2 ^ i) ?_ (Nat.pow_le_pow_right (by decide) hj))
            rcases Nat.div_eq_zero_iff.1 hz with e | e
            · have := Nat.pow_pos (n := i) (show 0 < 2 by decide); omega
            · exact e
          have : ∀ m, (List.range (i + m)).filter s.testBit = (List.range i).filter s.testBit := by
            intro m
            induction m with
            | zero => rfl
            | succ m ihm => rw [← Nat.add_assoc, filter_range_succ, ihm, hb (i + m) (by omega), if_neg (by decide), List.append_nil]
          rw [← this (64 - i), show i + (64 - i) = 64 by omega]
        rw [this]
        exact loopM_done rfl
      · rw [loopM_next (s' := (((s / 2 ^ (i + 1) : Nat) : Int), (((List.range (i + 1)).filter s.testBit).map fun (i : Nat) => (i : Int)), ((i + 1 : Nat) : Int)))]
        · exact ih (i + 1) (by omega)
        · simp only
          have hpos : 0 < s / 2 ^ i := Nat.pos_of_ne_zero hz
          have hle : s / 2 ^ i ≤ s := Nat.div_le_self _ _
          have hd2 : s / 2 ^ i / 2 = s / 2 ^ (i + 1) := by rw [Nat.div_div_eq_div_mul, Nat.pow_succ]
          have hl : ((List.range i).filter s.testBit).length ≤ 64 := by
            have := List.length_filter_le s.testBit (List.range i)
            rw [List.length_range] at this
            omega
          have hbit : (Int.tmod ((s / 2 ^ i : Nat) : Int) 2 == 1) = s.testBit i := by
            rw [Nat.testBit_eq_decide_div_mod_eq, show Int.tmod ((s / 2 ^ i : Nat) : Int) 2 = ((s / 2 ^ i % 2 : Nat) : Int) from (Int.ofNat_tmod (s / 2 ^ i) 2).symm]
            generalize s / 2 ^ i % 2 = q
            rw [Bool.eq_iff_iff, beq_iff_eq, decide_eq_true_eq]
            omega
          have hdiv : wi64 (Int.tdiv ((s / 2 ^ i : Nat) : Int) 2) = ((s / 2 ^ (i + 1) : Nat) : Int) := by
            rw [show Int.tdiv ((s / 2 ^ i : Nat) : Int) 2 = ((s / 2 ^ i / 2 : Nat) : Int) from (Int.ofNat_tdiv (s / 2 ^ i) 2).symm, hd2]
            have hs2 : s / 2 ^ (i + 1) < 9223372036854775808 := by
              rw [← hd2]
              unfold W64 at h
              omega
            exact wi64_id (by omega) (by omega)
          rw [dec_true (show ((s / 2 ^ i : Nat) : Int) > 0 from Int.ofNat_lt.2 hpos), cond_true, chk_true (show ((2 : Nat) != 0) = true from rfl), hbit, hdiv, wi64_id (by omega) (by omega), filter_range_succ]
          cases hb : s.testBit i with
          | true =>
            rw [cond_true, app_ok (by rw [List.length_map, List.length_singleton]; omega), Option.bind_some, Option.bind_some, if_pos rfl, List.map_append]
            rfl
          | false =>
            rw [cond_false, Option.bind_some, if_neg (by decide), List.append_nil]
            rfl
  have := key 64 0 (by omega)
  rw [Nat.pow_zero, Nat.div_one] at this
  exact this
def insL (x : List Int) : List (List Int) → List (List Int)
  | [] => [x]
  | e :: l => if bef x e = true then x :: e :: l else e :: insL x l
def insN (x : Nat) : List Nat → List Nat
  | [] => [x]
  | e :: l => if bef (memL x) (memL e) = true then x :: e :: l else e :: insN x l
theorem insL_map {x : Nat} : ∀ {l : List Nat}, insL (memL x) (l.map memL) = (insN x l).map memL
  | [] => rfl
  | e :: l => by
    rw [List.map_cons]
    unfold insL insN
    by_cases h : bef (memL x) (memL e) = true
    · rw [if_pos h, if_pos h]; rfl
    · rw [if_neg h, if_neg h, List.map_cons, insL_map]
theorem insN_mem {x s : Nat} : ∀ {l : List Nat}, s ∈ insN x l ↔ s = x ∨ s ∈ l
  | [] => by unfold insN; simp
  | e :: l => by
    unfold insN
    by_cases h : bef (memL x) (memL e) = true
    · rw [if_pos h, List.mem_cons]
    · rw [if_neg h, List.mem_cons, insN_mem, List.mem_cons]
      constructor
      · rintro (h | h | h)
        · exact Or.inr (Or.inl h)
        · exact Or.inl h
        · exact Or.inr (Or.inr h)
      · rintro (h | h | h)
        · exact Or.inr (Or.inl h)
        · exact Or.inl h
        · exact Or.inr (Or.inr h)
theorem insN_srt {x : Nat} (hx : x < W64) : ∀ {l : List Nat}, l.Pairwise (fun a b => lessB a b = true) → (∀ e, e ∈ l → e < W64 ∧ e ≠ x ∧ sizeN e = sizeN x) → (insN x l).Pairwise fun a b => lessB a b = true
  | [], _, _ => by unfold insN; exact List.pairwise_singleton _ _
  | e :: l, h, k => by
    unfold insN
    rw [List.pairwise_cons] at h
    obtain ⟨k1, k2, k3⟩ := k e (by simp)
    by_cases q : bef (memL x) (memL e) = true
    · rw [if_pos q, List.pairwise_cons]
      have hxe : lessB x e = true := less_iff.2 (Or.inr ⟨k3.symm, q⟩)
      refine ⟨fun y hy => ?_, List.pairwise_cons.2 h⟩
      rcases List.mem_cons.1 hy with rfl | hy
      · exact hxe
      · exact less_trans hxe (h.1 y hy)
    · rw [if_neg q, List.pairwise_cons]
      refine ⟨fun y hy => ?_, insN_srt hx h.2 fun e' he' => k e' (List.mem_cons_of_mem _ he')⟩
      rcases insN_mem.1 hy with rfl | hy
      · exact less_tri hx k1 (fun e => k2 e.symm) k3.symm (Bool.not_eq_true _ ▸ q)
      · exact h.1 y hy
theorem ins_loop {x : List Int} {out : List (List Int)} (hx : x.length ≤ 1000) (ho : out.length ≤ 1000) :
    ∃ (next : List (List Int)) (done : Bool), loopM (S := (List (List Int)) × Bool × Int) (R := (List (List Int)) × Bool) (fun s_1 =>
            let next : (List (List Int)) := s_1.1
            let done : Bool := s_1.2.1
            let i : Int := s_1.2.2
            bif decide (i < (List.length out : Int)) then
              (bif !done then
                chk (decide ((0 : Int) ≤ i) && decide (i < (List.length out : Int))) (
                  (b0_Before x (lget [] out i)).bind fun (t_1 : Bool) =>
                  some t_1)
              else some false).bind fun (c_3 : Bool) =>
              (bif c_3 then
                (app next [x]).bind fun (t_2 : List (List Int)) =>
                some (t_2, true)
              else
                some (next, done)).bind fun (j : (List (List Int)) × Bool) =>
              let next_1 : (List (List Int)) := j.1
              let done_1 : Bool := j.2
              chk (decide ((0 : Int) ≤ i) && decide (i < (List.length out : Int))) (
                (app next_1 [lget [] out i]).bind fun (t_3 : List (List Int)) =>
                some (.inl (t_3, done_1, wi64 (i + 1))))
            else
              some (.inr (next, done))) ([], false, 0) = some (next, done) ∧ (if done = true then next else next ++ [x]) = insL x out ∧ next.length ≤ 1001 := by
  refine Exists.elim (loopM_list (X := List Int) (l := out) (S := (List (List Int)) × Bool × Int) (R := (List (List Int)) × Bool) (f := (fun s_1 =>
            let next : (List (List Int)) := s_1.1
            let done : Bool := s_1.2.1
            let i : Int := s_1.2.2
            bif decide (i < (List.length out : Int)) then
              (bif !done then
                chk (decide ((0 : Int) ≤ i) && decide (i < (List.length out : Int))) (
                  (b0_Before x (lget [] out i)).bind fun (t_1 : Bool) =>
                  some t_1)
              else some false).bind fun (c_3 : Bool) =>
              (bif c_3 then
                (app next [x]).bind fun (t_2 : List (List Int)) =>
                some (t_2, true)
              else
                some (next, done)).bind fun (j : (List (List Int)) × Bool) =>
              let next_1 : (List (List Int)) := j.1
              let done_1 : Bool := j.2
              chk (decide ((0 : Int) ≤ i) && decide (i < (List.length out : Int))) (
                (app next_1 [lget [] out i]).bind fun (t_3 : List (List Int)) =>
                some (.inl (t_3, done_1, wi64 (i + 1))))
            else
              some (.inr (next, done)))) (s := ([], false, 0))
    (fun l' s => ∃ pre, out = pre ++ l' ∧ s.2.2 = (pre.length : Int) ∧ s.1.length ≤ pre.length + (if s.2.1 = true then 1 else 0) ∧ s.1 ++ (if s.2.1 = true then l' else insL x l') = insL x out)
    (fun r => (if r.2 = true then r.1 else r.1 ++ [x]) = insL x out ∧ r.1.length ≤ 1001) ?_ ?_ ⟨[], rfl, rfl, Nat.zero_le _, rfl⟩) fun r hr => ⟨r.1, r.2, hr.1, hr.2.1, hr.2.2⟩
  · rintro e l' ⟨next, done, i⟩ ⟨pre, q1, q2, q3, q4⟩
    simp only at q2 q3 q4
    subst q2
    left
    have hL : out.length = pre.length + (l'.length + 1) := by rw [q1, List.length_append, List.length_cons]
    have g1 : ∀ d, lget d out (pre.length : Int) = e := fun d => by rw [q1]; exact lget_mid
    have hn : next.length ≤ 1001 := by
      cases done <;> simp at q3 <;> omega
    simp only
    rw [dec_true (show (pre.length : Int) < (out.length : Int) by omega), cond_true, dec_true (show (0 : Int) ≤ (pre.length : Int) by omega), Bool.and_self, chk_true rfl, g1, Before_ok hx, Option.bind_some, wi64_id (by omega) (by omega)]
    cases done with
    | true =>
      rw [if_pos rfl] at q3 q4
      rw [Bool.not_true, cond_false, Option.bind_some, cond_false, Option.bind_some]
      simp only
      rw [chk_true rfl, app_ok (by rw [List.length_singleton]; omega), Option.bind_some]
      refine ⟨_, rfl, pre ++ [e], by rw [q1]; simp, by rw [List.length_append, List.length_singleton]; rfl, ?_, ?_⟩
      · simp only [if_true]
        rw [List.length_append, List.length_append, List.length_singleton]
        omega
      · simp only [if_true]
        rw [List.append_assoc]
        exact q4
    | false =>
      rw [if_neg (by decide)] at q3 q4
      rw [Bool.not_false, cond_true, Option.bind_some]
      conv at q4 => lhs; unfold insL
      cases hb : bef x e with
      | true =>
        rw [hb, if_pos rfl] at q4
        rw [cond_true, app_ok (by rw [List.length_singleton]; omega), Option.bind_some, Option.bind_some]
        simp only
        rw [chk_true rfl, app_ok (by rw [List.length_append, List.length_singleton, List.length_singleton]; omega), Option.bind_some]
        refine ⟨_, rfl, pre ++ [e], by rw [q1]; simp, by rw [List.length_append, List.length_singleton]; rfl, ?_, ?_⟩
        · simp only [if_true]
          rw [List.length_append, List.length_append, List.length_append, List.length_singleton, List.length_singleton]
          omega
        · simp only [if_true]
          rw [List.append_assoc, List.append_assoc]
          exact q4
      | false =>
        rw [hb, if_neg (by decide)] at q4
        rw [cond_false, Option.bind_some]
        simp only
        rw [chk_true rfl, app_ok (by rw [List.length_singleton]; omega), Option.bind_some]
        refine ⟨_, rfl, pre ++ [e], by rw [q1]; simp, by rw [List.length_append, List.length_singleton]; rfl, ?_, ?_⟩
        · simp only [Bool.false_eq_true, if_false]
          rw [List.length_append, List.length_append, List.length_singleton]
          omega
        · simp only [Bool.false_eq_true, if_false]
          rw [List.append_assoc]
          exact q4
  · rintro ⟨next, done, i⟩ ⟨pre, q1, q2, q3, q4⟩
    rw [List.append_nil] at q1
    simp only at q2 q3 q4
    subst q2
    rw [q1] at ho
    simp only
    rw [dec_false (show ¬ (pre.length : Int) < (out.length : Int) by rw [q1]; omega), cond_false]
    refine ⟨_, rfl, ?_, ?_⟩
    · simp only
      cases done with
      | true =>
        rw [if_pos rfl, List.append_nil] at q4
        rw [if_pos rfl]
        exact q4
      | false =>
        rw [if_neg (by decide)] at q4
        rw [if_neg (by decide)]
        exact q4
    · simp only
      cases done <;> simp at q3 <;> omega
def InvE (P : Nat → Bool) (N : Nat) (L : List Nat) : Prop :=
  (L = [] ∧ ∀ t, t < N → P t = false) ∨ (∃ m, L ≠ [] ∧ (L.Pairwise fun a b => lessB a b = true) ∧ (∀ s, s ∈ L ↔ s < N ∧ P s = true ∧ sizeN s = m) ∧ ∀ t, t < N → P t = true → m ≤ sizeN t)
def stepE (P : Nat → Bool) (k : Nat) (L : List Nat) : List Nat :=
  if P k = false then L else match L with
    | [] => [k]
    | a :: l => if sizeN k > sizeN a then a :: l else if sizeN k < sizeN a then [k] else insN k (a :: l)
theorem invE_step {P : Nat → Bool} {N : Nat} (hN : N < W64) {L : List Nat} (h : InvE P N L) : InvE P (N + 1) (stepE P N L) := by
  unfold stepE
  by_cases hp : P N = false
  · rw [if_pos hp]
    rcases h with ⟨h1, h2⟩ | ⟨m, h1, h2, h3, h4⟩
    · refine Or.inl ⟨h1, fun t ht => ?_⟩
      by_cases e : t = N
      · rw [e]; exact hp
      · exact h2 t (by omega)
    · refine Or.inr ⟨m, h1, h2, fun s => (h3 s).trans ⟨fun ⟨a, b⟩ => ⟨by omega, b⟩, fun ⟨a, b⟩ => ⟨?_, b⟩⟩, fun t ht hq => ?_⟩
      · by_cases e : s = N
        · rw [e, hp] at b; cases b.1
        · omega
      · by_cases e : t = N
        · rw [e, hp] at hq; cases hq
        · exact h4 t (by omega) hq
  · rw [if_neg hp]
    have hp : P N = true := by cases q : P N with
      | true => rfl
      | false => exact (hp q).elim
    have single : (∀ t, t < N → P t = true → sizeN N < sizeN t) → InvE P (N + 1) [N] := fun hall => by
      refine Or.inr ⟨sizeN N, by simp, List.pairwise_singleton _ _, fun s => ?_, fun t ht hq => ?_⟩
      · rw [List.mem_singleton]
        constructor
        · rintro rfl; exact ⟨by omega, hp, rfl⟩
        · rintro ⟨a, b, c⟩
          by_cases e : s = N
          · exact e
          · have := hall s (by omega) b; omega
      · by_cases e : t = N
        · rw [e]; exact Nat.le_refl _
        · have := hall t (by omega) hq; omega
    rcases h with ⟨h1, h2⟩ | ⟨m, h1, h2, h3, h4⟩
    · subst h1
      exact single fun t ht hq => by rw [h2 t ht] at hq; cases hq
    · cases L with
      | nil => exact (h1 rfl).elim
      | cons a l =>
        have ha := (h3 a).1 (by simp)
        simp only
        by_cases g1 : sizeN N > sizeN a
        · rw [if_pos g1]
          refine Or.inr ⟨m, h1, h2, fun s => (h3 s).trans ⟨fun ⟨x, y⟩ => ⟨by omega, y⟩, fun ⟨x, y⟩ => ⟨?_, y⟩⟩, fun t ht hq => ?_⟩
          · by_cases e : s = N
            · rw [e] at y; have := y.2; omega
            · omega
          · by_cases e : t = N
            · rw [e]; omega
            · exact h4 t (by omega) hq
        · rw [if_neg g1]
          by_cases g2 : sizeN N < sizeN a
          · rw [if_pos g2]
            exact single fun t ht hq => by have := h4 t ht hq; omega
          · rw [if_neg g2]
            have hm : sizeN N = m := by omega
            refine Or.inr ⟨m, fun e => ?_, insN_srt hN h2 fun e he => ?_, fun s => ?_, fun t ht hq => ?_⟩
            · have : N ∈ insN N (a :: l) := insN_mem.2 (Or.inl rfl)
              rw [e] at this; cases this
            · have := (h3 e).1 he
              exact ⟨by omega, by omega, by omega⟩
            · rw [insN_mem, h3]
              constructor
              · rintro (rfl | ⟨x, y, z⟩)
                · exact ⟨by omega, hp, hm⟩
                · exact ⟨by omega, y, z⟩
              · rintro ⟨x, y, z⟩
                by_cases e : s = N
                · exact Or.inl e
                · exact Or.inr ⟨by omega, y, z⟩
            · by_cases e : t = N
              · rw [e]; omega
              · exact h4 t (by omega) hq
theorem invE_isE {P : Nat → Bool} {N : Nat} {L : List Nat} (h : InvE P N L) : IsE N P L := by
  rcases h with ⟨rfl, h2⟩ | ⟨m, h1, h2, h3, h4⟩
  · refine ⟨List.Pairwise.nil, fun s => ⟨fun h => (by cases h), fun ⟨a, b, _⟩ => (by rw [h2 s a] at b; cases b)⟩⟩
  · refine ⟨h2, fun s => (h3 s).trans ⟨fun ⟨a, b, c⟩ => ⟨a, b, fun t ht hp => by rw [c]; exact h4 t ht hp⟩, fun ⟨a, b, c⟩ => ⟨a, b, ?_⟩⟩⟩
    cases L with
    | nil => exact (h1 rfl).elim
    | cons e l =>
      have he := (h3 e).1 (by simp)
      have := c e he.1 he.2.1
      have := h4 s a b
      omega
def tabT (T : Nat → Nat → Bool) (n k : Nat) : List (List Bool) := (List.range k).map fun i => (List.range n).map (T i)
theorem clash_agree {T : Nat → Nat → Bool} {pres : Nat → Bool} {k s : Nat} (hk : k ≤ 60) :
    agreeB T pres k (2 ^ k - 1) s = (findF (clashAt T pres (memL s)) 0 k).isNone := by
  rw [Bool.eq_iff_iff, agree_iff, Option.isNone_iff_eq_none, findF_none]
  constructor
  · intro h i _ hi
    unfold clashAt
    rw [if_neg (fun e => e (h i (by omega) (by rw [ones_bit]; exact decide_eq_true (by omega))))]
  · intro h i hi _
    have := h i (by omega) (by omega)
    unfold clashAt at this
    split at this
    · cases this
    · rename_i q
      exact Decidable.of_not_not q
theorem ishl_i64 {n : Nat} (h : n ≤ 60) : ishl .i64 1 (n : Int) = ((2 ^ n : Nat) : Int) := by
  have := List.all_eq_true.1 (show ((List.range 61).all fun n => decide (ishl .i64 1 (n : Int) = ((2 ^ n : Nat) : Int))) = true by kernel_rfl) n (List.mem_range.2 (by omega))
  exact of_decide_eq_true this
theorem explained_ok {T : Nat → Nat → Bool} {n : Nat} {r : List Dapi_TraceReading} (hn : n ≤ 5) (hr : r.length ≤ 60) :
    ∃ E : List Nat, r9_explained (tabT T n r.length) (n : Int) r = some (E.map memL) ∧ IsE (2 ^ n) (agreeB T (presB r) r.length (2 ^ r.length - 1)) E := by
  obtain ⟨P, hP⟩ : ∃ P, P = agreeB T (presB r) r.length (2 ^ r.length - 1) := ⟨_, rfl⟩
  rw [← hP]
  have h32 : 2 ^ n ≤ 32 := Nat.pow_le_pow_right (n := 2) (by decide) hn
  unfold r9_explained
  have key : ∀ (d k : Nat) (L : List Nat), k + d = 2 ^ n → InvE P k L → ∃ E, loopM (S := (List (List Int)) × Int) (R := (List (List Int))) (fun s =>
    let out : (List (List Int)) := s.1
    let n_1 : Int := s.2
    chk (decide ((0 : Int) ≤ (n : Int))) (
      bif decide (n_1 < (ishl .i64 1 (n : Int))) then
        (r9_members n_1).bind fun (t : (List Int)) =>
        (r9_Contradiction (tabT T n r.length) t r).bind fun (r_1 : Int × Bool) =>
        (bif r_1.2 then some true else
          (bif decide ((List.length out : Int) > 0) then
            chk (decide ((0 : Int) ≤ 0) && decide (0 < (List.length out : Int))) (
              some (decide ((List.length t : Int) > (List.length (lget [] out 0) : Int))))
          else some false).bind fun (c : Bool) =>
          some c).bind fun (c_1 : Bool) =>
        bif c_1 then
          some (.inl (out, wi64 (n_1 + 1)))
        else
          (bif decide ((List.length out : Int) > 0) then
            chk (decide ((0 : Int) ≤ 0) && decide (0 < (List.length out : Int))) (
              some (decide ((List.length t : Int) < (List.length (lget [] out 0) : Int))))
          else some false).bind fun (c_2 : Bool) =>
          (bif c_2 then
            some []
          else
            some out).bind fun (out_1 : (List (List Int))) =>
          (loopM (S := (List (List Int)) × Bool × Int) (R := (List (List Int)) × Bool) (fun s_1 =>
            let next : (List (List Int)) := s_1.1
            let done : Bool := s_1.2.1
            let i : Int := s_1.2.2
            bif decide (i < (List.length out_1 : Int)) then
              (bif !done then
                chk (decide ((0 : Int) ≤ i) && decide (i < (List.length out_1 : Int))) (
                  (b0_Before t (lget [] out_1 i)).bind fun (t_1 : Bool) =>
                  some t_1)
              else some false).bind fun (c_3 : Bool) =>
              (bif c_3 then
                (app next [t]).bind fun (t_2 : List (List Int)) =>
                some (t_2, true)
              else
                some (next, done)).bind fun (j : (List (List Int)) × Bool) =>
              let next_1 : (List (List Int)) := j.1
              let done_1 : Bool := j.2
              chk (decide ((0 : Int) ≤ i) && decide (i < (List.length out_1 : Int))) (
                (app next_1 [lget [] out_1 i]).bind fun (t_3 : List (List Int)) =>
                some (.inl (t_3, done_1, wi64 (i + 1))))
            else
              some (.inr (next, done))) ([], false, 0)).bind fun (b : (List (List Int)) × Bool) =>
          let next_2 : (List (List Int)) := b.1
          let done_2 : Bool := b.2
          (bif !done_2 then
            (app next_2 [t]).bind fun (t_4 : List (List Int)) =>
            some t_4
          else
            some next_2).bind fun (next_3 : (List (List Int))) =>
          some (.inl (next_3, wi64 (n_1 + 1)))
      else
        some (.inr out))) (L.map memL, (k : Int)) = some (E.map memL) ∧ IsE (2 ^ n) P E := by
    intro d
    induction d with
    | zero =>
      intro k L hk hi
      have : k = 2 ^ n := by omega
      subst this
      refine ⟨L, loopM_done ?_, invE_isE hi⟩
      simp only
      rw [ishl_i64 (by omega), chk_true (dec_true (by omega)), dec_false (show ¬ ((2 ^ n : Nat) : Int) < ((2 ^ n : Nat) : Int) from Int.lt_irrefl _), cond_false]
    | succ d ih =>
      intro k L hk hi
      have hk2 : k < 2 ^ n := by omega
      have hk64 : k < W64 := lt_64 (n := n) (by omega) hk2
      obtain ⟨E, e1, e2⟩ := ih (k + 1) (stepE P k L) (by omega) (invE_step hk64 hi)
      refine ⟨E, ?_, e2⟩
      rw [loopM_next (s' := ((stepE P k L).map memL, ((k + 1 : Nat) : Int)))]
      · exact e1
      simp only
      have hlen : L.length ≤ 32 := by
        have hIs := invE_isE hi
        have hnd : L.Nodup := hIs.srt.imp fun {a b} hl e => by
          subst e
          exact less_asymm hl hl
        have := nodup_len (N := k) hnd fun s hs => ((hIs.mem s).1 hs).1
        omega
      have hmk : (memL k).length ≤ 1000 := by have := memL_len (s := k); omega
      rw [ishl_i64 (by omega), chk_true (dec_true (by omega)), dec_true (show (k : Int) < ((2 ^ n : Nat) : Int) by omega), cond_true, members_ok hk64, Option.bind_some,
        show tabT T n r.length = (List.range r.length).map fun i => (List.range n).map (T i) from rfl, Contradiction_ok hmk (mem_lt (by omega) hk2) (by omega), Option.bind_some, wi64_id (by omega) (by omega)]
      have hPk : P k = (findF (clashAt T (presB r) (memL k)) 0 r.length).isNone := by rw [hP]; exact clash_agree hr
      have hins : ∀ L' : List Nat, L'.length ≤ 32 → ((loopM (S := (List (List Int)) × Bool × Int) (R := (List (List Int)) × Bool) (fun s_1 =>
            bif decide (s_1.2.2 < (List.length (L'.map memL) : Int)) then
              (bif !s_1.2.1 then
                chk (decide ((0 : Int) ≤ s_1.2.2) && decide (s_1.2.2 < (List.length (L'.map memL) : Int))) (
                  (b0_Before (memL k) (lget [] (L'.map memL) s_1.2.2)).bind fun (t_1 : Bool) =>
                  some t_1)
              else some false).bind fun (c_3 : Bool) =>
              (bif c_3 then
                (app s_1.1 [memL k]).bind fun (t_2 : List (List Int)) =>
                some (t_2, true)
              else
                some (s_1.1, s_1.2.1)).bind fun (j : (List (List Int)) × Bool) =>
              chk (decide ((0 : Int) ≤ s_1.2.2) && decide (s_1.2.2 < (List.length (L'.map memL) : Int))) (
                (app j.1 [lget [] (L'.map memL) s_1.2.2]).bind fun (t_3 : List (List Int)) =>
                some (.inl (t_3, j.2, wi64 (s_1.2.2 + 1))))
            else
              some (.inr (s_1.1, s_1.2.1))) ([], false, 0)).bind fun (b : (List (List Int)) × Bool) =>
          (bif !b.2 then
            (app b.1 [memL k]).bind fun (t_4 : List (List Int)) =>
            some t_4
          else
            some b.1).bind fun (next_3 : (List (List Int))) =>
          some (.inl (next_3, ((k : Int) + 1)) : ((List (List Int)) × Int) ⊕ (List (List Int)))) = some (.inl ((insN k L').map memL, ((k + 1 : Nat) : Int))) := by
        intro L' hL'
        obtain ⟨next, done, q1, q2, q3⟩ := ins_loop (x := memL k) (out := L'.map memL) hmk (by rw [List.length_map]; omega)
        refine Option.bind_eq_some_iff.2 ⟨(next, done), q1, ?_⟩
        simp only
        rw [insL_map] at q2
        cases done with
        | true =>
          rw [if_pos rfl] at q2
          rw [Bool.not_true, cond_false, Option.bind_some, q2]
          rfl
        | false =>
          rw [if_neg (by decide)] at q2
          rw [Bool.not_false, cond_true, app_ok (by rw [List.length_singleton]; omega), Option.bind_some, Option.bind_some, q2]
          rfl
      unfold stepE
      cases hf : findF (clashAt T (presB r) (memL k)) 0 r.length with
      | some v =>
        rw [hf] at hPk
        rw [if_pos (show P k = false from hPk)]
        have hv2 : v.2 = true := by
          obtain ⟨i, _, _, hi, _⟩ := findF_some hf
          unfold clashAt at hi
          split at hi
          · cases hi; rfl
          · cases hi
        rw [Option.getD_some, hv2, cond_true, Option.bind_some, cond_true]
        rfl
      | none =>
        rw [hf] at hPk
        rw [if_neg (show ¬ P k = false by rw [hPk]; decide), Option.getD_none]
        simp only
        rw [cond_false]
        cases L with
        | nil =>
          rw [dec_false (show ¬ ((([] : List Nat).map memL).length : Int) > 0 by decide), cond_false, Option.bind_some, Option.bind_some, cond_false, cond_false, Option.bind_some, cond_false, Option.bind_some]
          exact hins [] (by decide)
        | cons a l =>
          have g0 : lget [] ((a :: l).map memL) 0 = memL a := rfl
          rw [dec_true (show (((a :: l).map memL).length : Int) > 0 by rw [List.length_map, List.length_cons]; omega), cond_true, chk_true (and_true' (dec_true (Int.le_refl 0)) rfl), g0, Option.bind_some, Option.bind_some]
          simp only
          by_cases g1 : sizeN k > sizeN a
          · rw [if_pos g1, dec_true (show ((memL k).length : Int) > ((memL a).length : Int) from Int.ofNat_lt.2 g1), cond_true]
            rfl
          · rw [if_neg g1, dec_false (show ¬ ((memL k).length : Int) > ((memL a).length : Int) from fun e => g1 (Int.ofNat_lt.1 e)), cond_false, cond_true, chk_true (and_true' (dec_true (Int.le_refl 0)) rfl), Option.bind_some]
            by_cases g2 : sizeN k < sizeN a
            · rw [if_pos g2, dec_true (show ((memL k).length : Int) < ((memL a).length : Int) from Int.ofNat_lt.2 g2), cond_true, Option.bind_some]
              exact hins [] (by decide)
            · rw [if_neg g2, dec_false (show ¬ ((memL k).length : Int) < ((memL a).length : Int) from fun e => g2 (Int.ofNat_lt.1 e)), cond_false, Option.bind_some]
              exact hins (a :: l) hlen
  obtain ⟨E, e1, e2⟩ := key (2 ^ n) 0 [] (by omega) (Or.inl ⟨rfl, fun t ht => by omega⟩)
  exact ⟨E, Option.bind_eq_some_iff.2 ⟨_, e1, rfl⟩, e2⟩
end Go.Lift
namespace Go.Lift
open Go
theorem light_ok {l : List Dapi_TraceCause} {r : List Dapi_TraceReading} : ∃ b, l9_light l r = some b ∧ (b = true → l.length ≤ 6 ∧ r.length ≤ 12 ∧ (r.length ≤ 7 ∨ r.length > 10)) := by
  refine ⟨_, rfl, fun h => ?_⟩
  rw [Bool.and_eq_true, Bool.and_eq_true, Bool.or_eq_true, decide_eq_true_eq, decide_eq_true_eq, decide_eq_true_eq, decide_eq_true_eq] at h
  omega
theorem openEvidence_bad {c : Dapi_TraceCourse} {l : List Dapi_TraceCause} {r : List Dapi_TraceReading} {x : Dtrace_course} {i e : Int} (hoc : trace_openCauses c l = some (x, (i, e))) (he : e ≠ 0) :
    trace_openEvidence c l r = some (x, ((0, ([], [])), e)) := by
  unfold trace_openEvidence
  rw [hoc, Option.bind_some]
  simp only
  rw [show (e == 0) = false by rw [beq_eq_false_iff_ne]; exact he, cond_false, Option.bind_some, show (e != 0) = true by rw [bne_iff_ne]; exact he, cond_true]
theorem rExpl_ok {c : Dapi_TraceCourse} (hv : Valid c) {l : List Dapi_TraceCause} {r : List Dapi_TraceReading} (h5 : l.length ≤ 5) (hc : ∀ k, k < l.length → CauseOk c (lget d0 l (k : Int))) (hin : ∀ x, x ∈ r → ReadIn x) (h : readsE c r = 0) {E : List Nat} (hE : IsE (2 ^ l.length) (agreeB (tabB c l r) (presB r) r.length (2 ^ r.length - 1)) E) :
    r9_Explanations c l r = some (E.map memL) := by
  obtain ⟨h10, hr⟩ := readsE_zero h
  unfold r9_Explanations
  rw [Table_ok hv h5 hc (by omega) hr hin, Option.bind_some]
  obtain ⟨E', q1, q2⟩ := explained_ok (T := tabB c l r) (n := l.length) (r := r) h5 (by omega)
  rw [show tabL c l r r.length = tabT (tabB c l r) l.length r.length from rfl, q1, Option.bind_some, isE_uniq hE q2]
end Go.Lift
