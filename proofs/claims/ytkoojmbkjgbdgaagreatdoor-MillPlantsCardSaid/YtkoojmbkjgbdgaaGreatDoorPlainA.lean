/-
  Loops, numbers in their kinds, the first error.
-/
import Derived.Test.YtkoojmbkjgbdgaaGreatDoorFunF
set_option linter.unusedSectionVars false
set_option linter.unusedVariables false
set_option linter.unusedSimpArgs false
namespace Go.Lift
open Go
theorem loopN_more {S R : Type} {f : S → Option (S ⊕ R)} : ∀ {n m : Nat} {s : S} {r : R}, loopN f n s = some r → n ≤ m → loopN f m s = some r
  | 0, _, _, _, h, _ => by simp [loopN] at h
  | n + 1, 0, _, _, _, h => by omega
  | n + 1, m + 1, s, r, h, hm => by
    simp only [loopN] at h ⊢
    split at h
    · exact loopN_more h (by omega)
    · exact h
    · cases h
theorem loopM_of {S R : Type} {f : S → Option (S ⊕ R)} {s : S} {r : R} {n : Nat} (h : loopN f n s = some r) : loopM f s = some r := by
  unfold loopM
  have hx : ∃ n r, loopN f n s = some r := ⟨n, r, h⟩
  rw [dif_pos hx]
  have h2 := Classical.choose_spec (Classical.choose_spec hx)
  have a := loopN_more h (Nat.le_max_left n (Classical.choose hx))
  have b := loopN_more h2 (Nat.le_max_right n (Classical.choose hx))
  rw [b] at a
  exact a
theorem loopM_iff {S R : Type} {f : S → Option (S ⊕ R)} {s : S} {r : R} : loopM f s = some r ↔ ∃ n, loopN f n s = some r := by
  constructor
  · intro h
    unfold loopM at h
    split at h
    · rename_i hx
      simp only [Option.some.injEq] at h
      subst h
      exact ⟨_, Classical.choose_spec (Classical.choose_spec hx)⟩
    · cases h
  · exact fun ⟨n, h⟩ => loopM_of h
theorem loopM_next {S R : Type} {f : S → Option (S ⊕ R)} {s s' : S} (h : f s = some (.inl s')) : loopM f s = loopM f s' := by
  have key : ∀ r, loopM f s = some r ↔ loopM f s' = some r := fun r => by
    rw [loopM_iff, loopM_iff]
    constructor
    · rintro ⟨n, hn⟩
      cases n with
      | zero => simp [loopN] at hn
      | succ n => simp only [loopN, h] at hn; exact ⟨n, hn⟩
    · rintro ⟨n, hn⟩
      exact ⟨n + 1, by simp only [loopN, h]; exact hn⟩
  cases h1 : loopM f s with
  | some r => exact ((key r).1 h1).symm
  | none =>
    cases h2 : loopM f s' with
    | some r => rw [(key r).2 h2] at h1; cases h1
    | none => rfl
theorem loopM_done {S R : Type} {f : S → Option (S ⊕ R)} {s : S} {r : R} (h : f s = some (.inr r)) : loopM f s = some r :=
  loopM_of (n := 1) (by simp only [loopN, h])
theorem loopM_inv {S R : Type} {f : S → Option (S ⊕ R)} (I : S → Prop) (μ : S → Nat) (Q : R → Prop)
    (hstep : ∀ s, I s → (∃ s', f s = some (.inl s') ∧ I s' ∧ μ s' < μ s) ∨ ∃ r, f s = some (.inr r) ∧ Q r) {s : S} (h : I s) : ∃ r, loopM f s = some r ∧ Q r := by
  generalize hd : μ s = d
  induction d using Nat.strongRecOn generalizing s with
  | _ d ih =>
    rcases hstep s h with ⟨s', h1, h2, h3⟩ | ⟨r, h1, h2⟩
    · rw [loopM_next h1]
      exact ih (μ s') (by omega) h2 rfl
    · exact ⟨r, loopM_done h1, h2⟩
theorem wrap_u (k : IntKind) (hk : k.signed = false) (x : Int) : k.wrap x = x % 2 ^ k.bits := by
  unfold IntKind.wrap
  simp [hk]
theorem wi64_eq (x : Int) : wi64 x = if x % 18446744073709551616 ≥ 9223372036854775808 then x % 18446744073709551616 - 18446744073709551616 else x % 18446744073709551616 := by
  unfold wi64 IntKind.wrap
  have h1 : IntKind.i64.signed = true := rfl
  have h2 : IntKind.i64.bits = 64 := rfl
  have e1 : (2 : Int) ^ 64 = 18446744073709551616 := by decide
  have e2 : (2 : Int) ^ (64 - 1) = 9223372036854775808 := by decide
  simp only [h1, h2, Bool.true_and, e1, e2, decide_eq_true_eq]
theorem wi64_id {x : Int} (h0 : -9223372036854775808 ≤ x) (h1 : x < 9223372036854775808) : wi64 x = x := by
  rw [wi64_eq]; split <;> omega
theorem app_ok {α : Type} {l m : List α} (h : l.length + m.length ≤ 4294967296) : app l m = some (l ++ m) := by unfold app; rw [if_pos h]
theorem chk_true {A : Type} {c : Bool} {k : Option A} (h : c = true) : chk c k = k := by subst h; rfl
end Go.Lift
set_option linter.unusedVariables false
set_option linter.unusedSimpArgs false
namespace Go.Lift
open Go
theorem and_true' {a b : Bool} (ha : a = true) (hb : b = true) : (a && b) = true := by rw [ha, hb]; rfl
theorem dec_true {p : Prop} [Decidable p] (h : p) : decide p = true := decide_eq_true h
theorem dec_false {p : Prop} [Decidable p] (h : ¬ p) : decide p = false := decide_eq_false h
theorem loopM_list {X S R : Type} {f : S → Option (S ⊕ R)} (I : List X → S → Prop) (Q : R → Prop)
    (hstep : ∀ x l s, I (x :: l) s → (∃ s', f s = some (.inl s') ∧ I l s') ∨ ∃ r, f s = some (.inr r) ∧ Q r)
    (hend : ∀ s, I [] s → ∃ r, f s = some (.inr r) ∧ Q r) : ∀ {l : List X} {s : S}, I l s → ∃ r, loopM f s = some r ∧ Q r
  | [], s, h => by
    obtain ⟨r, h1, h2⟩ := hend s h
    exact ⟨r, loopM_done h1, h2⟩
  | x :: l, s, h => by
    rcases hstep x l s h with ⟨s', h1, h2⟩ | ⟨r, h1, h2⟩
    · rw [loopM_next h1]
      exact loopM_list I Q hstep hend h2
    · exact ⟨r, loopM_done h1, h2⟩
theorem loopM_list_eq {X S R : Type} {f : S → Option (S ⊕ R)} {t : R} (I : List X → S → Prop)
    (hstep : ∀ x l s, I (x :: l) s → (∃ s', f s = some (.inl s') ∧ I l s') ∨ f s = some (.inr t))
    (hend : ∀ s, I [] s → f s = some (.inr t)) {l : List X} {s : S} (h : I l s) : loopM f s = some t := by
  obtain ⟨r, h1, h2⟩ := loopM_list I (fun r => r = t) (fun x l s hi => by
    rcases hstep x l s hi with h | h
    · exact Or.inl h
    · exact Or.inr ⟨t, h, rfl⟩) (fun s hi => ⟨t, hend s hi, rfl⟩) h
  rw [h1, h2]
theorem lget_mid {A : Type} {d x : A} {pre post : List A} : lget d (pre ++ x :: post) (pre.length : Int) = x := by
  unfold lget
  rw [Int.toNat_natCast]
  simp
theorem lget_map {A B : Type} {f : A → B} {d : B} {x : A} {pre post : List A} : lget d ((pre ++ x :: post).map f) (pre.length : Int) = f x := by
  unfold lget
  rw [Int.toNat_natCast]
  simp
def firstE : List Int → Int
  | [] => 0
  | x :: l => if x = 0 then firstE l else x
theorem first_ok {l : List Int} (hl : l.length ≤ 1000) : mill_first l = some (firstE l) := by
  unfold mill_first
  refine Option.bind_eq_some_iff.2 ⟨(if firstE l = 0 then .inl () else .inr (firstE l)), ?_, by
    by_cases h : firstE l = 0
    · rw [if_pos h, h]
    · rw [if_neg h]⟩
  refine loopM_list_eq (X := Int) (l := l) (fun l' s => ∃ pre, l = pre ++ l' ∧ s = (pre.length : Int) ∧ firstE l = firstE l') ?_ ?_ ⟨[], rfl, rfl, rfl⟩
  · rintro x l' s ⟨pre, e1, rfl, e2⟩
    have hL : l.length = pre.length + (l'.length + 1) := by rw [e1, List.length_append, List.length_cons]
    have g1 : ∀ d, lget d l (pre.length : Int) = x := fun d => by rw [e1]; exact lget_mid
    rw [dec_true (show (pre.length : Int) < (l.length : Int) by omega), cond_true, chk_true (and_true' (dec_true (by omega)) rfl), g1]
    by_cases h : x = 0
    · left
      have : firstE (x :: l') = firstE l' := if_pos h
      rw [this] at e2
      rw [h, show ((0 : Int) != 0) = false from rfl, cond_false, wi64_id (by omega) (by omega)]
      exact ⟨_, rfl, pre ++ [x], by rw [e1]; simp, by rw [List.length_append, List.length_singleton]; rfl, e2⟩
    · right
      have : firstE (x :: l') = x := if_neg h
      rw [e2, this, if_neg h, show (x != 0) = true by simpa using h, cond_true]
      rfl
  · rintro s ⟨pre, e1, rfl, e2⟩
    have hL : l.length = pre.length := by rw [e1, List.append_nil]
    rw [dec_false (show ¬ (pre.length : Int) < (l.length : Int) by omega), cond_false, e2]
    rfl
theorem mill_within_ok (n lo hi : Int) : mill_within n lo hi = some (decide (lo ≤ n ∧ n ≤ hi)) := by
  unfold mill_within
  simp only [Option.some.injEq]
  by_cases h1 : lo ≤ n <;> by_cases h2 : n ≤ hi <;> simp [h1, h2]
end Go.Lift
