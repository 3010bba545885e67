/-
  Sets as bits; loops that look for the first.
-/
import Derived.Test.YteobfadhflofpaaGreatDoorPlainB
set_option linter.unusedSectionVars false
set_option linter.unusedVariables false
set_option linter.unusedSimpArgs false
namespace Go.Lift
open Go
def findF {R : Type} (g : Nat → Option R) : Nat → Nat → Option R
 | _, 0 => none
 | k, m + 1 => match g k with
  | some r => some r
  | none => findF g (k + 1) m
def outF {R : Type} : Option R → Unit ⊕ R
 | none => .inl ()
 | some r => .inr r
theorem loop_find {R : Type} {F : Int → Option (Int ⊕ (Unit ⊕ R))} {g : Nat → Option R} {n : Nat} (h0 : ∀ i, i < n → g i = none → F (i : Int) = some (.inl ((i + 1 : Nat) : Int)))
  (h1 : ∀ i, i < n → ∀ r, g i = some r → F (i : Int) = some (.inr (.inr r))) (hend : F (n : Int) = some (.inr (.inl ()))) : ∀ (m k : Nat), k + m = n → loopM F (k : Int) = some (outF (findF g k m))
 | 0, k, hk => by
  have : k = n := by omega
  subst this
  exact loopM_done hend
 | m + 1, k, hk => by
  unfold findF
  cases hg : g k with
  | none =>
   rw [loopM_next (h0 k (by omega) hg)]
   exact loop_find h0 h1 hend m (k + 1) (by omega)
  | some r => exact loopM_done (h1 k (by omega) r hg)
theorem findF_none {R : Type} {g : Nat → Option R} : ∀ {m k : Nat}, findF g k m = none ↔ ∀ i, k ≤ i → i < k + m → g i = none
 | 0, k => ⟨fun _ i h1 h2 => by omega, fun _ => rfl⟩
 | m + 1, k => by
  unfold findF
  cases hg : g k with
  | none =>
   rw [findF_none]
   constructor
   ·intro h i h1 h2
    by_cases hi : i = k
    ·rw [hi]; exact hg
    ·exact h i (by omega) (by omega)
   ·intro h i h1 h2
    exact h i (by omega) (by omega)
  | some r =>
   constructor
   ·intro h; cases h
   ·intro h
    rw [h k (Nat.le_refl _) (by omega)] at hg
    cases hg
theorem findF_some {R : Type} {g : Nat → Option R} : ∀ {m k : Nat} {r : R}, findF g k m = some r → ∃ i, k ≤ i ∧ i < k + m ∧ g i = some r ∧ ∀ j, k ≤ j → j < i → g j = none
 | 0, _, _, h => by cases h
 | m + 1, k, r, h => by
  unfold findF at h
  cases hg : g k with
  | some r' =>
   rw [hg] at h
   cases h
   exact ⟨k, Nat.le_refl _, by omega, hg, fun j h1 h2 => by omega⟩
  | none =>
   rw [hg] at h
   obtain ⟨i, h1, h2, h3, h4⟩ := findF_some h
   refine ⟨i, by omega, by omega, h3, fun j h5 h6 => ?_⟩
   by_cases hj : j = k
   ·rw [hj]; exact hg
   ·exact h4 j (by omega) h6
end Go.Lift
