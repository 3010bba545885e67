/-
  Slabs, orders, and the lengths of coils, on both sides.
-/
import Derived.Test.YtggnjngdmadbaaaGreatDoorPlainA
set_option linter.unusedSectionVars false
set_option linter.unusedVariables false
set_option linter.unusedSimpArgs false
namespace Go.Lift
open Go
theorem cand (a b : Bool) : (bif a then some b else some false) = some (a && b) := by cases a <;> rfl
theorem yco {A : Type} (k : Option A) : chk true k = k := rfl
theorem cor (a b : Bool) : (bif a then some true else some b) = some (a || b) := by cases a <;> rfl
def inR (n lo hi : Int) : Bool := decide (lo ≤ n ∧ n ≤ hi)
def y8b (s : z09) : Bool := ((inR s.2.1 1 99 && inR s.2.2.1 1 300000) && inR s.2.2.2.1 500 2500) && inR s.2.2.2.2 1 20000
def zc5 (s : z09) : Int := bif zqt s.1 then (bif y8b s then 0 else 2) else 4
theorem zs5 {s : z09} (h : s.1.size ≤ 9223372036854775807) : z36 s = some (zc5 s) := by
 unfold z36 z2s z1s z2r
 simp only [z7f, Option.bind_some, cand, y1f h, z6l, show ((10 : Nat) != 0) = true from rfl, yco]
 rw [ziz (by simp), Option.bind_some]
 unfold zc5 y8b inR
 generalize (((decide (1 ≤ s.2.1 ∧ s.2.1 ≤ 99) && decide (1 ≤ s.2.2.1 ∧ s.2.2.1 ≤ 300000)) && decide (500 ≤ s.2.2.2.1 ∧ s.2.2.2.1 ≤ 2500)) && decide (1 ≤ s.2.2.2.2 ∧ s.2.2.2.2 ≤ 20000)) = b
 cases zqt s.1 <;> cases b <;> rfl
theorem y7v {s : z09} (h : s.1.size ≤ 9223372036854775807) : zhl s = some (zc5 s) := by
 unfold zhl zav
 simp only [zc0, Option.bind_some, cor, y2h h, show ((10 : Nat) != 0) = true from rfl, yco]
 unfold zc5 y8b inR
 rw [show ((((!decide (1 ≤ s.2.1 ∧ s.2.1 ≤ 99) || !decide (1 ≤ s.2.2.1 ∧ s.2.2.1 ≤ 300000)) || !decide (500 ≤ s.2.2.2.1 ∧ s.2.2.2.1 ≤ 2500)) || !decide (1 ≤ s.2.2.2.2 ∧ s.2.2.2.2 ≤ 20000))) = !((((decide (1 ≤ s.2.1 ∧ s.2.1 ≤ 99) && decide (1 ≤ s.2.2.1 ∧ s.2.2.1 ≤ 300000)) && decide (500 ≤ s.2.2.2.1 ∧ s.2.2.2.1 ≤ 2500)) && decide (1 ≤ s.2.2.2.2 ∧ s.2.2.2.2 ≤ 20000))) by simp only [Bool.not_and]]
 generalize (((decide (1 ≤ s.2.1 ∧ s.2.1 ≤ 99) && decide (1 ≤ s.2.2.1 ∧ s.2.2.1 ≤ 300000)) && decide (500 ≤ s.2.2.2.1 ∧ s.2.2.2.1 ≤ 2500)) && decide (1 ≤ s.2.2.2.2 ∧ s.2.2.2.2 ≤ 20000)) = b
 cases zqt s.1 <;> cases b <;> rfl
end Go.Lift
namespace Go.Lift
open Go
end Go.Lift
