/-
  Slabs, orders, and the lengths of coils, on both sides.
-/
import Derived.Test.YtggnjngdmadbaaaGreatDoorPlainA
set_option linter.unusedSectionVars false
set_option linter.unusedVariables false
set_option linter.unusedSimpArgs false
namespace Go.Lift
open Go
theorem cand (a b : Bool) : (bif a then some b else some false) = some (a && b) := by cases a <;> rfl
theorem yco {A : Type} (k : Option A) : chk true k = k := rfl
theorem cor (a b : Bool) : (bif a then some true else some b) = some (a || b) := by cases a <;> rfl
def inR (n lo hi : Int) : Bool := decide (lo ≤ n ∧ n ≤ hi)
def ordB (o : z01) : Bool := ((((inR o.2.1 1 99 && inR o.2.2.1 1 300000) && inR o.2.2.2.1 0 (wi64 (o.2.2.1 - 1))) && inR o.2.2.2.2.1 500 2500) && inR o.2.2.2.2.2.1.1 0 20000) && inR o.2.2.2.2.2.1.2 0 20000
def ordE (o : z01) : Int := bif zqt o.1 then (bif ordB o then (bif decide (o.2.2.2.2.2.1.1 ≤ o.2.2.2.2.2.1.2) then (bif (Int.tmod o.2.2.2.2.2.1.1 10 == 0) && (Int.tmod o.2.2.2.2.2.1.2 10 == 0) then (bif inR o.2.2.2.2.2.2 0 100000 then 0 else 2) else 3) else 9) else 2) else 4
theorem zqc {o : z01} (h : o.1.size ≤ 9223372036854775807) : z13 o = some (ordE o) := by
 unfold z13 z2s z1s z2r z5t
 simp only [z7f, Option.bind_some, cand, y1f h, z6l, show ((10 : Nat) != 0) = true from rfl, yco]
 rw [ziz (by simp), Option.bind_some]
 unfold ordE ordB inR
 generalize (((((decide (1 ≤ o.2.1 ∧ o.2.1 ≤ 99) && decide (1 ≤ o.2.2.1 ∧ o.2.2.1 ≤ 300000)) && decide (0 ≤ o.2.2.2.1 ∧ o.2.2.2.1 ≤ wi64 (o.2.2.1 - 1))) && decide (500 ≤ o.2.2.2.2.1 ∧ o.2.2.2.2.1 ≤ 2500)) && decide (0 ≤ o.2.2.2.2.2.1.1 ∧ o.2.2.2.2.2.1.1 ≤ 20000)) && decide (0 ≤ o.2.2.2.2.2.1.2 ∧ o.2.2.2.2.2.1.2 ≤ 20000)) = b
 generalize decide (o.2.2.2.2.2.1.1 ≤ o.2.2.2.2.2.1.2) = c
 generalize ((Int.tmod o.2.2.2.2.2.1.1 10 == 0) && (Int.tmod o.2.2.2.2.2.1.2 10 == 0)) = d
 generalize decide (0 ≤ o.2.2.2.2.2.2 ∧ o.2.2.2.2.2.2 ≤ 100000) = e
 cases zqt o.1 <;> cases b <;> cases c <;> cases d <;> cases e <;> rfl
theorem y4a {o : z01} (h : o.1.size ≤ 9223372036854775807) : zff o = some (ordE o) := by
 unfold zff zav
 simp only [zc0, Option.bind_some, cor, y2h h, show ((10 : Nat) != 0) = true from rfl, yco]
 unfold ordE ordB inR
 rw [show ((((((!decide (1 ≤ o.2.1 ∧ o.2.1 ≤ 99) || !decide (1 ≤ o.2.2.1 ∧ o.2.2.1 ≤ 300000)) || !decide (0 ≤ o.2.2.2.1 ∧ o.2.2.2.1 ≤ wi64 (o.2.2.1 - 1))) || !decide (500 ≤ o.2.2.2.2.1 ∧ o.2.2.2.2.1 ≤ 2500)) || !decide (0 ≤ o.2.2.2.2.2.1.1 ∧ o.2.2.2.2.2.1.1 ≤ 20000)) || !decide (0 ≤ o.2.2.2.2.2.1.2 ∧ o.2.2.2.2.2.1.2 ≤ 20000))) =
  !((((((decide (1 ≤ o.2.1 ∧ o.2.1 ≤ 99) && decide (1 ≤ o.2.2.1 ∧ o.2.2.1 ≤ 300000)) && decide (0 ≤ o.2.2.2.1 ∧ o.2.2.2.1 ≤ wi64 (o.2.2.1 - 1))) && decide (500 ≤ o.2.2.2.2.1 ∧ o.2.2.2.2.1 ≤ 2500)) && decide (0 ≤ o.2.2.2.2.2.1.1 ∧ o.2.2.2.2.2.1.1 ≤ 20000)) && decide (0 ≤ o.2.2.2.2.2.1.2 ∧ o.2.2.2.2.2.1.2 ≤ 20000))) by simp only [Bool.not_and]]
 rw [show decide (o.2.2.2.2.2.1.1 > o.2.2.2.2.2.1.2) = !decide (o.2.2.2.2.2.1.1 ≤ o.2.2.2.2.2.1.2) by rw [← decide_not]; congr 1; rw [eq_iff_iff]; omega]
 rw [show (Int.tmod o.2.2.2.2.2.1.1 10 != 0 || Int.tmod o.2.2.2.2.2.1.2 10 != 0) = !((Int.tmod o.2.2.2.2.2.1.1 10 == 0) && (Int.tmod o.2.2.2.2.2.1.2 10 == 0)) by simp only [Bool.not_and]; rfl]
 generalize (((((decide (1 ≤ o.2.1 ∧ o.2.1 ≤ 99) && decide (1 ≤ o.2.2.1 ∧ o.2.2.1 ≤ 300000)) && decide (0 ≤ o.2.2.2.1 ∧ o.2.2.2.1 ≤ wi64 (o.2.2.1 - 1))) && decide (500 ≤ o.2.2.2.2.1 ∧ o.2.2.2.2.1 ≤ 2500)) && decide (0 ≤ o.2.2.2.2.2.1.1 ∧ o.2.2.2.2.2.1.1 ≤ 20000)) && decide (0 ≤ o.2.2.2.2.2.1.2 ∧ o.2.2.2.2.2.1.2 ≤ 20000)) = b
 generalize decide (o.2.2.2.2.2.1.1 ≤ o.2.2.2.2.2.1.2) = c
 generalize ((Int.tmod o.2.2.2.2.2.1.1 10 == 0) && (Int.tmod o.2.2.2.2.2.1.2 10 == 0)) = d
 generalize decide (0 ≤ o.2.2.2.2.2.2 ∧ o.2.2.2.2.2.2 ≤ 100000) = e
 cases zqt o.1 <;> cases b <;> cases c <;> cases d <;> cases e <;> rfl
end Go.Lift
namespace Go.Lift
open Go
end Go.Lift
