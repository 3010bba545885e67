/-
  The law of violations holds of the plain functions.
-/
import Derived.Test.YtggnjngdmadbaaaGreatDoorVioB
import Derived.Test.YtggnjngdmadbaaaGreatDoorLawSu
set_option linter.unusedSectionVars false
set_option linter.unusedVariables false
set_option linter.unusedSimpArgs false
namespace Go.Lift
open Go
def y7g (q : Int → Int → Int) : Int → Int → List Int → Int
 | sum, _, [] => sum
 | sum, a, b :: l => y7g q (wi64 (sum + q a b)) b l
def zc8 (q : Int → Int → Int) : List Int → Int
 | [] => 0
 | a :: l => y7g q 0 a l
theorem y19 {F : Int × Int → Option ((Int × Int) ⊕ Int)} {s : List Int} (q : Int → Int → Int)
  (hstep : ∀ pre a b post sum, s = pre ++ a :: b :: post → F (sum, (pre.length : Int) + 1) = some (.inl (wi64 (sum + q a b), (pre.length : Int) + 2)))
  (hend : ∀ sum p, (s.length : Int) ≤ p → F (sum, p) = some (.inr sum)) : z2d F (0, 1) = some (zc8 q s) := by
 cases s with
 | nil => exact zhp (hend 0 1 (by simp))
 | cons a rest =>
  refine z58 (X := Int) (l := rest) (fun l' st => ∃ pre a', a :: rest = pre ++ a' :: l' ∧ st.2 = (pre.length : Int) + 1 ∧ y7g q st.1 a' l' = zc8 q (a :: rest)) ?_ ?_ ⟨[], a, rfl, rfl, rfl⟩
  ·rintro b l' ⟨sum, p⟩ ⟨pre, a', e1, e2, e3⟩
   dsimp only at e2 e3
   subst e2
   left
   refine ⟨_, hstep pre a' b l' sum e1, pre ++ [a'], b, by rw [e1]; simp, ?_, e3⟩
   rw [List.length_append, List.length_singleton]
   show (pre.length : Int) + 2 = ((pre.length : Int) + 1) + 1
   omega
  ·rintro ⟨sum, p⟩ ⟨pre, a', e1, e2, e3⟩
   dsimp only at e2 e3
   subst e2
   rw [hend _ _ (by rw [e1, List.length_append, List.length_singleton]; omega)]
   exact congrArg (fun z => some (Sum.inr z)) e3
def y99 (r : z02) (x y : z00) : Int := wi64 ((wi64 ((wi64 (r.2.2.2.2.2.2.1 * szI (wi64 (x.1 - y.1)))) + (wi64 (r.2.2.2.2.2.2.2.1 * szI (wi64 (x.2.1 - y.2.1)))))) + (wi64 (r.2.2.2.2.2.2.2.2 * szI (wi64 (x.2.2.1 - y.2.2.1)))))
def z45 (r : z02) (l : List z00) (a b : Int) : Int := y99 r (lget z1e l a) (lget z1e l b)
theorem y98 (r : z02) (x y : z00) : ztu r x y = some (y99 r x y) := rfl
theorem yag {r : z02} {l : List z00} {a b : Int} (ha : 0 ≤ a ∧ a < (l.length : Int)) (hb : 0 ≤ b ∧ b < (l.length : Int)) : z2b (r, l) a b = some (z45 r l a b) := by
 unfold z2b
 rw [z18 (by rw [z07 ha.1, z07 ha.2]; rfl), z18 (by rw [z07 hb.1, z07 hb.2]; rfl)]
 rfl
theorem y1d {s pre post : List Int} {a b : Int} (h : s = pre ++ a :: b :: post) : lget 0 s (pre.length : Int) = a ∧ lget 0 s ((pre.length : Int) + 1) = b := by
 refine ⟨z59 h, ?_⟩
 have : s = (pre ++ [a]) ++ b :: post := by rw [h]; simp
 have := z59 (d := 0) this
 rw [List.length_append, List.length_singleton] at this
 exact this
theorem zz7 {r : z02} {l : List z00} {s : List Int} (hs : s.length ≤ 4294967296) (hin : ∀ i ∈ s, 0 ≤ i ∧ i < (l.length : Int)) : z19 (r, l) s = some (zc8 (z45 r l) s) := by
 unfold z19
 refine Option.bind_eq_some_iff.2 ⟨_, y19 (z45 r l) (fun pre a b post sum e => ?_) (fun sum p hp => ?_), rfl⟩
 ·have hL : s.length = pre.length + (post.length + 2) := by rw [e, List.length_append, List.length_cons, List.length_cons]
  have ha := hin a (by rw [e]; simp)
  have hb := hin b (by rw [e]; simp)
  obtain ⟨g1, g2⟩ := y1d e
  show (bif decide ((pre.length : Int) + 1 < (List.length s : Int)) then _ else _) = _
  rw [z07 (by omega), cond_true, z0j (x := (pre.length : Int) + 1 - 1) (by omega) (by omega), show (pre.length : Int) + 1 - 1 = pre.length by omega, g1, g2]
  rw [z18 (by rw [z07 (by omega), z07 (by omega)]; rfl), z18 (by rfl), yag ha hb, Option.bind_some, z0j (x := (pre.length : Int) + 1 + 1) (by omega) (by omega), show (pre.length : Int) + 1 + 1 = pre.length + 2 by omega]
 ·show (bif decide (p < (List.length s : Int)) then _ else _) = _
  rw [z0v (by omega), cond_false]
theorem zzr {r : z02} {l : List z00} {s : List Int} (hs : s.length ≤ 4294967296) (hin : ∀ i ∈ s, 0 ≤ i ∧ i < (l.length : Int)) : zkd r l s = some (zc8 (z45 r l) s) := by
 unfold zkd
 refine Option.bind_eq_some_iff.2 ⟨_, y19 (z45 r l) (fun pre a b post sum e => ?_) (fun sum p hp => ?_), rfl⟩
 ·have hL : s.length = pre.length + (post.length + 2) := by rw [e, List.length_append, List.length_cons, List.length_cons]
  have ha := hin a (by rw [e]; simp)
  have hb := hin b (by rw [e]; simp)
  obtain ⟨g1, g2⟩ := y1d e
  show (bif decide ((pre.length : Int) + 1 < (List.length s : Int)) then _ else _) = _
  rw [z07 (by omega), cond_true, z0j (x := (pre.length : Int) + 1 - 1) (by omega) (by omega), show (pre.length : Int) + 1 - 1 = pre.length by omega, g1, g2]
  rw [z18 (by rw [z07 (by omega), z07 (by omega)]; rfl), z18 (by rw [z07 ha.1, z07 ha.2]; rfl), z18 (by rfl), z18 (by rw [z07 hb.1, z07 hb.2]; rfl), y98, Option.bind_some, z0j (x := (pre.length : Int) + 1 + 1) (by omega) (by omega), show (pre.length : Int) + 1 + 1 = pre.length + 2 by omega]
  rfl
 ·show (bif decide (p < (List.length s : Int)) then _ else _) = _
  rw [z0v (by omega), cond_false]
theorem zhm {r : z02} {l : List z00} (h : z4j r l = 0) : z5d r = true ∧ l.all zc6 = true := by
 unfold z4j zn2 at h
 cases hr : z5d r with
 | false => rw [hr] at h; exact absurd (show (2 : Int) = 0 from h) (by decide)
 | true =>
  rw [hr, cond_true] at h
  refine ⟨rfl, ?_⟩
  split at h
  ·exact absurd h (by decide)
  ·split at h
   ·exact absurd h (by decide)
   ·split at h
    ·assumption
    ·exact absurd h (by decide)
end Go.Lift
