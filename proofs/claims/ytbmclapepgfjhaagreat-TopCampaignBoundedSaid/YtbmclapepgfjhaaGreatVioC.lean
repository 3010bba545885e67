/-
  The law of violations holds of the plain functions.
-/
import Derived.Test.YtbmclapepgfjhaaGreatVioB
set_option linter.unusedSectionVars false
set_option linter.unusedVariables false
set_option linter.unusedSimpArgs false
namespace Go.Lift
open Go
def zx6 (q : Int → Int → Int) : Int → Int → List Int → Int
 | sum, _, [] => sum
 | sum, a, b :: l => zx6 q (wi64 (sum + q a b)) b l
def z7p (q : Int → Int → Int) : List Int → Int
 | [] => 0
 | a :: l => zx6 q 0 a l
theorem zyw {F : Int × Int → Option ((Int × Int) ⊕ Int)} {s : List Int} (q : Int → Int → Int)
  (hstep : ∀ pre a b post sum, s = pre ++ a :: b :: post → F (sum, (pre.length : Int) + 1) = some (.inl (wi64 (sum + q a b), (pre.length : Int) + 2)))
  (hend : ∀ sum p, (s.length : Int) ≤ p → F (sum, p) = some (.inr sum)) : z29 F (0, 1) = some (z7p q s) := by
 cases s with
 | nil => exact z9t (hend 0 1 (by simp))
 | cons a rest =>
  refine z8q (X := Int) (l := rest) (fun l' st => ∃ pre a', a :: rest = pre ++ a' :: l' ∧ st.2 = (pre.length : Int) + 1 ∧ zx6 q st.1 a' l' = z7p q (a :: rest)) ?_ ?_ ⟨[], a, rfl, rfl, rfl⟩
  ·rintro b l' ⟨sum, p⟩ ⟨pre, a', e1, e2, e3⟩
   dsimp only at e2 e3
   subst e2
   left
   refine ⟨_, hstep pre a' b l' sum e1, pre ++ [a'], b, by rw [e1]; simp, ?_, e3⟩
   rw [List.length_append, List.length_singleton]
   show (pre.length : Int) + 2 = ((pre.length : Int) + 1) + 1
   omega
  ·rintro ⟨sum, p⟩ ⟨pre, a', e1, e2, e3⟩
   dsimp only at e2 e3
   subst e2
   rw [hend _ _ (by rw [e1, List.length_append, List.length_singleton]; omega)]
   exact congrArg (fun z => some (Sum.inr z)) e3
def y2n (r : z01) (x y : z00) : Int := wi64 ((wi64 ((wi64 (r.2.2.2.2.2.2.1 * szI (wi64 (x.1 - y.1)))) + (wi64 (r.2.2.2.2.2.2.2.1 * szI (wi64 (x.2.1 - y.2.1)))))) + (wi64 (r.2.2.2.2.2.2.2.2 * szI (wi64 (x.2.2.1 - y.2.2.1)))))
def z3z (r : z01) (l : List z00) (a b : Int) : Int := y2n r (lget z4k l a) (lget z4k l b)
theorem zzk {r : z01} {l : List z00} {a b : Int} (ha : 0 ≤ a ∧ a < (l.length : Int)) (hb : 0 ≤ b ∧ b < (l.length : Int)) : z1e (r, l) a b = some (z3z r l a b) := by
 unfold z1e
 rw [z1h (by rw [z0a ha.1, z0a ha.2]; rfl), z1h (by rw [z0a hb.1, z0a hb.2]; rfl)]
 rfl
theorem zyz {s pre post : List Int} {a b : Int} (h : s = pre ++ a :: b :: post) : lget 0 s (pre.length : Int) = a ∧ lget 0 s ((pre.length : Int) + 1) = b := by
 refine ⟨z82 h, ?_⟩
 have : s = (pre ++ [a]) ++ b :: post := by rw [h]; simp
 have := z82 (d := 0) this
 rw [List.length_append, List.length_singleton] at this
 exact this
theorem zqi {r : z01} {l : List z00} {s : List Int} (hs : s.length ≤ 4294967296) (hin : ∀ i ∈ s, 0 ≤ i ∧ i < (l.length : Int)) : z0i (r, l) s = some (z7p (z3z r l) s) := by
 unfold z0i
 refine Option.bind_eq_some_iff.2 ⟨_, zyw (z3z r l) (fun pre a b post sum e => ?_) (fun sum p hp => ?_), rfl⟩
 ·have hL : s.length = pre.length + (post.length + 2) := by rw [e, List.length_append, List.length_cons, List.length_cons]
  have ha := hin a (by rw [e]; simp)
  have hb := hin b (by rw [e]; simp)
  obtain ⟨g1, g2⟩ := zyz e
  show (bif decide ((pre.length : Int) + 1 < (List.length s : Int)) then _ else _) = _
  rw [z0a (by omega), cond_true, z0m (x := (pre.length : Int) + 1 - 1) (by omega) (by omega), show (pre.length : Int) + 1 - 1 = pre.length by omega, g1, g2]
  rw [z1h (by rw [z0a (by omega), z0a (by omega)]; rfl), z1h (by rfl), zzk ha hb, Option.bind_some, z0m (x := (pre.length : Int) + 1 + 1) (by omega) (by omega), show (pre.length : Int) + 1 + 1 = pre.length + 2 by omega]
 ·show (bif decide (p < (List.length s : Int)) then _ else _) = _
  rw [z1s (by omega), cond_false]
theorem zro {r : z01} {l : List z00} (h : z4r r l = 0) : z2l r = true ∧ l.all z9u = true := by
 unfold z4r zkx at h
 cases hr : z2l r with
 | false => rw [hr] at h; exact absurd (show (2 : Int) = 0 from h) (by decide)
 | true =>
  rw [hr, cond_true] at h
  refine ⟨rfl, ?_⟩
  split at h
  ·exact absurd h (by decide)
  ·split at h
   ·exact absurd h (by decide)
   ·split at h
    ·assumption
    ·exact absurd h (by decide)
end Go.Lift
