/-
  The laws of suiting and of constant volume hold of the plain functions.
-/
import Derived.Test.YtggnjngdmadbaaaGreatDoorPlainB
set_option linter.unusedSectionVars false
set_option linter.unusedVariables false
set_option linter.unusedSimpArgs false
namespace Go.Lift
open Go
theorem yb5 {s : z09} {o : z01} (hs : s.1.size ≤ 9223372036854775807) (ho : o.1.size ≤ 9223372036854775807) :
  za5 s o = some (if z4z [zc5 s, ordE o] = 0 then (zjb s o, 0) else (false, z4z [zc5 s, ordE o])) := by
 unfold za5
 rw [zs5 hs, Option.bind_some, zqc ho, Option.bind_some, ziz (by simp), Option.bind_some]
 generalize z4z [zc5 s, ordE o] = c
 by_cases h0 : c = 0
 ·rw [if_pos h0, show (c != 0) = false by rw [h0]; rfl, cond_false, y4g, Option.bind_some]
 ·rw [if_neg h0, show (c != 0) = true by rw [bne_iff_ne]; exact h0, cond_true]
theorem y0i (x y : Int) : Ty.eqb z0r (x, y) (x, y) = true := by
 show ((x == x) && (y == y)) = true
 simp
theorem zsi (hw : z7b = some true) {s : z09} {o : z01} (hs : s.1.size ≤ 9223372036854775807) (ho : o.1.size ≤ 9223372036854775807) :
    z7m s o = some true := by
  unfold z7m
  rw [hw, Option.bind_some, Bool.not_true, cond_false]
  cases hl : (decide ((ByteArray.size s.1 : Int) > 30) || decide ((ByteArray.size o.1 : Int) > 30)) with
  | true => rfl
  | false =>
  rw [cond_false, yb5 hs ho, Option.bind_some, yf5 hs ho, Option.bind_some, y7v hs, Option.bind_some, y4a ho]
  by_cases h1 : zc5 s = 0
  · by_cases h2 : ordE o = 0
    · have hsv := (y4h h1).2
      have hov := y9b h2
      have f1 : z4z [zc5 s, ordE o] = 0 := by simp [z4z, h1, h2]
      rw [if_pos f1, show (zc5 s == 0) = true by rw [h1]; rfl, cond_true, Option.bind_some, h2, Option.bind_some, show ((0 : Int) != 0) = false from rfl, cond_false]
      simp only [show ((0 : Int) != 0) = false from rfl, cond_false]
      rw [ycz hsv hov, Option.bind_some, show (zjb s o != zjb s o) = false by simp, Option.bind_some, cond_false]
      cases hb : zjb s o with
      | false =>
        have f2 : z4z [zc5 s, 0, if false = true then 0 else 13] = 13 := by simp [z4z, h1]
        rw [f2, if_neg (by decide)]
        rfl
      | true =>
        have f2 : z4z [zc5 s, 0, if true = true then 0 else 13] = 0 := by simp [z4z, h1]
        rw [f2, if_pos rfl, Bool.not_true, cond_false, show ((0 : Int) == 0) = true from rfl, cond_true, yfl hsv hov, Option.bind_some]
        show (some (Ty.eqb z0r (y7h s o) (y7h s o))).bind _ = _
        rw [show Ty.eqb z0r (y7h s o) (y7h s o) = true from y0i _ _]
        rfl
    · have f1 : z4z [zc5 s, ordE o] = ordE o := by simp [z4z, h1, h2]
      have f2 : z4z [zc5 s, ordE o, if zjb s o then 0 else 13] = ordE o := by simp [z4z, h1, h2]
      rw [f1, f2, if_neg h2, if_neg h2, show (zc5 s == 0) = true by rw [h1]; rfl, cond_true, Option.bind_some, Option.bind_some, show (ordE o != 0) = true by rw [bne_iff_ne]; exact h2, cond_true]
      simp only [BEq.rfl, Bool.and_self, Bool.not_false, cond_true]
      rfl
  · have f1 : z4z [zc5 s, ordE o] = zc5 s := by simp [z4z, h1]
    have f2 : z4z [zc5 s, ordE o, if zjb s o then 0 else 13] = zc5 s := by simp [z4z, h1]
    rw [f1, f2, if_neg h1, if_neg h1, show (zc5 s == 0) = false by rw [beq_eq_false_iff_ne]; exact h1, cond_false, Option.bind_some, show (zc5 s != 0) = true by rw [bne_iff_ne]; exact h1, cond_true]
    simp only [BEq.rfl, Bool.and_self, Bool.not_false, cond_true]
    rfl
end Go.Lift
