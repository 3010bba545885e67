/-
  Sets of which no sequence holds; the law holds of the plain functions.
-/
import Derived.Test.YtbmclapepgfjhaaGreatChA
import Derived.Test.YtbmclapepgfjhaaGreatFunF
set_option linter.unusedSectionVars false
set_option linter.unusedVariables false
set_option linter.unusedSimpArgs false
namespace Go.Lift
open Go
theorem zj4 {A : Type} {d : A} (l : List A) (t : List Int) {i : Int} (h : 0 ≤ i ∧ i < (t.length : Int)) : lget d (t.map (lget d l)) i = lget d l (lget 0 t i) := by
 have hi : i.toNat < t.length := by omega
 have e : lget d (t.map (lget d l)) i = (t.map (lget d l))[i.toNat]'(by simpa using hi) := by
  unfold lget
  rw [List.getD_eq_getElem?_getD, List.getElem?_eq_getElem (by simpa using hi)]
  rfl
 have e2 : lget 0 t i = t[i.toNat] := by
  unfold lget
  rw [List.getD_eq_getElem?_getD, List.getElem?_eq_getElem hi]
  rfl
 rw [e, e2, List.getElem_map]
theorem y0y {l : List z00} {t s : List Int} (h : ∀ i ∈ s, 0 ≤ i ∧ i < (t.length : Int)) : metF (t.map (lget z4k l)) s = metF l (s.map (lget 0 t)) := by
 have key : ∀ (s : List Int) (z : Int), (∀ i ∈ s, 0 ≤ i ∧ i < (t.length : Int)) → s.foldl (fun m i => wi64 (m + (lget z4k (t.map (lget z4k l)) i).2.2.2)) z = (s.map (lget 0 t)).foldl (fun m i => wi64 (m + (lget z4k l i).2.2.2)) z := by
  intro s
  induction s with
  | nil => intro z _; rfl
  | cons x s ih =>
   intro z h
   rw [List.map_cons, List.foldl_cons, List.foldl_cons, zj4 l t (h x (List.mem_cons_self ..))]
   exact ih _ fun i hi => h i (List.mem_cons_of_mem _ hi)
 exact key s 0 h
theorem zz2 {t pre : List Int} (h : pre ≠ []) : zn0 (pre.map (lget 0 t)) = lget 0 t (zn0 pre) := by
 have : 0 < pre.length := List.length_pos_iff.2 h
 unfold zn0
 rw [List.length_map]
 rw [show pre.map (lget 0 t) = pre.map (lget 0 t) from rfl, zj4 t pre (by omega)]
theorem y0p {r : z01} {l : List z00} {t pre : List Int} {x : Int} (h : ∀ i ∈ pre ++ [x], 0 ≤ i ∧ i < (t.length : Int)) : outV r (t.map (lget z4k l)) pre x = outV r l (pre.map (lget 0 t)) (lget 0 t x) := by
 have hm := y0y (l := l) h
 rw [List.map_append, List.map_singleton] at hm
 unfold outV
 rw [hm]
 by_cases hp : pre = []
 ·rw [if_pos hp, if_pos (by rw [hp]; rfl)]
 ·rw [if_neg hp, if_neg (by simpa using hp), zz2 hp, List.length_map, zj4 l t (h x (by simp)), zj4 l t (h _ (List.mem_append_left _ (zmz hp)))]
theorem zyq {r : z01} {l : List z00} {t : List Int} : ∀ (s pre : List Int), (∀ i ∈ pre ++ s, 0 ≤ i ∧ i < (t.length : Int)) → okP r (t.map (lget z4k l)) pre s = okP r l (pre.map (lget 0 t)) (s.map (lget 0 t))
 | [], pre, _ => rfl
 | x :: s, pre, h => by
  rw [List.map_cons, zpx, zpx]
  have hx : ∀ i ∈ pre ++ [x], 0 ≤ i ∧ i < (t.length : Int) := fun i hi => h i (by
   rcases List.mem_append.1 hi with h | h
   ·simp [h]
   ·rw [List.mem_singleton.1 h]; simp)
  have hb : badP r (t.map (lget z4k l)) pre x = badP r l (pre.map (lget 0 t)) (lget 0 t x) := by
   unfold badP vioG
   rw [y0p hx, Option.isSome_map, Option.isSome_map]
  rw [hb, zyq s (pre ++ [x]) (by simpa using h), List.map_append, List.map_singleton]
end Go.Lift
