/-
  The first violation on both sides.
-/
import Derived.Test.YtbmclapepgfjhaaGreatVioA
set_option linter.unusedSectionVars false
set_option linter.unusedVariables false
set_option linter.unusedSimpArgs false
namespace Go.Lift
open Go
theorem ze0 {X R S : Type} {F : S → Option (S ⊕ R)} {l : List X} {fin : R} (st : List X → S)
  (hstep : ∀ pre x post, l = pre ++ x :: post → F (st pre) = some (.inl (st (pre ++ [x])))) (hend : F (st l) = some (.inr fin)) : z29 F (st []) = some fin := by
 refine z8q (X := X) (l := l) (fun l' s => ∃ pre, l = pre ++ l' ∧ s = st pre) ?_ ?_ ⟨[], rfl, rfl⟩
 ·rintro x l' s ⟨pre, e1, rfl⟩
  exact Or.inl ⟨_, hstep pre x l' e1, pre ++ [x], by rw [e1]; simp, rfl⟩
 ·rintro s ⟨pre, e1, rfl⟩
  rw [List.append_nil] at e1
  rw [← e1, hend]
def metF (l : List z00) (s : List Int) : Int := s.foldl (fun m i => wi64 (m + (lget z4k l i).2.2.2)) 0
theorem zys (l : List z00) (s : List Int) (x : Int) : metF l (s ++ [x]) = wi64 (metF l s + (lget z4k l x).2.2.2) := by
 unfold metF
 rw [List.foldl_append]; rfl
def zn0 (pre : List Int) : Int := lget 0 pre (pre.length - 1)
theorem zz0 {s pre post : List Int} {x : Int} (h : s = pre ++ x :: post) (hp : pre ≠ []) : lget 0 s (pre.length - 1) = zn0 pre := by
 have : 0 < pre.length := List.length_pos_iff.2 hp
 unfold zn0 lget
 rw [h]
 have e : ((pre.length : Int) - 1).toNat = pre.length - 1 := by omega
 rw [e, List.getD_eq_getElem?_getD, List.getD_eq_getElem?_getD, List.getElem?_append_left (by omega)]
theorem zmz {pre : List Int} (hp : pre ≠ []) : zn0 pre ∈ pre := by
 have : 0 < pre.length := List.length_pos_iff.2 hp
 unfold zn0 lget
 have e : ((pre.length : Int) - 1).toNat = pre.length - 1 := by omega
 rw [e, List.getD_eq_getElem?_getD, List.getElem?_eq_getElem (by omega)]
 exact List.getElem_mem _
def szI (n : Int) : Int := imax n (wi64 (0 - n))
def outV (r : z01) (l : List z00) (pre : List Int) (x : Int) : Nat → Bool :=
 let m := decide (metF l (pre ++ [x]) > r.2.2.2.2.2.1)
 let X := lget z4k l x
 let Y := lget z4k l (zn0 pre)
 if pre = [] then aset (fun _ => false) 0 m else
  aset (aset (aset (aset (aset (fun _ => false) 0 m) 1 (bif decide ((pre.length : Int) < r.1) then decide (wi64 (X.1 - Y.1) < 0) else decide (wi64 (X.1 - Y.1) > 0))) 2 (!decide (wi64 (0 - r.2.2.1) ≤ wi64 (X.1 - Y.1) ∧ wi64 (X.1 - Y.1) ≤ r.2.1))) 3 (decide (szI (wi64 (X.2.1 - Y.2.1)) > r.2.2.2.1))) 4 (decide (szI (wi64 (X.2.2.1 - Y.2.2.1)) > r.2.2.2.2.1))
theorem zlv {r : z01} {l : List z00} {s pre post : List Int} {x : Int} (h : s = pre ++ x :: post) (hs : s.length ≤ 4294967296) (hin : ∀ i ∈ s, 0 ≤ i ∧ i < (l.length : Int)) :
  z0p (r, l) s pre.length = some (outV r l pre x) := by
 have hL : s.length = pre.length + (post.length + 1) := by rw [h, List.length_append, List.length_cons]
 have hx : 0 ≤ x ∧ x < (l.length : Int) := hin x (by rw [h]; simp)
 have ht : List.drop (Int.toNat 0) (List.take (Int.toNat ((pre.length : Int) + 1)) s) = pre ++ [x] := by
  have e : ((pre.length : Int) + 1).toNat = (pre ++ [x]).length := by rw [List.length_append, List.length_singleton]; omega
  rw [e, h, show pre ++ x :: post = (pre ++ [x]) ++ post by simp, List.take_left]; rfl
 unfold z0p
 rw [z0m (x := (pre.length : Int) + 1) (by omega) (by omega), ht]
 rw [z1h (by rw [z0a (by omega), z0a (by omega), z0a (by omega)]; rfl)]
 refine Option.bind_eq_some_iff.2 ⟨metF l (pre ++ [x]), ze0 (X := Int) (l := pre ++ [x]) (fun m => (metF l m, (m.length : Int))) (fun m y po e => ?_) (by simp only [step_end]), ?_⟩
 ·have hm : (pre ++ [x]).length ≤ 4294967296 := by rw [List.length_append, List.length_singleton]; omega
  have hy := hin y (by rw [h, show pre ++ x :: post = (pre ++ [x]) ++ post by simp, e]; simp)
  simp only [zar e, z82 e, zau e hm]
  rw [z1h (by rw [z0a hy.1, z0a hy.2]; rfl), zys, List.length_append, List.length_singleton]
  rfl
 rw [z1h (by rfl)]
 unfold outV
 by_cases hp : pre = []
 ·rw [if_pos hp, hp]; rfl
 ·have hpl : 0 < pre.length := List.length_pos_iff.2 hp
  have hy := hin (zn0 pre) (by rw [h]; exact List.mem_append_left _ (zmz hp))
  rw [if_neg hp, show ((pre.length : Int) == 0) = false by rw [beq_eq_false_iff_ne]; omega]
  rw [z0m (x := (pre.length : Int) - 1) (by omega) (by omega), zz0 h hp, z82 h]
  simp only [cond_false]
  rw [zvn h, z1h (by rw [z0a hx.1, z0a hx.2]; rfl), z1h (by rw [z0a (by omega), z0a (by omega)]; rfl), z1h (by rw [z0a hy.1, z0a hy.2]; rfl)]
  simp only [zfq, Option.bind_some]
  unfold z3b
  cases decide ((pre.length : Int) < r.1) <;> rfl
end Go.Lift
namespace Go.Lift
open Go
def vioG (r : z01) (l : List z00) (pre : List Int) (x : Int) : Option (Int × Int) := (zlw (outV r l pre x)).head?.map fun k => ((pre.length : Int), k)
theorem zoj {r : z01} {l : List z00} {s : List Int} (hs : s.length ≤ 4294967296) (hin : ∀ i ∈ s, 0 ≤ i ∧ i < (l.length : Int)) :
  ∀ (post pre : List Int), s = pre ++ post → ∃ L, zec (r, l) s post.length pre.length = some L ∧ L.head? = z26 (vioG r l) pre post
 | [], pre, _ => ⟨[], rfl, rfl⟩
 | x :: post, pre, h => by
  obtain ⟨L, h1, h2⟩ := zoj (r := r) hs hin post (pre ++ [x]) (by rw [h]; simp)
  rw [List.length_append, List.length_singleton] at h1
  refine ⟨_, by
   rw [List.length_cons, zec, zlv h hs hin, Option.bind_some]
   rw [show ((pre.length + 1 : Nat) : Int) = (pre.length : Int) + 1 from rfl] at h1
   rw [h1, Option.bind_some], ?_⟩
  rw [List.head?_append, h2, List.head?_map]
  simp only [z26]
  unfold vioG
  cases (zlw (outV r l pre x)).head? <;> rfl
def vioE (r : z01) (l : List z00) (s : List Int) : (Int × Int) × Bool := match z26 (vioG r l) [] s with
 | some q => (q, true)
 | none => ((0, 0), false)
theorem zkt {r : z01} {l : List z00} {s : List Int} (hs : s.length ≤ 1000000) (hin : ∀ i ∈ s, 0 ≤ i ∧ i < (l.length : Int)) : z1p (r, l) s = some (vioE r l s) := by
 obtain ⟨L, h1, h2⟩ := zoj (r := r) (by omega) hin s [] rfl
 unfold z1p z27 vioE
 rw [z0a hs, cond_true, show ((0 : Int)) = ((([] : List Int).length : Nat) : Int) from rfl, h1, Option.bind_some, ← h2]
 have ht : ∀ L : List (Int × Int), zmv (X := (Int × Int)) (S := Unit) (R := (Int × Int) × Bool) (fun t_1 _ => Option.map Sum.inr (some (t_1, true))) L () = some (match L.head? with | some q => .inr (q, true) | none => .inl ()) := by
  intro L
  have tt : Total (X := (Int × Int)) (S := Unit) (R := (Int × Int) × Bool) (fun t_1 _ => Option.map Sum.inr (some (t_1, true))) L () := fun pre x s' _ _ _ _ => ⟨_, rfl⟩
  unfold zmv
  rw [if_pos tt]
  cases L <;> rfl
 rw [ht, Option.bind_some]
 cases L.head? <;> rfl
theorem y2t {l : List z00} {i : Int} (h : 0 ≤ i ∧ i < (l.length : Int)) : lget z4k l i ∈ l := by
 unfold lget
 have hi : i.toNat < l.length := by omega
 rw [List.getD_eq_getElem?_getD, List.getElem?_eq_getElem hi]
 exact List.getElem_mem _
end Go.Lift
