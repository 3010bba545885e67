/-
  The first violation on both sides.
-/
import Derived.Test.YtggnjngdmadbaaaGreatDoorVioA
set_option linter.unusedSectionVars false
set_option linter.unusedVariables false
set_option linter.unusedSimpArgs false
namespace Go.Lift
open Go
theorem z6r {X R S : Type} {F : S → Option (S ⊕ R)} {l : List X} {fin : R} (st : List X → S)
  (hstep : ∀ pre x post, l = pre ++ x :: post → F (st pre) = some (.inl (st (pre ++ [x])))) (hend : F (st l) = some (.inr fin)) : z2d F (st []) = some fin := by
 refine z58 (X := X) (l := l) (fun l' s => ∃ pre, l = pre ++ l' ∧ s = st pre) ?_ ?_ ⟨[], rfl, rfl⟩
 ·rintro x l' s ⟨pre, e1, rfl⟩
  exact Or.inl ⟨_, hstep pre x l' e1, pre ++ [x], by rw [e1]; simp, rfl⟩
 ·rintro s ⟨pre, e1, rfl⟩
  rw [List.append_nil] at e1
  rw [← e1, hend]
def metF (l : List z00) (s : List Int) : Int := s.foldl (fun m i => wi64 (m + (lget z1e l i).2.2.2)) 0
theorem y15 (l : List z00) (s : List Int) (x : Int) : metF l (s ++ [x]) = wi64 (metF l s + (lget z1e l x).2.2.2) := by
 unfold metF
 rw [List.foldl_append]; rfl
def z8e (pre : List Int) : Int := lget 0 pre (pre.length - 1)
theorem y1e {s pre post : List Int} {x : Int} (h : s = pre ++ x :: post) (hp : pre ≠ []) : lget 0 s (pre.length - 1) = z8e pre := by
 have : 0 < pre.length := List.length_pos_iff.2 hp
 unfold z8e lget
 rw [h]
 have e : ((pre.length : Int) - 1).toNat = pre.length - 1 := by omega
 rw [e, List.getD_eq_getElem?_getD, List.getD_eq_getElem?_getD, List.getElem?_append_left (by omega)]
theorem zpd {pre : List Int} (hp : pre ≠ []) : z8e pre ∈ pre := by
 have : 0 < pre.length := List.length_pos_iff.2 hp
 unfold z8e lget
 have e : ((pre.length : Int) - 1).toNat = pre.length - 1 := by omega
 rw [e, List.getD_eq_getElem?_getD, List.getElem?_eq_getElem (by omega)]
 exact List.getElem_mem _
def szI (n : Int) : Int := imax n (wi64 (0 - n))
def outV (r : z02) (l : List z00) (pre : List Int) (x : Int) : Nat → Bool :=
 let m := decide (metF l (pre ++ [x]) > r.2.2.2.2.2.1)
 let X := lget z1e l x
 let Y := lget z1e l (z8e pre)
 if pre = [] then aset (fun _ => false) 0 m else
  aset (aset (aset (aset (aset (fun _ => false) 0 m) 1 (bif decide ((pre.length : Int) < r.1) then decide (wi64 (X.1 - Y.1) < 0) else decide (wi64 (X.1 - Y.1) > 0))) 2 (!decide (wi64 (0 - r.2.2.1) ≤ wi64 (X.1 - Y.1) ∧ wi64 (X.1 - Y.1) ≤ r.2.1))) 3 (decide (szI (wi64 (X.2.1 - Y.2.1)) > r.2.2.2.1))) 4 (decide (szI (wi64 (X.2.2.1 - Y.2.2.1)) > r.2.2.2.2.1))
theorem zt5 {r : z02} {l : List z00} {s pre post : List Int} {x : Int} (h : s = pre ++ x :: post) (hs : s.length ≤ 4294967296) (hin : ∀ i ∈ s, 0 ≤ i ∧ i < (l.length : Int)) :
  z1a (r, l) s pre.length = some (outV r l pre x) := by
 have hL : s.length = pre.length + (post.length + 1) := by rw [h, List.length_append, List.length_cons]
 have hx : 0 ≤ x ∧ x < (l.length : Int) := hin x (by rw [h]; simp)
 have ht : List.drop (Int.toNat 0) (List.take (Int.toNat ((pre.length : Int) + 1)) s) = pre ++ [x] := by
  have e : ((pre.length : Int) + 1).toNat = (pre ++ [x]).length := by rw [List.length_append, List.length_singleton]; omega
  rw [e, h, show pre ++ x :: post = (pre ++ [x]) ++ post by simp, List.take_left]; rfl
 unfold z1a
 rw [z0j (x := (pre.length : Int) + 1) (by omega) (by omega), ht]
 rw [z18 (by rw [z07 (by omega), z07 (by omega), z07 (by omega)]; rfl)]
 refine Option.bind_eq_some_iff.2 ⟨metF l (pre ++ [x]), z6r (X := Int) (l := pre ++ [x]) (fun m => (metF l m, (m.length : Int))) (fun m y po e => ?_) (by simp only [step_end]), ?_⟩
 ·have hm : (pre ++ [x]).length ≤ 4294967296 := by rw [List.length_append, List.length_singleton]; omega
  have hy := hin y (by rw [h, show pre ++ x :: post = (pre ++ [x]) ++ post by simp, e]; simp)
  simp only [z7s e, z59 e, zah e hm]
  rw [z18 (by rw [z07 hy.1, z07 hy.2]; rfl), y15, List.length_append, List.length_singleton]
  rfl
 rw [z18 (by rfl)]
 unfold outV
 by_cases hp : pre = []
 ·rw [if_pos hp, hp]; rfl
 ·have hpl : 0 < pre.length := List.length_pos_iff.2 hp
  have hy := hin (z8e pre) (by rw [h]; exact List.mem_append_left _ (zpd hp))
  rw [if_neg hp, show ((pre.length : Int) == 0) = false by rw [beq_eq_false_iff_ne]; omega]
  rw [z0j (x := (pre.length : Int) - 1) (by omega) (by omega), y1e h hp, z59 h]
  simp only [cond_false]
  rw [zvd h, z18 (by rw [z07 hx.1, z07 hx.2]; rfl), z18 (by rw [z07 (by omega), z07 (by omega)]; rfl), z18 (by rw [z07 hy.1, z07 hy.2]; rfl)]
  simp only [z7f, Option.bind_some]
  unfold z4h
  cases decide ((pre.length : Int) < r.1) <;> rfl
end Go.Lift
namespace Go.Lift
open Go
def vioG (r : z02) (l : List z00) (pre : List Int) (x : Int) : Option (Int × Int) := (zoh (outV r l pre x)).head?.map fun k => ((pre.length : Int), k)
theorem zwm {r : z02} {l : List z00} {s : List Int} (hs : s.length ≤ 4294967296) (hin : ∀ i ∈ s, 0 ≤ i ∧ i < (l.length : Int)) :
  ∀ (post pre : List Int), s = pre ++ post → ∃ L, zid (r, l) s post.length pre.length = some L ∧ L.head? = z1h (vioG r l) pre post
 | [], pre, _ => ⟨[], rfl, rfl⟩
 | x :: post, pre, h => by
  obtain ⟨L, h1, h2⟩ := zwm (r := r) hs hin post (pre ++ [x]) (by rw [h]; simp)
  rw [List.length_append, List.length_singleton] at h1
  refine ⟨_, by
   rw [List.length_cons, zid, zt5 h hs hin, Option.bind_some]
   rw [show ((pre.length + 1 : Nat) : Int) = (pre.length : Int) + 1 from rfl] at h1
   rw [h1, Option.bind_some], ?_⟩
  rw [List.head?_append, h2, List.head?_map]
  simp only [z1h]
  unfold vioG
  cases (zoh (outV r l pre x)).head? <;> rfl
def vioE (r : z02) (l : List z00) (s : List Int) : z1g × Bool := match z1h (vioG r l) [] s with
 | some q => (q, true)
 | none => ((0, 0), false)
theorem zrn {r : z02} {l : List z00} {s : List Int} (hs : s.length ≤ 1000000) (hin : ∀ i ∈ s, 0 ≤ i ∧ i < (l.length : Int)) : z3l (r, l) s = some (vioE r l s) := by
 obtain ⟨L, h1, h2⟩ := zwm (r := r) (by omega) hin s [] rfl
 unfold z3l z39 vioE
 rw [z07 hs, cond_true, show ((0 : Int)) = ((([] : List Int).length : Nat) : Int) from rfl, h1, Option.bind_some, ← h2]
 have ht : ∀ L : List (Int × Int), zno (X := z1g) (S := Unit) (R := z1g × Bool) (fun t_1 _ => Option.map Sum.inr (some (t_1, true))) L () = some (match L.head? with | some q => .inr (q, true) | none => .inl ()) := by
  intro L
  have tt : yfh (X := z1g) (S := Unit) (R := z1g × Bool) (fun t_1 _ => Option.map Sum.inr (some (t_1, true))) L () := fun pre x s' _ _ _ _ => ⟨_, rfl⟩
  unfold zno
  rw [if_pos tt]
  cases L <;> rfl
 rw [ht, Option.bind_some]
 cases L.head? <;> rfl
theorem ydx (b0 : Bool) : (zoh (aset (fun _ => false) 0 b0)).head? = bif b0 then some 0 else none := by
 cases b0 <;> rfl
theorem ydw (b0 b1 b2 b3 b4 : Bool) : (zoh (aset (aset (aset (aset (aset (fun _ => false) 0 b0) 1 b1) 2 b2) 3 b3) 4 b4)).head? = bif b0 then some 0 else bif b1 then some 1 else bif b2 then some 2 else bif b3 then some 3 else bif b4 then some 4 else none := by
 cases b0 <;> cases b1 <;> cases b2 <;> cases b3 <;> cases b4 <;> rfl
theorem yfi (n : Int) : zla n = some (szI n) := rfl
theorem y3j {l : List z00} {i : Int} (h : 0 ≤ i ∧ i < (l.length : Int)) : lget z1e l i ∈ l := by
 unfold lget
 have hi : i.toNat < l.length := by omega
 rw [List.getD_eq_getElem?_getD, List.getElem?_eq_getElem hi]
 exact List.getElem_mem _
theorem y9v {l : List z00} (hl : l.all zc6 = true) {i : Int} (h : 0 ≤ i ∧ i < (l.length : Int)) : 500 ≤ (lget z1e l i).1 ∧ (lget z1e l i).1 ≤ 2500 := by
 have := List.all_eq_true.1 hl _ (y3j h)
 unfold zc6 inB at this
 simp only [Bool.and_eq_true, decide_eq_true_eq] at this
 exact this.1.1.1
theorem zs3 {r : z02} {l : List z00} {s : List Int} (hs : s.length ≤ 1000000) (hin : ∀ i ∈ s, 0 ≤ i ∧ i < (l.length : Int)) (hr : z5d r = true) (hl : l.all zc6 = true) : zaw r l s = some (vioE r l s) := by
 unfold zaw vioE
 have hr2 : 0 ≤ r.2.2.1 ∧ r.2.2.1 ≤ 300000 := by
  unfold z5d inB at hr
  simp only [Bool.and_eq_true, decide_eq_true_eq] at hr
  exact hr.1.1.1.1.1.1.2
 refine Option.bind_eq_some_iff.2 ⟨_, y3g (X := Int) (l := s) (g := fun pre x => (vioG r l pre x).map fun q => (q, true)) (fun m => (metF l m, (m.length : Int))) (fun pre x post e => ?_) (by simp only [step_end]), ?_⟩
 ·have hx := hin x (by rw [e]; simp)
  have hX := y9v hl hx
  have hL : s.length = pre.length + (post.length + 1) := by rw [e, List.length_append, List.length_cons]
  simp only [z7s e, z59 e, zah e (show s.length ≤ 4294967296 by omega)]
  rw [z18 (by rw [z07 hx.1, z07 hx.2]; rfl), ← y15]
  unfold vioG outV
  by_cases hp : pre = []
  ·rw [if_pos hp, ydx, show ((pre.length : Int) == 0) = true by rw [hp]; rfl]
   cases decide (metF l (pre ++ [x]) > r.2.2.2.2.2.1)
   ·rw [List.length_append, List.length_singleton]; rfl
   ·rfl
  ·have hpl : 0 < pre.length := List.length_pos_iff.2 hp
   have hy := hin (z8e pre) (by rw [e]; exact List.mem_append_left _ (zpd hp))
   have hY := y9v hl hy
   rw [if_neg hp, ydw, show ((pre.length : Int) == 0) = false by rw [beq_eq_false_iff_ne]; omega, z0j (x := (pre.length : Int) - 1) (by omega) (by omega), y1e e hp, cond_false]
   rw [z18 (by rw [z07 (by omega), z07 (by omega)]; rfl), z18 (by rw [z07 hy.1, z07 hy.2]; rfl)]
   simp only [yfi, Option.bind_some]
   rw [z0j (x := (lget z1e l x).1 - (lget z1e l (z8e pre)).1) (by omega) (by omega), z0j (x := (lget z1e l (z8e pre)).1 - (lget z1e l x).1) (by omega) (by omega), z0j (x := 0 - r.2.2.1) (by omega) (by omega)]
   have hb1 : ((decide ((pre.length : Int) < r.1) && decide ((lget z1e l x).1 < (lget z1e l (z8e pre)).1)) || (decide ((pre.length : Int) ≥ imax r.1 1) && decide ((lget z1e l x).1 > (lget z1e l (z8e pre)).1))) = (bif decide ((pre.length : Int) < r.1) then decide ((lget z1e l x).1 - (lget z1e l (z8e pre)).1 < 0) else decide ((lget z1e l x).1 - (lget z1e l (z8e pre)).1 > 0)) := by
    have hi : decide ((pre.length : Int) ≥ imax r.1 1) = !decide ((pre.length : Int) < r.1) := by
     rw [← decide_not, decide_eq_decide]
     unfold imax
     split <;> omega
    have h1 : decide ((lget z1e l x).1 < (lget z1e l (z8e pre)).1) = decide ((lget z1e l x).1 - (lget z1e l (z8e pre)).1 < 0) := by rw [decide_eq_decide]; omega
    have h2 : decide ((lget z1e l x).1 > (lget z1e l (z8e pre)).1) = decide ((lget z1e l x).1 - (lget z1e l (z8e pre)).1 > 0) := by rw [decide_eq_decide]; omega
    rw [hi, h1, h2]
    cases decide ((pre.length : Int) < r.1) <;> simp
   have hb2 : (decide ((lget z1e l x).1 - (lget z1e l (z8e pre)).1 > r.2.1) || decide ((lget z1e l (z8e pre)).1 - (lget z1e l x).1 > r.2.2.1)) = !decide (0 - r.2.2.1 ≤ (lget z1e l x).1 - (lget z1e l (z8e pre)).1 ∧ (lget z1e l x).1 - (lget z1e l (z8e pre)).1 ≤ r.2.1) := by
    rw [Bool.eq_iff_iff, Bool.or_eq_true, decide_eq_true_eq, decide_eq_true_eq, ← decide_not, decide_eq_true_eq]
    omega
   show (bif decide (metF l (pre ++ [x]) > r.2.2.2.2.2.1) then _ else bif ((decide ((pre.length : Int) < r.1) && decide ((lget z1e l x).1 < (lget z1e l (z8e pre)).1)) || (decide ((pre.length : Int) ≥ imax r.1 1) && decide ((lget z1e l x).1 > (lget z1e l (z8e pre)).1))) then _ else bif (decide ((lget z1e l x).1 - (lget z1e l (z8e pre)).1 > r.2.1) || decide ((lget z1e l (z8e pre)).1 - (lget z1e l x).1 > r.2.2.1)) then _ else _) = _
   rw [hb1, hb2]
   generalize (bif decide ((pre.length : Int) < r.1) then decide ((lget z1e l x).1 - (lget z1e l (z8e pre)).1 < 0) else decide ((lget z1e l x).1 - (lget z1e l (z8e pre)).1 > 0)) = c1
   generalize decide (0 - r.2.2.1 ≤ (lget z1e l x).1 - (lget z1e l (z8e pre)).1 ∧ (lget z1e l x).1 - (lget z1e l (z8e pre)).1 ≤ r.2.1) = c2
   generalize decide (szI (wi64 ((lget z1e l x).2.1 - (lget z1e l (z8e pre)).2.1)) > r.2.2.2.1) = c3
   generalize decide (szI (wi64 ((lget z1e l x).2.2.1 - (lget z1e l (z8e pre)).2.2.1)) > r.2.2.2.2.1) = c4
   rw [List.length_append, List.length_singleton]
   cases decide (metF l (pre ++ [x]) > r.2.2.2.2.2.1) <;> cases c1 <;> cases c2 <;> cases c3 <;> cases c4 <;> rfl
 ·have : ∀ (m pre : List Int), z1h (fun pre x => (vioG r l pre x).map fun q => (q, true)) pre m = (z1h (vioG r l) pre m).map fun q => (q, true) := by
   intro m
   induction m with
   | nil => intro pre; rfl
   | cons x m ih =>
    intro pre
    simp only [z1h]
    cases vioG r l pre x with
    | some e => rfl
    | none => exact ih _
  rw [this]
  cases z1h (vioG r l) [] s <;> rfl
end Go.Lift
