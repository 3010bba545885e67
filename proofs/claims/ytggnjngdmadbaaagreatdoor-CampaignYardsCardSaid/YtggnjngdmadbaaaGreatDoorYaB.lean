/-
  Blocking slabs on both sides; the law holds of the plain functions.
-/
import Derived.Test.YtggnjngdmadbaaaGreatDoorYaA
set_option linter.unusedSectionVars false
set_option linter.unusedVariables false
set_option linter.unusedSimpArgs false
namespace Go.Lift
open Go
def fIdx {X : Type} (P : X → Bool) : List X → Nat
 | [] => 0
 | x :: r => bif P x then 0 else fIdx P r + 1
theorem yg4 {X : Type} (P : X → Bool) (x : X) (r : List X) : fIdx P (x :: r) = bif P x then 0 else fIdx P r + 1 := rfl
theorem y1m {X : Type} (P : X → Bool) : ∀ l : List X, fIdx P l ≤ l.length
 | [] => Nat.le_refl _
 | x :: r => by
  have := y1m P r
  unfold fIdx
  cases P x
  ·rw [cond_false, List.length_cons]; omega
  ·rw [cond_true]; exact Nat.zero_le _
theorem zqd {X : Type} (P : X → Bool) : ∀ l : List X, l.any P = decide (fIdx P l < l.length)
 | [] => rfl
 | x :: r => by
  have ih := zqd P r
  unfold fIdx
  rw [List.any_cons, List.length_cons]
  cases P x
  ·rw [cond_false, Bool.false_or, ih]
   congr 1
   rw [eq_iff_iff]; omega
  ·rw [cond_true, Bool.true_or, z03 (by omega)]
theorem zqc {X R : Type} {l : List X} {P : X → Bool} {F : Int → Option (Int ⊕ R)} {g : Nat → R} {e : R}
  (hstep : ∀ (pre post : List X) (x : X), l = pre ++ x :: post → F (pre.length : Int) = some (bif P x then .inr (g pre.length) else .inl ((pre.length + 1 : Nat) : Int)))
  (hend : F (l.length : Int) = some (.inr e)) : z1v F 0 = some (if fIdx P l < l.length then g (fIdx P l) else e) := by
 refine z0y (X := X) (fun rest s => ∃ pre, l = pre ++ rest ∧ s = (pre.length : Int) ∧ fIdx P l = pre.length + fIdx P rest) ?_ ?_ (l := l) ⟨[], rfl, rfl, by simp⟩
 ·rintro x rest _ ⟨pre, h1, rfl, h2⟩
  have hlen := congrArg List.length h1
  rw [List.length_append, List.length_cons] at hlen
  rw [hstep pre rest x h1]
  rw [yg4] at h2
  cases hx : P x with
  | true =>
   rw [hx, cond_true, Nat.add_zero] at h2
   exact Or.inr (by rw [h2, if_pos (by omega)]; rfl)
  | false =>
   rw [hx, cond_false] at h2
   exact Or.inl ⟨_, rfl, pre ++ [x], by rw [h1]; simp, by rw [List.length_append, List.length_singleton], by rw [h2, List.length_append, List.length_singleton]; omega⟩
 ·rintro _ ⟨pre, h1, rfl, h2⟩
  rw [List.append_nil] at h1
  subst h1
  rw [hend, if_neg (by rw [h2]; omega)]
theorem y8j {request : List ByteArray} {x : ByteArray} (h : request.length ≤ 60000) : zgs request x = some ((fIdx (fun z => seqb z x) request : Nat) : Int) := by
 unfold zgs
 have hf := zqc (l := request) (P := fun z => seqb z x) (R := Unit ⊕ Int) (g := fun k => .inr (k : Int)) (e := .inl ()) (F := fun i =>
  bif decide (i < (List.length request : Int)) then
   chk (decide ((0 : Int) ≤ i) && decide (i < (List.length request : Int))) (
    bif seqb (lget ByteArray.empty request i) x then
     Option.map Sum.inr (Option.map Sum.inr (
      some i))
    else
     some (.inl (wi64 (i + 1))))
  else
   some (.inr (.inl ()))) (fun pre post z hz => by
  have hlen := congrArg List.length hz
  rw [List.length_append, List.length_cons] at hlen
  have hg : lget ByteArray.empty request (pre.length : Int) = z := by rw [hz]; exact z3f
  rw [z03 (show (pre.length : Int) < (request.length : Int) by omega), cond_true, z09 (z0c (z03 (by omega)) rfl), hg, z07 (by omega) (by omega)]
  cases seqb z x <;> rfl) (by rw [z06 (show ¬ (request.length : Int) < (request.length : Int) by omega), cond_false])
 rw [hf, Option.bind_some]
 have := y1m (fun z => seqb z x) request
 by_cases hlt : fIdx (fun z => seqb z x) request < request.length
 ·rw [if_pos hlt]
 ·rw [if_neg hlt]
  show some (request.length : Int) = _
  congr 1
  omega
def idxI (l : List ByteArray) (x : ByteArray) : Int := if fIdx (fun z => seqb z x) l < l.length then ((fIdx (fun z => seqb z x) l : Nat) : Int) else -1
theorem y2c {l : List ByteArray} {x : ByteArray} (h : l.length ≤ 60000) : slices_Index_string l x = some (idxI l x) := by
 unfold slices_Index_string idxI
 have hf := zqc (l := l) (P := fun z => seqb z x) (R := Unit ⊕ Int) (g := fun k => .inr (k : Int)) (e := .inl ()) (F := fun t =>
  bif decide (t < (List.length l : Int)) then
   chk (decide ((0 : Int) ≤ t) && decide (t < (List.length l : Int))) (
    bif seqb x (lget ByteArray.empty l t) then
     Option.map Sum.inr (Option.map Sum.inr (
      some t))
    else
     some (.inl (wi64 (t + 1))))
  else
   some (.inr (.inl ()))) (fun pre post z hz => by
  have hlen := congrArg List.length hz
  rw [List.length_append, List.length_cons] at hlen
  have hg : lget ByteArray.empty l (pre.length : Int) = z := by rw [hz]; exact z3f
  rw [z03 (show (pre.length : Int) < (l.length : Int) by omega), cond_true, z09 (z0c (z03 (by omega)) rfl), hg, z07 (by omega) (by omega), zup x z]
  cases seqb z x <;> rfl) (by rw [z06 (show ¬ (l.length : Int) < (l.length : Int) by omega), cond_false])
 rw [hf, Option.bind_some]
 by_cases hlt : fIdx (fun z => seqb z x) l < l.length
 ·rw [if_pos hlt, if_pos hlt]
 ·rw [if_neg hlt, if_neg hlt]
theorem zoy {l : List ByteArray} {x : ByteArray} (h : l.length ≤ 60000) : slices_Contains_string l x = some (hasB l x) := by
 unfold slices_Contains_string hasB
 rw [y2c h, Option.bind_some, zqd]
 unfold idxI
 by_cases hlt : fIdx (fun z => seqb z x) l < l.length
 ·rw [if_pos hlt, z03 hlt, z03 (by omega)]
 ·rw [if_neg hlt, z06 hlt, z06 (by omega)]
theorem zxk {s : List (List ByteArray)} {f : List ByteArray → Option Bool} {Q : List ByteArray → Bool} (h : s.length ≤ 60000) (hf : ∀ p ∈ s, f p = some (Q p)) : z1s s f = some (s.any Q) := by
 unfold z1s z3b
 have hl := zqc (l := s) (P := Q) (R := Unit ⊕ Int) (g := fun k => .inr (k : Int)) (e := .inl ()) (F := fun t =>
  bif decide (t < (List.length s : Int)) then
   chk (decide ((0 : Int) ≤ t) && decide (t < (List.length s : Int))) (
    (f (lget [] s t)).bind fun (t_1 : Bool) =>
    bif t_1 then
     Option.map Sum.inr (Option.map Sum.inr (
      some t))
    else
     some (.inl (wi64 (t + 1))))
  else
   some (.inr (.inl ()))) (fun pre post z hz => by
  have hlen := congrArg List.length hz
  rw [List.length_append, List.length_cons] at hlen
  have hg : lget [] s (pre.length : Int) = z := by rw [hz]; exact z3f
  rw [z03 (show (pre.length : Int) < (s.length : Int) by omega), cond_true, z09 (z0c (z03 (by omega)) rfl), hg, hf z (by rw [hz]; simp), Option.bind_some, z07 (by omega) (by omega)]
  cases Q z <;> rfl) (by rw [z06 (show ¬ (s.length : Int) < (s.length : Int) by omega), cond_false])
 rw [hl, Option.bind_some, zqd]
 by_cases hlt : fIdx Q s < s.length
 ·rw [if_pos hlt, z03 hlt]
  show some (decide (((fIdx Q s : Nat) : Int) ≥ 0)) = _
  rw [z03 (by omega)]
 ·rw [if_neg hlt, z06 hlt]; rfl
theorem zqv {s : List ByteArray} {f : ByteArray → Option Bool} {Q : ByteArray → Bool} (h : s.length ≤ 60000) (hf : ∀ p ∈ s, f p = some (Q p)) : z0x s f = some (s.any Q) := by
 unfold z0x z2h
 have hl := zqc (l := s) (P := Q) (R := Unit ⊕ Int) (g := fun k => .inr (k : Int)) (e := .inl ()) (F := fun t =>
  bif decide (t < (List.length s : Int)) then
   chk (decide ((0 : Int) ≤ t) && decide (t < (List.length s : Int))) (
    (f (lget ByteArray.empty s t)).bind fun (t_1 : Bool) =>
    bif t_1 then
     Option.map Sum.inr (Option.map Sum.inr (
      some t))
    else
     some (.inl (wi64 (t + 1))))
  else
   some (.inr (.inl ()))) (fun pre post z hz => by
  have hlen := congrArg List.length hz
  rw [List.length_append, List.length_cons] at hlen
  have hg : lget ByteArray.empty s (pre.length : Int) = z := by rw [hz]; exact z3f
  rw [z03 (show (pre.length : Int) < (s.length : Int) by omega), cond_true, z09 (z0c (z03 (by omega)) rfl), hg, hf z (by rw [hz]; simp), Option.bind_some, z07 (by omega) (by omega)]
  cases Q z <;> rfl) (by rw [z06 (show ¬ (s.length : Int) < (s.length : Int) by omega), cond_false])
 rw [hl, Option.bind_some, zqd]
 by_cases hlt : fIdx Q s < s.length
 ·rw [if_pos hlt, z03 hlt]
  show some (decide (((fIdx Q s : Nat) : Int) ≥ 0)) = _
  rw [z03 (by omega)]
 ·rw [if_neg hlt, z06 hlt]; rfl
end Go.Lift
namespace Go.Lift
open Go
def reqG (y : List (List ByteArray)) : List ByteArray → List ByteArray → Int
 | _, [] => 0
 | pre, x :: r => bif !(y.any fun p => hasB p x) then 6 else bif hasB pre x then 23 else reqG y (pre ++ [x]) r
theorem y33 (y : List (List ByteArray)) (pre : List ByteArray) (x : ByteArray) (r : List ByteArray) : reqG y pre (x :: r) = bif !(y.any fun p => hasB p x) then 6 else bif hasB pre x then 23 else reqG y (pre ++ [x]) r := rfl
def reqE (y : List (List ByteArray)) (request : List ByteArray) : Int := reqG y [] request
theorem yc0 {y : List (List ByteArray)} {x : ByteArray} (hy : y.length ≤ 6) (hp : ∀ p ∈ y, p.length ≤ 8) {request : List ByteArray} {i : Int} (hi : (decide ((0 : Int) ≤ i) && decide (i < (List.length request : Int))) = true) (hx : lget ByteArray.empty request i = x) : z1v (S := Bool × Int) (R := Bool) (fun s =>
   let found : Bool := s.1
   let k : Int := s.2
   bif decide (k < (List.length y : Int)) then
    (bif found then some true else
     chk (decide ((0 : Int) ≤ k) && decide (k < (List.length y : Int))) (
      chk (decide ((0 : Int) ≤ i) && decide (i < (List.length request : Int))) (
       (z9i (lget [] y k) (lget ByteArray.empty request i)).bind fun (t : Bool) =>
       some t))).bind fun (c : Bool) =>
    some (.inl (c, wi64 (k + 1)))
   else
    some (.inr found)) (false, 0) = some (y.any fun p => hasB p x) := by
 rw [hi, hx]
 refine z0y (X := List ByteArray) (fun rest s => ∃ pre b, y = pre ++ rest ∧ s = (b, (pre.length : Int)) ∧ (y.any fun p => hasB p x) = (b || rest.any fun p => hasB p x)) ?_ ?_ (l := y) ⟨[], false, rfl, rfl, by simp⟩
 ·rintro p rest _ ⟨pre, b, h1, rfl, h2⟩
  have hlen := congrArg List.length h1
  rw [List.length_append, List.length_cons] at hlen
  have hg : lget [] y (pre.length : Int) = p := by rw [h1]; exact z3f
  refine Or.inl ⟨(b || hasB p x, ((pre ++ [p]).length : Int)), ?_, pre ++ [p], b || hasB p x, by rw [h1]; simp, rfl, by rw [h2, List.any_cons, Bool.or_assoc]⟩
  simp only []
  rw [z03 (show (pre.length : Int) < (y.length : Int) by omega), cond_true, z09 (z0c (z03 (by omega)) rfl), hg, zkr, zs3 (by have := hp p (by rw [h1]; simp); omega), Option.bind_some, z07 (by omega) (by omega), List.length_append, List.length_singleton]
  cases b <;> rfl
 ·rintro _ ⟨pre, b, h1, rfl, h2⟩
  rw [List.append_nil] at h1
  subst h1
  simp only []
  rw [z06 (show ¬ (y.length : Int) < (y.length : Int) by omega), cond_false, h2]
  simp
theorem y09 {X : Type} {l pre post : List X} (h : l = pre ++ post) : List.drop (Int.toNat 0) (List.take (Int.toNat (pre.length : Int)) l) = pre := by
 rw [h, Int.toNat_natCast, List.take_left]
 rfl
theorem y2a {y : List (List ByteArray)} {request : List ByteArray} (h : Few y request) : zbj y request = some (reqE y request) := by
 obtain ⟨hy, ⟨hr, _⟩, hps⟩ := h
 unfold zbj
 have hl : ∀ F : Int → Option (Int ⊕ (Unit ⊕ Int)), (∀ (pre post : List ByteArray) (x : ByteArray), request = pre ++ x :: post → F (pre.length : Int) = bif !(y.any fun p => hasB p x) then some (.inr (.inr 6)) else bif hasB pre x then some (.inr (.inr 23)) else some (.inl ((pre.length + 1 : Nat) : Int))) → F (request.length : Int) = some (.inr (.inl ())) →
   z1v F 0 = some (bif reqE y request == 0 then .inl () else .inr (reqE y request)) := fun F h1 h2 => by
  refine z0y (X := ByteArray) (fun rest s => ∃ pre, request = pre ++ rest ∧ s = (pre.length : Int) ∧ reqE y request = reqG y pre rest) ?_ ?_ (l := request) ⟨[], rfl, rfl, rfl⟩
  ·rintro x rest _ ⟨pre, e1, rfl, e2⟩
   rw [h1 pre rest x e1]
   rw [y33] at e2
   cases e3 : y.any fun p => hasB p x with
   | false => rw [e3] at e2; refine Or.inr ?_; rw [e2]; rfl
   | true =>
    cases e4 : hasB pre x with
    | true => rw [e3, e4] at e2; refine Or.inr ?_; rw [e2]; rfl
    | false =>
     rw [e3, e4] at e2
     exact Or.inl ⟨_, rfl, pre ++ [x], by rw [e1]; simp, by rw [List.length_append, List.length_singleton], e2⟩
  ·rintro _ ⟨pre, e1, rfl, e2⟩
   rw [List.append_nil] at e1
   subst e1
   rw [h2, e2]
   rfl
 rw [hl]
 ·rw [Option.bind_some]
  cases e : reqE y request == 0 with
  | true =>
   have : reqE y request = 0 := by simpa using e
   rw [this]; rfl
  | false => rfl
 ·intro pre post x hx
  have hlen := congrArg List.length hx
  rw [List.length_append, List.length_cons] at hlen
  have hg : lget ByteArray.empty request (pre.length : Int) = x := by rw [hx]; exact z3f
  have hin : (decide ((0 : Int) ≤ (pre.length : Int)) && decide ((pre.length : Int) < (List.length request : Int))) = true := z0c (z03 (by omega)) (z03 (by omega))
  have hf := yc0 (x := x) hy (fun p hp => (hps p hp).1) hin hg
  simp only [] at hf
  simp only []
  have c1 : (decide ((0 : Int) ≤ 0) && decide ((0 : Int) ≤ (pre.length : Int)) && decide ((pre.length : Int) ≤ (request.length : Int))) = true := z0c (z0c rfl (z03 (by omega))) (z03 (by omega))
  rw [hf, hin, c1, z03 (show (pre.length : Int) < (request.length : Int) by omega), cond_true, Option.bind_some, hg, y09 (show request = pre ++ (x :: post) from hx), zs3 (by omega), z07 (by omega) (by omega), zkr, zkr, Option.bind_some]
  cases y.any fun p => hasB p x with
  | false => rfl
  | true => cases hasB pre x <;> rfl
 ·rw [z06 (show ¬ (request.length : Int) < (request.length : Int) by omega), cond_false]
theorem zxv {y : List (List ByteArray)} {request : List ByteArray} (h : Few y request) : z3n y request = some (bif (zit y).2 != 0 then ([], (zit y).2) else bif reqE y request == 0 then (y, 0) else ([], reqE y request)) := by
 have hF := h
 obtain ⟨hy, ⟨hr, _⟩, hps⟩ := h
 unfold z3n
 rw [y6f hF, Option.bind_some]
 cases he : (zit y).2 != 0 with
 | true => rfl
 | false =>
  rw [cond_false, cond_false]
  have hl : ∀ F : Int → Option (Int ⊕ (Unit ⊕ (List (List ByteArray) × Int))), (∀ (pre post : List ByteArray) (x : ByteArray), request = pre ++ x :: post → F (pre.length : Int) = bif !(y.any fun p => hasB p x) then some (.inr (.inr ([], 6))) else bif hasB pre x then some (.inr (.inr ([], 23))) else some (.inl ((pre.length + 1 : Nat) : Int))) → F (request.length : Int) = some (.inr (.inl ())) →
    z1v F 0 = some (bif reqE y request == 0 then .inl () else .inr ([], reqE y request)) := fun F h1 h2 => by
   refine z0y (X := ByteArray) (fun rest s => ∃ pre, request = pre ++ rest ∧ s = (pre.length : Int) ∧ reqE y request = reqG y pre rest) ?_ ?_ (l := request) ⟨[], rfl, rfl, rfl⟩
   ·rintro x rest _ ⟨pre, e1, rfl, e2⟩
    rw [h1 pre rest x e1]
    rw [y33] at e2
    cases e3 : y.any fun p => hasB p x with
    | false => rw [e3] at e2; refine Or.inr ?_; rw [e2]; rfl
    | true =>
     cases e4 : hasB pre x with
     | true => rw [e3, e4] at e2; refine Or.inr ?_; rw [e2]; rfl
     | false =>
      rw [e3, e4] at e2
      exact Or.inl ⟨_, rfl, pre ++ [x], by rw [e1]; simp, by rw [List.length_append, List.length_singleton], e2⟩
   ·rintro _ ⟨pre, e1, rfl, e2⟩
    rw [List.append_nil] at e1
    subst e1
    rw [h2, e2]
    rfl
  rw [hl]
  ·rw [Option.bind_some]
   cases e : reqE y request == 0 <;> rfl
  ·intro pre post x hx
   have hlen := congrArg List.length hx
   rw [List.length_append, List.length_cons] at hlen
   have hg : lget ByteArray.empty request (pre.length : Int) = x := by rw [hx]; exact z3f
   have hc : z1s y (fun z => z2v z x) = some (y.any fun p => hasB p x) := zxk (by omega) fun p hp => by
    unfold z2v
    rw [zoy (by have := (hps p hp).1; omega)]; rfl
   have hin : (decide ((0 : Int) ≤ (pre.length : Int)) && decide ((pre.length : Int) < (List.length request : Int))) = true := z0c (z03 (by omega)) (z03 (by omega))
   have c1 : (decide ((0 : Int) ≤ 0) && decide ((0 : Int) ≤ (pre.length : Int)) && decide ((pre.length : Int) ≤ (request.length : Int))) = true := z0c (z0c rfl (z03 (by omega))) (z03 (by omega))
   simp only []
   rw [hin, c1, hg, hc, z03 (show (pre.length : Int) < (request.length : Int) by omega), cond_true, zkr, Option.bind_some, z2x, Option.bind_some, y09 (show request = pre ++ (x :: post) from hx), zkr, zoy (by omega), Option.bind_some, z2x, Option.bind_some, zdg (by simp), Option.bind_some, z07 (by omega) (by omega)]
   cases y.any fun p => hasB p x with
   | false => cases hasB pre x <;> rfl
   | true => cases hasB pre x <;> rfl
  ·rw [z06 (show ¬ (request.length : Int) < (request.length : Int) by omega), cond_false]
end Go.Lift
namespace Go.Lift
open Go
def y8k (request : List ByteArray) (x : ByteArray) : Nat := fIdx (fun z => seqb z x) request
def blkQ (request : List ByteArray) (name below : ByteArray) : Bool := decide ((y8k request below : Int) < (y8k request name : Int))
theorem y54 {request : List ByteArray} (h : request.length ≤ 10) (below name : ByteArray) : z1q below request name = some (blkQ request name below) := by
 unfold z1q z83 blkQ y8k
 rw [zoy (by omega), Option.bind_some, y2c (by omega), Option.bind_some, y2c (by omega)]
 unfold hasB idxI
 rw [zqd]
 have h1 := y1m (fun z => seqb z below) request
 have h2 := y1m (fun z => seqb z name) request
 generalize fIdx (fun z => seqb z below) request = a at *
 generalize fIdx (fun z => seqb z name) request = b at *
 by_cases ha : a < request.length
 ·rw [z03 ha, cond_true, if_pos ha]
  by_cases hb : b < request.length
  ·rw [if_pos hb, z06 (show ¬ (b : Int) < 0 by omega), cond_false, Option.bind_some, Option.bind_some]
   simp only [Option.bind_some]
  ·rw [if_neg hb, z03 (show (-1 : Int) < 0 by omega), cond_true, z03 (show (a : Int) < (b : Int) by omega)]
   rfl
 ·rw [z06 ha, cond_false, z06 (show ¬ (a : Int) < (b : Int) by omega)]; rfl
def blkG (request : List ByteArray) : List ByteArray → List ByteArray → List ByteArray
 | _, [] => []
 | pre, x :: r => (bif pre.any (blkQ request x) then [x] else []) ++ blkG request (pre ++ [x]) r
theorem zx0 (request pre : List ByteArray) (x : ByteArray) (r : List ByteArray) : blkG request pre (x :: r) = (bif pre.any (blkQ request x) then [x] else []) ++ blkG request (pre ++ [x]) r := rfl
theorem ya2 (request : List ByteArray) : ∀ (r pre : List ByteArray), (blkG request pre r).length ≤ r.length
 | [], _ => Nat.le_refl _
 | x :: r, pre => by
  have := ya2 request r (pre ++ [x])
  rw [zx0, List.length_append, List.length_cons]
  cases pre.any (blkQ request x)
  ·rw [cond_false, List.length_nil]; omega
  ·rw [cond_true, List.length_singleton]; omega
theorem yia {y : List (List ByteArray)} {request : List ByteArray} (hr : request.length ≤ 10) {t : Int} {p : List ByteArray} (hp : lget [] y t = p) (hl : p.length ≤ 8) {out : List ByteArray} (ho : out.length ≤ 100) :
  z1v (S := (List ByteArray) × Int) (R := (List ByteArray)) (fun s_1 =>
    let out_1 : (List ByteArray) := s_1.1
    let t_1 : Int := s_1.2
    bif decide (t_1 < (List.length (lget [] y t) : Int)) then
     chk (decide ((0 : Int) ≤ t_1) && decide (t_1 < (List.length (lget [] y t) : Int))) (
      let name : ByteArray := lget ByteArray.empty (lget [] y t) t_1
      chk (decide ((0 : Int) ≤ 0) && decide ((0 : Int) ≤ t_1) && decide (t_1 ≤ (List.length (lget [] y t) : Int))) (
       (z0x (List.drop (Int.toNat 0) (List.take (Int.toNat t_1) (lget [] y t))) (fun x => z1q x request name)).bind fun (t_2 : Bool) =>
       (bif t_2 then
        (app out_1 [name]).bind fun (t_3 : List ByteArray) =>
        some t_3
       else
        some out_1).bind fun (out_2 : (List ByteArray)) =>
       some (.inl (out_2, wi64 (t_1 + 1)))))
    else
     some (.inr out_1)) (out, 0) = some (out ++ blkG request [] p) := by
 rw [hp]
 refine z0y (X := ByteArray) (fun rest s => ∃ pre o, p = pre ++ rest ∧ s = (o, (pre.length : Int)) ∧ o.length ≤ 100 + pre.length ∧ out ++ blkG request [] p = o ++ blkG request pre rest) ?_ ?_ (l := p) ⟨[], out, rfl, rfl, by simpa using ho, rfl⟩
 ·rintro x rest _ ⟨pre, o, h1, rfl, h3, h2⟩
  have hlen := congrArg List.length h1
  rw [List.length_append, List.length_cons] at hlen
  have hg : lget ByteArray.empty p (pre.length : Int) = x := by rw [h1]; exact z3f
  have hin : (decide ((0 : Int) ≤ (pre.length : Int)) && decide ((pre.length : Int) < (List.length p : Int))) = true := z0c (z03 (by omega)) (z03 (by omega))
  have c1 : (decide ((0 : Int) ≤ 0) && decide ((0 : Int) ≤ (pre.length : Int)) && decide ((pre.length : Int) ≤ (p.length : Int))) = true := z0c (z0c rfl (z03 (by omega))) (z03 (by omega))
  have hc : z0x pre (fun z => z1q z request x) = some (pre.any (blkQ request x)) := zqv (by omega) fun z hz => y54 hr z x
  simp only []
  rw [hin, c1, z03 (show (pre.length : Int) < (p.length : Int) by omega), cond_true, zkr, zkr, hg, y09 (show p = pre ++ (x :: rest) from h1), hc, Option.bind_some, z6y (by rw [List.length_singleton]; omega), z07 (by omega) (by omega)]
  rw [zx0] at h2
  cases hq : pre.any (blkQ request x) with
  | true =>
   rw [hq, cond_true] at h2
   exact Or.inl ⟨(o ++ [x], ((pre.length + 1 : Nat) : Int)), rfl, pre ++ [x], o ++ [x], by rw [h1]; simp, by rw [List.length_append, List.length_singleton], by rw [List.length_append, List.length_append, List.length_singleton]; omega, by rw [h2]; simp⟩
  | false =>
   rw [hq, cond_false] at h2
   exact Or.inl ⟨(o, ((pre.length + 1 : Nat) : Int)), rfl, pre ++ [x], o, by rw [h1]; simp, by rw [List.length_append, List.length_singleton], by rw [List.length_append, List.length_singleton]; omega, by rw [h2]; simp⟩
 ·rintro _ ⟨pre, o, h1, rfl, h3, h2⟩
  rw [List.append_nil] at h1
  subst h1
  simp only []
  rw [z06 (show ¬ (p.length : Int) < (p.length : Int) by omega), cond_false, h2]
  show _ = some (Sum.inr (o ++ []))
  rw [List.append_nil]
def blkA (request : List ByteArray) (y : List (List ByteArray)) : List ByteArray := y.flatMap (blkG request [])
theorem y21 {request : List ByteArray} : ∀ {y : List (List ByteArray)}, (∀ p ∈ y, p.length ≤ 8) → (blkA request y).length ≤ 8 * y.length
 | [], _ => Nat.le_refl _
 | p :: y, h => by
  have h1 := y21 (request := request) (y := y) fun q hq => h q (List.mem_cons_of_mem _ hq)
  have h2 := ya2 request p []
  have h3 := h p List.mem_cons_self
  unfold blkA at h1 ⊢
  rw [List.flatMap_cons, List.length_append, List.length_cons]
  omega
theorem zyv {y : List (List ByteArray)} {request : List ByteArray} (hy : y.length ≤ 6) (hp : ∀ p ∈ y, p.length ≤ 8) {F : (List ByteArray) × Int → Option (((List ByteArray) × Int) ⊕ List ByteArray)}
  (h1 : ∀ (pre post : List (List ByteArray)) (p : List ByteArray) (out : List ByteArray), y = pre ++ p :: post → out.length ≤ 100 → F (out, (pre.length : Int)) = some (.inl (out ++ blkG request [] p, ((pre.length + 1 : Nat) : Int)))) (h2 : ∀ out, F (out, (y.length : Int)) = some (.inr out)) : z1v F ([], 0) = some (blkA request y) := by
 refine z0y (X := List ByteArray) (fun rest s => ∃ pre, y = pre ++ rest ∧ s = (blkA request pre, (pre.length : Int))) ?_ ?_ (l := y) ⟨[], rfl, rfl⟩
 ·rintro p rest _ ⟨pre, e1, rfl⟩
  have hlen := congrArg List.length e1
  rw [List.length_append, List.length_cons] at hlen
  have hb := y21 (request := request) (y := pre) fun q hq => hp q (by rw [e1]; exact List.mem_append_left _ hq)
  refine Or.inl ⟨_, h1 pre rest p _ e1 (by omega), pre ++ [p], by rw [e1]; simp, ?_⟩
  unfold blkA
  rw [List.flatMap_append, List.length_append, List.length_singleton]
  simp
 ·rintro _ ⟨pre, e1, rfl⟩
  rw [List.append_nil] at e1
  subst e1
  rw [h2]
theorem y7q {y : List (List ByteArray)} {request : List ByteArray} (h : Few y request) : z2u y request = some (blkA request y) := by
 obtain ⟨hy, ⟨hr, _⟩, hps⟩ := h
 unfold z2u
 rw [zyv (request := request) hy (fun p hp => (hps p hp).1)]
 ·rfl
 ·intro pre post p out hx ho
  have hlen := congrArg List.length hx
  rw [List.length_append, List.length_cons] at hlen
  have hg : lget [] y (pre.length : Int) = p := by rw [hx]; exact z3f
  have hb := yia (request := request) hr hg (hps p (by rw [hx]; simp)).1 ho
  simp only [] at hb ⊢
  rw [hb, z03 (show (pre.length : Int) < (y.length : Int) by omega), cond_true, z09 (z0c (z03 (by omega)) rfl), Option.bind_some, z07 (by omega) (by omega)]
  rfl
 ·intro out
  simp only []
  rw [z06 (show ¬ (y.length : Int) < (y.length : Int) by omega), cond_false]
theorem y5g {y : List (List ByteArray)} {request : List ByteArray} (h : Few y request) : z3s y request = some (bif (zit y).2 != 0 then ([], (zit y).2) else bif reqE y request == 0 then (blkA request y, 0) else ([], reqE y request)) := by
 unfold z3s
 rw [zxv h, Option.bind_some]
 cases he : (zit y).2 != 0 with
 | true => simp only [cond_true]; rw [he]; rfl
 | false =>
  rw [cond_false, cond_false]
  cases hq : reqE y request == 0 with
  | true => simp only [cond_true]; rw [y7q h]; rfl
  | false => simp only [cond_false]; rw [show (reqE y request != 0) = true by rw [bne, hq]; rfl]; rfl
end Go.Lift
namespace Go.Lift
open Go
theorem y7p {y : List (List ByteArray)} {request : List ByteArray} (hr : request.length ≤ 10) {i : Int} (hi : (decide ((0 : Int) ≤ i) && decide (i < (List.length y : Int))) = true) {p pre post : List ByteArray} {x : ByteArray} (hp : lget [] y i = p) (hl : p.length ≤ 8) (hx : p = pre ++ x :: post) :
  z1v (S := Bool × Int) (R := Bool) (fun s_2 =>
   let blocks : Bool := s_2.1
   let n : Int := s_2.2
   bif decide (n < (pre.length : Int)) then
    (bif blocks then some true else
     chk (decide ((0 : Int) ≤ i) && decide (i < (List.length y : Int))) (
      chk (decide ((0 : Int) ≤ n) && decide (n < (List.length (lget [] y i) : Int))) (
       (zgs request (lget ByteArray.empty (lget [] y i) n)).bind fun (t : Int) =>
       chk (decide ((0 : Int) ≤ i) && decide (i < (List.length y : Int))) (
        chk (decide ((0 : Int) ≤ (pre.length : Int)) && decide ((pre.length : Int) < (List.length (lget [] y i) : Int))) (
         (zgs request (lget ByteArray.empty (lget [] y i) (pre.length : Int))).bind fun (t_1 : Int) =>
         some (decide (t < t_1))))))).bind fun (c : Bool) =>
    some (.inl (c, wi64 (n + 1)))
   else
    some (.inr blocks)) (false, 0) = some (pre.any (blkQ request x)) := by
 have hlen := congrArg List.length hx
 rw [List.length_append, List.length_cons] at hlen
 have hgx : lget ByteArray.empty p (pre.length : Int) = x := by rw [hx]; exact z3f
 have hin : (decide ((0 : Int) ≤ (pre.length : Int)) && decide ((pre.length : Int) < (List.length p : Int))) = true := z0c (z03 (by omega)) (z03 (by omega))
 rw [hi, hp, hin, hgx]
 refine z0y (X := ByteArray) (fun rest s => ∃ a b, pre = a ++ rest ∧ s = (b, (a.length : Int)) ∧ pre.any (blkQ request x) = (b || rest.any (blkQ request x))) ?_ ?_ (l := pre) ⟨[], false, rfl, rfl, by simp⟩
 ·rintro z rest _ ⟨a, b, h1, rfl, h2⟩
  have hal := congrArg List.length h1
  rw [List.length_append, List.length_cons] at hal
  have hg : lget ByteArray.empty p (a.length : Int) = z := by rw [hx, h1]; simp only [List.append_assoc, List.cons_append]; exact z3f
  refine Or.inl ⟨(b || blkQ request x z, ((a ++ [z]).length : Int)), ?_, a ++ [z], b || blkQ request x z, by rw [h1]; simp, rfl, by rw [h2, List.any_cons, Bool.or_assoc]⟩
  simp only []
  rw [z03 (show (a.length : Int) < (pre.length : Int) by omega), cond_true, zkr, z09 (z0c (z03 (by omega)) (z03 (by omega))), hg, y8j (by omega), Option.bind_some, zkr, zkr, y8j (by omega), Option.bind_some, z07 (by omega) (by omega), List.length_append, List.length_singleton]
  unfold blkQ y8k
  cases b <;> rfl
 ·rintro _ ⟨a, b, h1, rfl, h2⟩
  rw [List.append_nil] at h1
  subst h1
  simp only []
  rw [z06 (show ¬ (pre.length : Int) < (pre.length : Int) by omega), cond_false, h2]
  simp
theorem zxd {y : List (List ByteArray)} {request : List ByteArray} (h : Few y request) : zdr y request = some (blkA request y) := by
 obtain ⟨hy, ⟨hr, _⟩, hps⟩ := h
 unfold zdr
 rw [zyv (request := request) hy (fun p hp => (hps p hp).1)]
 ·rfl
 ·intro pre0 post0 p out hx0 ho
  have hlen0 := congrArg List.length hx0
  rw [List.length_append, List.length_cons] at hlen0
  have hg0 : lget [] y (pre0.length : Int) = p := by rw [hx0]; exact z3f
  have hl := (hps p (by rw [hx0]; simp)).1
  have hi : (decide ((0 : Int) ≤ (pre0.length : Int)) && decide ((pre0.length : Int) < (List.length y : Int))) = true := z0c (z03 (by omega)) (z03 (by omega))
  have hi' : (decide ((0 : Int) ≤ (pre0.length : Int)) && true) = true := z0c (z03 (by omega)) rfl
  simp only []
  rw [z03 (show (pre0.length : Int) < (y.length : Int) by omega), cond_true]
  have hin : ∀ G : (List ByteArray) × Int → Option (((List ByteArray) × Int) ⊕ List ByteArray),
    (∀ (pre post : List ByteArray) (x : ByteArray) (o : List ByteArray), p = pre ++ x :: post → o.length ≤ 100 + pre.length → G (o, (pre.length : Int)) = some (.inl (o ++ (bif pre.any (blkQ request x) then [x] else []), ((pre.length + 1 : Nat) : Int)))) → (∀ o, G (o, (p.length : Int)) = some (.inr o)) → z1v G (out, 0) = some (out ++ blkG request [] p) := fun G g1 g2 => by
   refine z0y (X := ByteArray) (fun rest s => ∃ pre o, p = pre ++ rest ∧ s = (o, (pre.length : Int)) ∧ o.length ≤ 100 + pre.length ∧ out ++ blkG request [] p = o ++ blkG request pre rest) ?_ ?_ (l := p) ⟨[], out, rfl, rfl, by simpa using ho, rfl⟩
   ·rintro x rest _ ⟨pre, o, h1, rfl, h3, h2⟩
    rw [zx0] at h2
    refine Or.inl ⟨_, g1 pre rest x o h1 h3, pre ++ [x], _, by rw [h1]; simp, by rw [List.length_append, List.length_singleton], ?_, by rw [h2]; simp⟩
    rw [List.length_append, List.length_append, List.length_singleton]
    cases pre.any (blkQ request x)
    ·rw [cond_false, List.length_nil]; omega
    ·rw [cond_true, List.length_singleton]; omega
   ·rintro _ ⟨pre, o, h1, rfl, h3, h2⟩
    rw [List.append_nil] at h1
    subst h1
    rw [g2, h2]
    show _ = some (Sum.inr (o ++ []))
    rw [List.append_nil]
  rw [hin]
  ·rw [Option.bind_some, z07 (by omega) (by omega)]; rfl
  ·intro pre post x o hx h3
   have hlen := congrArg List.length hx
   rw [List.length_append, List.length_cons] at hlen
   have hgx : lget ByteArray.empty p (pre.length : Int) = x := by rw [hx]; exact z3f
   have hb := y7p (request := request) hr hi hg0 hl hx
   simp only [] at hb
   rw [z03 (show (pre0.length : Int) < (y.length : Int) by omega)] at hb
   simp only []
   rw [hb, hi', zkr, hg0, z03 (show (pre.length : Int) < (p.length : Int) by omega), cond_true, Option.bind_some, hgx, zkr, z6y (by rw [List.length_singleton]; omega), z07 (by omega) (by omega)]
   cases pre.any (blkQ request x) with
   | true => rw [cond_true, z09 (z0c (z03 (by omega)) rfl)]; rfl
   | false => rw [cond_false, cond_false, List.append_nil]; rfl
  ·intro o
   simp only []
   rw [hi', zkr, hg0, z06 (show ¬ (p.length : Int) < (p.length : Int) by omega), cond_false]
 ·intro out
  simp only []
  rw [z06 (show ¬ (y.length : Int) < (y.length : Int) by omega), cond_false]
theorem zt8 (hw : z73 = some true) (y : List (List ByteArray)) (request : List ByteArray) (m : z2r) : z7x y request m = some true := by
 unfold z7x
 rw [hw, Option.bind_some, Bool.not_true, cond_false, y7c, Option.bind_some]
 cases hf : fewB y request with
 | false => rfl
 | true =>
  have h := few_of hf
  have hb8 := y21 (request := request) (y := y) fun p hp => (h.2.2 p hp).1
  rw [Bool.not_true, cond_false, y81 h, Option.bind_some, zhe h, Option.bind_some, Option.bind_some, zss (by have := h.2.1.1; omega)]
  simp only [Option.bind_some, y5g h, zxc h]
  cases he : (zit y).2 != 0 with
  | true =>
   have hne : (zit y).2 ≠ 0 := by
    intro e; rw [e] at he; cases he
   rw [yh8 h m hne, Option.bind_some]
   simp only [bne_self_eq_false, Bool.or_self, cond_false, he, cond_true, beq_self_eq_true, Bool.and_self, Option.bind_some]
   rfl
  | false =>
   have h0 : (zit y).2 = 0 := by simpa using he
   obtain ⟨n, m1, m2, m3, m4⟩ := ycf h m h0
   rw [m1, Option.bind_some]
   simp only [bne_self_eq_false, Bool.or_self, cond_false, he, m2, Option.bind_some, y29 (n := n) (by omega) (fun p hp => by have := m4 p hp; omega), Bool.not_true, y2a h]
   cases hq : reqE y request == 0 with
   | true =>
    have hq0 : (reqE y request != 0) = false := by rw [bne, hq]; rfl
    simp only [hq0, cond_true, cond_false, zxd h, Option.bind_some, zzz (l := blkA request y) (by have := h.1; omega)]
    rfl
   | false =>
    have hq0 : (reqE y request != 0) = true := by rw [bne, hq]; rfl
    simp only [hq0, cond_true, cond_false, beq_self_eq_true]
    rfl
end Go.Lift
