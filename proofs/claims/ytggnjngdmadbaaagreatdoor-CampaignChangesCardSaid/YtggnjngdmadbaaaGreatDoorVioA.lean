/-
  Rules, items and sequences on both sides.
-/
import Derived.Test.YtggnjngdmadbaaaGreatDoorPlainA
import Derived.Test.YtggnjngdmadbaaaGreatDoorVioF
set_option linter.unusedSectionVars false
set_option linter.unusedVariables false
set_option linter.unusedSimpArgs false
namespace Go.Lift
open Go
abbrev z1e : z00 := (0, (0, (0, 0)))
theorem zaz {l : List z00} (h : l.length ≤ 4294967296) : z1r l = some l := by
 unfold z1r
 rw [zlc (by simpa using h)]; rfl
theorem z7e {l : List Int} (h : l.length ≤ 4294967296) : z3i l = some l := by
 unfold z3i
 rw [zlc (by simpa using h)]; rfl
theorem cor2 (a b : Bool) : (bif a then some true else some b) = some (a || b) := by cases a <;> rfl
theorem cand2 (a b : Bool) : (bif a then some b else some false) = some (a && b) := by cases a <;> rfl
def inB (n lo hi : Int) : Bool := decide (lo ≤ n ∧ n ≤ hi)
def z5d (r : z02) : Bool := inB r.1 0 7 && inB r.2.1 0 300000 && inB r.2.2.1 0 300000 && inB r.2.2.2.1 0 300000 && inB r.2.2.2.2.1 0 99 && inB r.2.2.2.2.2.1 0 70000 && inB r.2.2.2.2.2.2.1 0 10000 && inB r.2.2.2.2.2.2.2.1 0 10000 && inB r.2.2.2.2.2.2.2.2 0 10000
theorem zvu (r : z02) : zcy r = some (bif z5d r then 0 else 2) := by
 unfold zcy z5d inB
 simp only [zc0, Option.bind_some, cor2]
 generalize decide (0 ≤ r.1 ∧ r.1 ≤ 7) = a1
 generalize decide (0 ≤ r.2.1 ∧ r.2.1 ≤ 300000) = a2
 generalize decide (0 ≤ r.2.2.1 ∧ r.2.2.1 ≤ 300000) = a3
 generalize decide (0 ≤ r.2.2.2.1 ∧ r.2.2.2.1 ≤ 300000) = a4
 generalize decide (0 ≤ r.2.2.2.2.1 ∧ r.2.2.2.2.1 ≤ 99) = a5
 generalize decide (0 ≤ r.2.2.2.2.2.1 ∧ r.2.2.2.2.2.1 ≤ 70000) = a6
 generalize decide (0 ≤ r.2.2.2.2.2.2.1 ∧ r.2.2.2.2.2.2.1 ≤ 10000) = a7
 generalize decide (0 ≤ r.2.2.2.2.2.2.2.1 ∧ r.2.2.2.2.2.2.2.1 ≤ 10000) = a8
 generalize decide (0 ≤ r.2.2.2.2.2.2.2.2 ∧ r.2.2.2.2.2.2.2.2 ≤ 10000) = a9
 cases a1 <;> cases a2 <;> cases a3 <;> cases a4 <;> cases a5 <;> cases a6 <;> cases a7 <;> cases a8 <;> cases a9 <;> rfl
def idxI {A : Type} (p : A → Bool) (l : List A) : Int := match l.findIdx? p with
 | some i => (i : Int)
 | none => -1
theorem y9x {l : List Int} {f : Int → Option Bool} {p : Int → Bool} (hf : ∀ x ∈ l, f x = some (p x)) (hl : l.length ≤ 4294967296) : z2x l f = some (idxI p l) := by
 unfold z2x
 refine Option.bind_eq_some_iff.2 ⟨(match l.findIdx? p with | some i => .inr (i : Int) | none => .inl ()), ?_, by unfold idxI; cases l.findIdx? p <;> rfl⟩
 refine z58 (X := Int) (l := l) (fun l' s => ∃ pre, l = pre ++ l' ∧ s = (pre.length : Int) ∧ l.findIdx? p = (l'.findIdx? p).map (· + pre.length)) ?_ ?_ ⟨[], rfl, rfl, by simp⟩
 ·rintro x l' s ⟨pre, e1, rfl, e2⟩
  have hL : l.length = pre.length + (l'.length + 1) := by rw [e1, List.length_append, List.length_cons]
  have g1 : ∀ d, lget d l (pre.length : Int) = x := fun d => by rw [e1]; exact zp8
  rw [z07 (show (pre.length : Int) < (l.length : Int) by omega), cond_true, z18 (zi5 (z07 (by omega)) rfl), g1, hf x (by rw [e1]; simp), Option.bind_some]
  cases hp : p x with
  | true =>
   right
   rw [cond_true, e2, List.findIdx?_cons, hp]
   simp
  | false =>
   left
   rw [cond_false, z0j (by omega) (by omega)]
   refine ⟨_, rfl, pre ++ [x], by rw [e1]; simp, by rw [List.length_append, List.length_singleton]; rfl, ?_⟩
   rw [e2, List.findIdx?_cons, hp]
   simp only [Bool.false_eq_true, if_false, Option.map_map]
   congr 1
   funext n
   simp only [Function.comp, List.length_append, List.length_singleton]
   omega
 ·rintro s ⟨pre, e1, rfl, e2⟩
  have hL : l.length = pre.length := by rw [e1, List.append_nil]
  rw [z0v (show ¬ (pre.length : Int) < (l.length : Int) by omega), cond_false, e2]
  rfl
theorem ycf {A : Type} (p : A → Bool) (l : List A) : decide (idxI p l ≥ 0) = l.any p := by
 unfold idxI
 cases h : l.findIdx? p with
 | none =>
  rw [List.findIdx?_eq_none_iff] at h
  have : l.any p = false := by rw [List.any_eq_false]; intro x hx; simp [h x hx]
  rw [this]; rfl
 | some i =>
  obtain ⟨hi, hp, _⟩ := List.findIdx?_eq_some_iff_getElem.1 h
  have : l.any p = true := List.any_eq_true.2 ⟨_, List.getElem_mem hi, hp⟩
  rw [this]
  show decide ((i : Int) ≥ 0) = true
  exact decide_eq_true (by omega)
theorem zpu {l : List Int} {f : Int → Option Bool} {p : Int → Bool} (hf : ∀ x ∈ l, f x = some (p x)) (hl : l.length ≤ 4294967296) : z1y l f = some (l.any p) := by
 unfold z1y
 rw [y9x hf hl, Option.bind_some, ycf]
theorem zqb (r : z02) : z2q r = some (bif z5d r then 0 else 2) := by
 have h : ∀ (most : Int) (l : List Int), l.length ≤ 10 → z1d most l = some (!(l.any fun n => !inB n 0 most)) := fun most l hl => by
  unfold z1d
  rw [zpu (p := fun n => !inB n 0 most) (fun x _ => by unfold z2v inB; rw [z7f]; rfl) (by omega)]
  rfl
 unfold z2q z5d
 rw [h _ _ (by simp), h _ _ (by simp), h _ _ (by simp), h _ _ (by simp), h _ _ (by simp)]
 simp only [Option.bind_some, cand2, z6l, List.any_cons, List.any_nil, Bool.or_false]
 generalize inB r.1 0 7 = a1
 generalize inB r.2.1 0 300000 = a2
 generalize inB r.2.2.1 0 300000 = a3
 generalize inB r.2.2.2.1 0 300000 = a4
 generalize inB r.2.2.2.2.1 0 99 = a5
 generalize inB r.2.2.2.2.2.1 0 70000 = a6
 generalize inB r.2.2.2.2.2.2.1 0 10000 = a7
 generalize inB r.2.2.2.2.2.2.2.1 0 10000 = a8
 generalize inB r.2.2.2.2.2.2.2.2 0 10000 = a9
 cases a1 <;> cases a2 <;> cases a3 <;> cases a4 <;> cases a5 <;> cases a6 <;> cases a7 <;> cases a8 <;> cases a9 <;> rfl
end Go.Lift
namespace Go.Lift
open Go
def z1h {X R : Type} (g : List X → X → Option R) : List X → List X → Option R
 | _, [] => none
 | pre, x :: l => match g pre x with
  | some r => some r
  | none => z1h g (pre ++ [x]) l
def endP {R : Type} : Option R → Unit ⊕ R
 | some r => .inr r
 | none => .inl ()
theorem z4u {X R : Type} {F : Int → Option (Int ⊕ (Unit ⊕ R))} {g : List X → X → Option R} {l : List X} 
  (hstep : ∀ pre x post, l = pre ++ x :: post → F (pre.length : Int) = some (match g pre x with | some r => .inr (.inr r) | none => .inl ((pre.length : Int) + 1))) (hend : F (l.length : Int) = some (.inr (.inl ()))) : z2d F 0 = some (endP (z1h g [] l)) := by
 refine z58 (X := X) (l := l) (fun l' s => ∃ pre, l = pre ++ l' ∧ s = (pre.length : Int) ∧ z1h g [] l = z1h g pre l') ?_ ?_ ⟨[], rfl, rfl, rfl⟩
 ·rintro x l' s ⟨pre, e1, rfl, e2⟩
  rw [hstep pre x l' e1]
  simp only [z1h] at e2
  cases hg : g pre x with
  | some r =>
   right
   rw [hg] at e2
   rw [e2]; rfl
  | none =>
   left
   rw [hg] at e2
   refine ⟨_, rfl, pre ++ [x], by rw [e1]; simp, by rw [List.length_append, List.length_singleton]; rfl, e2⟩
 ·rintro s ⟨pre, e1, rfl, e2⟩
  rw [List.append_nil] at e1
  rw [← e1, hend, e2]
  rfl
theorem z7s {X A : Type} {l pre post : List X} {x : X} {k : Option A} {e : Option A} (h : l = pre ++ x :: post) : (bif decide ((pre.length : Int) < (l.length : Int)) then chk (decide ((0 : Int) ≤ (pre.length : Int)) && decide ((pre.length : Int) < (l.length : Int))) k else e) = k := by
 have hL : l.length = pre.length + (post.length + 1) := by rw [h, List.length_append, List.length_cons]
 rw [z07 (show (pre.length : Int) < (l.length : Int) by omega), cond_true, z18 (zi5 (z07 (by omega)) rfl)]
theorem step_end {X A : Type} {l : List X} {k e : Option A} : (bif decide ((l.length : Int) < (l.length : Int)) then k else e) = e := by
 rw [z0v (by omega), cond_false]
theorem z59 {X : Type} {l pre post : List X} {x d : X} (h : l = pre ++ x :: post) : lget d l (pre.length : Int) = x := by rw [h]; exact zp8
theorem zvd {X A : Type} {l pre post : List X} {x : X} {k : Option A} (h : l = pre ++ x :: post) : chk (decide ((0 : Int) ≤ (pre.length : Int)) && decide ((pre.length : Int) < (l.length : Int))) k = k := by
 have hL : l.length = pre.length + (post.length + 1) := by rw [h, List.length_append, List.length_cons]
 rw [z18 (zi5 (z07 (by omega)) (z07 (by omega)))]
theorem zah {X : Type} {l pre post : List X} {x : X} (h : l = pre ++ x :: post) (hl : l.length ≤ 4294967296) : wi64 ((pre.length : Int) + 1) = (pre.length : Int) + 1 := by
 have hL : l.length = pre.length + (post.length + 1) := by rw [h, List.length_append, List.length_cons]
 exact z0j (by omega) (by omega)
def zc6 (x : z00) : Bool := inB x.1 500 2500 && inB x.2.1 1 300000 && inB x.2.2.1 1 99 && inB x.2.2.2 1 10000
def zn2 (l : List z00) : Int := if l.length = 0 then 10 else if 7 < l.length then 8 else if l.all zc6 then 0 else 2
theorem zhy {X R : Type} (q : X → Bool) (r : R) : ∀ (pre l : List X), z1h (fun _ x => bif q x then some r else none) pre l = bif l.any q then some r else none
 | _, [] => rfl
 | pre, x :: l => by
  simp only [z1h, List.any_cons]
  cases q x with
  | true => rfl
  | false => exact zhy q r _ l
theorem zj9 {X : Type} (q : X → Bool) (l : List X) : (l.any fun x => !q x) = !(l.all q) := by
 induction l with
 | nil => rfl
 | cons x l ih => rw [List.any_cons, List.all_cons, ih, Bool.not_and]
theorem zvw {l : List z00} (hl : l.length ≤ 4294967296) : zcz l = some (zn2 l) := by
 unfold zcz zn2
 by_cases h0 : l.length = 0
 ·rw [if_pos h0, show ((l.length : Int) == 0) = true by rw [h0]; rfl, cond_true]
 rw [if_neg h0, show ((l.length : Int) == 0) = false by rw [beq_eq_false_iff_ne]; omega, cond_false]
 by_cases h7 : 7 < l.length
 ·rw [if_pos h7, z07 (by omega), cond_true]
 rw [if_neg h7, z0v (by omega), cond_false]
 refine Option.bind_eq_some_iff.2 ⟨_, z4u (l := l) (g := fun _ x => bif !zc6 x then some 2 else none) (fun pre x post e => ?_) step_end, ?_⟩
 ·rw [z7s e]
  simp only [zvd e, z59 e, zah e hl]
  unfold zav
  simp only [zc0, Option.bind_some, cor2]
  have hb : (((!decide (500 ≤ x.1 ∧ x.1 ≤ 2500) || !decide (1 ≤ x.2.1 ∧ x.2.1 ≤ 300000)) || !decide (1 ≤ x.2.2.1 ∧ x.2.2.1 ≤ 99)) || !decide (1 ≤ x.2.2.2 ∧ x.2.2.2 ≤ 10000)) = !zc6 x := by
   unfold zc6 inB
   simp only [Bool.not_and]
  rw [hb]
  cases zc6 x <;> rfl
 ·rw [zhy (fun x => !zc6 x) 2, zj9]
  cases l.all zc6 <;> rfl
theorem y70 {l : List z00} {f : z00 → Option Bool} {p : z00 → Bool} (hf : ∀ x ∈ l, f x = some (p x)) (hl : l.length ≤ 4294967296) : z11 l f = some (l.any p) := by
 unfold z11 z1l
 have h := z4u (l := l) (F := fun t => bif decide (t < (List.length l : Int)) then
   chk (decide ((0 : Int) ≤ t) && decide (t < (List.length l : Int))) (
    (f (lget (0, (0, (0, 0))) l t)).bind fun (t_1 : Bool) =>
    bif t_1 then
     Option.map Sum.inr (Option.map Sum.inr (
      some t))
    else
     some (.inl (wi64 (t + 1))))
  else
   some (.inr (.inl ()))) (g := fun pre x => bif p x then some (pre.length : Int) else none) (fun pre x post e => by
    rw [z7s e, z59 e, hf x (by rw [e]; simp), Option.bind_some, zah e hl]
    cases p x <;> rfl) step_end
 rw [h, Option.bind_some]
 have any : ∀ (l pre : List z00), ((z1h (fun pre x => bif p x then some (pre.length : Int) else none) pre l).getD (-1) ≥ 0) ↔ l.any p = true := by
  intro l
  induction l with
  | nil => intro pre; simp [z1h]
  | cons x l ih =>
   intro pre
   cases hp : p x with
   | true => simp [z1h, hp]
   | false => simpa [z1h, hp] using ih (pre ++ [x])
 have any1 := any l []
 revert any1
 generalize z1h (fun (pre : List z00) x => bif p x then some (pre.length : Int) else none) [] l = q
 intro any1
 have hq : decide (q.getD (-1) ≥ 0) = l.any p := by rw [Bool.eq_iff_iff, decide_eq_true_eq]; exact any1
 rw [← hq]
 cases q <;> rfl
def z4j (r : z02) (l : List z00) : Int := bif z5d r then zn2 l else 2
theorem zyn {r : z02} {l : List z00} (hl : l.length ≤ 4294967296) : z3t r l = some ((r, l), z4j r l) := by
 unfold z3t
 rw [y70 (p := fun x => !zc6 x) (fun x _ => by
  unfold z6v z2r z1s z2s zc6 inB
  simp only [z7f, Option.bind_some, cor2, Bool.not_and]) hl, Option.bind_some, zqb, Option.bind_some, z6l, Option.bind_some, z6l, Option.bind_some, z6l, Option.bind_some, ziz (by simp), Option.bind_some, zj9]
 unfold z4j zn2
 congr 2
 cases z5d r with
 | false => rfl
 | true =>
  by_cases h0 : l.length = 0
  ·rw [if_pos h0, z0v (show ¬ ((l.length : Int) > 0) by omega)]; rfl
  ·rw [if_neg h0, z07 (show ((l.length : Int) > 0) by omega)]
   by_cases h7 : 7 < l.length
   ·rw [if_pos h7, z0v (show ¬ ((l.length : Int) ≤ 7) by omega)]; rfl
   ·rw [if_neg h7, z07 (show ((l.length : Int) ≤ 7) by omega)]
    cases l.all zc6 <;> rfl
theorem zmh {r : z02} {l : List z00} (hl : l.length ≤ 4294967296) : zay r l = some (z4j r l) := by
 unfold zay z4j
 rw [zvu, Option.bind_some, zvw hl]
 cases z5d r <;> rfl
end Go.Lift
namespace Go.Lift
open Go
theorem y3g {X R S : Type} {F : S → Option (S ⊕ (Unit ⊕ R))} {g : List X → X → Option R} {l : List X} (st : List X → S)
  (hstep : ∀ pre x post, l = pre ++ x :: post → F (st pre) = some (match g pre x with | some r => .inr (.inr r) | none => .inl (st (pre ++ [x])))) (hend : F (st l) = some (.inr (.inl ()))) : z2d F (st []) = some (endP (z1h g [] l)) := by
 refine z58 (X := X) (l := l) (fun l' s => ∃ pre, l = pre ++ l' ∧ s = st pre ∧ z1h g [] l = z1h g pre l') ?_ ?_ ⟨[], rfl, rfl, rfl⟩
 ·rintro x l' s ⟨pre, e1, rfl, e2⟩
  rw [hstep pre x l' e1]
  simp only [z1h] at e2
  cases hg : g pre x with
  | some r =>
   right
   rw [hg] at e2
   rw [e2]; rfl
  | none =>
   left
   rw [hg] at e2
   exact ⟨_, rfl, pre ++ [x], by rw [e1]; simp, rfl, e2⟩
 ·rintro s ⟨pre, e1, rfl, e2⟩
  rw [List.append_nil] at e1
  rw [← e1, hend, e2]
  rfl
theorem zl1 {l : List Int} {n : Int} (hl : l.length ≤ 4294967296) : slices_Contains_int l n = some (l.contains n) := by
 unfold slices_Contains_int slices_Index_int
 have h := z4u (l := l) (F := fun t => bif decide (t < (List.length l : Int)) then
   chk (decide ((0 : Int) ≤ t) && decide (t < (List.length l : Int))) (
    bif (n == (lget 0 l t)) then
     Option.map Sum.inr (Option.map Sum.inr (
      some t))
    else
     some (.inl (wi64 (t + 1))))
  else
   some (.inr (.inl ()))) (g := fun pre x => bif (n == x) then some (pre.length : Int) else none) (fun pre x post e => by
    rw [z7s e, z59 e, zah e hl]
    cases n == x <;> rfl) step_end
 rw [h, Option.bind_some]
 have any : ∀ (l pre : List Int), ((z1h (fun (pre : List Int) x => bif (n == x) then some (pre.length : Int) else none) pre l).getD (-1) ≥ 0) ↔ l.contains n = true := by
  intro l
  induction l with
  | nil => intro pre; simp [z1h]
  | cons x l ih =>
   intro pre
   rw [List.contains_cons]
   cases hp : n == x with
   | true => simp [z1h, hp]
   | false => simpa [z1h, hp] using ih (pre ++ [x])
 have any1 := any l []
 revert any1
 generalize z1h (fun (pre : List Int) x => bif (n == x) then some (pre.length : Int) else none) [] l = q
 intro any1
 have hq : decide (q.getD (-1) ≥ 0) = l.contains n := by rw [Bool.eq_iff_iff, decide_eq_true_eq]; exact any1
 rw [← hq]
 cases q <;> rfl
theorem ydu {l : List Int} {n : Int} (hl : l.length ≤ 4294967296) : zrz l n = some (l.contains n) := by
 unfold zrz
 rw [z4u (l := l) (g := fun _ x => bif (x == n) then some true else none) (fun pre x post e => by
   rw [z7s e, z59 e, zah e hl]
   cases x == n <;> rfl) step_end, Option.bind_some, zhy (fun x => x == n) true]
 have : (l.any fun x => x == n) = l.contains n := by
  rw [Bool.eq_iff_iff, List.any_eq_true, List.contains_iff_mem]
  exact ⟨fun ⟨x, h, e⟩ => by rw [← eq_of_beq e]; exact h, fun h => ⟨n, h, beq_self_eq_true n⟩⟩
 rw [this]
 cases l.contains n <;> rfl
def seqG (n : Int) (pre : List Int) (x : Int) : Option Int := bif !inB x 0 (n - 1) then some 6 else bif pre.contains x then some 23 else none
def seqE (n : Int) (s : List Int) : Int := (z1h (seqG n) [] s).getD 0
theorem zsk {X : Type} {l pre post : List X} {x : X} (h : l = pre ++ x :: post) : List.drop (Int.toNat 0) (List.take (Int.toNat (pre.length : Int)) l) = pre := by
 rw [h, Int.toNat_natCast, List.take_left]; rfl
theorem zhe {l : List z00} {s : List Int} (hl : l.length ≤ 4294967296) (hs : s.length ≤ 4294967296) : z38 l s = some (seqE l.length s) := by
 unfold z38 seqE
 rw [z4u (l := s) (g := seqG l.length) (fun pre x post e => by
  have hL : s.length = pre.length + (post.length + 1) := by rw [e, List.length_append, List.length_cons]
  rw [z7s e, z59 e, zah e hs, zc0, Option.bind_some, z0j (by omega) (by omega), zsk e, ydu (by omega), z18 (by rw [z07 (by omega), z07 (by omega), z07 (by omega)]; rfl), zvd e, Option.bind_some]
  unfold seqG inB
  cases decide (0 ≤ x ∧ x ≤ (l.length : Int) - 1) <;> cases pre.contains x <;> rfl) step_end, Option.bind_some]
 cases z1h (seqG l.length) [] s <;> rfl
theorem zlz {r : z02} {l : List z00} {s : List Int} (hl : l.length ≤ 4294967296) (hs : s.length ≤ 4294967296) : z3m r l s = some ((r, l), if z4j r l = 0 then seqE l.length s else z4j r l) := by
 unfold z3m
 rw [zyn hl, Option.bind_some]
 by_cases h0 : z4j r l = 0
 ·rw [if_pos h0, show (((r, l), z4j r l).2 != 0) = false by rw [h0]; rfl, cond_false]
  unfold seqE
  rw [z4u (l := s) (g := fun pre x => (seqG l.length pre x).map fun e => ((r, l), e)) (fun pre x post e => by
    have hL : s.length = pre.length + (post.length + 1) := by rw [e, List.length_append, List.length_cons]
    rw [z7s e, z59 e, zah e hs, z7f, Option.bind_some, z0j (by omega) (by omega), zsk e, zl1 (by omega), z6l, Option.bind_some, z18 (by rw [z07 (by omega), z07 (by omega), z07 (by omega)]; rfl), Option.bind_some, z6l, Option.bind_some, ziz (by simp), Option.bind_some]
    unfold seqG inB
    cases decide (0 ≤ x ∧ x ≤ (l.length : Int) - 1) <;> cases pre.contains x <;> rfl) step_end, Option.bind_some]
  have : ∀ (m pre : List Int), z1h (fun pre x => (seqG l.length pre x).map fun e => ((r, l), e)) pre m = (z1h (seqG l.length) pre m).map fun e => ((r, l), e) := by
   intro m
   induction m with
   | nil => intro pre; rfl
   | cons x m ih =>
    intro pre
    simp only [z1h]
    cases seqG l.length pre x with
    | some e => rfl
    | none => exact ih _
  rw [this]
  cases z1h (seqG l.length) [] s <;> rfl
 ·rw [if_neg h0, show (((r, l), z4j r l).2 != 0) = true by rw [bne_iff_ne]; exact h0, cond_true]
theorem znj {n : Int} {s : List Int} (h : seqE n s = 0) : ∀ x ∈ s, 0 ≤ x ∧ x < n := by
 have : ∀ (m pre : List Int), (z1h (seqG n) pre m).getD 0 = 0 → ∀ x ∈ m, 0 ≤ x ∧ x < n := by
  intro m
  induction m with
  | nil => intro _ _ x hx; cases hx
  | cons y m ih =>
   intro pre hp x hx
   simp only [z1h] at hp
   have hG : seqG n pre y = bif !inB y 0 (n - 1) then some 6 else bif pre.contains y then some 23 else none := rfl
   by_cases hy : 0 ≤ y ∧ y ≤ n - 1
   ·rw [show inB y 0 (n - 1) = true from z07 hy] at hG
    cases hc : pre.contains y with
    | true =>
     rw [hc] at hG
     rw [show seqG n pre y = some 23 from hG] at hp
     exact absurd (show (23 : Int) = 0 from hp) (by decide)
    | false =>
     rw [hc] at hG
     rw [show seqG n pre y = none from hG] at hp
     rcases List.mem_cons.1 hx with rfl | hx
     ·omega
     ·exact ih _ hp x hx
   ·rw [show inB y 0 (n - 1) = false from z0v hy] at hG
    rw [show seqG n pre y = some 6 from hG] at hp
    exact absurd (show (6 : Int) = 0 from hp) (by decide)
 exact this s [] h
end Go.Lift
