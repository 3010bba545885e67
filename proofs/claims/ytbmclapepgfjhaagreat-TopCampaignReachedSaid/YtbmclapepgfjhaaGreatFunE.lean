/-
  The chapter's examples.
-/
import Derived.Test.YtbmclapepgfjhaaGreatPlainA
import Derived.KernelRfl
set_option linter.unusedSectionVars false
set_option linter.unusedVariables false
set_option linter.unusedSimpArgs false
namespace Go.Lift
open Go
def Lq {A : Type} (a b : Option A) : Prop := ∀ v, a = some v → b = some v
theorem z0k {A : Type} (a : Option A) : Lq a a := fun _ h => h
theorem z0m {A B : Type} {a a' : Option A} {f f' : A → Option B} (h : Lq a a') (k : ∀ x, Lq (f x) (f' x)) : Lq (a.bind f) (a'.bind f') := by
 intro v hv
 obtain ⟨x, hx, hf⟩ := Option.bind_eq_some_iff.1 hv
 exact Option.bind_eq_some_iff.2 ⟨x, h x hx, k x v hf⟩
theorem z0r {A : Type} {c : Bool} {a a' b b' : Option A} (h : Lq a a') (k : Lq b b') : Lq (bif c then a else b) (bif c then a' else b') := by
 cases c <;> assumption
theorem z1w {A : Type} {c : Bool} {a a' : Option A} (h : Lq a a') : Lq (chk c a) (chk c a') := by
 unfold chk
 exact z0r h (z0k _)
theorem z1v {A B : Type} {g : A → B} {a a' : Option A} (h : Lq a a') : Lq (Option.map g a) (Option.map g a') := by
 intro v hv
 obtain ⟨x, hx, hf⟩ := Option.map_eq_some_iff.1 hv
 exact Option.map_eq_some_iff.2 ⟨x, h x hx, hf⟩
def zbc {S R : Type} (f : S → Option (S ⊕ R)) (s : S) : Option R := zd8 f 300 s
theorem zxo {S R : Type} {f f' : S → Option (S ⊕ R)} (h : ∀ s, Lq (f s) (f' s)) : ∀ (n : Nat) (s : S), Lq (zd8 f n s) (zd8 f' n s)
 | 0, s => fun v hv => by simp [zd8] at hv
 | n + 1, s => fun v hv => by
  unfold zd8 at hv ⊢
  cases hf : f s with
  | none => rw [hf] at hv; cases hv
  | some j =>
   rw [hf] at hv
   rw [h s j hf]
   cases j with
   | inl s' => exact zxo h n s' v hv
   | inr r => exact hv
theorem z13 {S R : Type} {f f' : S → Option (S ⊕ R)} {s : S} (h : ∀ s, Lq (f s) (f' s)) : Lq (zbc f s) (z1s f' s) :=
 fun _ hv => zs2 (zxo h 300 s _ hv)
theorem z0f {A B C : Type} {f g : A ⊕ B → Option C} (h1 : ∀ a, Lq (f (.inl a)) (g (.inl a))) (h2 : ∀ b, Lq (f (.inr b)) (g (.inr b))) : ∀ j, Lq (f j) (g j) := by
 intro j
 cases j with
 | inl a => exact h1 a
 | inr b => exact h2 b
def y3s (a b : ByteArray) : Bool := a.data.toList == b.data.toList
def catE (a b : ByteArray) : Option ByteArray := if a.size + b.size ≤ 4294967296 then some ⟨(a.data.toList ++ b.data.toList).toArray⟩ else none
theorem znj (b : ByteArray) : b.toList = b.data.toList := by
 have h : ∀ (n i : Nat) (r : List UInt8), b.size - i = n → ByteArray.toList.loop b i r = r.reverse ++ b.data.toList.drop i := by
  intro n
  induction n with
  | zero =>
   intro i r hn
   unfold ByteArray.toList.loop
   rw [if_neg (by omega), List.drop_eq_nil_of_le (show b.data.toList.length ≤ i by show b.size ≤ i; omega), List.append_nil]
  | succ n ih =>
   intro i r hn
   unfold ByteArray.toList.loop
   have hi : i < b.size := by omega
   rw [if_pos hi, ih (i + 1) _ (by omega)]
   have hi2 : i < b.data.toList.length := hi
   rw [List.drop_eq_getElem_cons hi2, List.reverse_cons, List.append_assoc]
   congr 1
   show [b.get! i] ++ _ = _
   have : b.get! i = b.data.toList[i] := by
    unfold ByteArray.get!
    show b.data[i]! = _
    rw [getElem!_pos b.data i hi]
    rfl
   rw [this]; rfl
 have := h b.size 0 [] rfl
 rw [List.reverse_nil, List.nil_append, List.drop_zero] at this
 exact this
theorem y0k (a b : ByteArray) : seqb a b = y3s a b := by unfold seqb y3s; rw [znj, znj]
theorem z1x (a b : ByteArray) : Lq (catE a b) (cat a b) := by
 intro v hv
 unfold catE at hv
 unfold cat
 split at hv
 ·rename_i h
  rw [if_pos h]
  rw [← hv]
  congr 1
 ·cases hv
noncomputable def z2t (s : (List z02)) (f : (z02 → Option Bool)) : Option (Int) :=
 (zbc (S := Int) (R := (Unit) ⊕ (Int)) (fun t =>
 bif decide (t < (List.length s : Int)) then
 chk (decide ((0 : Int) ≤ t) && decide (t < (List.length s : Int))) (
 (f (lget (0, (0, (0, 0))) s t)).bind fun (t_1 : Bool) =>
 bif t_1 then
 Option.map Sum.inr (Option.map Sum.inr (
 some t))
 else
 some (.inl (wi64 (t + 1))))
 else
 some (.inr (.inl ()))) 0).bind fun j => match j with
 | .inl _ => (
 some (-1))
 | .inr r => some r
theorem z8c (s : (List z02)) {f f' : (z02 → Option Bool)} (h_f : ∀ x, Lq (f x) (f' x)) : Lq (z2t s f) (z1d s f') := by
 unfold z2t z1d
 repeat' with_reducible first | exact z0k _ | exact h_f _ | apply z1x | apply z0m | apply z13 | apply z0r | apply z1w | apply z1v | (refine z0f (fun _ => ?_) (fun _ => ?_) <;> dsimp only) | (intro _; try dsimp only) | dsimp only
noncomputable def z2d (s : (List z02)) (f : (z02 → Option Bool)) : Option (Bool) :=
 (z2t s f).bind fun (t : Int) =>
 some (decide (t ≥ 0))
theorem z6u (s : (List z02)) {f f' : (z02 → Option Bool)} (h_f : ∀ x, Lq (f x) (f' x)) : Lq (z2d s f) (z16 s f') := by
 unfold z2d z16
 repeat' with_reducible first | exact z0k _ | exact h_f _ | apply z8c | apply z1x | apply z0m | apply z13 | apply z0r | apply z1w | apply z1v | (refine z0f (fun _ => ?_) (fun _ => ?_) <;> dsimp only) | (intro _; try dsimp only) | dsimp only
noncomputable def z14 (n : Int) (lo : Int) (hi : Int) : Option (Bool) :=
 let t : Bool := ((decide (lo ≤ n)) && (decide (n ≤ hi)))
 some t
theorem z2e (n : Int) (lo : Int) (hi : Int) : Lq (z14 n lo hi) (z0t n lo hi) := by
 unfold z14 z0t
 repeat' with_reducible first | exact z0k _ | apply z1x | apply z0m | apply z13 | apply z0r | apply z1w | apply z1v | (refine z0f (fun _ => ?_) (fun _ => ?_) <;> dsimp only) | (intro _; try dsimp only) | dsimp only
noncomputable def z9o (n : Int) : Option (Bool) :=
 (z14 n 500 2500).bind fun (t : Bool) =>
 some t
theorem zjg (n : Int) : Lq (z9o n) (z5r n) := by
 unfold z9o z5r
 repeat' with_reducible first | exact z0k _ | apply z2e | apply z1x | apply z0m | apply z13 | apply z0r | apply z1w | apply z1v | (refine z0f (fun _ => ?_) (fun _ => ?_) <;> dsimp only) | (intro _; try dsimp only) | dsimp only
noncomputable def z67 (n : Int) : Option (Bool) :=
 (z14 n 1 300000).bind fun (t : Bool) =>
 some t
theorem zfl (n : Int) : Lq (z67 n) (z3u n) := by
 unfold z67 z3u
 repeat' with_reducible first | exact z0k _ | apply z2e | apply z1x | apply z0m | apply z13 | apply z0r | apply z1w | apply z1v | (refine z0f (fun _ => ?_) (fun _ => ?_) <;> dsimp only) | (intro _; try dsimp only) | dsimp only
noncomputable def z9p (n : Int) : Option (Bool) :=
 (z14 n 1 99).bind fun (t : Bool) =>
 some t
theorem zjh (n : Int) : Lq (z9p n) (z5s n) := by
 unfold z9p z5s
 repeat' with_reducible first | exact z0k _ | apply z2e | apply z1x | apply z0m | apply z13 | apply z0r | apply z1w | apply z1v | (refine z0f (fun _ => ?_) (fun _ => ?_) <;> dsimp only) | (intro _; try dsimp only) | dsimp only
noncomputable def zaj (x : z02) : Option (Bool) :=
 (z9o x.1).bind fun (t : Bool) =>
 (bif !t then some true else
 (z67 x.2.1).bind fun (t_1 : Bool) =>
 some (!t_1)).bind fun (c : Bool) =>
 (bif c then some true else
 (z9p x.2.2.1).bind fun (t_2 : Bool) =>
 some (!t_2)).bind fun (c_1 : Bool) =>
 (bif c_1 then some true else
 (z14 x.2.2.2 1 10000).bind fun (t_3 : Bool) =>
 some (!t_3)).bind fun (c_2 : Bool) =>
 some c_2
theorem zkp (x : z02) : Lq (zaj x) (z6m x) := by
 unfold zaj z6m
 repeat' with_reducible first | exact z0k _ | apply z2e | apply zjg | apply zfl | apply zjh | apply z1x | apply z0m | apply z13 | apply z0r | apply z1w | apply z1v | (refine z0f (fun _ => ?_) (fun _ => ?_) <;> dsimp only) | (intro _; try dsimp only) | dsimp only
noncomputable def z63 (s : (List Int)) (f : (Int → Option Bool)) : Option (Int) :=
 (zbc (S := Int) (R := (Unit) ⊕ (Int)) (fun t =>
 bif decide (t < (List.length s : Int)) then
 chk (decide ((0 : Int) ≤ t) && decide (t < (List.length s : Int))) (
 (f (lget 0 s t)).bind fun (t_1 : Bool) =>
 bif t_1 then
 Option.map Sum.inr (Option.map Sum.inr (
 some t))
 else
 some (.inl (wi64 (t + 1))))
 else
 some (.inr (.inl ()))) 0).bind fun j => match j with
 | .inl _ => (
 some (-1))
 | .inr r => some r
theorem zfh (s : (List Int)) {f f' : (Int → Option Bool)} (h_f : ∀ x, Lq (f x) (f' x)) : Lq (z63 s f) (z3r s f') := by
 unfold z63 z3r
 repeat' with_reducible first | exact z0k _ | exact h_f _ | apply z1x | apply z0m | apply z13 | apply z0r | apply z1w | apply z1v | (refine z0f (fun _ => ?_) (fun _ => ?_) <;> dsimp only) | (intro _; try dsimp only) | dsimp only
noncomputable def z3g (s : (List Int)) (f : (Int → Option Bool)) : Option (Bool) :=
 (z63 s f).bind fun (t : Int) =>
 some (decide (t ≥ 0))
theorem z79 (s : (List Int)) {f f' : (Int → Option Bool)} (h_f : ∀ x, Lq (f x) (f' x)) : Lq (z3g s f) (z27 s f') := by
 unfold z3g z27
 repeat' with_reducible first | exact z0k _ | exact h_f _ | apply zfh | apply z1x | apply z0m | apply z13 | apply z0r | apply z1w | apply z1v | (refine z0f (fun _ => ?_) (fun _ => ?_) <;> dsimp only) | (intro _; try dsimp only) | dsimp only
noncomputable def z4w (n : Int) (x : Int) : Option (Bool) :=
 (z14 n 0 x).bind fun (t : Bool) =>
 some (!t)
theorem zdc (n : Int) (x : Int) : Lq (z4w n x) (z2x n x) := by
 unfold z4w z2x
 repeat' with_reducible first | exact z0k _ | apply z2e | apply z1x | apply z0m | apply z13 | apply z0r | apply z1w | apply z1v | (refine z0f (fun _ => ?_) (fun _ => ?_) <;> dsimp only) | (intro _; try dsimp only) | dsimp only
noncomputable def z1m (most : Int) (l : (List Int)) : Option (Bool) :=
 (z3g l (fun x => z4w x most)).bind fun (t : Bool) =>
 some (!t)
theorem zez (most : Int) (l : (List Int)) : Lq (z1m most l) (z1b most l) := by
 unfold z1m z1b
 repeat' with_reducible first | exact z0k _ | apply z79 | apply zdc | apply z1x | apply z0m | apply z13 | apply z0r | apply z1w | apply z1v | (refine z0f (fun _ => ?_) (fun _ => ?_) <;> dsimp only) | (intro _; try dsimp only) | dsimp only
noncomputable def z0u (is : Bool) (e : Int) : Option (Int) :=
 bif is then
 some 0
 else
 some e
theorem z4n (is : Bool) (e : Int) : Lq (z0u is e) (z0d is e) := by
 unfold z0u z0d
 repeat' with_reducible first | exact z0k _ | apply z1x | apply z0m | apply z13 | apply z0r | apply z1w | apply z1v | (refine z0f (fun _ => ?_) (fun _ => ?_) <;> dsimp only) | (intro _; try dsimp only) | dsimp only
noncomputable def z6t (r : z0i) : Option (Int) :=
 (z1m 7 [r.1]).bind fun (t : Bool) =>
 (bif t then
 (z1m 300000 [r.2.1, r.2.2.1, r.2.2.2.1]).bind fun (t_1 : Bool) =>
 some t_1
 else some false).bind fun (c : Bool) =>
 (bif c then
 (z1m 99 [r.2.2.2.2.1]).bind fun (t_2 : Bool) =>
 some t_2
 else some false).bind fun (c_1 : Bool) =>
 (bif c_1 then
 (z1m 70000 [r.2.2.2.2.2.1]).bind fun (t_3 : Bool) =>
 some t_3
 else some false).bind fun (c_2 : Bool) =>
 (bif c_2 then
 (z1m 10000 [r.2.2.2.2.2.2.1, r.2.2.2.2.2.2.2.1, r.2.2.2.2.2.2.2.2]).bind fun (t_4 : Bool) =>
 some t_4
 else some false).bind fun (c_3 : Bool) =>
 (z0u c_3 2).bind fun (t_5 : Int) =>
 some t_5
theorem zgc (r : z0i) : Lq (z6t r) (z4d r) := by
 unfold z6t z4d
 repeat' with_reducible first | exact z0k _ | apply zez | apply z4n | apply z1x | apply z0m | apply z13 | apply z0r | apply z1w | apply z1v | (refine z0f (fun _ => ?_) (fun _ => ?_) <;> dsimp only) | (intro _; try dsimp only) | dsimp only
noncomputable def z3q (l : (List Int)) : Option (Int) :=
 (zbc (S := Int) (R := (Unit) ⊕ (Int)) (fun t =>
 bif decide (t < (List.length l : Int)) then
 chk (decide ((0 : Int) ≤ t) && decide (t < (List.length l : Int))) (
 bif ((lget 0 l t) != 0) then
 Option.map Sum.inr (Option.map Sum.inr (
 some (lget 0 l t)))
 else
 some (.inl (wi64 (t + 1))))
 else
 some (.inr (.inl ()))) 0).bind fun j => match j with
 | .inl _ => (
 some 0)
 | .inr r => some r
theorem z6v (l : (List Int)) : Lq (z3q l) (z1i l) := by
 unfold z3q z1i
 repeat' with_reducible first | exact z0k _ | apply z1x | apply z0m | apply z13 | apply z0r | apply z1w | apply z1v | (refine z0f (fun _ => ?_) (fun _ => ?_) <;> dsimp only) | (intro _; try dsimp only) | dsimp only
noncomputable def z9m (r : z0i) (l : (List z02)) : Option (z03 × Int) :=
 (z2d l (fun x => zaj x)).bind fun (t : Bool) =>
 (z6t r).bind fun (t_1 : Int) =>
 (z0u (decide ((List.length l : Int) > 0)) 10).bind fun (t_2 : Int) =>
 (z0u (decide ((List.length l : Int) ≤ 7)) 8).bind fun (t_3 : Int) =>
 (z0u (!t) 2).bind fun (t_4 : Int) =>
 (z3q [t_1, t_2, t_3, t_4]).bind fun (t_5 : Int) =>
 some ((r, l), t_5)
theorem zg2 (r : z0i) (l : (List z02)) : Lq (z9m r l) (z5l r l) := by
 unfold z9m z5l
 repeat' with_reducible first | exact z0k _ | apply z6u | apply zkp | apply z4n | apply zgc | apply z6v | apply z1x | apply z0m | apply z13 | apply z0r | apply z1w | apply z1v | (refine z0f (fun _ => ?_) (fun _ => ?_) <;> dsimp only) | (intro _; try dsimp only) | dsimp only
noncomputable def z9n (count : Int) : Option ((List Int)) :=
 (zbc (S := (List Int) × Int) (R := (List Int)) (fun s =>
 let out : (List Int) := s.1
 let t : Int := s.2
 bif decide (t < count) then
 (app out [t]).bind fun (t_1 : List Int) =>
 some (.inl (t_1, wi64 (t + 1)))
 else
 some (.inr out)) ([], 0)).bind fun (out_1 : (List Int)) =>
 some out_1
theorem zjf (count : Int) : Lq (z9n count) (z4l count) := by
 unfold z9n z4l
 repeat' with_reducible first | exact z0k _ | apply z1x | apply z0m | apply z13 | apply z0r | apply z1w | apply z1v | (refine z0f (fun _ => ?_) (fun _ => ?_) <;> dsimp only) | (intro _; try dsimp only) | dsimp only
noncomputable def z4f (n : Int) : Option (Int) :=
 let t : Int := imax n (wi64 (0 - n))
 some t
theorem zg1 (n : Int) : Lq (z4f n) (z40 n) := by
 unfold z4f z40
 repeat' with_reducible first | exact z0k _ | apply z1x | apply z0m | apply z13 | apply z0r | apply z1w | apply z1v | (refine z0f (fun _ => ?_) (fun _ => ?_) <;> dsimp only) | (intro _; try dsimp only) | dsimp only
noncomputable def z4v (r : z03) (sequence : (List Int)) (p : Int) : Option ((Nat → Bool)) :=
 chk (decide ((0 : Int) ≤ 0) && decide ((0 : Int) ≤ (wi64 (p + 1))) && decide ((wi64 (p + 1)) ≤ (List.length sequence : Int))) (
 (zbc (S := Int × Int) (R := Int) (fun s =>
 let metres : Int := s.1
 let t : Int := s.2
 bif decide (t < (List.length (List.drop (Int.toNat 0) (List.take (Int.toNat (wi64 (p + 1))) sequence)) : Int)) then
 chk (decide ((0 : Int) ≤ t) && decide (t < (List.length (List.drop (Int.toNat 0) (List.take (Int.toNat (wi64 (p + 1))) sequence)) : Int))) (
 let i : Int := lget 0 (List.drop (Int.toNat 0) (List.take (Int.toNat (wi64 (p + 1))) sequence)) t
 chk (decide ((0 : Int) ≤ i) && decide (i < (List.length r.2 : Int))) (
 let metres_1 : Int := wi64 (metres + ((((lget (0, (0, (0, 0))) r.2 i).2).2).2))
 some (.inl (metres_1, wi64 (t + 1)))))
 else
 some (.inr metres)) (0, 0)).bind fun (metres_2 : Int) =>
 chk (decide ((0 : Int) ≤ 0) && decide ((0 : Int) < 5)) (
 let out : (Nat → Bool) := aset (fun _ => false) 0 (decide (metres_2 > r.1.2.2.2.2.2.1))
 bif (p == 0) then
 some out
 else
 chk (decide ((0 : Int) ≤ p) && decide (p < (List.length sequence : Int))) (
 chk (decide ((0 : Int) ≤ (lget 0 sequence p)) && decide ((lget 0 sequence p) < (List.length r.2 : Int))) (
 chk (decide ((0 : Int) ≤ (wi64 (p - 1))) && decide ((wi64 (p - 1)) < (List.length sequence : Int))) (
 chk (decide ((0 : Int) ≤ (lget 0 sequence (wi64 (p - 1)))) && decide ((lget 0 sequence (wi64 (p - 1))) < (List.length r.2 : Int))) (
 let x : z02 := lget (0, (0, (0, 0))) r.2 (lget 0 sequence p)
 let y : z02 := lget (0, (0, (0, 0))) r.2 (lget 0 sequence (wi64 (p - 1)))
 (bif decide (p < r.1.1) then
 chk (decide ((0 : Int) ≤ 1) && decide ((1 : Int) < 5)) (
 let out_1 : (Nat → Bool) := aset out 1 (decide ((wi64 (x.1 - y.1)) < 0))
 some out_1)
 else
 chk (decide ((0 : Int) ≤ 1) && decide ((1 : Int) < 5)) (
 let out_2 : (Nat → Bool) := aset out 1 (decide ((wi64 (x.1 - y.1)) > 0))
 some out_2)).bind fun (out_3 : (Nat → Bool)) =>
 (z14 (wi64 (x.1 - y.1)) (wi64 (0 - r.1.2.2.1)) r.1.2.1).bind fun (t_1 : Bool) =>
 chk (decide ((0 : Int) ≤ 2) && decide ((2 : Int) < 5)) (
 let out_4 : (Nat → Bool) := aset out_3 2 (!t_1)
 (z4f (wi64 (x.2.1 - y.2.1))).bind fun (t_2 : Int) =>
 chk (decide ((0 : Int) ≤ 3) && decide ((3 : Int) < 5)) (
 let out_5 : (Nat → Bool) := aset out_4 3 (decide (t_2 > r.1.2.2.2.1))
 (z4f (wi64 (x.2.2.1 - y.2.2.1))).bind fun (t_3 : Int) =>
 chk (decide ((0 : Int) ≤ 4) && decide ((4 : Int) < 5)) (
 let out_6 : (Nat → Bool) := aset out_5 4 (decide (t_3 > r.1.2.2.2.2.1))
 some out_6)))))))))
theorem zdb (r : z03) (sequence : (List Int)) (p : Int) : Lq (z4v r sequence p) (z2a r sequence p) := by
 unfold z4v z2a
 repeat' with_reducible first | exact z0k _ | apply z2e | apply zg1 | apply z1x | apply z0m | apply z13 | apply z0r | apply z1w | apply z1v | (refine z0f (fun _ => ?_) (fun _ => ?_) <;> dsimp only) | (intro _; try dsimp only) | dsimp only
noncomputable def z8h (s : (List Bool)) (v : Bool) : Option (Int) :=
 (zbc (S := Int) (R := (Unit) ⊕ (Int)) (fun t =>
 bif decide (t < (List.length s : Int)) then
 chk (decide ((0 : Int) ≤ t) && decide (t < (List.length s : Int))) (
 bif (v == (lget false s t)) then
 Option.map Sum.inr (Option.map Sum.inr (
 some t))
 else
 some (.inl (wi64 (t + 1))))
 else
 some (.inr (.inl ()))) 0).bind fun j => match j with
 | .inl _ => (
 some (-1))
 | .inr r => some r
theorem zii (s : (List Bool)) (v : Bool) : Lq (z8h s v) (z52 s v) := by
 unfold z8h z52
 repeat' with_reducible first | exact z0k _ | apply z1x | apply z0m | apply z13 | apply z0r | apply z1w | apply z1v | (refine z0f (fun _ => ?_) (fun _ => ?_) <;> dsimp only) | (intro _; try dsimp only) | dsimp only
noncomputable def z64 (s : (List Bool)) (v : Bool) : Option (Bool) :=
 (z8h s v).bind fun (t : Int) =>
 some (decide (t ≥ 0))
theorem zfi (s : (List Bool)) (v : Bool) : Lq (z64 s v) (z2y s v) := by
 unfold z64 z2y
 repeat' with_reducible first | exact z0k _ | apply zii | apply z1x | apply z0m | apply z13 | apply z0r | apply z1w | apply z1v | (refine z0f (fun _ => ?_) (fun _ => ?_) <;> dsimp only) | (intro _; try dsimp only) | dsimp only
noncomputable def zma (r : z03) (begun : List Int) : Option Bool :=
 bif decide ((begun.length : Int) > 0) then (z4v r begun (wi64 ((begun.length : Int) - 1))).bind fun v => z64 ((List.range 5).map v) true else some false
theorem zoo (r : z03) (begun : List Int) : Lq (zma r begun) (zlf r begun) := z0r (z0m (zdb _ _ _) fun _ => zfi _ _) (z0k _)
noncomputable def z9l (s : (List Int)) (v : Int) : Option (Int) :=
 (zbc (S := Int) (R := (Unit) ⊕ (Int)) (fun t =>
 bif decide (t < (List.length s : Int)) then
 chk (decide ((0 : Int) ≤ t) && decide (t < (List.length s : Int))) (
 bif (v == (lget 0 s t)) then
 Option.map Sum.inr (Option.map Sum.inr (
 some t))
 else
 some (.inl (wi64 (t + 1))))
 else
 some (.inr (.inl ()))) 0).bind fun j => match j with
 | .inl _ => (
 some (-1))
 | .inr r => some r
theorem zje (s : (List Int)) (v : Int) : Lq (z9l s v) (slices_Index_int s v) := by
 unfold z9l slices_Index_int
 repeat' with_reducible first | exact z0k _ | apply z1x | apply z0m | apply z13 | apply z0r | apply z1w | apply z1v | (refine z0f (fun _ => ?_) (fun _ => ?_) <;> dsimp only) | (intro _; try dsimp only) | dsimp only
noncomputable def z4q (s : (List Int)) (v : Int) : Option (Bool) :=
 (z9l s v).bind fun (t : Int) =>
 some (decide (t ≥ 0))
theorem z9z (s : (List Int)) (v : Int) : Lq (z4q s v) (slices_Contains_int s v) := by
 unfold z4q slices_Contains_int
 repeat' with_reducible first | exact z0k _ | apply zje | apply z1x | apply z0m | apply z13 | apply z0r | apply z1w | apply z1v | (refine z0f (fun _ => ?_) (fun _ => ?_) <;> dsimp only) | (intro _; try dsimp only) | dsimp only
theorem y24 {α β : Type} {f g : α → Option (List β)} (h : ∀ a, Lq (f a) (g a)) : ∀ l, Lq (catM f l) (catM g l)
 | [] => z0k _
 | a :: l => z0m (h a) fun _ => z0m (y24 h l) fun _ => z0k _
noncomputable def zpn (r : z03) (items : List Int) : Nat → List Int → Option (List (List Int))
 | 0, begun => (zma r begun).bind fun bad => bif bad then some [] else bif ((begun.length : Int) == (items.length : Int)) then some [begun] else none
 | m + 1, begun => (zma r begun).bind fun bad => bif bad then some [] else bif ((begun.length : Int) == (items.length : Int)) then some [begun] else catM (fun i => (z4q begun i).bind fun t => bif t then some [] else zpn r items m (begun ++ [i])) items
theorem zxs (r : z03) (items : List Int) : ∀ (m : Nat) (begun : List Int), Lq (zpn r items m begun) (zsp r items m begun)
 | 0, begun => by
  unfold zpn zsp
  exact z0m (zoo _ _) fun _ => z0r (z0k _) (z0r (z0k _) (z0k _))
 | m + 1, begun => by
  unfold zpn zsp
  exact z0m (zoo _ _) fun _ => z0r (z0k _) (z0r (z0k _) (y24 (fun i => z0m (z9z _ _) fun _ => z0r (z0k _) (zxs r items m _)) _))
noncomputable def z7i (r : z03) (items : List Int) : Option (List (List Int)) := bif decide (items.length ≤ 1000) then zpn r items (items.length + 1) [] else none
theorem zct (r : z03) (items : List Int) : Lq (z7i r items) (z1y r items) := z0r (zxs _ _ _ _) (z0k _)
noncomputable def z4r (r : z03) (a : Int) (b : Int) : Option (Int) :=
 chk (decide ((0 : Int) ≤ a) && decide (a < (List.length r.2 : Int))) (
 chk (decide ((0 : Int) ≤ b) && decide (b < (List.length r.2 : Int))) (
 let x : z02 := lget (0, (0, (0, 0))) r.2 a
 let y : z02 := lget (0, (0, (0, 0))) r.2 b
 (z4f (wi64 (x.1 - y.1))).bind fun (t : Int) =>
 (z4f (wi64 (x.2.1 - y.2.1))).bind fun (t_1 : Int) =>
 (z4f (wi64 (x.2.2.1 - y.2.2.1))).bind fun (t_2 : Int) =>
 let t_3 : Int := wi64 ((wi64 ((wi64 (r.1.2.2.2.2.2.2.1 * t)) + (wi64 (r.1.2.2.2.2.2.2.2.1 * t_1)))) + (wi64 (r.1.2.2.2.2.2.2.2.2 * t_2)))
 some t_3))
theorem za0 (r : z03) (a : Int) (b : Int) : Lq (z4r r a b) (z39 r a b) := by
 unfold z4r z39
 repeat' with_reducible first | exact z0k _ | apply zg1 | apply z1x | apply z0m | apply z13 | apply z0r | apply z1w | apply z1v | (refine z0f (fun _ => ?_) (fun _ => ?_) <;> dsimp only) | (intro _; try dsimp only) | dsimp only
noncomputable def z65 (r : z03) (sequence : (List Int)) : Option (Int) :=
 (zbc (S := Int × Int) (R := Int) (fun s =>
 let sum : Int := s.1
 let p : Int := s.2
 bif decide (p < (List.length sequence : Int)) then
 chk (decide ((0 : Int) ≤ (wi64 (p - 1))) && decide ((wi64 (p - 1)) < (List.length sequence : Int))) (
 chk (decide ((0 : Int) ≤ p) && decide (p < (List.length sequence : Int))) (
 (z4r r (lget 0 sequence (wi64 (p - 1))) (lget 0 sequence p)).bind fun (t : Int) =>
 some (.inl (wi64 (sum + t), wi64 (p + 1)))))
 else
 some (.inr sum)) (0, 1)).bind fun (sum_1 : Int) =>
 some sum_1
theorem zfj (r : z03) (sequence : (List Int)) : Lq (z65 r sequence) (z1e r sequence) := by
 unfold z65 z1e
 repeat' with_reducible first | exact z0k _ | apply za0 | apply z1x | apply z0m | apply z13 | apply z0r | apply z1w | apply z1v | (refine z0f (fun _ => ?_) (fun _ => ?_) <;> dsimp only) | (intro _; try dsimp only) | dsimp only
noncomputable def y3e (x : z03) (s : List Int) (b : Option (List Int × Int)) : Option (Option (List Int × Int)) :=
 (z65 x s).bind fun n => match b with
  | none => some (some (s, n))
  | some c => chk (!c.1.isEmpty) (bif decide (n < c.2) then some (some (s, n)) else some (some c))
theorem y4n (x : z03) (s : List Int) (b : Option (List Int × Int)) : Lq (y3e x s b) (zzx x s b) := z0m (zfj _ _) fun _ => z0k _
noncomputable def zwv (x : z03) : List (List Int) → Option (List Int × Int) → Option (Option (List Int × Int))
 | [], b => some b
 | s :: cs, b => (y3e x s b).bind fun d => zwv x cs d
theorem zxt (x : z03) : ∀ (cs : List (List Int)) (b : Option (List Int × Int)), Lq (zwv x cs b) (zzy x cs b)
 | [], _ => z0k _
 | s :: cs, b => z0m (y4n _ _ _) fun d => zxt x cs d
noncomputable def zd5 (r : z0i) (l : List z02) : Option (List Int × Int × Int) :=
 (z9m r l).bind fun x => bif x.2 != 0 then some ([], 0, x.2) else
 (z9n (l.length : Int)).bind fun ns => (z7i x.1 ns).bind fun cs => (zwv x.1 cs none).bind fun b => match b with
 | none => some ([], 0, 12)
 | some c => chk (!c.1.isEmpty) (some (c.1, c.2, 0))
theorem zik (r : z0i) (l : List z02) : Lq (zd5 r l) (z5a r l) :=
 z0m (zg2 _ _) fun _ => z0r (z0k _) (z0m (zjf _) fun _ => z0m (zct _ _) fun _ => z0m (zxt _ _ _) fun _ => z0k _)
noncomputable def z7s (n : Int) : Option (Bool) :=
 (z14 n (-10000) 10000).bind fun (t : Bool) =>
 some (!t)
theorem zh2 (n : Int) : Lq (z7s n) (z4o n) := by
 unfold z7s z4o
 repeat' with_reducible first | exact z0k _ | apply z2e | apply z1x | apply z0m | apply z13 | apply z0r | apply z1w | apply z1v | (refine z0f (fun _ => ?_) (fun _ => ?_) <;> dsimp only) | (intro _; try dsimp only) | dsimp only
noncomputable def z8f (x : List Int) : Option (List Int) := bif decide (x.length ≤ 1000000) then some x else none
theorem zig (x : List Int) : Lq (z8f x) (z43 x) := by
 unfold z8f z43
 repeat' with_reducible first | exact z0k _ | apply z1x | apply z0m | apply z13 | apply z0r | apply z1w | apply z1v | (refine z0f (fun _ => ?_) (fun _ => ?_) <;> dsimp only) | (intro _; try dsimp only) | dsimp only
theorem zpt : z35 [0, 20, 0] = some [0, 0, 20] := by
 unfold z35
 have h : ([0, 20, 0] : List Int).mergeSort (fun a b => decide (a ≤ b)) = [0, 0, 20] := by
  simp [List.mergeSort, List.MergeSort.Internal.splitInTwo, List.merge]
 rw [h]; rfl
def z8g (x : List Int) : Option (List Int) := if x = [0, 20, 0] then some [0, 0, 20] else none
theorem zih (x : List Int) : Lq (z8g x) (z35 x) := by
 intro v hv
 unfold z8g at hv
 split at hv
 ·rename_i h
  subst h
  cases hv
  exact zpt
 ·cases hv
noncomputable def z6s (r : z03) (prices : (List Int)) : Option (Int) :=
 (zbc (S := (List Int) × Int) (R := Int) (fun s =>
 let in_ : (List Int) := s.1
 let sum : Int := s.2
 bif decide ((List.length in_ : Int) < (List.length r.2 : Int)) then
 (zbc (S := Int × Int × Int) (R := Int × Int) (fun s_1 =>
 let next : Int := s_1.1
 let least : Int := s_1.2.1
 let t : Int := s_1.2.2
 bif decide (t < (List.length in_ : Int)) then
 chk (decide ((0 : Int) ≤ t) && decide (t < (List.length in_ : Int))) (
 (zbc (S := Int × Int × Int) (R := Int × Int) (fun s_2 =>
 let next_1 : Int := s_2.1
 let least_1 : Int := s_2.2.1
 let t_1 : Int := s_2.2.2
 bif decide (t_1 < (List.length r.2 : Int)) then
 (z4r r (lget 0 in_ t) t_1).bind fun (t_2 : Int) =>
 chk (decide ((0 : Int) ≤ (lget 0 in_ t)) && decide ((lget 0 in_ t) < (List.length prices : Int))) (
 chk (decide ((0 : Int) ≤ t_1) && decide (t_1 < (List.length prices : Int))) (
 let n : Int := wi64 ((wi64 (t_2 - (lget 0 prices (lget 0 in_ t)))) - (lget 0 prices t_1))
 (z4q in_ t_1).bind fun (t_3 : Bool) =>
 (bif ((!t_3) && ((decide (next_1 < 0)) || (decide (n < least_1)))) then
 some (t_1, n)
 else
 some (next_1, least_1)).bind fun (j : Int × Int) =>
 let next_2 : Int := j.1
 let least_2 : Int := j.2
 some (.inl (next_2, least_2, wi64 (t_1 + 1)))))
 else
 some (.inr (next_1, least_1))) (next, least, 0)).bind fun (b : Int × Int) =>
 let next_3 : Int := b.1
 let least_3 : Int := b.2
 some (.inl (next_3, least_3, wi64 (t + 1))))
 else
 some (.inr (next, least))) ((-1), 0, 0)).bind fun (b_1 : Int × Int) =>
 let next_4 : Int := b_1.1
 let least_4 : Int := b_1.2
 (app in_ [next_4]).bind fun (t_4 : List Int) =>
 let sum_1 : Int := wi64 (sum + least_4)
 some (.inl (t_4, sum_1))
 else
 some (.inr sum)) ([0], 0)).bind fun (sum_2 : Int) =>
 some sum_2
theorem zgb (r : z03) (prices : (List Int)) : Lq (z6s r prices) (z4c r prices) := by
 unfold z6s z4c
 repeat' with_reducible first | exact z0k _ | apply z9z | apply za0 | apply z1x | apply z0m | apply z13 | apply z0r | apply z1w | apply z1v | (refine z0f (fun _ => ?_) (fun _ => ?_) <;> dsimp only) | (intro _; try dsimp only) | dsimp only
noncomputable def z9q (r : z0i) (l : (List z02)) (prices : (List Int)) : Option (Int × Int) :=
 (z9m r l).bind fun (r_1 : z03 × Int) =>
 (z3g prices (fun x => z7s x)).bind fun (t : Bool) =>
 (z0u ((List.length prices : Int) == (List.length l : Int)) 10).bind fun (t_1 : Int) =>
 (z0u (!t) 2).bind fun (t_2 : Int) =>
 (z3q [r_1.2, t_1, t_2]).bind fun (t_3 : Int) =>
 bif (t_3 != 0) then
 some (0, t_3)
 else
 bif ((List.length l : Int) == 1) then
 some (0, 0)
 else
 (zbc (S := Int × Int) (R := Int) (fun s =>
 let sum : Int := s.1
 let t_4 : Int := s.2
 bif decide (t_4 < (List.length prices : Int)) then
 chk (decide ((0 : Int) ≤ t_4) && decide (t_4 < (List.length prices : Int))) (
 let sum_1 : Int := wi64 (sum + (wi64 (2 * (lget 0 prices t_4))))
 some (.inl (sum_1, wi64 (t_4 + 1))))
 else
 some (.inr sum)) (0, 0)).bind fun (sum_2 : Int) =>
 (z8f prices).bind fun (t_5 : (List Int)) =>
 (z8g t_5).bind fun (t_6 : (List Int)) =>
 chk (decide ((0 : Int) ≤ (wi64 ((List.length t_6 : Int) - 2))) && decide (((wi64 ((List.length t_6 : Int) - 2)) : Int) ≤ (List.length t_6 : Int)) && decide ((List.length t_6 : Int) ≤ (List.length t_6 : Int))) (
 let top : (List Int) := List.drop (Int.toNat (wi64 ((List.length t_6 : Int) - 2))) (List.take (Int.toNat (List.length t_6 : Int)) t_6)
 (z6s r_1.1 prices).bind fun (t_7 : Int) =>
 chk (decide ((0 : Int) ≤ 0) && decide (0 < (List.length top : Int))) (
 chk (decide ((0 : Int) ≤ 1) && decide (1 < (List.length top : Int))) (
 let t_8 : Int := wi64 ((wi64 ((wi64 (t_7 + sum_2)) - (lget 0 top 0))) - (lget 0 top 1))
 some (t_8, 0))))
theorem zji (r : z0i) (l : (List z02)) (prices : (List Int)) : Lq (z9q r l prices) (z5t r l prices) := by
 unfold z9q z5t
 repeat' with_reducible first | exact z0k _ | apply z79 | apply z4n | apply z6v | apply zg2 | apply zh2 | apply zig | apply zih | apply zgb | apply z1x | apply z0m | apply z13 | apply z0r | apply z1w | apply z1v | (refine z0f (fun _ => ?_) (fun _ => ?_) <;> dsimp only) | (intro _; try dsimp only) | dsimp only
noncomputable def zak (s : ByteArray) : Option (Bool) :=
 (zbc (S := Int) (R := (Unit) ⊕ (Bool)) (fun t =>
 bif decide (t < (List.length (z2u s) : Int)) then
 chk (decide ((0 : Int) ≤ t) && decide (t < (List.length (z2u s) : Int))) (
 let c : Int := lget 0 (z2u s) t
 (z14 (wi64 c) 97 122).bind fun (t_1 : Bool) =>
 (bif t_1 then some true else
 (z14 (wi64 c) 65 90).bind fun (t_2 : Bool) =>
 some t_2).bind fun (c_1 : Bool) =>
 (bif !c_1 then
 (bif (t == 0) then some true else
 (bif (c != 45) then
 (z14 (wi64 c) 48 57).bind fun (t_3 : Bool) =>
 some (!t_3)
 else some false).bind fun (c_2 : Bool) =>
 some c_2).bind fun (c_3 : Bool) =>
 some c_3
 else some false).bind fun (c_4 : Bool) =>
 bif c_4 then
 Option.map Sum.inr (Option.map Sum.inr (
 some false))
 else
 some (.inl (wi64 (t + 1))))
 else
 some (.inr (.inl ()))) 0).bind fun j => match j with
 | .inl _ => (
 (z14 (ByteArray.size s : Int) 1 12).bind fun (t_4 : Bool) =>
 some t_4)
 | .inr r => some r
theorem zkq (s : ByteArray) : Lq (zak s) (z3i s) := by
 unfold zak z3i
 repeat' with_reducible first | exact z0k _ | apply z2e | apply z1x | apply z0m | apply z13 | apply z0r | apply z1w | apply z1v | (refine z0f (fun _ => ?_) (fun _ => ?_) <;> dsimp only) | (intro _; try dsimp only) | dsimp only
noncomputable def z7r (y : (List (List ByteArray))) : Option (Int × Int) :=
 (z0u (decide ((List.length y : Int) > 0)) 10).bind fun (t : Int) =>
 (z0u (decide ((List.length y : Int) ≤ 4)) 8).bind fun (t_1 : Int) =>
 (z3q [t, t_1]).bind fun (t_2 : Int) =>
 bif (t_2 != 0) then
 some (0, t_2)
 else
 (zbc (S := Int × (List (ByteArray × Bool))) (R := ((List (ByteArray × Bool))) ⊕ (Int × Int)) (fun s =>
 let t_3 : Int := s.1
 let t_4 : (List (ByteArray × Bool)) := s.2
 bif decide (t_3 < (List.length y : Int)) then
 chk (decide ((0 : Int) ≤ t_3) && decide (t_3 < (List.length y : Int))) (
 bif decide ((List.length (lget [] y t_3) : Int) > 6) then
 Option.map Sum.inr (Option.map Sum.inr (
 some (t_3, 8)))
 else
 (zbc (S := Int × (List (ByteArray × Bool))) (R := ((List (ByteArray × Bool))) ⊕ ((Int × (List (ByteArray × Bool))) ⊕ (((List (ByteArray × Bool))) ⊕ (Int × Int)))) (fun s_1 =>
 let t_5 : Int := s_1.1
 let t_6 : (List (ByteArray × Bool)) := s_1.2
 bif decide (t_5 < (List.length (lget [] y t_3) : Int)) then
 chk (decide ((0 : Int) ≤ t_5) && decide (t_5 < (List.length (lget [] y t_3) : Int))) (
 let name : ByteArray := lget ByteArray.empty (lget [] y t_3) t_5
 (zak name).bind fun (t_7 : Bool) =>
 (z0u t_7 4).bind fun (t_8 : Int) =>
 (z0u (!(mget .str .bool t_6 name)) 5).bind fun (t_9 : Int) =>
 (z3q [t_8, t_9]).bind fun (t_10 : Int) =>
 bif (t_10 != 0) then
 Option.map Sum.inr (Option.map Sum.inr (
 Option.map Sum.inr (Option.map Sum.inr (
 some (t_3, t_10)))))
 else
 let t_11 : (List (ByteArray × Bool)) := mput .str .bool t_6 name true
 some (.inl (wi64 (t_5 + 1), t_11)))
 else
 some (.inr (.inl t_6))) (0, t_4)).bind fun j => match j with
 | .inl t_12 => (
 some (.inl (wi64 (t_3 + 1), t_12)))
 | .inr r => some r)
 else
 some (.inr (.inl t_4))) (0, [])).bind fun j => match j with
 | .inl t_13 => (
 (z0u (decide ((List.length t_13 : Int) ≤ 8)) 8).bind fun (t_14 : Int) =>
 some (0, t_14))
 | .inr r => some r
theorem zh1 (y : (List (List ByteArray))) : Lq (z7r y) (z15 y) := by
 unfold z7r z15
 repeat' with_reducible first | exact z0k _ | apply z4n | apply z6v | apply zkq | apply z1x | apply z0m | apply z13 | apply z0r | apply z1w | apply z1v | (refine z0f (fun _ => ?_) (fun _ => ?_) <;> dsimp only) | (intro _; try dsimp only) | dsimp only
noncomputable def z6q (x : List ByteArray) : Option (List ByteArray) := app [] x
theorem zg9 (x : List ByteArray) : Lq (z6q x) (slices_Clone_string x) := by
 unfold z6q slices_Clone_string
 repeat' with_reducible first | exact z0k _ | apply z1x | apply z0m | apply z13 | apply z0r | apply z1w | apply z1v | (refine z0f (fun _ => ?_) (fun _ => ?_) <;> dsimp only) | (intro _; try dsimp only) | dsimp only
noncomputable def z6r (y : (List (List ByteArray))) : Option ((List (List ByteArray))) :=
 (zbc (S := (List (List ByteArray)) × Int) (R := (List (List ByteArray))) (fun s =>
 let out : (List (List ByteArray)) := s.1
 let t : Int := s.2
 bif decide (t < (List.length y : Int)) then
 chk (decide ((0 : Int) ≤ t) && decide (t < (List.length y : Int))) (
 (z6q (lget [] y t)).bind fun (t_1 : (List ByteArray)) =>
 (app out [t_1]).bind fun (t_2 : List (List ByteArray)) =>
 some (.inl (t_2, wi64 (t + 1))))
 else
 some (.inr out)) ([], 0)).bind fun (out_1 : (List (List ByteArray))) =>
 some out_1
theorem zga (y : (List (List ByteArray))) : Lq (z6r y) (z25 y) := by
 unfold z6r z25
 repeat' with_reducible first | exact z0k _ | apply zg9 | apply z1x | apply z0m | apply z13 | apply z0r | apply z1w | apply z1v | (refine z0f (fun _ => ?_) (fun _ => ?_) <;> dsimp only) | (intro _; try dsimp only) | dsimp only
noncomputable def z8i (y : (List (List ByteArray))) : Option ((List (List ByteArray)) × Int) :=
 (z7r y).bind fun (r : Int × Int) =>
 (z6r y).bind fun (t : (List (List ByteArray))) =>
 some (t, r.2)
theorem zij (y : (List (List ByteArray))) : Lq (z8i y) (z2b y) := by
 unfold z8i z2b
 repeat' with_reducible first | exact z0k _ | apply zh1 | apply zga | apply z1x | apply z0m | apply z13 | apply z0r | apply z1w | apply z1v | (refine z0f (fun _ => ?_) (fun _ => ?_) <;> dsimp only) | (intro _; try dsimp only) | dsimp only
noncomputable def z4u (s : (List (List ByteArray))) (f : ((List ByteArray) → Option Bool)) : Option (Int) :=
 (zbc (S := Int) (R := (Unit) ⊕ (Int)) (fun t =>
 bif decide (t < (List.length s : Int)) then
 chk (decide ((0 : Int) ≤ t) && decide (t < (List.length s : Int))) (
 (f (lget [] s t)).bind fun (t_1 : Bool) =>
 bif t_1 then
 Option.map Sum.inr (Option.map Sum.inr (
 some t))
 else
 some (.inl (wi64 (t + 1))))
 else
 some (.inr (.inl ()))) 0).bind fun j => match j with
 | .inl _ => (
 some (-1))
 | .inr r => some r
theorem zd9 (s : (List (List ByteArray))) {f f' : ((List ByteArray) → Option Bool)} (h_f : ∀ x, Lq (f x) (f' x)) : Lq (z4u s f) (z26 s f') := by
 unfold z4u z26
 repeat' with_reducible first | exact z0k _ | exact h_f _ | apply z1x | apply z0m | apply z13 | apply z0r | apply z1w | apply z1v | (refine z0f (fun _ => ?_) (fun _ => ?_) <;> dsimp only) | (intro _; try dsimp only) | dsimp only
noncomputable def z41 (s : (List (List ByteArray))) (f : ((List ByteArray) → Option Bool)) : Option (Bool) :=
 (z4u s f).bind fun (t : Int) =>
 some (decide (t ≥ 0))
theorem zbd (s : (List (List ByteArray))) {f f' : ((List ByteArray) → Option Bool)} (h_f : ∀ x, Lq (f x) (f' x)) : Lq (z41 s f) (z0y s f') := by
 unfold z41 z0y
 repeat' with_reducible first | exact z0k _ | exact h_f _ | apply zd9 | apply z1x | apply z0m | apply z13 | apply z0r | apply z1w | apply z1v | (refine z0f (fun _ => ?_) (fun _ => ?_) <;> dsimp only) | (intro _; try dsimp only) | dsimp only
noncomputable def z3j (s : (List ByteArray)) (v : ByteArray) : Option (Int) :=
 (zbc (S := Int) (R := (Unit) ⊕ (Int)) (fun t =>
 bif decide (t < (List.length s : Int)) then
 chk (decide ((0 : Int) ≤ t) && decide (t < (List.length s : Int))) (
 bif y3s v (lget ByteArray.empty s t) then
 Option.map Sum.inr (Option.map Sum.inr (
 some t))
 else
 some (.inl (wi64 (t + 1))))
 else
 some (.inr (.inl ()))) 0).bind fun j => match j with
 | .inl _ => (
 some (-1))
 | .inr r => some r
theorem z9y (s : (List ByteArray)) (v : ByteArray) : Lq (z3j s v) (slices_Index_string s v) := by
 unfold z3j slices_Index_string
 try simp only [y0k]
 repeat' with_reducible first | exact z0k _ | apply z1x | apply z0m | apply z13 | apply z0r | apply z1w | apply z1v | (refine z0f (fun _ => ?_) (fun _ => ?_) <;> dsimp only) | (intro _; try dsimp only) | dsimp only
noncomputable def z2s (s : (List ByteArray)) (v : ByteArray) : Option (Bool) :=
 (z3j s v).bind fun (t : Int) =>
 some (decide (t ≥ 0))
theorem z4s (s : (List ByteArray)) (v : ByteArray) : Lq (z2s s v) (slices_Contains_string s v) := by
 unfold z2s slices_Contains_string
 repeat' with_reducible first | exact z0k _ | apply z9y | apply z1x | apply z0m | apply z13 | apply z0r | apply z1w | apply z1v | (refine z0f (fun _ => ?_) (fun _ => ?_) <;> dsimp only) | (intro _; try dsimp only) | dsimp only
noncomputable def z5e (pile : (List ByteArray)) (x : ByteArray) : Option (Bool) :=
 (z2s pile x).bind fun (t : Bool) =>
 some t
theorem zee (pile : (List ByteArray)) (x : ByteArray) : Lq (z5e pile x) (z1q pile x) := by
 unfold z5e z1q
 repeat' with_reducible first | exact z0k _ | apply z4s | apply z1x | apply z0m | apply z13 | apply z0r | apply z1w | apply z1v | (refine z0f (fun _ => ?_) (fun _ => ?_) <;> dsimp only) | (intro _; try dsimp only) | dsimp only
noncomputable def z66 (y : (List (List ByteArray))) (request : (List ByteArray)) : Option ((List (List ByteArray)) × Int) :=
 (z8i y).bind fun (r : (List (List ByteArray)) × Int) =>
 bif (r.2 != 0) then
 some ([], r.2)
 else
 (zbc (S := Int) (R := (Unit) ⊕ ((List (List ByteArray)) × Int)) (fun t =>
 bif decide (t < (List.length request : Int)) then
 chk (decide ((0 : Int) ≤ t) && decide (t < (List.length request : Int))) (
 let name : ByteArray := lget ByteArray.empty request t
 (z41 y (fun x => z5e x name)).bind fun (t_1 : Bool) =>
 (z0u (!(!t_1)) 6).bind fun (t_2 : Int) =>
 chk (decide ((0 : Int) ≤ 0) && decide ((0 : Int) ≤ t) && decide (t ≤ (List.length request : Int))) (
 (z2s (List.drop (Int.toNat 0) (List.take (Int.toNat t) request)) name).bind fun (t_3 : Bool) =>
 (z0u (!t_3) 23).bind fun (t_4 : Int) =>
 (z3q [t_2, t_4]).bind fun (t_5 : Int) =>
 bif (t_5 != 0) then
 Option.map Sum.inr (Option.map Sum.inr (
 some ([], t_5)))
 else
 some (.inl (wi64 (t + 1)))))
 else
 some (.inr (.inl ()))) 0).bind fun j => match j with
 | .inl _ => (
 some (r.1, 0))
 | .inr r => some r
theorem zfk (y : (List (List ByteArray))) (request : (List ByteArray)) : Lq (z66 y request) (z1f y request) := by
 unfold z66 z1f
 repeat' with_reducible first | exact z0k _ | apply z4n | apply z6v | apply zij | apply zbd | apply z4s | apply zee | apply z1x | apply z0m | apply z13 | apply z0r | apply z1w | apply z1v | (refine z0f (fun _ => ?_) (fun _ => ?_) <;> dsimp only) | (intro _; try dsimp only) | dsimp only
noncomputable def z3p (s : (List ByteArray)) (f : (ByteArray → Option Bool)) : Option (Int) :=
 (zbc (S := Int) (R := (Unit) ⊕ (Int)) (fun t =>
 bif decide (t < (List.length s : Int)) then
 chk (decide ((0 : Int) ≤ t) && decide (t < (List.length s : Int))) (
 (f (lget ByteArray.empty s t)).bind fun (t_1 : Bool) =>
 bif t_1 then
 Option.map Sum.inr (Option.map Sum.inr (
 some t))
 else
 some (.inl (wi64 (t + 1))))
 else
 some (.inr (.inl ()))) 0).bind fun j => match j with
 | .inl _ => (
 some (-1))
 | .inr r => some r
theorem zaw (s : (List ByteArray)) {f f' : (ByteArray → Option Bool)} (h_f : ∀ x, Lq (f x) (f' x)) : Lq (z3p s f) (z1g s f') := by
 unfold z3p z1g
 repeat' with_reducible first | exact z0k _ | exact h_f _ | apply z1x | apply z0m | apply z13 | apply z0r | apply z1w | apply z1v | (refine z0f (fun _ => ?_) (fun _ => ?_) <;> dsimp only) | (intro _; try dsimp only) | dsimp only
noncomputable def z3c (s : (List ByteArray)) (f : (ByteArray → Option Bool)) : Option (Bool) :=
 (z3p s f).bind fun (t : Int) =>
 some (decide (t ≥ 0))
theorem z9r (s : (List ByteArray)) {f f' : (ByteArray → Option Bool)} (h_f : ∀ x, Lq (f x) (f' x)) : Lq (z3c s f) (z0j s f') := by
 unfold z3c z0j
 repeat' with_reducible first | exact z0k _ | exact h_f _ | apply zaw | apply z1x | apply z0m | apply z13 | apply z0r | apply z1w | apply z1v | (refine z0f (fun _ => ?_) (fun _ => ?_) <;> dsimp only) | (intro _; try dsimp only) | dsimp only
noncomputable def zbg (request : (List ByteArray)) (name : ByteArray) (than : ByteArray) : Option (Bool) :=
 (z3j request name).bind fun (t : Int) =>
 (bif decide (t < 0) then some true else
 (z3j request than).bind fun (t_1 : Int) =>
 some (decide (t > t_1))).bind fun (c : Bool) =>
 some c
theorem zlw (request : (List ByteArray)) (name : ByteArray) (than : ByteArray) : Lq (zbg request name than) (z5x request name than) := by
 unfold zbg z5x
 repeat' with_reducible first | exact z0k _ | apply z9y | apply z1x | apply z0m | apply z13 | apply z0r | apply z1w | apply z1v | (refine z0f (fun _ => ?_) (fun _ => ?_) <;> dsimp only) | (intro _; try dsimp only) | dsimp only
noncomputable def z4h (below : ByteArray) (x : (List ByteArray)) (x_1 : ByteArray) : Option (Bool) :=
 (z2s x below).bind fun (t : Bool) =>
 (bif t then
 (zbg x x_1 below).bind fun (t_1 : Bool) =>
 some t_1
 else some false).bind fun (c : Bool) =>
 some c
theorem zcs (below : ByteArray) (x : (List ByteArray)) (x_1 : ByteArray) : Lq (z4h below x x_1) (z0x below x x_1) := by
 unfold z4h z0x
 repeat' with_reducible first | exact z0k _ | apply z4s | apply zlw | apply z1x | apply z0m | apply z13 | apply z0r | apply z1w | apply z1v | (refine z0f (fun _ => ?_) (fun _ => ?_) <;> dsimp only) | (intro _; try dsimp only) | dsimp only
noncomputable def z5d (y : (List (List ByteArray))) (request : (List ByteArray)) : Option ((List ByteArray)) :=
 (zbc (S := (List ByteArray) × Int) (R := (List ByteArray)) (fun s =>
 let out : (List ByteArray) := s.1
 let t : Int := s.2
 bif decide (t < (List.length y : Int)) then
 chk (decide ((0 : Int) ≤ t) && decide (t < (List.length y : Int))) (
 (zbc (S := (List ByteArray) × Int) (R := (List ByteArray)) (fun s_1 =>
 let out_1 : (List ByteArray) := s_1.1
 let t_1 : Int := s_1.2
 bif decide (t_1 < (List.length (lget [] y t) : Int)) then
 chk (decide ((0 : Int) ≤ t_1) && decide (t_1 < (List.length (lget [] y t) : Int))) (
 let name : ByteArray := lget ByteArray.empty (lget [] y t) t_1
 chk (decide ((0 : Int) ≤ 0) && decide ((0 : Int) ≤ t_1) && decide (t_1 ≤ (List.length (lget [] y t) : Int))) (
 (z3c (List.drop (Int.toNat 0) (List.take (Int.toNat t_1) (lget [] y t))) (fun x => z4h x request name)).bind fun (t_2 : Bool) =>
 (bif t_2 then
 (app out_1 [name]).bind fun (t_3 : List ByteArray) =>
 some t_3
 else
 some out_1).bind fun (out_2 : (List ByteArray)) =>
 some (.inl (out_2, wi64 (t_1 + 1)))))
 else
 some (.inr out_1)) (out, 0)).bind fun (out_3 : (List ByteArray)) =>
 some (.inl (out_3, wi64 (t + 1))))
 else
 some (.inr out)) ([], 0)).bind fun (out_4 : (List ByteArray)) =>
 some out_4
theorem zed (y : (List (List ByteArray))) (request : (List ByteArray)) : Lq (z5d y request) (z19 y request) := by
 unfold z5d z19
 repeat' with_reducible first | exact z0k _ | apply z9r | apply zcs | apply z1x | apply z0m | apply z13 | apply z0r | apply z1w | apply z1v | (refine z0f (fun _ => ?_) (fun _ => ?_) <;> dsimp only) | (intro _; try dsimp only) | dsimp only
noncomputable def z7t (y : (List (List ByteArray))) (request : (List ByteArray)) : Option ((List ByteArray) × Int) :=
 (z66 y request).bind fun (r : (List (List ByteArray)) × Int) =>
 bif (r.2 != 0) then
 some ([], r.2)
 else
 (z5d r.1 request).bind fun (t : (List ByteArray)) =>
 some (t, 0)
theorem zh3 (y : (List (List ByteArray))) (request : (List ByteArray)) : Lq (z7t y request) (z2i y request) := by
 unfold z7t z2i
 repeat' with_reducible first | exact z0k _ | apply zfk | apply zed | apply z1x | apply z0m | apply z13 | apply z0r | apply z1w | apply z1v | (refine z0f (fun _ => ?_) (fun _ => ?_) <;> dsimp only) | (intro _; try dsimp only) | dsimp only
noncomputable def zpo (a : (List Int)) (b : (List Int)) : Option (Bool) :=
 bif ((List.length a : Int) != (List.length b : Int)) then
 some false
 else
 (zbc (S := Int) (R := (Unit) ⊕ (Bool)) (fun i =>
 bif decide (i < (List.length a : Int)) then
 chk (decide ((0 : Int) ≤ i) && decide (i < (List.length a : Int))) (
 chk (decide ((0 : Int) ≤ i) && decide (i < (List.length b : Int))) (
 bif ((lget 0 a i) != (lget 0 b i)) then
 Option.map Sum.inr (Option.map Sum.inr (
 some false))
 else
 some (.inl (wi64 (i + 1)))))
 else
 some (.inr (.inl ()))) 0).bind fun j => match j with
 | .inl _ => (
 some true)
 | .inr r => some r
theorem zzm (a : (List Int)) (b : (List Int)) : Lq (zpo a b) (zph a b) := by
 unfold zpo zph
 repeat' with_reducible first | exact z0k _ | apply z1x | apply z0m | apply z13 | apply z0r | apply z1w | apply z1v | (refine z0f (fun _ => ?_) (fun _ => ?_) <;> dsimp only) | (intro _; try dsimp only) | dsimp only
noncomputable def zmb (a : (List ByteArray)) (b : (List ByteArray)) : Option (Bool) :=
 bif ((List.length a : Int) != (List.length b : Int)) then
 some false
 else
 (zbc (S := Int) (R := (Unit) ⊕ (Bool)) (fun i =>
 bif decide (i < (List.length a : Int)) then
 chk (decide ((0 : Int) ≤ i) && decide (i < (List.length a : Int))) (
 chk (decide ((0 : Int) ≤ i) && decide (i < (List.length b : Int))) (
 bif !y3s (lget ByteArray.empty a i) (lget ByteArray.empty b i) then
 Option.map Sum.inr (Option.map Sum.inr (
 some false))
 else
 some (.inl (wi64 (i + 1)))))
 else
 some (.inr (.inl ()))) 0).bind fun j => match j with
 | .inl _ => (
 some true)
 | .inr r => some r
theorem zwa (a : (List ByteArray)) (b : (List ByteArray)) : Lq (zmb a b) (zlg a b) := by
 unfold zmb zlg
 try simp only [y0k]
 repeat' with_reducible first | exact z0k _ | apply z1x | apply z0m | apply z13 | apply z0r | apply z1w | apply z1v | (refine z0f (fun _ => ?_) (fun _ => ?_) <;> dsimp only) | (intro _; try dsimp only) | dsimp only
noncomputable def z83  : Option (Bool) :=
 let l : (List z02) := [(1200, (3000, (5, 1000))), (1100, (2500, (4, 1000))), (1050, (3400, (6, 2000)))]
 (zd5 (2, (100, (150, (1000, (2, (5000, (1, (0, 10)))))))) l).bind fun (r : (List Int) × Int × Int) =>
 (z9q (2, (100, (150, (1000, (2, (5000, (1, (0, 10)))))))) l [0, 20, 0]).bind fun (r_1 : Int × Int) =>
 (z7t [[(bytes [97]), (bytes [98]), (bytes [99])], [(bytes [100])], []] [(bytes [97])]).bind fun (r_2 : (List ByteArray) × Int) =>
 (bif (r.2.2 == 0) then
 (zpo r.1 [1, 0, 2]).bind fun (t : Bool) =>
 some t
 else some false).bind fun (c : Bool) =>
 (bif ((((c && (r.2.1 == 270)) && (r_1.2 == 0)) && (r_1.1 == 160)) && (r_2.2 == 0)) then
 (zmb r_2.1 [(bytes [98]), (bytes [99])]).bind fun (t_1 : Bool) =>
 some t_1
 else some false).bind fun (c_1 : Bool) =>
 some c_1
theorem zda  : Lq (z83 ) (z1l ) := by
 unfold z83 z1l
 repeat' with_reducible first | exact z0k _ | apply zik | apply zji | apply zh3 | apply zzm | apply zwa | apply z1x | apply z0m | apply z13 | apply z0r | apply z1w | apply z1v | (refine z0f (fun _ => ?_) (fun _ => ?_) <;> dsimp only) | (intro _; try dsimp only) | dsimp only
end Go.Lift
namespace Go.Lift
open Go
theorem zzz : z1l = some true := zda _ (by kernel_rfl)
end Go.Lift
