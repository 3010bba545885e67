/-
  The chapter's examples.
-/
import Derived.Test.YtbmclapepgfjhaaGreatPlainA
import Derived.KernelRfl
set_option linter.unusedSectionVars false
set_option linter.unusedVariables false
set_option linter.unusedSimpArgs false
namespace Go.Lift
open Go
def Lq {A : Type} (a b : Option A) : Prop := ∀ v, a = some v → b = some v
theorem z0h {A : Type} (a : Option A) : Lq a a := fun _ h => h
theorem z0j {A B : Type} {a a' : Option A} {f f' : A → Option B} (h : Lq a a') (k : ∀ x, Lq (f x) (f' x)) : Lq (a.bind f) (a'.bind f') := by
 intro v hv
 obtain ⟨x, hx, hf⟩ := Option.bind_eq_some_iff.1 hv
 exact Option.bind_eq_some_iff.2 ⟨x, h x hx, k x v hf⟩
theorem z0l {A : Type} {c : Bool} {a a' b b' : Option A} (h : Lq a a') (k : Lq b b') : Lq (bif c then a else b) (bif c then a' else b') := by
 cases c <;> assumption
theorem z1n {A : Type} {c : Bool} {a a' : Option A} (h : Lq a a') : Lq (chk c a) (chk c a') := by
 unfold chk
 exact z0l h (z0h _)
theorem z1m {A B : Type} {g : A → B} {a a' : Option A} (h : Lq a a') : Lq (Option.map g a) (Option.map g a') := by
 intro v hv
 obtain ⟨x, hx, hf⟩ := Option.map_eq_some_iff.1 hv
 exact Option.map_eq_some_iff.2 ⟨x, h x hx, hf⟩
def zav {S R : Type} (f : S → Option (S ⊕ R)) (s : S) : Option R := zcc f 300 s
theorem zv3 {S R : Type} {f f' : S → Option (S ⊕ R)} (h : ∀ s, Lq (f s) (f' s)) : ∀ (n : Nat) (s : S), Lq (zcc f n s) (zcc f' n s)
 | 0, s => fun v hv => by simp [zcc] at hv
 | n + 1, s => fun v hv => by
  unfold zcc at hv ⊢
  cases hf : f s with
  | none => rw [hf] at hv; cases hv
  | some j =>
   rw [hf] at hv
   rw [h s j hf]
   cases j with
   | inl s' => exact zv3 h n s' v hv
   | inr r => exact hv
theorem z0w {S R : Type} {f f' : S → Option (S ⊕ R)} {s : S} (h : ∀ s, Lq (f s) (f' s)) : Lq (zav f s) (z29 f' s) :=
 fun _ hv => zq2 (zv3 h 300 s _ hv)
theorem z0d {A B C : Type} {f g : A ⊕ B → Option C} (h1 : ∀ a, Lq (f (.inl a)) (g (.inl a))) (h2 : ∀ b, Lq (f (.inr b)) (g (.inr b))) : ∀ j, Lq (f j) (g j) := by
 intro j
 cases j with
 | inl a => exact h1 a
 | inr b => exact h2 b
def y0b (a b : ByteArray) : Bool := a.data.toList == b.data.toList
def catE (a b : ByteArray) : Option ByteArray := if a.size + b.size ≤ 4294967296 then some ⟨(a.data.toList ++ b.data.toList).toArray⟩ else none
theorem zly (b : ByteArray) : b.toList = b.data.toList := by
 have h : ∀ (n i : Nat) (r : List UInt8), b.size - i = n → ByteArray.toList.loop b i r = r.reverse ++ b.data.toList.drop i := by
  intro n
  induction n with
  | zero =>
   intro i r hn
   unfold ByteArray.toList.loop
   rw [if_neg (by omega), List.drop_eq_nil_of_le (show b.data.toList.length ≤ i by show b.size ≤ i; omega), List.append_nil]
  | succ n ih =>
   intro i r hn
   unfold ByteArray.toList.loop
   have hi : i < b.size := by omega
   rw [if_pos hi, ih (i + 1) _ (by omega)]
   have hi2 : i < b.data.toList.length := hi
   rw [List.drop_eq_getElem_cons hi2, List.reverse_cons, List.append_assoc]
   congr 1
   show [b.get! i] ++ _ = _
   have : b.get! i = b.data.toList[i] := by
    unfold ByteArray.get!
    show b.data[i]! = _
    rw [getElem!_pos b.data i hi]
    rfl
   rw [this]; rfl
 have := h b.size 0 [] rfl
 rw [List.reverse_nil, List.nil_append, List.drop_zero] at this
 exact this
theorem zxp (a b : ByteArray) : seqb a b = y0b a b := by unfold seqb y0b; rw [zly, zly]
theorem z1o (a b : ByteArray) : Lq (catE a b) (cat a b) := by
 intro v hv
 unfold catE at hv
 unfold cat
 split at hv
 ·rename_i h
  rw [if_pos h]
  rw [← hv]
  congr 1
 ·cases hv
noncomputable def z2k (s : (List z00)) (f : (z00 → Option Bool)) : Option (Int) :=
 (zav (S := Int) (R := (Unit) ⊕ (Int)) (fun t =>
 bif decide (t < (List.length s : Int)) then
 chk (decide ((0 : Int) ≤ t) && decide (t < (List.length s : Int))) (
 (f (lget (0, (0, (0, 0))) s t)).bind fun (t_1 : Bool) =>
 bif t_1 then
 Option.map Sum.inr (Option.map Sum.inr (
 some t))
 else
 some (.inl (wi64 (t + 1))))
 else
 some (.inr (.inl ()))) 0).bind fun j => match j with
 | .inl _ => (
 some (-1))
 | .inr r => some r
theorem z83 (s : (List z00)) {f f' : (z00 → Option Bool)} (h_f : ∀ x, Lq (f x) (f' x)) : Lq (z2k s f) (z0v s f') := by
 unfold z2k z0v
 repeat' with_reducible first | exact z0h _ | exact h_f _ | apply z1o | apply z0j | apply z0w | apply z0l | apply z1n | apply z1m | (refine z0d (fun _ => ?_) (fun _ => ?_) <;> dsimp only) | (intro _; try dsimp only) | dsimp only
noncomputable def z1z (s : (List z00)) (f : (z00 → Option Bool)) : Option (Bool) :=
 (z2k s f).bind fun (t : Int) =>
 some (decide (t ≥ 0))
theorem z6v (s : (List z00)) {f f' : (z00 → Option Bool)} (h_f : ∀ x, Lq (f x) (f' x)) : Lq (z1z s f) (z0g s f') := by
 unfold z1z z0g
 repeat' with_reducible first | exact z0h _ | exact h_f _ | apply z83 | apply z1o | apply z0j | apply z0w | apply z0l | apply z1n | apply z1m | (refine z0d (fun _ => ?_) (fun _ => ?_) <;> dsimp only) | (intro _; try dsimp only) | dsimp only
noncomputable def z0y (n : Int) (lo : Int) (hi : Int) : Option (Bool) :=
 let t : Bool := ((decide (lo ≤ n)) && (decide (n ≤ hi)))
 some t
theorem z21 (n : Int) (lo : Int) (hi : Int) : Lq (z0y n lo hi) (z0n n lo hi) := by
 unfold z0y z0n
 repeat' with_reducible first | exact z0h _ | apply z1o | apply z0j | apply z0w | apply z0l | apply z1n | apply z1m | (refine z0d (fun _ => ?_) (fun _ => ?_) <;> dsimp only) | (intro _; try dsimp only) | dsimp only
noncomputable def z95 (n : Int) : Option (Bool) :=
 (z0y n 500 2500).bind fun (t : Bool) =>
 some t
theorem zi6 (n : Int) : Lq (z95 n) (z4p n) := by
 unfold z95 z4p
 repeat' with_reducible first | exact z0h _ | apply z21 | apply z1o | apply z0j | apply z0w | apply z0l | apply z1n | apply z1m | (refine z0d (fun _ => ?_) (fun _ => ?_) <;> dsimp only) | (intro _; try dsimp only) | dsimp only
noncomputable def z65 (n : Int) : Option (Bool) :=
 (z0y n 1 300000).bind fun (t : Bool) =>
 some t
theorem zen (n : Int) : Lq (z65 n) (z2u n) := by
 unfold z65 z2u
 repeat' with_reducible first | exact z0h _ | apply z21 | apply z1o | apply z0j | apply z0w | apply z0l | apply z1n | apply z1m | (refine z0d (fun _ => ?_) (fun _ => ?_) <;> dsimp only) | (intro _; try dsimp only) | dsimp only
noncomputable def z96 (n : Int) : Option (Bool) :=
 (z0y n 1 99).bind fun (t : Bool) =>
 some t
theorem zi7 (n : Int) : Lq (z96 n) (z4q n) := by
 unfold z96 z4q
 repeat' with_reducible first | exact z0h _ | apply z21 | apply z1o | apply z0j | apply z0w | apply z0l | apply z1n | apply z1m | (refine z0d (fun _ => ?_) (fun _ => ?_) <;> dsimp only) | (intro _; try dsimp only) | dsimp only
noncomputable def za2 (x : z00) : Option (Bool) :=
 (z95 x.1).bind fun (t : Bool) =>
 (bif !t then some true else
 (z65 x.2.1).bind fun (t_1 : Bool) =>
 some (!t_1)).bind fun (c : Bool) =>
 (bif c then some true else
 (z96 x.2.2.1).bind fun (t_2 : Bool) =>
 some (!t_2)).bind fun (c_1 : Bool) =>
 (bif c_1 then some true else
 (z0y x.2.2.2 1 10000).bind fun (t_3 : Bool) =>
 some (!t_3)).bind fun (c_2 : Bool) =>
 some c_2
theorem zj5 (x : z00) : Lq (za2 x) (z5g x) := by
 unfold za2 z5g
 repeat' with_reducible first | exact z0h _ | apply z21 | apply zi6 | apply zen | apply zi7 | apply z1o | apply z0j | apply z0w | apply z0l | apply z1n | apply z1m | (refine z0d (fun _ => ?_) (fun _ => ?_) <;> dsimp only) | (intro _; try dsimp only) | dsimp only
noncomputable def z61 (s : (List Int)) (f : (Int → Option Bool)) : Option (Int) :=
 (zav (S := Int) (R := (Unit) ⊕ (Int)) (fun t =>
 bif decide (t < (List.length s : Int)) then
 chk (decide ((0 : Int) ≤ t) && decide (t < (List.length s : Int))) (
 (f (lget 0 s t)).bind fun (t_1 : Bool) =>
 bif t_1 then
 Option.map Sum.inr (Option.map Sum.inr (
 some t))
 else
 some (.inl (wi64 (t + 1))))
 else
 some (.inr (.inl ()))) 0).bind fun j => match j with
 | .inl _ => (
 some (-1))
 | .inr r => some r
theorem zej (s : (List Int)) {f f' : (Int → Option Bool)} (h_f : ∀ x, Lq (f x) (f' x)) : Lq (z61 s f) (z1y s f') := by
 unfold z61 z1y
 repeat' with_reducible first | exact z0h _ | exact h_f _ | apply z1o | apply z0j | apply z0w | apply z0l | apply z1n | apply z1m | (refine z0d (fun _ => ?_) (fun _ => ?_) <;> dsimp only) | (intro _; try dsimp only) | dsimp only
noncomputable def z3d (s : (List Int)) (f : (Int → Option Bool)) : Option (Bool) :=
 (z61 s f).bind fun (t : Int) =>
 some (decide (t ≥ 0))
theorem z73 (s : (List Int)) {f f' : (Int → Option Bool)} (h_f : ∀ x, Lq (f x) (f' x)) : Lq (z3d s f) (z14 s f') := by
 unfold z3d z14
 repeat' with_reducible first | exact z0h _ | exact h_f _ | apply zej | apply z1o | apply z0j | apply z0w | apply z0l | apply z1n | apply z1m | (refine z0d (fun _ => ?_) (fun _ => ?_) <;> dsimp only) | (intro _; try dsimp only) | dsimp only
noncomputable def z54 (n : Int) (x : Int) : Option (Bool) :=
 (z0y n 0 x).bind fun (t : Bool) =>
 some (!t)
theorem zcg (n : Int) (x : Int) : Lq (z54 n x) (z1w n x) := by
 unfold z54 z1w
 repeat' with_reducible first | exact z0h _ | apply z21 | apply z1o | apply z0j | apply z0w | apply z0l | apply z1n | apply z1m | (refine z0d (fun _ => ?_) (fun _ => ?_) <;> dsimp only) | (intro _; try dsimp only) | dsimp only
noncomputable def z1f (most : Int) (l : (List Int)) : Option (Bool) :=
 (z3d l (fun x => z54 x most)).bind fun (t : Bool) =>
 some (!t)
theorem ze1 (most : Int) (l : (List Int)) : Lq (z1f most l) (z0t most l) := by
 unfold z1f z0t
 repeat' with_reducible first | exact z0h _ | apply z73 | apply zcg | apply z1o | apply z0j | apply z0w | apply z0l | apply z1n | apply z1m | (refine z0d (fun _ => ?_) (fun _ => ?_) <;> dsimp only) | (intro _; try dsimp only) | dsimp only
noncomputable def z0o (is : Bool) (e : Int) : Option (Int) :=
 bif is then
 some 0
 else
 some e
theorem z4s (is : Bool) (e : Int) : Lq (z0o is e) (z0c is e) := by
 unfold z0o z0c
 repeat' with_reducible first | exact z0h _ | apply z1o | apply z0j | apply z0w | apply z0l | apply z1n | apply z1m | (refine z0d (fun _ => ?_) (fun _ => ?_) <;> dsimp only) | (intro _; try dsimp only) | dsimp only
noncomputable def z6t (r : z01) : Option (Int) :=
 (z1f 7 [r.1]).bind fun (t : Bool) =>
 (bif t then
 (z1f 300000 [r.2.1, r.2.2.1, r.2.2.2.1]).bind fun (t_1 : Bool) =>
 some t_1
 else some false).bind fun (c : Bool) =>
 (bif c then
 (z1f 99 [r.2.2.2.2.1]).bind fun (t_2 : Bool) =>
 some t_2
 else some false).bind fun (c_1 : Bool) =>
 (bif c_1 then
 (z1f 70000 [r.2.2.2.2.2.1]).bind fun (t_3 : Bool) =>
 some t_3
 else some false).bind fun (c_2 : Bool) =>
 (bif c_2 then
 (z1f 10000 [r.2.2.2.2.2.2.1, r.2.2.2.2.2.2.2.1, r.2.2.2.2.2.2.2.2]).bind fun (t_4 : Bool) =>
 some t_4
 else some false).bind fun (c_3 : Bool) =>
 (z0o c_3 2).bind fun (t_5 : Int) =>
 some t_5
theorem zfc (r : z01) : Lq (z6t r) (z2d r) := by
 unfold z6t z2d
 repeat' with_reducible first | exact z0h _ | apply ze1 | apply z4s | apply z1o | apply z0j | apply z0w | apply z0l | apply z1n | apply z1m | (refine z0d (fun _ => ?_) (fun _ => ?_) <;> dsimp only) | (intro _; try dsimp only) | dsimp only
noncomputable def z3p (l : (List Int)) : Option (Int) :=
 (zav (S := Int) (R := (Unit) ⊕ (Int)) (fun t =>
 bif decide (t < (List.length l : Int)) then
 chk (decide ((0 : Int) ≤ t) && decide (t < (List.length l : Int))) (
 bif ((lget 0 l t) != 0) then
 Option.map Sum.inr (Option.map Sum.inr (
 some (lget 0 l t)))
 else
 some (.inl (wi64 (t + 1))))
 else
 some (.inr (.inl ()))) 0).bind fun j => match j with
 | .inl _ => (
 some 0)
 | .inr r => some r
theorem z6w (l : (List Int)) : Lq (z3p l) (z1a l) := by
 unfold z3p z1a
 repeat' with_reducible first | exact z0h _ | apply z1o | apply z0j | apply z0w | apply z0l | apply z1n | apply z1m | (refine z0d (fun _ => ?_) (fun _ => ?_) <;> dsimp only) | (intro _; try dsimp only) | dsimp only
noncomputable def z93 (r : z01) (l : (List z00)) : Option (z02 × Int) :=
 (z1z l (fun x => za2 x)).bind fun (t : Bool) =>
 (z6t r).bind fun (t_1 : Int) =>
 (z0o (decide ((List.length l : Int) > 0)) 10).bind fun (t_2 : Int) =>
 (z0o (decide ((List.length l : Int) ≤ 7)) 8).bind fun (t_3 : Int) =>
 (z0o (!t) 2).bind fun (t_4 : Int) =>
 (z3p [t_1, t_2, t_3, t_4]).bind fun (t_5 : Int) =>
 some ((r, l), t_5)
theorem zf4 (r : z01) (l : (List z00)) : Lq (z93 r l) (z3c r l) := by
 unfold z93 z3c
 repeat' with_reducible first | exact z0h _ | apply z6v | apply zj5 | apply z4s | apply zfc | apply z6w | apply z1o | apply z0j | apply z0w | apply z0l | apply z1n | apply z1m | (refine z0d (fun _ => ?_) (fun _ => ?_) <;> dsimp only) | (intro _; try dsimp only) | dsimp only
noncomputable def z94 (count : Int) : Option ((List Int)) :=
 (zav (S := (List Int) × Int) (R := (List Int)) (fun s =>
 let out : (List Int) := s.1
 let t : Int := s.2
 bif decide (t < count) then
 (app out [t]).bind fun (t_1 : List Int) =>
 some (.inl (t_1, wi64 (t + 1)))
 else
 some (.inr out)) ([], 0)).bind fun (out_1 : (List Int)) =>
 some out_1
theorem zi5 (count : Int) : Lq (z94 count) (z2v count) := by
 unfold z94 z2v
 repeat' with_reducible first | exact z0h _ | apply z1o | apply z0j | apply z0w | apply z0l | apply z1n | apply z1m | (refine z0d (fun _ => ?_) (fun _ => ?_) <;> dsimp only) | (intro _; try dsimp only) | dsimp only
noncomputable def z4f (n : Int) : Option (Int) :=
 let t : Int := imax n (wi64 (0 - n))
 some t
theorem zf3 (n : Int) : Lq (z4f n) (z3b n) := by
 unfold z4f z3b
 repeat' with_reducible first | exact z0h _ | apply z1o | apply z0j | apply z0w | apply z0l | apply z1n | apply z1m | (refine z0d (fun _ => ?_) (fun _ => ?_) <;> dsimp only) | (intro _; try dsimp only) | dsimp only
noncomputable def z52 (r : z02) (sequence : (List Int)) (p : Int) : Option ((Nat → Bool)) :=
 chk (decide ((0 : Int) ≤ 0) && decide ((0 : Int) ≤ (wi64 (p + 1))) && decide ((wi64 (p + 1)) ≤ (List.length sequence : Int))) (
 (zav (S := Int × Int) (R := Int) (fun s =>
 let metres : Int := s.1
 let t : Int := s.2
 bif decide (t < (List.length (List.drop (Int.toNat 0) (List.take (Int.toNat (wi64 (p + 1))) sequence)) : Int)) then
 chk (decide ((0 : Int) ≤ t) && decide (t < (List.length (List.drop (Int.toNat 0) (List.take (Int.toNat (wi64 (p + 1))) sequence)) : Int))) (
 let i : Int := lget 0 (List.drop (Int.toNat 0) (List.take (Int.toNat (wi64 (p + 1))) sequence)) t
 chk (decide ((0 : Int) ≤ i) && decide (i < (List.length r.2 : Int))) (
 let metres_1 : Int := wi64 (metres + ((((lget (0, (0, (0, 0))) r.2 i).2).2).2))
 some (.inl (metres_1, wi64 (t + 1)))))
 else
 some (.inr metres)) (0, 0)).bind fun (metres_2 : Int) =>
 chk (decide ((0 : Int) ≤ 0) && decide ((0 : Int) < 5)) (
 let out : (Nat → Bool) := aset (fun _ => false) 0 (decide (metres_2 > r.1.2.2.2.2.2.1))
 bif (p == 0) then
 some out
 else
 chk (decide ((0 : Int) ≤ p) && decide (p < (List.length sequence : Int))) (
 chk (decide ((0 : Int) ≤ (lget 0 sequence p)) && decide ((lget 0 sequence p) < (List.length r.2 : Int))) (
 chk (decide ((0 : Int) ≤ (wi64 (p - 1))) && decide ((wi64 (p - 1)) < (List.length sequence : Int))) (
 chk (decide ((0 : Int) ≤ (lget 0 sequence (wi64 (p - 1)))) && decide ((lget 0 sequence (wi64 (p - 1))) < (List.length r.2 : Int))) (
 let x : z00 := lget (0, (0, (0, 0))) r.2 (lget 0 sequence p)
 let y : z00 := lget (0, (0, (0, 0))) r.2 (lget 0 sequence (wi64 (p - 1)))
 (bif decide (p < r.1.1) then
 chk (decide ((0 : Int) ≤ 1) && decide ((1 : Int) < 5)) (
 let out_1 : (Nat → Bool) := aset out 1 (decide ((wi64 (x.1 - y.1)) < 0))
 some out_1)
 else
 chk (decide ((0 : Int) ≤ 1) && decide ((1 : Int) < 5)) (
 let out_2 : (Nat → Bool) := aset out 1 (decide ((wi64 (x.1 - y.1)) > 0))
 some out_2)).bind fun (out_3 : (Nat → Bool)) =>
 (z0y (wi64 (x.1 - y.1)) (wi64 (0 - r.1.2.2.1)) r.1.2.1).bind fun (t_1 : Bool) =>
 chk (decide ((0 : Int) ≤ 2) && decide ((2 : Int) < 5)) (
 let out_4 : (Nat → Bool) := aset out_3 2 (!t_1)
 (z4f (wi64 (x.2.1 - y.2.1))).bind fun (t_2 : Int) =>
 chk (decide ((0 : Int) ≤ 3) && decide ((3 : Int) < 5)) (
 let out_5 : (Nat → Bool) := aset out_4 3 (decide (t_2 > r.1.2.2.2.1))
 (z4f (wi64 (x.2.2.1 - y.2.2.1))).bind fun (t_3 : Int) =>
 chk (decide ((0 : Int) ≤ 4) && decide ((4 : Int) < 5)) (
 let out_6 : (Nat → Bool) := aset out_5 4 (decide (t_3 > r.1.2.2.2.2.1))
 some out_6)))))))))
theorem zcf (r : z02) (sequence : (List Int)) (p : Int) : Lq (z52 r sequence p) (z0p r sequence p) := by
 unfold z52 z0p
 repeat' with_reducible first | exact z0h _ | apply z21 | apply zf3 | apply z1o | apply z0j | apply z0w | apply z0l | apply z1n | apply z1m | (refine z0d (fun _ => ?_) (fun _ => ?_) <;> dsimp only) | (intro _; try dsimp only) | dsimp only
noncomputable def z87 (s : (List Bool)) (v : Bool) : Option (Int) :=
 (zav (S := Int) (R := (Unit) ⊕ (Int)) (fun t =>
 bif decide (t < (List.length s : Int)) then
 chk (decide ((0 : Int) ≤ t) && decide (t < (List.length s : Int))) (
 bif (v == (lget false s t)) then
 Option.map Sum.inr (Option.map Sum.inr (
 some t))
 else
 some (.inl (wi64 (t + 1))))
 else
 some (.inr (.inl ()))) 0).bind fun j => match j with
 | .inl _ => (
 some (-1))
 | .inr r => some r
theorem zhc (s : (List Bool)) (v : Bool) : Lq (z87 s v) (z43 s v) := by
 unfold z87 z43
 repeat' with_reducible first | exact z0h _ | apply z1o | apply z0j | apply z0w | apply z0l | apply z1n | apply z1m | (refine z0d (fun _ => ?_) (fun _ => ?_) <;> dsimp only) | (intro _; try dsimp only) | dsimp only
noncomputable def z62 (s : (List Bool)) (v : Bool) : Option (Bool) :=
 (z87 s v).bind fun (t : Int) =>
 some (decide (t ≥ 0))
theorem zek (s : (List Bool)) (v : Bool) : Lq (z62 s v) (z1i s v) := by
 unfold z62 z1i
 repeat' with_reducible first | exact z0h _ | apply zhc | apply z1o | apply z0j | apply z0w | apply z0l | apply z1n | apply z1m | (refine z0d (fun _ => ?_) (fun _ => ?_) <;> dsimp only) | (intro _; try dsimp only) | dsimp only
noncomputable def zkr (r : z02) (begun : List Int) : Option Bool :=
 bif decide ((begun.length : Int) > 0) then (z52 r begun (wi64 ((begun.length : Int) - 1))).bind fun v => z62 ((List.range 5).map v) true else some false
theorem zmy (r : z02) (begun : List Int) : Lq (zkr r begun) (zd3 r begun) := z0l (z0j (zcf _ _ _) fun _ => zek _ _) (z0h _)
noncomputable def z92 (s : (List Int)) (v : Int) : Option (Int) :=
 (zav (S := Int) (R := (Unit) ⊕ (Int)) (fun t =>
 bif decide (t < (List.length s : Int)) then
 chk (decide ((0 : Int) ≤ t) && decide (t < (List.length s : Int))) (
 bif (v == (lget 0 s t)) then
 Option.map Sum.inr (Option.map Sum.inr (
 some t))
 else
 some (.inl (wi64 (t + 1))))
 else
 some (.inr (.inl ()))) 0).bind fun j => match j with
 | .inl _ => (
 some (-1))
 | .inr r => some r
theorem zi4 (s : (List Int)) (v : Int) : Lq (z92 s v) (slices_Index_int s v) := by
 unfold z92 slices_Index_int
 repeat' with_reducible first | exact z0h _ | apply z1o | apply z0j | apply z0w | apply z0l | apply z1n | apply z1m | (refine z0d (fun _ => ?_) (fun _ => ?_) <;> dsimp only) | (intro _; try dsimp only) | dsimp only
noncomputable def z4x (s : (List Int)) (v : Int) : Option (Bool) :=
 (z92 s v).bind fun (t : Int) =>
 some (decide (t ≥ 0))
theorem z9g (s : (List Int)) (v : Int) : Lq (z4x s v) (slices_Contains_int s v) := by
 unfold z4x slices_Contains_int
 repeat' with_reducible first | exact z0h _ | apply zi4 | apply z1o | apply z0j | apply z0w | apply z0l | apply z1n | apply z1m | (refine z0d (fun _ => ?_) (fun _ => ?_) <;> dsimp only) | (intro _; try dsimp only) | dsimp only
theorem zyt {α β : Type} {f g : α → Option (List β)} (h : ∀ a, Lq (f a) (g a)) : ∀ l, Lq (catM f l) (catM g l)
 | [] => z0h _
 | a :: l => z0j (h a) fun _ => z0j (zyt h l) fun _ => z0h _
noncomputable def znu (r : z02) (items : List Int) : Nat → List Int → Option (List (List Int))
 | 0, begun => (zkr r begun).bind fun bad => bif bad then some [] else bif ((begun.length : Int) == (items.length : Int)) then some [begun] else none
 | m + 1, begun => (zkr r begun).bind fun bad => bif bad then some [] else bif ((begun.length : Int) == (items.length : Int)) then some [begun] else catM (fun i => (z4x begun i).bind fun t => bif t then some [] else znu r items m (begun ++ [i])) items
theorem zv7 (r : z02) (items : List Int) : ∀ (m : Nat) (begun : List Int), Lq (znu r items m begun) (zno r items m begun)
 | 0, begun => by
  unfold znu zno
  exact z0j (zmy _ _) fun _ => z0l (z0h _) (z0l (z0h _) (z0h _))
 | m + 1, begun => by
  unfold znu zno
  exact z0j (zmy _ _) fun _ => z0l (z0h _) (z0l (z0h _) (zyt (fun i => z0j (z9g _ _) fun _ => z0l (z0h _) (zv7 r items m _)) _))
noncomputable def z7a (r : z02) (items : List Int) : Option (List (List Int)) := bif decide (items.length ≤ 1000) then znu r items (items.length + 1) [] else none
theorem zby (r : z02) (items : List Int) : Lq (z7a r items) (z11 r items) := z0l (zv7 _ _ _ _) (z0h _)
noncomputable def z4y (r : z02) (a : Int) (b : Int) : Option (Int) :=
 chk (decide ((0 : Int) ≤ a) && decide (a < (List.length r.2 : Int))) (
 chk (decide ((0 : Int) ≤ b) && decide (b < (List.length r.2 : Int))) (
 let x : z00 := lget (0, (0, (0, 0))) r.2 a
 let y : z00 := lget (0, (0, (0, 0))) r.2 b
 (z4f (wi64 (x.1 - y.1))).bind fun (t : Int) =>
 (z4f (wi64 (x.2.1 - y.2.1))).bind fun (t_1 : Int) =>
 (z4f (wi64 (x.2.2.1 - y.2.2.1))).bind fun (t_2 : Int) =>
 let t_3 : Int := wi64 ((wi64 ((wi64 (r.1.2.2.2.2.2.2.1 * t)) + (wi64 (r.1.2.2.2.2.2.2.2.1 * t_1)))) + (wi64 (r.1.2.2.2.2.2.2.2.2 * t_2)))
 some t_3))
theorem z9h (r : z02) (a : Int) (b : Int) : Lq (z4y r a b) (z1e r a b) := by
 unfold z4y z1e
 repeat' with_reducible first | exact z0h _ | apply zf3 | apply z1o | apply z0j | apply z0w | apply z0l | apply z1n | apply z1m | (refine z0d (fun _ => ?_) (fun _ => ?_) <;> dsimp only) | (intro _; try dsimp only) | dsimp only
noncomputable def z63 (r : z02) (sequence : (List Int)) : Option (Int) :=
 (zav (S := Int × Int) (R := Int) (fun s =>
 let sum : Int := s.1
 let p : Int := s.2
 bif decide (p < (List.length sequence : Int)) then
 chk (decide ((0 : Int) ≤ (wi64 (p - 1))) && decide ((wi64 (p - 1)) < (List.length sequence : Int))) (
 chk (decide ((0 : Int) ≤ p) && decide (p < (List.length sequence : Int))) (
 (z4y r (lget 0 sequence (wi64 (p - 1))) (lget 0 sequence p)).bind fun (t : Int) =>
 some (.inl (wi64 (sum + t), wi64 (p + 1)))))
 else
 some (.inr sum)) (0, 1)).bind fun (sum_1 : Int) =>
 some sum_1
theorem zel (r : z02) (sequence : (List Int)) : Lq (z63 r sequence) (z0i r sequence) := by
 unfold z63 z0i
 repeat' with_reducible first | exact z0h _ | apply z9h | apply z1o | apply z0j | apply z0w | apply z0l | apply z1n | apply z1m | (refine z0d (fun _ => ?_) (fun _ => ?_) <;> dsimp only) | (intro _; try dsimp only) | dsimp only
noncomputable def y03 (x : z02) (s : List Int) (b : Option (List Int × Int)) : Option (Option (List Int × Int)) :=
 (z63 x s).bind fun n => match b with
  | none => some (some (s, n))
  | some c => chk (!c.1.isEmpty) (bif decide (n < c.2) then some (some (s, n)) else some (some c))
theorem y13 (x : z02) (s : List Int) (b : Option (List Int × Int)) : Lq (y03 x s b) (zsw x s b) := z0j (zel _ _) fun _ => z0h _
noncomputable def zug (x : z02) : List (List Int) → Option (List Int × Int) → Option (Option (List Int × Int))
 | [], b => some b
 | s :: cs, b => (y03 x s b).bind fun d => zug x cs d
theorem zv8 (x : z02) : ∀ (cs : List (List Int)) (b : Option (List Int × Int)), Lq (zug x cs b) (zsx x cs b)
 | [], _ => z0h _
 | s :: cs, b => z0j (y13 _ _ _) fun d => zv8 x cs d
noncomputable def zcb (r : z01) (l : List z00) : Option (List Int × Int × Int) :=
 (z93 r l).bind fun x => bif x.2 != 0 then some ([], 0, x.2) else
 (z94 (l.length : Int)).bind fun ns => (z7a x.1 ns).bind fun cs => (zug x.1 cs none).bind fun b => match b with
 | none => some ([], 0, 12)
 | some c => chk (!c.1.isEmpty) (some (c.1, c.2, 0))
theorem zhe (r : z01) (l : List z00) : Lq (zcb r l) (z0x r l) :=
 z0j (zf4 _ _) fun _ => z0l (z0h _) (z0j (zi5 _) fun _ => z0j (zby _ _) fun _ => z0j (zv8 _ _ _) fun _ => z0h _)
noncomputable def z7f (n : Int) : Option (Bool) :=
 (z0y n (-10000) 10000).bind fun (t : Bool) =>
 some (!t)
theorem zg5 (n : Int) : Lq (z7f n) (z3l n) := by
 unfold z7f z3l
 repeat' with_reducible first | exact z0h _ | apply z21 | apply z1o | apply z0j | apply z0w | apply z0l | apply z1n | apply z1m | (refine z0d (fun _ => ?_) (fun _ => ?_) <;> dsimp only) | (intro _; try dsimp only) | dsimp only
noncomputable def z85 (x : List Int) : Option (List Int) := bif decide (x.length ≤ 1000000) then some x else none
theorem zha (x : List Int) : Lq (z85 x) (z34 x) := by
 unfold z85 z34
 repeat' with_reducible first | exact z0h _ | apply z1o | apply z0j | apply z0w | apply z0l | apply z1n | apply z1m | (refine z0d (fun _ => ?_) (fun _ => ?_) <;> dsimp only) | (intro _; try dsimp only) | dsimp only
theorem zo0 : z2e [0, 20, 0] = some [0, 0, 20] := by
 unfold z2e
 have h : ([0, 20, 0] : List Int).mergeSort (fun a b => decide (a ≤ b)) = [0, 0, 20] := by
  simp [List.mergeSort, List.MergeSort.Internal.splitInTwo, List.merge]
 rw [h]; rfl
def z86 (x : List Int) : Option (List Int) := if x = [0, 20, 0] then some [0, 0, 20] else none
theorem zhb (x : List Int) : Lq (z86 x) (z2e x) := by
 intro v hv
 unfold z86 at hv
 split at hv
 ·rename_i h
  subst h
  cases hv
  exact zo0
 ·cases hv
noncomputable def z6s (r : z02) (prices : (List Int)) : Option (Int) :=
 (zav (S := (List Int) × Int) (R := Int) (fun s =>
 let in_ : (List Int) := s.1
 let sum : Int := s.2
 bif decide ((List.length in_ : Int) < (List.length r.2 : Int)) then
 (zav (S := Int × Int × Int) (R := Int × Int) (fun s_1 =>
 let next : Int := s_1.1
 let least : Int := s_1.2.1
 let t : Int := s_1.2.2
 bif decide (t < (List.length in_ : Int)) then
 chk (decide ((0 : Int) ≤ t) && decide (t < (List.length in_ : Int))) (
 (zav (S := Int × Int × Int) (R := Int × Int) (fun s_2 =>
 let next_1 : Int := s_2.1
 let least_1 : Int := s_2.2.1
 let t_1 : Int := s_2.2.2
 bif decide (t_1 < (List.length r.2 : Int)) then
 (z4y r (lget 0 in_ t) t_1).bind fun (t_2 : Int) =>
 chk (decide ((0 : Int) ≤ (lget 0 in_ t)) && decide ((lget 0 in_ t) < (List.length prices : Int))) (
 chk (decide ((0 : Int) ≤ t_1) && decide (t_1 < (List.length prices : Int))) (
 let n : Int := wi64 ((wi64 (t_2 - (lget 0 prices (lget 0 in_ t)))) - (lget 0 prices t_1))
 (z4x in_ t_1).bind fun (t_3 : Bool) =>
 (bif ((!t_3) && ((decide (next_1 < 0)) || (decide (n < least_1)))) then
 some (t_1, n)
 else
 some (next_1, least_1)).bind fun (j : Int × Int) =>
 let next_2 : Int := j.1
 let least_2 : Int := j.2
 some (.inl (next_2, least_2, wi64 (t_1 + 1)))))
 else
 some (.inr (next_1, least_1))) (next, least, 0)).bind fun (b : Int × Int) =>
 let next_3 : Int := b.1
 let least_3 : Int := b.2
 some (.inl (next_3, least_3, wi64 (t + 1))))
 else
 some (.inr (next, least))) ((-1), 0, 0)).bind fun (b_1 : Int × Int) =>
 let next_4 : Int := b_1.1
 let least_4 : Int := b_1.2
 (app in_ [next_4]).bind fun (t_4 : List Int) =>
 let sum_1 : Int := wi64 (sum + least_4)
 some (.inl (t_4, sum_1))
 else
 some (.inr sum)) ([0], 0)).bind fun (sum_2 : Int) =>
 some sum_2
theorem zfb (r : z02) (prices : (List Int)) : Lq (z6s r prices) (z2c r prices) := by
 unfold z6s z2c
 repeat' with_reducible first | exact z0h _ | apply z9g | apply z9h | apply z1o | apply z0j | apply z0w | apply z0l | apply z1n | apply z1m | (refine z0d (fun _ => ?_) (fun _ => ?_) <;> dsimp only) | (intro _; try dsimp only) | dsimp only
noncomputable def z97 (r : z01) (l : (List z00)) (prices : (List Int)) : Option (Int × Int) :=
 (z93 r l).bind fun (r_1 : z02 × Int) =>
 (z3d prices (fun x => z7f x)).bind fun (t : Bool) =>
 (z0o ((List.length prices : Int) == (List.length l : Int)) 10).bind fun (t_1 : Int) =>
 (z0o (!t) 2).bind fun (t_2 : Int) =>
 (z3p [r_1.2, t_1, t_2]).bind fun (t_3 : Int) =>
 bif (t_3 != 0) then
 some (0, t_3)
 else
 bif ((List.length l : Int) == 1) then
 some (0, 0)
 else
 (zav (S := Int × Int) (R := Int) (fun s =>
 let sum : Int := s.1
 let t_4 : Int := s.2
 bif decide (t_4 < (List.length prices : Int)) then
 chk (decide ((0 : Int) ≤ t_4) && decide (t_4 < (List.length prices : Int))) (
 let sum_1 : Int := wi64 (sum + (wi64 (2 * (lget 0 prices t_4))))
 some (.inl (sum_1, wi64 (t_4 + 1))))
 else
 some (.inr sum)) (0, 0)).bind fun (sum_2 : Int) =>
 (z85 prices).bind fun (t_5 : (List Int)) =>
 (z86 t_5).bind fun (t_6 : (List Int)) =>
 chk (decide ((0 : Int) ≤ (wi64 ((List.length t_6 : Int) - 2))) && decide (((wi64 ((List.length t_6 : Int) - 2)) : Int) ≤ (List.length t_6 : Int)) && decide ((List.length t_6 : Int) ≤ (List.length t_6 : Int))) (
 let top : (List Int) := List.drop (Int.toNat (wi64 ((List.length t_6 : Int) - 2))) (List.take (Int.toNat (List.length t_6 : Int)) t_6)
 (z6s r_1.1 prices).bind fun (t_7 : Int) =>
 chk (decide ((0 : Int) ≤ 0) && decide (0 < (List.length top : Int))) (
 chk (decide ((0 : Int) ≤ 1) && decide (1 < (List.length top : Int))) (
 let t_8 : Int := wi64 ((wi64 ((wi64 (t_7 + sum_2)) - (lget 0 top 0))) - (lget 0 top 1))
 some (t_8, 0))))
theorem zi8 (r : z01) (l : (List z00)) (prices : (List Int)) : Lq (z97 r l prices) (z1u r l prices) := by
 unfold z97 z1u
 repeat' with_reducible first | exact z0h _ | apply z73 | apply z4s | apply z6w | apply zf4 | apply zg5 | apply zha | apply zhb | apply zfb | apply z1o | apply z0j | apply z0w | apply z0l | apply z1n | apply z1m | (refine z0d (fun _ => ?_) (fun _ => ?_) <;> dsimp only) | (intro _; try dsimp only) | dsimp only
noncomputable def za3 (s : ByteArray) : Option (Bool) :=
 (zav (S := Int) (R := (Unit) ⊕ (Bool)) (fun t =>
 bif decide (t < (List.length (zds s) : Int)) then
 chk (decide ((0 : Int) ≤ t) && decide (t < (List.length (zds s) : Int))) (
 let c : Int := lget 0 (zds s) t
 (z0y (wi64 c) 97 122).bind fun (t_1 : Bool) =>
 (bif t_1 then some true else
 (z0y (wi64 c) 65 90).bind fun (t_2 : Bool) =>
 some t_2).bind fun (c_1 : Bool) =>
 (bif !c_1 then
 (bif (t == 0) then some true else
 (bif (c != 45) then
 (z0y (wi64 c) 48 57).bind fun (t_3 : Bool) =>
 some (!t_3)
 else some false).bind fun (c_2 : Bool) =>
 some c_2).bind fun (c_3 : Bool) =>
 some c_3
 else some false).bind fun (c_4 : Bool) =>
 bif c_4 then
 Option.map Sum.inr (Option.map Sum.inr (
 some false))
 else
 some (.inl (wi64 (t + 1))))
 else
 some (.inr (.inl ()))) 0).bind fun j => match j with
 | .inl _ => (
 (z0y (ByteArray.size s : Int) 1 12).bind fun (t_4 : Bool) =>
 some t_4)
 | .inr r => some r
theorem zj6 (s : ByteArray) : Lq (za3 s) (z6l s) := by
 unfold za3 z6l
 repeat' with_reducible first | exact z0h _ | apply z21 | apply z1o | apply z0j | apply z0w | apply z0l | apply z1n | apply z1m | (refine z0d (fun _ => ?_) (fun _ => ?_) <;> dsimp only) | (intro _; try dsimp only) | dsimp only
noncomputable def z7e (y : (List (List ByteArray))) : Option (Int × Int) :=
 (z0o (decide ((List.length y : Int) > 0)) 10).bind fun (t : Int) =>
 (z0o (decide ((List.length y : Int) ≤ 4)) 8).bind fun (t_1 : Int) =>
 (z3p [t, t_1]).bind fun (t_2 : Int) =>
 bif (t_2 != 0) then
 some (0, t_2)
 else
 (zav (S := Int × (List (ByteArray × Bool))) (R := ((List (ByteArray × Bool))) ⊕ (Int × Int)) (fun s =>
 let t_3 : Int := s.1
 let t_4 : (List (ByteArray × Bool)) := s.2
 bif decide (t_3 < (List.length y : Int)) then
 chk (decide ((0 : Int) ≤ t_3) && decide (t_3 < (List.length y : Int))) (
 bif decide ((List.length (lget [] y t_3) : Int) > 6) then
 Option.map Sum.inr (Option.map Sum.inr (
 some (t_3, 8)))
 else
 (zav (S := Int × (List (ByteArray × Bool))) (R := ((List (ByteArray × Bool))) ⊕ ((Int × (List (ByteArray × Bool))) ⊕ (((List (ByteArray × Bool))) ⊕ (Int × Int)))) (fun s_1 =>
 let t_5 : Int := s_1.1
 let t_6 : (List (ByteArray × Bool)) := s_1.2
 bif decide (t_5 < (List.length (lget [] y t_3) : Int)) then
 chk (decide ((0 : Int) ≤ t_5) && decide (t_5 < (List.length (lget [] y t_3) : Int))) (
 let name : ByteArray := lget ByteArray.empty (lget [] y t_3) t_5
 (za3 name).bind fun (t_7 : Bool) =>
 (z0o t_7 4).bind fun (t_8 : Int) =>
 (z0o (!(mget .str .bool t_6 name)) 5).bind fun (t_9 : Int) =>
 (z3p [t_8, t_9]).bind fun (t_10 : Int) =>
 bif (t_10 != 0) then
 Option.map Sum.inr (Option.map Sum.inr (
 Option.map Sum.inr (Option.map Sum.inr (
 some (t_3, t_10)))))
 else
 let t_11 : (List (ByteArray × Bool)) := mput .str .bool t_6 name true
 some (.inl (wi64 (t_5 + 1), t_11)))
 else
 some (.inr (.inl t_6))) (0, t_4)).bind fun j => match j with
 | .inl t_12 => (
 some (.inl (wi64 (t_3 + 1), t_12)))
 | .inr r => some r)
 else
 some (.inr (.inl t_4))) (0, [])).bind fun j => match j with
 | .inl t_13 => (
 (z0o (decide ((List.length t_13 : Int) ≤ 8)) 8).bind fun (t_14 : Int) =>
 some (0, t_14))
 | .inr r => some r
theorem zg4 (y : (List (List ByteArray))) : Lq (z7e y) (z4u y) := by
 unfold z7e z4u
 repeat' with_reducible first | exact z0h _ | apply z4s | apply z6w | apply zj6 | apply z1o | apply z0j | apply z0w | apply z0l | apply z1n | apply z1m | (refine z0d (fun _ => ?_) (fun _ => ?_) <;> dsimp only) | (intro _; try dsimp only) | dsimp only
noncomputable def z6q (x : List ByteArray) : Option (List ByteArray) := app [] x
theorem zf9 (x : List ByteArray) : Lq (z6q x) (slices_Clone_string x) := by
 unfold z6q slices_Clone_string
 repeat' with_reducible first | exact z0h _ | apply z1o | apply z0j | apply z0w | apply z0l | apply z1n | apply z1m | (refine z0d (fun _ => ?_) (fun _ => ?_) <;> dsimp only) | (intro _; try dsimp only) | dsimp only
noncomputable def z6r (y : (List (List ByteArray))) : Option ((List (List ByteArray))) :=
 (zav (S := (List (List ByteArray)) × Int) (R := (List (List ByteArray))) (fun s =>
 let out : (List (List ByteArray)) := s.1
 let t : Int := s.2
 bif decide (t < (List.length y : Int)) then
 chk (decide ((0 : Int) ≤ t) && decide (t < (List.length y : Int))) (
 (z6q (lget [] y t)).bind fun (t_1 : (List ByteArray)) =>
 (app out [t_1]).bind fun (t_2 : List (List ByteArray)) =>
 some (.inl (t_2, wi64 (t + 1))))
 else
 some (.inr out)) ([], 0)).bind fun (out_1 : (List (List ByteArray))) =>
 some out_1
theorem zfa (y : (List (List ByteArray))) : Lq (z6r y) (z4d y) := by
 unfold z6r z4d
 repeat' with_reducible first | exact z0h _ | apply zf9 | apply z1o | apply z0j | apply z0w | apply z0l | apply z1n | apply z1m | (refine z0d (fun _ => ?_) (fun _ => ?_) <;> dsimp only) | (intro _; try dsimp only) | dsimp only
noncomputable def z88 (y : (List (List ByteArray))) : Option ((List (List ByteArray)) × Int) :=
 (z7e y).bind fun (r : Int × Int) =>
 (z6r y).bind fun (t : (List (List ByteArray))) =>
 some (t, r.2)
theorem zhd (y : (List (List ByteArray))) : Lq (z88 y) (z5h y) := by
 unfold z88 z5h
 repeat' with_reducible first | exact z0h _ | apply zg4 | apply zfa | apply z1o | apply z0j | apply z0w | apply z0l | apply z1n | apply z1m | (refine z0d (fun _ => ?_) (fun _ => ?_) <;> dsimp only) | (intro _; try dsimp only) | dsimp only
noncomputable def z50 (s : (List (List ByteArray))) (f : ((List ByteArray) → Option Bool)) : Option (Int) :=
 (zav (S := Int) (R := (Unit) ⊕ (Int)) (fun t =>
 bif decide (t < (List.length s : Int)) then
 chk (decide ((0 : Int) ≤ t) && decide (t < (List.length s : Int))) (
 (f (lget [] s t)).bind fun (t_1 : Bool) =>
 bif t_1 then
 Option.map Sum.inr (Option.map Sum.inr (
 some t))
 else
 some (.inl (wi64 (t + 1))))
 else
 some (.inr (.inl ()))) 0).bind fun j => match j with
 | .inl _ => (
 some (-1))
 | .inr r => some r
theorem zcd (s : (List (List ByteArray))) {f f' : ((List ByteArray) → Option Bool)} (h_f : ∀ x, Lq (f x) (f' x)) : Lq (z50 s f) (z2m s f') := by
 unfold z50 z2m
 repeat' with_reducible first | exact z0h _ | exact h_f _ | apply z1o | apply z0j | apply z0w | apply z0l | apply z1n | apply z1m | (refine z0d (fun _ => ?_) (fun _ => ?_) <;> dsimp only) | (intro _; try dsimp only) | dsimp only
noncomputable def z40 (s : (List (List ByteArray))) (f : ((List ByteArray) → Option Bool)) : Option (Bool) :=
 (z50 s f).bind fun (t : Int) =>
 some (decide (t ≥ 0))
theorem zaw (s : (List (List ByteArray))) {f f' : ((List ByteArray) → Option Bool)} (h_f : ∀ x, Lq (f x) (f' x)) : Lq (z40 s f) (z1x s f') := by
 unfold z40 z1x
 repeat' with_reducible first | exact z0h _ | exact h_f _ | apply zcd | apply z1o | apply z0j | apply z0w | apply z0l | apply z1n | apply z1m | (refine z0d (fun _ => ?_) (fun _ => ?_) <;> dsimp only) | (intro _; try dsimp only) | dsimp only
noncomputable def z3f (s : (List ByteArray)) (v : ByteArray) : Option (Int) :=
 (zav (S := Int) (R := (Unit) ⊕ (Int)) (fun t =>
 bif decide (t < (List.length s : Int)) then
 chk (decide ((0 : Int) ≤ t) && decide (t < (List.length s : Int))) (
 bif y0b v (lget ByteArray.empty s t) then
 Option.map Sum.inr (Option.map Sum.inr (
 some t))
 else
 some (.inl (wi64 (t + 1))))
 else
 some (.inr (.inl ()))) 0).bind fun j => match j with
 | .inl _ => (
 some (-1))
 | .inr r => some r
theorem z9f (s : (List ByteArray)) (v : ByteArray) : Lq (z3f s v) (slices_Index_string s v) := by
 unfold z3f slices_Index_string
 try simp only [zxp]
 repeat' with_reducible first | exact z0h _ | apply z1o | apply z0j | apply z0w | apply z0l | apply z1n | apply z1m | (refine z0d (fun _ => ?_) (fun _ => ?_) <;> dsimp only) | (intro _; try dsimp only) | dsimp only
noncomputable def z2i (s : (List ByteArray)) (v : ByteArray) : Option (Bool) :=
 (z3f s v).bind fun (t : Int) =>
 some (decide (t ≥ 0))
theorem z4z (s : (List ByteArray)) (v : ByteArray) : Lq (z2i s v) (slices_Contains_string s v) := by
 unfold z2i slices_Contains_string
 repeat' with_reducible first | exact z0h _ | apply z9f | apply z1o | apply z0j | apply z0w | apply z0l | apply z1n | apply z1m | (refine z0d (fun _ => ?_) (fun _ => ?_) <;> dsimp only) | (intro _; try dsimp only) | dsimp only
noncomputable def z5k (pile : (List ByteArray)) (x : ByteArray) : Option (Bool) :=
 (z2i pile x).bind fun (t : Bool) =>
 some t
theorem zdf (pile : (List ByteArray)) (x : ByteArray) : Lq (z5k pile x) (z33 pile x) := by
 unfold z5k z33
 repeat' with_reducible first | exact z0h _ | apply z4z | apply z1o | apply z0j | apply z0w | apply z0l | apply z1n | apply z1m | (refine z0d (fun _ => ?_) (fun _ => ?_) <;> dsimp only) | (intro _; try dsimp only) | dsimp only
noncomputable def z64 (y : (List (List ByteArray))) (request : (List ByteArray)) : Option ((List (List ByteArray)) × Int) :=
 (z88 y).bind fun (r : (List (List ByteArray)) × Int) =>
 bif (r.2 != 0) then
 some ([], r.2)
 else
 (zav (S := Int) (R := (Unit) ⊕ ((List (List ByteArray)) × Int)) (fun t =>
 bif decide (t < (List.length request : Int)) then
 chk (decide ((0 : Int) ≤ t) && decide (t < (List.length request : Int))) (
 let name : ByteArray := lget ByteArray.empty request t
 (z40 y (fun x => z5k x name)).bind fun (t_1 : Bool) =>
 (z0o (!(!t_1)) 6).bind fun (t_2 : Int) =>
 chk (decide ((0 : Int) ≤ 0) && decide ((0 : Int) ≤ t) && decide (t ≤ (List.length request : Int))) (
 (z2i (List.drop (Int.toNat 0) (List.take (Int.toNat t) request)) name).bind fun (t_3 : Bool) =>
 (z0o (!t_3) 23).bind fun (t_4 : Int) =>
 (z3p [t_2, t_4]).bind fun (t_5 : Int) =>
 bif (t_5 != 0) then
 Option.map Sum.inr (Option.map Sum.inr (
 some ([], t_5)))
 else
 some (.inl (wi64 (t + 1)))))
 else
 some (.inr (.inl ()))) 0).bind fun j => match j with
 | .inl _ => (
 some (r.1, 0))
 | .inr r => some r
theorem zem (y : (List (List ByteArray))) (request : (List ByteArray)) : Lq (z64 y request) (z3r y request) := by
 unfold z64 z3r
 repeat' with_reducible first | exact z0h _ | apply z4s | apply z6w | apply zhd | apply zaw | apply z4z | apply zdf | apply z1o | apply z0j | apply z0w | apply z0l | apply z1n | apply z1m | (refine z0d (fun _ => ?_) (fun _ => ?_) <;> dsimp only) | (intro _; try dsimp only) | dsimp only
noncomputable def z3o (s : (List ByteArray)) (f : (ByteArray → Option Bool)) : Option (Int) :=
 (zav (S := Int) (R := (Unit) ⊕ (Int)) (fun t =>
 bif decide (t < (List.length s : Int)) then
 chk (decide ((0 : Int) ≤ t) && decide (t < (List.length s : Int))) (
 (f (lget ByteArray.empty s t)).bind fun (t_1 : Bool) =>
 bif t_1 then
 Option.map Sum.inr (Option.map Sum.inr (
 some t))
 else
 some (.inl (wi64 (t + 1))))
 else
 some (.inr (.inl ()))) 0).bind fun j => match j with
 | .inl _ => (
 some (-1))
 | .inr r => some r
theorem zah (s : (List ByteArray)) {f f' : (ByteArray → Option Bool)} (h_f : ∀ x, Lq (f x) (f' x)) : Lq (z3o s f) (z1q s f') := by
 unfold z3o z1q
 repeat' with_reducible first | exact z0h _ | exact h_f _ | apply z1o | apply z0j | apply z0w | apply z0l | apply z1n | apply z1m | (refine z0d (fun _ => ?_) (fun _ => ?_) <;> dsimp only) | (intro _; try dsimp only) | dsimp only
noncomputable def z37 (s : (List ByteArray)) (f : (ByteArray → Option Bool)) : Option (Bool) :=
 (z3o s f).bind fun (t : Int) =>
 some (decide (t ≥ 0))
theorem z98 (s : (List ByteArray)) {f f' : (ByteArray → Option Bool)} (h_f : ∀ x, Lq (f x) (f' x)) : Lq (z37 s f) (z1g s f') := by
 unfold z37 z1g
 repeat' with_reducible first | exact z0h _ | exact h_f _ | apply zah | apply z1o | apply z0j | apply z0w | apply z0l | apply z1n | apply z1m | (refine z0d (fun _ => ?_) (fun _ => ?_) <;> dsimp only) | (intro _; try dsimp only) | dsimp only
noncomputable def zb0 (request : (List ByteArray)) (name : ByteArray) (than : ByteArray) : Option (Bool) :=
 (z3f request name).bind fun (t : Int) =>
 (bif decide (t < 0) then some true else
 (z3f request than).bind fun (t_1 : Int) =>
 some (decide (t > t_1))).bind fun (c : Bool) =>
 some c
theorem zkb (request : (List ByteArray)) (name : ByteArray) (than : ByteArray) : Lq (zb0 request name than) (z7q request name than) := by
 unfold zb0 z7q
 repeat' with_reducible first | exact z0h _ | apply z9f | apply z1o | apply z0j | apply z0w | apply z0l | apply z1n | apply z1m | (refine z0d (fun _ => ?_) (fun _ => ?_) <;> dsimp only) | (intro _; try dsimp only) | dsimp only
noncomputable def z4m (below : ByteArray) (x : (List ByteArray)) (x_1 : ByteArray) : Option (Bool) :=
 (z2i x below).bind fun (t : Bool) =>
 (bif t then
 (zb0 x x_1 below).bind fun (t_1 : Bool) =>
 some t_1
 else some false).bind fun (c : Bool) =>
 some c
theorem zbx (below : ByteArray) (x : (List ByteArray)) (x_1 : ByteArray) : Lq (z4m below x x_1) (z2h below x x_1) := by
 unfold z4m z2h
 repeat' with_reducible first | exact z0h _ | apply z4z | apply zkb | apply z1o | apply z0j | apply z0w | apply z0l | apply z1n | apply z1m | (refine z0d (fun _ => ?_) (fun _ => ?_) <;> dsimp only) | (intro _; try dsimp only) | dsimp only
noncomputable def z5j (y : (List (List ByteArray))) (request : (List ByteArray)) : Option ((List ByteArray)) :=
 (zav (S := (List ByteArray) × Int) (R := (List ByteArray)) (fun s =>
 let out : (List ByteArray) := s.1
 let t : Int := s.2
 bif decide (t < (List.length y : Int)) then
 chk (decide ((0 : Int) ≤ t) && decide (t < (List.length y : Int))) (
 (zav (S := (List ByteArray) × Int) (R := (List ByteArray)) (fun s_1 =>
 let out_1 : (List ByteArray) := s_1.1
 let t_1 : Int := s_1.2
 bif decide (t_1 < (List.length (lget [] y t) : Int)) then
 chk (decide ((0 : Int) ≤ t_1) && decide (t_1 < (List.length (lget [] y t) : Int))) (
 let name : ByteArray := lget ByteArray.empty (lget [] y t) t_1
 chk (decide ((0 : Int) ≤ 0) && decide ((0 : Int) ≤ t_1) && decide (t_1 ≤ (List.length (lget [] y t) : Int))) (
 (z37 (List.drop (Int.toNat 0) (List.take (Int.toNat t_1) (lget [] y t))) (fun x => z4m x request name)).bind fun (t_2 : Bool) =>
 (bif t_2 then
 (app out_1 [name]).bind fun (t_3 : List ByteArray) =>
 some t_3
 else
 some out_1).bind fun (out_2 : (List ByteArray)) =>
 some (.inl (out_2, wi64 (t_1 + 1)))))
 else
 some (.inr out_1)) (out, 0)).bind fun (out_3 : (List ByteArray)) =>
 some (.inl (out_3, wi64 (t + 1))))
 else
 some (.inr out)) ([], 0)).bind fun (out_4 : (List ByteArray)) =>
 some out_4
theorem zde (y : (List (List ByteArray))) (request : (List ByteArray)) : Lq (z5j y request) (z32 y request) := by
 unfold z5j z32
 repeat' with_reducible first | exact z0h _ | apply z98 | apply zbx | apply z1o | apply z0j | apply z0w | apply z0l | apply z1n | apply z1m | (refine z0d (fun _ => ?_) (fun _ => ?_) <;> dsimp only) | (intro _; try dsimp only) | dsimp only
noncomputable def z7g (y : (List (List ByteArray))) (request : (List ByteArray)) : Option ((List ByteArray) × Int) :=
 (z64 y request).bind fun (r : (List (List ByteArray)) × Int) =>
 bif (r.2 != 0) then
 some ([], r.2)
 else
 (z5j r.1 request).bind fun (t : (List ByteArray)) =>
 some (t, 0)
theorem zg6 (y : (List (List ByteArray))) (request : (List ByteArray)) : Lq (z7g y request) (z4v y request) := by
 unfold z7g z4v
 repeat' with_reducible first | exact z0h _ | apply zem | apply zde | apply z1o | apply z0j | apply z0w | apply z0l | apply z1n | apply z1m | (refine z0d (fun _ => ?_) (fun _ => ?_) <;> dsimp only) | (intro _; try dsimp only) | dsimp only
noncomputable def znv (a : (List Int)) (b : (List Int)) : Option (Bool) :=
 bif ((List.length a : Int) != (List.length b : Int)) then
 some false
 else
 (zav (S := Int) (R := (Unit) ⊕ (Bool)) (fun i =>
 bif decide (i < (List.length a : Int)) then
 chk (decide ((0 : Int) ≤ i) && decide (i < (List.length a : Int))) (
 chk (decide ((0 : Int) ≤ i) && decide (i < (List.length b : Int))) (
 bif ((lget 0 a i) != (lget 0 b i)) then
 Option.map Sum.inr (Option.map Sum.inr (
 some false))
 else
 some (.inl (wi64 (i + 1)))))
 else
 some (.inr (.inl ()))) 0).bind fun j => match j with
 | .inl _ => (
 some true)
 | .inr r => some r
theorem zwp (a : (List Int)) (b : (List Int)) : Lq (znv a b) (zaz a b) := by
 unfold znv zaz
 repeat' with_reducible first | exact z0h _ | apply z1o | apply z0j | apply z0w | apply z0l | apply z1n | apply z1m | (refine z0d (fun _ => ?_) (fun _ => ?_) <;> dsimp only) | (intro _; try dsimp only) | dsimp only
noncomputable def zks (a : (List ByteArray)) (b : (List ByteArray)) : Option (Bool) :=
 bif ((List.length a : Int) != (List.length b : Int)) then
 some false
 else
 (zav (S := Int) (R := (Unit) ⊕ (Bool)) (fun i =>
 bif decide (i < (List.length a : Int)) then
 chk (decide ((0 : Int) ≤ i) && decide (i < (List.length a : Int))) (
 chk (decide ((0 : Int) ≤ i) && decide (i < (List.length b : Int))) (
 bif !y0b (lget ByteArray.empty a i) (lget ByteArray.empty b i) then
 Option.map Sum.inr (Option.map Sum.inr (
 some false))
 else
 some (.inl (wi64 (i + 1)))))
 else
 some (.inr (.inl ()))) 0).bind fun j => match j with
 | .inl _ => (
 some true)
 | .inr r => some r
theorem zty (a : (List ByteArray)) (b : (List ByteArray)) : Lq (zks a b) (zjt a b) := by
 unfold zks zjt
 try simp only [zxp]
 repeat' with_reducible first | exact z0h _ | apply z1o | apply z0j | apply z0w | apply z0l | apply z1n | apply z1m | (refine z0d (fun _ => ?_) (fun _ => ?_) <;> dsimp only) | (intro _; try dsimp only) | dsimp only
noncomputable def z7u  : Option (Bool) :=
 let l : (List z00) := [(1200, (3000, (5, 1000))), (1100, (2500, (4, 1000))), (1050, (3400, (6, 2000)))]
 (zcb (2, (100, (150, (1000, (2, (5000, (1, (0, 10)))))))) l).bind fun (r : (List Int) × Int × Int) =>
 (z97 (2, (100, (150, (1000, (2, (5000, (1, (0, 10)))))))) l [0, 20, 0]).bind fun (r_1 : Int × Int) =>
 (z7g [[(bytes [97]), (bytes [98]), (bytes [99])], [(bytes [100])], []] [(bytes [97])]).bind fun (r_2 : (List ByteArray) × Int) =>
 (bif (r.2.2 == 0) then
 (znv r.1 [1, 0, 2]).bind fun (t : Bool) =>
 some t
 else some false).bind fun (c : Bool) =>
 (bif ((((c && (r.2.1 == 270)) && (r_1.2 == 0)) && (r_1.1 == 160)) && (r_2.2 == 0)) then
 (zks r_2.1 [(bytes [98]), (bytes [99])]).bind fun (t_1 : Bool) =>
 some t_1
 else some false).bind fun (c_1 : Bool) =>
 some c_1
theorem zce  : Lq (z7u ) (z1d ) := by
 unfold z7u z1d
 repeat' with_reducible first | exact z0h _ | apply zhe | apply zi8 | apply zg6 | apply zwp | apply zty | apply z1o | apply z0j | apply z0w | apply z0l | apply z1n | apply z1m | (refine z0d (fun _ => ?_) (fun _ => ?_) <;> dsimp only) | (intro _; try dsimp only) | dsimp only
end Go.Lift
namespace Go.Lift
open Go
theorem zx9 : z1d = some true := zce _ (by kernel_rfl)
end Go.Lift
