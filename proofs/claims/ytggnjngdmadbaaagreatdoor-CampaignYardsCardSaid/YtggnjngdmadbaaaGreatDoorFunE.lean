/-
  The chapter's examples.
-/
import Derived.Test.YtggnjngdmadbaaaGreatDoorPlainA
import Derived.KernelRfl
set_option linter.unusedSectionVars false
set_option linter.unusedVariables false
set_option linter.unusedSimpArgs false
namespace Go.Lift
open Go
def Lq {A : Type} (a b : Option A) : Prop := ∀ v, a = some v → b = some v
theorem z0i {A : Type} (a : Option A) : Lq a a := fun _ h => h
theorem z0k {A B : Type} {a a' : Option A} {f f' : A → Option B} (h : Lq a a') (k : ∀ x, Lq (f x) (f' x)) : Lq (a.bind f) (a'.bind f') := by
 intro v hv
 obtain ⟨x, hx, hf⟩ := Option.bind_eq_some_iff.1 hv
 exact Option.bind_eq_some_iff.2 ⟨x, h x hx, k x v hf⟩
theorem z0u {A : Type} {c : Bool} {a a' b b' : Option A} (h : Lq a a') (k : Lq b b') : Lq (bif c then a else b) (bif c then a' else b') := by
 cases c <;> assumption
theorem z2f {A : Type} {c : Bool} {a a' : Option A} (h : Lq a a') : Lq (chk c a) (chk c a') := by
 unfold chk
 exact z0u h (z0i _)
theorem z2e {A B : Type} {g : A → B} {a a' : Option A} (h : Lq a a') : Lq (Option.map g a) (Option.map g a') := by
 intro v hv
 obtain ⟨x, hx, hf⟩ := Option.map_eq_some_iff.1 hv
 exact Option.map_eq_some_iff.2 ⟨x, h x hx, hf⟩
def ze9 {S R : Type} (f : S → Option (S ⊕ R)) (s : S) : Option R := zgc f 300 s
theorem y99 {S R : Type} {f f' : S → Option (S ⊕ R)} (h : ∀ s, Lq (f s) (f' s)) : ∀ (n : Nat) (s : S), Lq (zgc f n s) (zgc f' n s)
 | 0, s => fun v hv => by simp [zgc] at hv
 | n + 1, s => fun v hv => by
  unfold zgc at hv ⊢
  cases hf : f s with
  | none => rw [hf] at hv; cases hv
  | some j =>
   rw [hf] at hv
   rw [h s j hf]
   cases j with
   | inl s' => exact y99 h n s' v hv
   | inr r => exact hv
theorem z1b {S R : Type} {f f' : S → Option (S ⊕ R)} {s : S} (h : ∀ s, Lq (f s) (f' s)) : Lq (ze9 f s) (z1v f' s) :=
 fun _ hv => y19 (y99 h 300 s _ hv)
theorem z0j {A B C : Type} {f g : A ⊕ B → Option C} (h1 : ∀ a, Lq (f (.inl a)) (g (.inl a))) (h2 : ∀ b, Lq (f (.inr b)) (g (.inr b))) : ∀ j, Lq (f j) (g j) := by
 intro j
 cases j with
 | inl a => exact h1 a
 | inr b => exact h2 b
def y5r (a b : ByteArray) : Bool := a.data.toList == b.data.toList
def catE (a b : ByteArray) : Option ByteArray := if a.size + b.size ≤ 4294967296 then some ⟨(a.data.toList ++ b.data.toList).toArray⟩ else none
theorem zu6 (b : ByteArray) : b.toList = b.data.toList := by
 have h : ∀ (n i : Nat) (r : List UInt8), b.size - i = n → ByteArray.toList.loop b i r = r.reverse ++ b.data.toList.drop i := by
  intro n
  induction n with
  | zero =>
   intro i r hn
   unfold ByteArray.toList.loop
   rw [if_neg (by omega), List.drop_eq_nil_of_le (show b.data.toList.length ≤ i by show b.size ≤ i; omega), List.append_nil]
  | succ n ih =>
   intro i r hn
   unfold ByteArray.toList.loop
   have hi : i < b.size := by omega
   rw [if_pos hi, ih (i + 1) _ (by omega)]
   have hi2 : i < b.data.toList.length := hi
   rw [List.drop_eq_getElem_cons hi2, List.reverse_cons, List.append_assoc]
   congr 1
   show [b.get! i] ++ _ = _
   have : b.get! i = b.data.toList[i] := by
    unfold ByteArray.get!
    show b.data[i]! = _
    rw [getElem!_pos b.data i hi]
    rfl
   rw [this]; rfl
 have := h b.size 0 [] rfl
 rw [List.reverse_nil, List.nil_append, List.drop_zero] at this
 exact this
theorem zuo (a b : ByteArray) : seqb a b = y5r a b := by unfold seqb y5r; rw [zu6, zu6]
theorem z2g (a b : ByteArray) : Lq (catE a b) (cat a b) := by
 intro v hv
 unfold catE at hv
 unfold cat
 split at hv
 ·rename_i h
  rw [if_pos h]
  rw [← hv]
  congr 1
 ·cases hv
def zhw (n : Int) : Option ByteArray :=
 bif n == 3 then some (bytes [51]) else bif n == 5 then some (bytes [53]) else bif n == 12 then some (bytes [49, 50]) else bif n == 50 then some (bytes [53, 48]) else bif n == 1200 then some (bytes [49, 50, 48, 48]) else none
theorem zvt (n : Int) : Lq (zhw n) (strconv_Itoa n) := by
 intro v hv
 unfold zhw at hv
 by_cases h3 : n = 3
 ·subst h3
  have e : some (bytes [51]) = some v := hv
  rw [← e]
  simp [strconv_Itoa, Lib.itoa, Lib.decDigits, bytes]
 rw [show (n == 3) = false by rw [beq_eq_false_iff_ne]; exact h3, cond_false] at hv
 by_cases h5 : n = 5
 ·subst h5
  have e : some (bytes [53]) = some v := hv
  rw [← e]
  simp [strconv_Itoa, Lib.itoa, Lib.decDigits, bytes]
 rw [show (n == 5) = false by rw [beq_eq_false_iff_ne]; exact h5, cond_false] at hv
 by_cases h12 : n = 12
 ·subst h12
  have e : some (bytes [49, 50]) = some v := hv
  rw [← e]
  simp [strconv_Itoa, Lib.itoa, Lib.decDigits, bytes]
 rw [show (n == 12) = false by rw [beq_eq_false_iff_ne]; exact h12, cond_false] at hv
 by_cases h50 : n = 50
 ·subst h50
  have e : some (bytes [53, 48]) = some v := hv
  rw [← e]
  simp [strconv_Itoa, Lib.itoa, Lib.decDigits, bytes]
 rw [show (n == 50) = false by rw [beq_eq_false_iff_ne]; exact h50, cond_false] at hv
 by_cases h1200 : n = 1200
 ·subst h1200
  have e : some (bytes [49, 50, 48, 48]) = some v := hv
  rw [← e]
  simp [strconv_Itoa, Lib.itoa, Lib.decDigits, bytes]
 rw [show (n == 1200) = false by rw [beq_eq_false_iff_ne]; exact h1200, cond_false] at hv
 cases hv
noncomputable def znx (s : ByteArray) : Option (Int × Bool) := strconv_Atoi s
theorem zvu (s : ByteArray) : Lq (znx s) (strconv_Atoi s) := z0i _
noncomputable def z10 (n : Int) (lo : Int) (hi : Int) : Option (Bool) :=
 let t : Bool := ((decide (lo ≤ n)) && (decide (n ≤ hi)))
 some t
theorem z24 (n : Int) (lo : Int) (hi : Int) : Lq (z10 n lo hi) (z0r n lo hi) := by
 unfold z10 z0r
 repeat' with_reducible first | exact z0i _ | apply z2g | apply z0k | apply z1b | apply z0u | apply z2f | apply z2e | (refine z0j (fun _ => ?_) (fun _ => ?_) <;> dsimp only) | (intro _; try dsimp only) | dsimp only
noncomputable def z5x (s : ByteArray) : Option (Bool) :=
 (ze9 (S := Int) (R := (Unit) ⊕ (Bool)) (fun t =>
 bif decide (t < (List.length (z47 s) : Int)) then
 chk (decide ((0 : Int) ≤ t) && decide (t < (List.length (z47 s) : Int))) (
 let c : Int := lget 0 (z47 s) t
 (z10 (wi64 c) 97 122).bind fun (t_1 : Bool) =>
 (bif t_1 then some true else
 (z10 (wi64 c) 65 90).bind fun (t_2 : Bool) =>
 some t_2).bind fun (c_1 : Bool) =>
 (bif !c_1 then
 (bif (t == 0) then some true else
 (bif (c != 45) then
 (z10 (wi64 c) 48 57).bind fun (t_3 : Bool) =>
 some (!t_3)
 else some false).bind fun (c_2 : Bool) =>
 some c_2).bind fun (c_3 : Bool) =>
 some c_3
 else some false).bind fun (c_4 : Bool) =>
 bif c_4 then
 Option.map Sum.inr (Option.map Sum.inr (
 some false))
 else
 some (.inl (wi64 (t + 1))))
 else
 some (.inr (.inl ()))) 0).bind fun j => match j with
 | .inl _ => (
 (z10 (ByteArray.size s : Int) 1 12).bind fun (t_4 : Bool) =>
 some t_4)
 | .inr r => some r
theorem z8g (s : ByteArray) : Lq (z5x s) (z2a s) := by
 unfold z5x z2a
 repeat' with_reducible first | exact z0i _ | apply z24 | apply z2g | apply z0k | apply z1b | apply z0u | apply z2f | apply z2e | (refine z0j (fun _ => ?_) (fun _ => ?_) <;> dsimp only) | (intro _; try dsimp only) | dsimp only
noncomputable def z6s (n : Int) : Option (Bool) :=
 (z10 n 1 99).bind fun (t : Bool) =>
 some t
theorem zas (n : Int) : Lq (z6s n) (z4h n) := by
 unfold z6s z4h
 repeat' with_reducible first | exact z0i _ | apply z24 | apply z2g | apply z0k | apply z1b | apply z0u | apply z2f | apply z2e | (refine z0j (fun _ => ?_) (fun _ => ?_) <;> dsimp only) | (intro _; try dsimp only) | dsimp only
noncomputable def z4n (n : Int) : Option (Bool) :=
 (z10 n 1 300000).bind fun (t : Bool) =>
 some t
theorem z7r (n : Int) : Lq (z4n n) (z2t n) := by
 unfold z4n z2t
 repeat' with_reducible first | exact z0i _ | apply z24 | apply z2g | apply z0k | apply z1b | apply z0u | apply z2f | apply z2e | (refine z0j (fun _ => ?_) (fun _ => ?_) <;> dsimp only) | (intro _; try dsimp only) | dsimp only
noncomputable def z6r (n : Int) : Option (Bool) :=
 (z10 n 500 2500).bind fun (t : Bool) =>
 some t
theorem zar (n : Int) : Lq (z6r n) (z4g n) := by
 unfold z6r z4g
 repeat' with_reducible first | exact z0i _ | apply z24 | apply z2g | apply z0k | apply z1b | apply z0u | apply z2f | apply z2e | (refine z0j (fun _ => ?_) (fun _ => ?_) <;> dsimp only) | (intro _; try dsimp only) | dsimp only
noncomputable def z9k (n : Int) : Option (Bool) :=
 (z10 n 0 20000).bind fun (t : Bool) =>
 some t
theorem zpv (n : Int) : Lq (z9k n) (z7f n) := by
 unfold z9k z7f
 repeat' with_reducible first | exact z0i _ | apply z24 | apply z2g | apply z0k | apply z1b | apply z0u | apply z2f | apply z2e | (refine z0j (fun _ => ?_) (fun _ => ?_) <;> dsimp only) | (intro _; try dsimp only) | dsimp only
noncomputable def z0l (is : Bool) (e : Int) : Option (Int) :=
 bif is then
 some 0
 else
 some e
theorem z3p (is : Bool) (e : Int) : Lq (z0l is e) (z0g is e) := by
 unfold z0l z0g
 repeat' with_reducible first | exact z0i _ | apply z2g | apply z0k | apply z1b | apply z0u | apply z2f | apply z2e | (refine z0j (fun _ => ?_) (fun _ => ?_) <;> dsimp only) | (intro _; try dsimp only) | dsimp only
noncomputable def z3a (l : (List Int)) : Option (Int) :=
 (ze9 (S := Int) (R := (Unit) ⊕ (Int)) (fun t =>
 bif decide (t < (List.length l : Int)) then
 chk (decide ((0 : Int) ≤ t) && decide (t < (List.length l : Int))) (
 bif ((lget 0 l t) != 0) then
 Option.map Sum.inr (Option.map Sum.inr (
 some (lget 0 l t)))
 else
 some (.inl (wi64 (t + 1))))
 else
 some (.inr (.inl ()))) 0).bind fun j => match j with
 | .inl _ => (
 some 0)
 | .inr r => some r
theorem z4t (l : (List Int)) : Lq (z3a l) (z1x l) := by
 unfold z3a z1x
 repeat' with_reducible first | exact z0i _ | apply z2g | apply z0k | apply z1b | apply z0u | apply z2f | apply z2e | (refine z0j (fun _ => ?_) (fun _ => ?_) <;> dsimp only) | (intro _; try dsimp only) | dsimp only
noncomputable def z6t (o : z01) : Option (Int) :=
 (z6s o.2.1).bind fun (t : Bool) =>
 (bif t then
 (z4n o.2.2.1).bind fun (t_1 : Bool) =>
 some t_1
 else some false).bind fun (c : Bool) =>
 (bif c then
 (z10 o.2.2.2.1 0 (wi64 (o.2.2.1 - 1))).bind fun (t_2 : Bool) =>
 some t_2
 else some false).bind fun (c_1 : Bool) =>
 (bif c_1 then
 (z6r o.2.2.2.2.1).bind fun (t_3 : Bool) =>
 some t_3
 else some false).bind fun (c_2 : Bool) =>
 (bif c_2 then
 (z9k o.2.2.2.2.2.1.1).bind fun (t_4 : Bool) =>
 some t_4
 else some false).bind fun (c_3 : Bool) =>
 (bif c_3 then
 (z9k o.2.2.2.2.2.1.2).bind fun (t_5 : Bool) =>
 some t_5
 else some false).bind fun (c_4 : Bool) =>
 (z5x o.1).bind fun (t_6 : Bool) =>
 (z0l t_6 4).bind fun (t_7 : Int) =>
 (z0l c_4 2).bind fun (t_8 : Int) =>
 (z0l (decide (o.2.2.2.2.2.1.1 ≤ o.2.2.2.2.2.1.2)) 9).bind fun (t_9 : Int) =>
 chk (10 != 0) (
 let t_10 : Int := Int.tmod o.2.2.2.2.2.1.1 10
 (bif (t_10 == 0) then
 chk (10 != 0) (
 let t_11 : Int := Int.tmod o.2.2.2.2.2.1.2 10
 some (t_11 == 0))
 else some false).bind fun (c_5 : Bool) =>
 (z0l c_5 3).bind fun (t_12 : Int) =>
 (z10 o.2.2.2.2.2.2 0 100000).bind fun (t_13 : Bool) =>
 (z0l t_13 2).bind fun (t_14 : Int) =>
 (z3a [t_7, t_8, t_9, t_12, t_14]).bind fun (t_15 : Int) =>
 some t_15)
theorem zcp (o : z01) : Lq (z6t o) (z1j o) := by
 unfold z6t z1j
 repeat' with_reducible first | exact z0i _ | apply z24 | apply z8g | apply zas | apply z7r | apply zar | apply zpv | apply z3p | apply z4t | apply z2g | apply z0k | apply z1b | apply z0u | apply z2f | apply z2e | (refine z0j (fun _ => ?_) (fun _ => ?_) <;> dsimp only) | (intro _; try dsimp only) | dsimp only
noncomputable def zdb (s : ByteArray) : Option (Int × Bool) :=
 (znx s).bind fun (r : Int × Bool) =>
 (bif (r.2 && (decide (r.1 ≥ 0))) then
 (zhw r.1).bind fun (t : ByteArray) =>
 some (y5r t s)
 else some false).bind fun (c : Bool) =>
 let t_1 : Bool := (c && (decide ((ByteArray.size s : Int) ≤ 6)))
 some (r.1, t_1)
theorem zpu (s : ByteArray) : Lq (zdb s) (z2o s) := by
 unfold zdb z2o
 try simp only [zuo]
 repeat' with_reducible first | exact z0i _ | apply zvu | apply zvt | apply z2g | apply z0k | apply z1b | apply z0u | apply z2f | apply z2e | (refine z0j (fun _ => ?_) (fun _ => ?_) <;> dsimp only) | (intro _; try dsimp only) | dsimp only
noncomputable def zmz (ws : List ByteArray) (i : Int) : Option (Option Int) := (zdb (z1e ws i)).bind fun r => some (bif r.2 then some r.1 else none)
theorem zod (ws : List ByteArray) (i : Int) : Lq (zmz ws i) (z7q ws i) := z0k (zpu _) fun _ => z0i _
def y2e (us : List (ByteArray × Int)) (ws : List ByteArray) (i : Int) : Option Int := if i < (ws.length : Int) then (us.find? fun p => y5r (z1e ws i) p.1).map (·.2) else none
theorem y7z (us : List (ByteArray × Int)) (ws : List ByteArray) (i : Int) : z62 us ws i = y2e us ws i := by
 unfold z62 y2e zya
 simp only [zuo]
def zn2 (w : ByteArray) : Option Nat := z1i.findIdx? fun c => y5r c w
theorem y2f (w : ByteArray) : z32 w = zn2 w := by
 unfold z32 zn2
 simp only [zuo]
noncomputable def z95 (us : List (ByteArray × Int)) (ws : List ByteArray) (i : Int) : Option (Int ⊕ Int) :=
 (zmz ws i).bind fun n => match n with
  | none => some (.inl i)
  | some n => match y2e us ws (i + 1) with
   | none => some (.inl (i + 1))
   | some b => some (.inr (wi64 (n * b)))
theorem zbr (us : List (ByteArray × Int)) (ws : List ByteArray) (i : Int) : Lq (z95 us ws i) (z1y us ws i) := by
 unfold z1y z95
 simp only [y7z]
 exact z0k (zod _ _) fun _ => z0i _
noncomputable def y03 (k : Nat) (ws : List ByteArray) (o : z01) (i : Int) : Option (Int ⊕ (z01 × Int)) :=
 match k with
 | 0 => (zmz ws i).bind fun n => match n with
  | none => some (.inl i)
  | some n => some (.inr ((o.1, (n, o.2.2)), i + 1))
 | 1 => (z95 zbd ws i).bind fun v => match v with
  | .inl j => some (.inl j)
  | .inr v => some (.inr ((o.1, (o.2.1, (v, o.2.2.2))), i + 2))
 | 2 => (z95 zbd ws i).bind fun v => match v with
  | .inl j => some (.inl j)
  | .inr v => some (.inr ((o.1, (o.2.1, (o.2.2.1, (v, o.2.2.2.2)))), i + 2))
 | 3 => (z95 unMm ws i).bind fun v => match v with
  | .inl j => some (.inl j)
  | .inr v => some (.inr ((o.1, (o.2.1, (o.2.2.1, (o.2.2.2.1, (v, o.2.2.2.2.2))))), i + 2))
 | 4 => (z95 unTo ws i).bind fun v => match v with
  | .inl j => some (.inl j)
  | .inr v => (z95 unC ws (i + 2)).bind fun u => match u with
   | .inl j => some (.inl j)
   | .inr u => some (.inr ((o.1, (o.2.1, (o.2.2.1, (o.2.2.2.1, (o.2.2.2.2.1, ((v, u), o.2.2.2.2.2.2)))))), i + 4))
 | _ => (zmz ws i).bind fun n => match n with
  | none => some (.inl i)
  | some n => some (.inr ((o.1, (o.2.1, (o.2.2.1, (o.2.2.2.1, (o.2.2.2.2.1, (o.2.2.2.2.2.1, n)))))), i + 1))
theorem y6y (k : Nat) (ws : List ByteArray) (o : z01) (i : Int) : Lq (y03 k ws o i) (z6h k ws o i) := by
 match k with
 | 0 => exact z0k (zod _ _) fun _ => z0i _
 | 1 => exact z0k (zbr _ _ _) fun _ => z0i _
 | 2 => exact z0k (zbr _ _ _) fun _ => z0i _
 | 3 => exact z0k (zbr _ _ _) fun _ => z0i _
 | 4 =>
  refine z0k (zbr _ _ _) fun v => ?_
  cases v with
  | inl _ => exact z0i _
  | inr _ => exact z0k (zbr _ _ _) fun _ => z0i _
 | k + 5 => exact z0k (zod _ _) fun _ => z0i _
noncomputable def zjv (ws : List ByteArray) : Nat → z01 → Int → (Nat → Bool) → Option ((Int × Int) ⊕ (z01 × (Nat → Bool)))
 | 0, _, _, _ => none
 | n + 1, o, i, given => if i < (ws.length : Int) then match zn2 (z1e ws i) with
   | none => some (.inl (i, 7))
   | some k => bif given k then some (.inl (i, 23)) else (y03 k ws o (i + 1)).bind fun r => match r with
    | .inl j => some (.inl (j, 7))
    | .inr r => zjv ws n r.1 r.2 (upd given k true)
  else some (.inr (o, given))
theorem zsf (ws : List ByteArray) : ∀ (n : Nat) (o : z01) (i : Int) (given : Nat → Bool), Lq (zjv ws n o i given) (z4l ws n o i given)
 | 0, _, _, _ => z0i _
 | n + 1, o, i, given => by
  unfold zjv z4l
  rw [y2f]
  split
  ·cases zn2 (z1e ws i) with
   | none => exact z0i _
   | some k =>
    refine z0u (z0i _) (z0k (y6y _ _ _ _) fun r => ?_)
    cases r with
    | inl _ => exact z0i _
    | inr r => exact zsf ws n _ _ _
  ·exact z0i _
noncomputable def z98 (s : ByteArray) : Option (z01 × Int × Int) :=
 (strings_Split s (bytes [32])).bind fun ws => (z5x (z1e ws 0)).bind fun is => bif !is then some (z2i, 0, 7) else
  (zjv ws (ws.length + 1) (z1e ws 0, (0, (0, (0, (0, ((0, 20000), 0)))))) 1 (fun _ => false)).bind fun r => match r with
   | .inl f => some (z2i, f.1, f.2)
   | .inr r => bif !(r.2 0 && r.2 1 && r.2 3) then some (z2i, 0, 14) else (z6t r.1).bind fun e => bif e != 0 then some (z2i, 0, e) else some (r.1, 0, 0)
theorem zkd (s : ByteArray) : Lq (z98 s) (z2d s) := by
 unfold z98 z2d
 refine z0k (z0i _) fun ws => z0k (z8g _) fun is => z0u (z0i _) (z0k (zsf _ _ _ _ _) fun r => ?_)
 cases r with
 | inl _ => exact z0i _
 | inr r => exact z0u (z0i _) (z0k (zcp _) fun _ => z0i _)
noncomputable def za2 (s : z08) : Option (Int) :=
 (z6s s.2.1).bind fun (t : Bool) =>
 (bif t then
 (z4n s.2.2.1).bind fun (t_1 : Bool) =>
 some t_1
 else some false).bind fun (c : Bool) =>
 (bif c then
 (z6r s.2.2.2.1).bind fun (t_2 : Bool) =>
 some t_2
 else some false).bind fun (c_1 : Bool) =>
 (bif c_1 then
 (z10 s.2.2.2.2 1 20000).bind fun (t_3 : Bool) =>
 some t_3
 else some false).bind fun (c_2 : Bool) =>
 (z5x s.1).bind fun (t_4 : Bool) =>
 (z0l t_4 4).bind fun (t_5 : Int) =>
 (z0l c_2 2).bind fun (t_6 : Int) =>
 (z3a [t_5, t_6]).bind fun (t_7 : Int) =>
 some t_7
theorem zlh (s : z08) : Lq (za2 s) (z4e s) := by
 unfold za2 z4e
 repeat' with_reducible first | exact z0i _ | apply z24 | apply z8g | apply zas | apply z7r | apply zar | apply z3p | apply z4t | apply z2g | apply z0k | apply z1b | apply z0u | apply z2f | apply z2e | (refine z0j (fun _ => ?_) (fun _ => ?_) <;> dsimp only) | (intro _; try dsimp only) | dsimp only
noncomputable def zef (s : z08) (o : z01) : Option (Bool) :=
 (bif (s.2.1 == o.2.1) then
 (z10 s.2.2.2.1 o.2.2.2.2.1 (wi64 (o.2.2.2.2.1 + 100))).bind fun (t : Bool) =>
 some t
 else some false).bind fun (c : Bool) =>
 some c
theorem zrh (s : z08) (o : z01) : Lq (zef s o) (zaf s o) := by
 unfold zef zaf
 repeat' with_reducible first | exact z0i _ | apply z24 | apply z2g | apply z0k | apply z1b | apply z0u | apply z2f | apply z2e | (refine z0j (fun _ => ?_) (fun _ => ?_) <;> dsimp only) | (intro _; try dsimp only) | dsimp only
noncomputable def z99 (s : z08) (o : z01) : Option (z2r × Int) :=
 (za2 s).bind fun (t : Int) =>
 (z6t o).bind fun (t_1 : Int) =>
 (zef s o).bind fun (t_2 : Bool) =>
 (z0l t_2 13).bind fun (t_3 : Int) =>
 (z3a [t, t_1, t_3]).bind fun (t_4 : Int) =>
 bif (t_4 != 0) then
 some ((0, 0), t_4)
 else
 let volume : Int := wi64 ((wi64 (s.2.2.1 * s.2.2.2.1)) * s.2.2.2.2)
 let thin : Int := wi64 ((wi64 (o.2.2.1 - o.2.2.2.1)) * o.2.2.2.2.1)
 let thick : Int := wi64 ((wi64 (o.2.2.1 + o.2.2.2.1)) * o.2.2.2.2.1)
 chk (thick != 0) (
 let t_5 : Int := wi64 (Int.tdiv volume thick)
 chk (thin != 0) (
 let t_6 : Int := wi64 (Int.tdiv (wi64 ((wi64 (volume + thin)) - 1)) thin)
 some ((t_5, t_6), 0)))
theorem zke (s : z08) (o : z01) : Lq (z99 s o) (z36 s o) := by
 unfold z99 z36
 repeat' with_reducible first | exact z0i _ | apply z3p | apply z4t | apply zcp | apply zlh | apply zrh | apply z2g | apply z0k | apply z1b | apply z0u | apply z2f | apply z2e | (refine z0j (fun _ => ?_) (fun _ => ?_) <;> dsimp only) | (intro _; try dsimp only) | dsimp only
noncomputable def zxf  : Option ((List (List ByteArray))) :=
 let t : (List (List ByteArray)) := [[(bytes [97]), (bytes [98]), (bytes [99])], [(bytes [100])], []]
 some t
theorem ybf  : Lq (zxf ) (zvw ) := by
 unfold zxf zvw
 repeat' with_reducible first | exact z0i _ | apply z2g | apply z0k | apply z1b | apply z0u | apply z2f | apply z2e | (refine z0j (fun _ => ?_) (fun _ => ?_) <;> dsimp only) | (intro _; try dsimp only) | dsimp only
noncomputable def za1 (y : (List (List ByteArray))) : Option (Int × Int) :=
 (z0l (decide ((List.length y : Int) > 0)) 10).bind fun (t : Int) =>
 (z0l (decide ((List.length y : Int) ≤ 4)) 8).bind fun (t_1 : Int) =>
 (z3a [t, t_1]).bind fun (t_2 : Int) =>
 bif (t_2 != 0) then
 some (0, t_2)
 else
 (ze9 (S := Int × (List (ByteArray × Bool))) (R := ((List (ByteArray × Bool))) ⊕ (Int × Int)) (fun s =>
 let t_3 : Int := s.1
 let t_4 : (List (ByteArray × Bool)) := s.2
 bif decide (t_3 < (List.length y : Int)) then
 chk (decide ((0 : Int) ≤ t_3) && decide (t_3 < (List.length y : Int))) (
 bif decide ((List.length (lget [] y t_3) : Int) > 6) then
 Option.map Sum.inr (Option.map Sum.inr (
 some (t_3, 8)))
 else
 (ze9 (S := Int × (List (ByteArray × Bool))) (R := ((List (ByteArray × Bool))) ⊕ ((Int × (List (ByteArray × Bool))) ⊕ (((List (ByteArray × Bool))) ⊕ (Int × Int)))) (fun s_1 =>
 let t_5 : Int := s_1.1
 let t_6 : (List (ByteArray × Bool)) := s_1.2
 bif decide (t_5 < (List.length (lget [] y t_3) : Int)) then
 chk (decide ((0 : Int) ≤ t_5) && decide (t_5 < (List.length (lget [] y t_3) : Int))) (
 let name : ByteArray := lget ByteArray.empty (lget [] y t_3) t_5
 (z5x name).bind fun (t_7 : Bool) =>
 (z0l t_7 4).bind fun (t_8 : Int) =>
 (z0l (!(mget .str .bool t_6 name)) 5).bind fun (t_9 : Int) =>
 (z3a [t_8, t_9]).bind fun (t_10 : Int) =>
 bif (t_10 != 0) then
 Option.map Sum.inr (Option.map Sum.inr (
 Option.map Sum.inr (Option.map Sum.inr (
 some (t_3, t_10)))))
 else
 let t_11 : (List (ByteArray × Bool)) := mput .str .bool t_6 name true
 some (.inl (wi64 (t_5 + 1), t_11)))
 else
 some (.inr (.inl t_6))) (0, t_4)).bind fun j => match j with
 | .inl t_12 => (
 some (.inl (wi64 (t_3 + 1), t_12)))
 | .inr r => some r)
 else
 some (.inr (.inl t_4))) (0, [])).bind fun j => match j with
 | .inl t_13 => (
 (z0l (decide ((List.length t_13 : Int) ≤ 8)) 8).bind fun (t_14 : Int) =>
 some (0, t_14))
 | .inr r => some r
theorem zlg (y : (List (List ByteArray))) : Lq (za1 y) (z1r y) := by
 unfold za1 z1r
 repeat' with_reducible first | exact z0i _ | apply z8g | apply z3p | apply z4t | apply z2g | apply z0k | apply z1b | apply z0u | apply z2f | apply z2e | (refine z0j (fun _ => ?_) (fun _ => ?_) <;> dsimp only) | (intro _; try dsimp only) | dsimp only
noncomputable def z94 (x : List ByteArray) : Option (List ByteArray) := app [] x
theorem zka (x : List ByteArray) : Lq (z94 x) (slices_Clone_string x) := by
 unfold z94 slices_Clone_string
 repeat' with_reducible first | exact z0i _ | apply z2g | apply z0k | apply z1b | apply z0u | apply z2f | apply z2e | (refine z0j (fun _ => ?_) (fun _ => ?_) <;> dsimp only) | (intro _; try dsimp only) | dsimp only
noncomputable def z96 (y : (List (List ByteArray))) : Option ((List (List ByteArray))) :=
 (ze9 (S := (List (List ByteArray)) × Int) (R := (List (List ByteArray))) (fun s =>
 let out : (List (List ByteArray)) := s.1
 let t : Int := s.2
 bif decide (t < (List.length y : Int)) then
 chk (decide ((0 : Int) ≤ t) && decide (t < (List.length y : Int))) (
 (z94 (lget [] y t)).bind fun (t_1 : (List ByteArray)) =>
 (app out [t_1]).bind fun (t_2 : List (List ByteArray)) =>
 some (.inl (t_2, wi64 (t + 1))))
 else
 some (.inr out)) ([], 0)).bind fun (out_1 : (List (List ByteArray))) =>
 some out_1
theorem zkb (y : (List (List ByteArray))) : Lq (z96 y) (z35 y) := by
 unfold z96 z35
 repeat' with_reducible first | exact z0i _ | apply zka | apply z2g | apply z0k | apply z1b | apply z0u | apply z2f | apply z2e | (refine z0j (fun _ => ?_) (fun _ => ?_) <;> dsimp only) | (intro _; try dsimp only) | dsimp only
noncomputable def zax (y : (List (List ByteArray))) : Option ((List (List ByteArray)) × Int) :=
 (za1 y).bind fun (r : Int × Int) =>
 (z96 y).bind fun (t : (List (List ByteArray))) =>
 some (t, r.2)
theorem zn9 (y : (List (List ByteArray))) : Lq (zax y) (z3h y) := by
 unfold zax z3h
 repeat' with_reducible first | exact z0i _ | apply zlg | apply zkb | apply z2g | apply z0k | apply z1b | apply z0u | apply z2f | apply z2e | (refine z0j (fun _ => ?_) (fun _ => ?_) <;> dsimp only) | (intro _; try dsimp only) | dsimp only
noncomputable def z6v (s : (List (List ByteArray))) (f : ((List ByteArray) → Option Bool)) : Option (Int) :=
 (ze9 (S := Int) (R := (Unit) ⊕ (Int)) (fun t =>
 bif decide (t < (List.length s : Int)) then
 chk (decide ((0 : Int) ≤ t) && decide (t < (List.length s : Int))) (
 (f (lget [] s t)).bind fun (t_1 : Bool) =>
 bif t_1 then
 Option.map Sum.inr (Option.map Sum.inr (
 some t))
 else
 some (.inl (wi64 (t + 1))))
 else
 some (.inr (.inl ()))) 0).bind fun j => match j with
 | .inl _ => (
 some (-1))
 | .inr r => some r
theorem zgd (s : (List (List ByteArray))) {f f' : ((List ByteArray) → Option Bool)} (h_f : ∀ x, Lq (f x) (f' x)) : Lq (z6v s f) (z3b s f') := by
 unfold z6v z3b
 repeat' with_reducible first | exact z0i _ | exact h_f _ | apply z2g | apply z0k | apply z1b | apply z0u | apply z2f | apply z2e | (refine z0j (fun _ => ?_) (fun _ => ?_) <;> dsimp only) | (intro _; try dsimp only) | dsimp only
noncomputable def z5q (s : (List (List ByteArray))) (f : ((List ByteArray) → Option Bool)) : Option (Bool) :=
 (z6v s f).bind fun (t : Int) =>
 some (decide (t ≥ 0))
theorem zea (s : (List (List ByteArray))) {f f' : ((List ByteArray) → Option Bool)} (h_f : ∀ x, Lq (f x) (f' x)) : Lq (z5q s f) (z1s s f') := by
 unfold z5q z1s
 repeat' with_reducible first | exact z0i _ | exact h_f _ | apply zgd | apply z2g | apply z0k | apply z1b | apply z0u | apply z2f | apply z2e | (refine z0j (fun _ => ?_) (fun _ => ?_) <;> dsimp only) | (intro _; try dsimp only) | dsimp only
noncomputable def z56 (s : (List ByteArray)) (v : ByteArray) : Option (Int) :=
 (ze9 (S := Int) (R := (Unit) ⊕ (Int)) (fun t =>
 bif decide (t < (List.length s : Int)) then
 chk (decide ((0 : Int) ≤ t) && decide (t < (List.length s : Int))) (
 bif y5r v (lget ByteArray.empty s t) then
 Option.map Sum.inr (Option.map Sum.inr (
 some t))
 else
 some (.inl (wi64 (t + 1))))
 else
 some (.inr (.inl ()))) 0).bind fun j => match j with
 | .inl _ => (
 some (-1))
 | .inr r => some r
theorem zcm (s : (List ByteArray)) (v : ByteArray) : Lq (z56 s v) (slices_Index_string s v) := by
 unfold z56 slices_Index_string
 try simp only [zuo]
 repeat' with_reducible first | exact z0i _ | apply z2g | apply z0k | apply z1b | apply z0u | apply z2f | apply z2e | (refine z0j (fun _ => ?_) (fun _ => ?_) <;> dsimp only) | (intro _; try dsimp only) | dsimp only
noncomputable def z40 (s : (List ByteArray)) (v : ByteArray) : Option (Bool) :=
 (z56 s v).bind fun (t : Int) =>
 some (decide (t ≥ 0))
theorem z6u (s : (List ByteArray)) (v : ByteArray) : Lq (z40 s v) (slices_Contains_string s v) := by
 unfold z40 slices_Contains_string
 repeat' with_reducible first | exact z0i _ | apply zcm | apply z2g | apply z0k | apply z1b | apply z0u | apply z2f | apply z2e | (refine z0j (fun _ => ?_) (fun _ => ?_) <;> dsimp only) | (intro _; try dsimp only) | dsimp only
noncomputable def z7h (pile : (List ByteArray)) (x : ByteArray) : Option (Bool) :=
 (z40 pile x).bind fun (t : Bool) =>
 some t
theorem zhn (pile : (List ByteArray)) (x : ByteArray) : Lq (z7h pile x) (z2v pile x) := by
 unfold z7h z2v
 repeat' with_reducible first | exact z0i _ | apply z6u | apply z2g | apply z0k | apply z1b | apply z0u | apply z2f | apply z2e | (refine z0j (fun _ => ?_) (fun _ => ?_) <;> dsimp only) | (intro _; try dsimp only) | dsimp only
noncomputable def z8d (y : (List (List ByteArray))) (request : (List ByteArray)) : Option ((List (List ByteArray)) × Int) :=
 (zax y).bind fun (r : (List (List ByteArray)) × Int) =>
 bif (r.2 != 0) then
 some ([], r.2)
 else
 (ze9 (S := Int) (R := (Unit) ⊕ ((List (List ByteArray)) × Int)) (fun t =>
 bif decide (t < (List.length request : Int)) then
 chk (decide ((0 : Int) ≤ t) && decide (t < (List.length request : Int))) (
 let name : ByteArray := lget ByteArray.empty request t
 (z5q y (fun x => z7h x name)).bind fun (t_1 : Bool) =>
 (z0l (!(!t_1)) 6).bind fun (t_2 : Int) =>
 chk (decide ((0 : Int) ≤ 0) && decide ((0 : Int) ≤ t) && decide (t ≤ (List.length request : Int))) (
 (z40 (List.drop (Int.toNat 0) (List.take (Int.toNat t) request)) name).bind fun (t_3 : Bool) =>
 (z0l (!t_3) 23).bind fun (t_4 : Int) =>
 (z3a [t_2, t_4]).bind fun (t_5 : Int) =>
 bif (t_5 != 0) then
 Option.map Sum.inr (Option.map Sum.inr (
 some ([], t_5)))
 else
 some (.inl (wi64 (t + 1)))))
 else
 some (.inr (.inl ()))) 0).bind fun j => match j with
 | .inl _ => (
 some (r.1, 0))
 | .inr r => some r
theorem zjb (y : (List (List ByteArray))) (request : (List ByteArray)) : Lq (z8d y request) (z3n y request) := by
 unfold z8d z3n
 repeat' with_reducible first | exact z0i _ | apply z3p | apply z4t | apply zn9 | apply zea | apply z6u | apply zhn | apply z2g | apply z0k | apply z1b | apply z0u | apply z2f | apply z2e | (refine z0j (fun _ => ?_) (fun _ => ?_) <;> dsimp only) | (intro _; try dsimp only) | dsimp only
noncomputable def z5g (s : (List ByteArray)) (f : (ByteArray → Option Bool)) : Option (Int) :=
 (ze9 (S := Int) (R := (Unit) ⊕ (Int)) (fun t =>
 bif decide (t < (List.length s : Int)) then
 chk (decide ((0 : Int) ≤ t) && decide (t < (List.length s : Int))) (
 (f (lget ByteArray.empty s t)).bind fun (t_1 : Bool) =>
 bif t_1 then
 Option.map Sum.inr (Option.map Sum.inr (
 some t))
 else
 some (.inl (wi64 (t + 1))))
 else
 some (.inr (.inl ()))) 0).bind fun j => match j with
 | .inl _ => (
 some (-1))
 | .inr r => some r
theorem zdu (s : (List ByteArray)) {f f' : (ByteArray → Option Bool)} (h_f : ∀ x, Lq (f x) (f' x)) : Lq (z5g s f) (z2h s f') := by
 unfold z5g z2h
 repeat' with_reducible first | exact z0i _ | exact h_f _ | apply z2g | apply z0k | apply z1b | apply z0u | apply z2f | apply z2e | (refine z0j (fun _ => ?_) (fun _ => ?_) <;> dsimp only) | (intro _; try dsimp only) | dsimp only
noncomputable def z4i (s : (List ByteArray)) (f : (ByteArray → Option Bool)) : Option (Bool) :=
 (z5g s f).bind fun (t : Int) =>
 some (decide (t ≥ 0))
theorem zbq (s : (List ByteArray)) {f f' : (ByteArray → Option Bool)} (h_f : ∀ x, Lq (f x) (f' x)) : Lq (z4i s f) (z0x s f') := by
 unfold z4i z0x
 repeat' with_reducible first | exact z0i _ | exact h_f _ | apply zdu | apply z2g | apply z0k | apply z1b | apply z0u | apply z2f | apply z2e | (refine z0j (fun _ => ?_) (fun _ => ?_) <;> dsimp only) | (intro _; try dsimp only) | dsimp only
noncomputable def zeg (request : (List ByteArray)) (name : ByteArray) (than : ByteArray) : Option (Bool) :=
 (z56 request name).bind fun (t : Int) =>
 (bif decide (t < 0) then some true else
 (z56 request than).bind fun (t_1 : Int) =>
 some (decide (t > t_1))).bind fun (c : Bool) =>
 some c
theorem zri (request : (List ByteArray)) (name : ByteArray) (than : ByteArray) : Lq (zeg request name than) (z83 request name than) := by
 unfold zeg z83
 repeat' with_reducible first | exact z0i _ | apply zcm | apply z2g | apply z0k | apply z1b | apply z0u | apply z2f | apply z2e | (refine z0j (fun _ => ?_) (fun _ => ?_) <;> dsimp only) | (intro _; try dsimp only) | dsimp only
noncomputable def z6j (below : ByteArray) (x : (List ByteArray)) (x_1 : ByteArray) : Option (Bool) :=
 (z40 x below).bind fun (t : Bool) =>
 (bif t then
 (zeg x x_1 below).bind fun (t_1 : Bool) =>
 some t_1
 else some false).bind fun (c : Bool) =>
 some c
theorem zfv (below : ByteArray) (x : (List ByteArray)) (x_1 : ByteArray) : Lq (z6j below x x_1) (z1q below x x_1) := by
 unfold z6j z1q
 repeat' with_reducible first | exact z0i _ | apply z6u | apply zri | apply z2g | apply z0k | apply z1b | apply z0u | apply z2f | apply z2e | (refine z0j (fun _ => ?_) (fun _ => ?_) <;> dsimp only) | (intro _; try dsimp only) | dsimp only
noncomputable def z7g (y : (List (List ByteArray))) (request : (List ByteArray)) : Option ((List ByteArray)) :=
 (ze9 (S := (List ByteArray) × Int) (R := (List ByteArray)) (fun s =>
 let out : (List ByteArray) := s.1
 let t : Int := s.2
 bif decide (t < (List.length y : Int)) then
 chk (decide ((0 : Int) ≤ t) && decide (t < (List.length y : Int))) (
 (ze9 (S := (List ByteArray) × Int) (R := (List ByteArray)) (fun s_1 =>
 let out_1 : (List ByteArray) := s_1.1
 let t_1 : Int := s_1.2
 bif decide (t_1 < (List.length (lget [] y t) : Int)) then
 chk (decide ((0 : Int) ≤ t_1) && decide (t_1 < (List.length (lget [] y t) : Int))) (
 let name : ByteArray := lget ByteArray.empty (lget [] y t) t_1
 chk (decide ((0 : Int) ≤ 0) && decide ((0 : Int) ≤ t_1) && decide (t_1 ≤ (List.length (lget [] y t) : Int))) (
 (z4i (List.drop (Int.toNat 0) (List.take (Int.toNat t_1) (lget [] y t))) (fun x => z6j x request name)).bind fun (t_2 : Bool) =>
 (bif t_2 then
 (app out_1 [name]).bind fun (t_3 : List ByteArray) =>
 some t_3
 else
 some out_1).bind fun (out_2 : (List ByteArray)) =>
 some (.inl (out_2, wi64 (t_1 + 1)))))
 else
 some (.inr out_1)) (out, 0)).bind fun (out_3 : (List ByteArray)) =>
 some (.inl (out_3, wi64 (t + 1))))
 else
 some (.inr out)) ([], 0)).bind fun (out_4 : (List ByteArray)) =>
 some out_4
theorem zhm (y : (List (List ByteArray))) (request : (List ByteArray)) : Lq (z7g y request) (z2u y request) := by
 unfold z7g z2u
 repeat' with_reducible first | exact z0i _ | apply zbq | apply zfv | apply z2g | apply z0k | apply z1b | apply z0u | apply z2f | apply z2e | (refine z0j (fun _ => ?_) (fun _ => ?_) <;> dsimp only) | (intro _; try dsimp only) | dsimp only
noncomputable def za4 (y : (List (List ByteArray))) (request : (List ByteArray)) : Option ((List ByteArray) × Int) :=
 (z8d y request).bind fun (r : (List (List ByteArray)) × Int) =>
 bif (r.2 != 0) then
 some ([], r.2)
 else
 (z7g r.1 request).bind fun (t : (List ByteArray)) =>
 some (t, 0)
theorem zlj (y : (List (List ByteArray))) (request : (List ByteArray)) : Lq (za4 y request) (z3s y request) := by
 unfold za4 z3s
 repeat' with_reducible first | exact z0i _ | apply zjb | apply zhm | apply z2g | apply z0k | apply z1b | apply z0u | apply z2f | apply z2e | (refine z0j (fun _ => ?_) (fun _ => ?_) <;> dsimp only) | (intro _; try dsimp only) | dsimp only
noncomputable def zn0  : Option (z02) :=
 some (2, (100, (150, (1000, (2, (5000, (1, (0, 10))))))))
theorem y70  : Lq (zn0 ) (zmr ) := by
 unfold zn0 zmr
 repeat' with_reducible first | exact z0i _ | apply z2g | apply z0k | apply z1b | apply z0u | apply z2f | apply z2e | (refine z0j (fun _ => ?_) (fun _ => ?_) <;> dsimp only) | (intro _; try dsimp only) | dsimp only
noncomputable def zn1  : Option ((List z00)) :=
 let t : (List z00) := [(1200, (3000, (5, 1000))), (1100, (2500, (4, 1000))), (1050, (3400, (6, 2000)))]
 some t
theorem y71  : Lq (zn1 ) (zms ) := by
 unfold zn1 zms
 repeat' with_reducible first | exact z0i _ | apply z2g | apply z0k | apply z1b | apply z0u | apply z2f | apply z2e | (refine z0j (fun _ => ?_) (fun _ => ?_) <;> dsimp only) | (intro _; try dsimp only) | dsimp only
noncomputable def z42 (s : (List z00)) (f : (z00 → Option Bool)) : Option (Int) :=
 (ze9 (S := Int) (R := (Unit) ⊕ (Int)) (fun t =>
 bif decide (t < (List.length s : Int)) then
 chk (decide ((0 : Int) ≤ t) && decide (t < (List.length s : Int))) (
 (f (lget (0, (0, (0, 0))) s t)).bind fun (t_1 : Bool) =>
 bif t_1 then
 Option.map Sum.inr (Option.map Sum.inr (
 some t))
 else
 some (.inl (wi64 (t + 1))))
 else
 some (.inr (.inl ()))) 0).bind fun j => match j with
 | .inl _ => (
 some (-1))
 | .inr r => some r
theorem zaq (s : (List z00)) {f f' : (z00 → Option Bool)} (h_f : ∀ x, Lq (f x) (f' x)) : Lq (z42 s f) (z1u s f') := by
 unfold z42 z1u
 repeat' with_reducible first | exact z0i _ | exact h_f _ | apply z2g | apply z0k | apply z1b | apply z0u | apply z2f | apply z2e | (refine z0j (fun _ => ?_) (fun _ => ?_) <;> dsimp only) | (intro _; try dsimp only) | dsimp only
noncomputable def z3o (s : (List z00)) (f : (z00 → Option Bool)) : Option (Bool) :=
 (z42 s f).bind fun (t : Int) =>
 some (decide (t ≥ 0))
theorem z9c (s : (List z00)) {f f' : (z00 → Option Bool)} (h_f : ∀ x, Lq (f x) (f' x)) : Lq (z3o s f) (z14 s f') := by
 unfold z3o z14
 repeat' with_reducible first | exact z0i _ | exact h_f _ | apply zaq | apply z2g | apply z0k | apply z1b | apply z0u | apply z2f | apply z2e | (refine z0j (fun _ => ?_) (fun _ => ?_) <;> dsimp only) | (intro _; try dsimp only) | dsimp only
noncomputable def zda (x : z00) : Option (Bool) :=
 (z6r x.1).bind fun (t : Bool) =>
 (bif !t then some true else
 (z4n x.2.1).bind fun (t_1 : Bool) =>
 some (!t_1)).bind fun (c : Bool) =>
 (bif c then some true else
 (z6s x.2.2.1).bind fun (t_2 : Bool) =>
 some (!t_2)).bind fun (c_1 : Bool) =>
 (bif c_1 then some true else
 (z10 x.2.2.2 1 10000).bind fun (t_3 : Bool) =>
 some (!t_3)).bind fun (c_2 : Bool) =>
 some c_2
theorem zpt (x : z00) : Lq (zda x) (z7e x) := by
 unfold zda z7e
 repeat' with_reducible first | exact z0i _ | apply z24 | apply zas | apply z7r | apply zar | apply z2g | apply z0k | apply z1b | apply z0u | apply z2f | apply z2e | (refine z0j (fun _ => ?_) (fun _ => ?_) <;> dsimp only) | (intro _; try dsimp only) | dsimp only
noncomputable def z8a (s : (List Int)) (f : (Int → Option Bool)) : Option (Int) :=
 (ze9 (S := Int) (R := (Unit) ⊕ (Int)) (fun t =>
 bif decide (t < (List.length s : Int)) then
 chk (decide ((0 : Int) ≤ t) && decide (t < (List.length s : Int))) (
 (f (lget 0 s t)).bind fun (t_1 : Bool) =>
 bif t_1 then
 Option.map Sum.inr (Option.map Sum.inr (
 some t))
 else
 some (.inl (wi64 (t + 1))))
 else
 some (.inr (.inl ()))) 0).bind fun j => match j with
 | .inl _ => (
 some (-1))
 | .inr r => some r
theorem zj8 (s : (List Int)) {f f' : (Int → Option Bool)} (h_f : ∀ x, Lq (f x) (f' x)) : Lq (z8a s f) (z3l s f') := by
 unfold z8a z3l
 repeat' with_reducible first | exact z0i _ | exact h_f _ | apply z2g | apply z0k | apply z1b | apply z0u | apply z2f | apply z2e | (refine z0j (fun _ => ?_) (fun _ => ?_) <;> dsimp only) | (intro _; try dsimp only) | dsimp only
noncomputable def z52 (s : (List Int)) (f : (Int → Option Bool)) : Option (Bool) :=
 (z8a s f).bind fun (t : Int) =>
 some (decide (t ≥ 0))
theorem z9p (s : (List Int)) {f f' : (Int → Option Bool)} (h_f : ∀ x, Lq (f x) (f' x)) : Lq (z52 s f) (z26 s f') := by
 unfold z52 z26
 repeat' with_reducible first | exact z0i _ | exact h_f _ | apply zj8 | apply z2g | apply z0k | apply z1b | apply z0u | apply z2f | apply z2e | (refine z0j (fun _ => ?_) (fun _ => ?_) <;> dsimp only) | (intro _; try dsimp only) | dsimp only
noncomputable def z6x (n : Int) (x : Int) : Option (Bool) :=
 (z10 n 0 x).bind fun (t : Bool) =>
 some (!t)
theorem zgf (n : Int) (x : Int) : Lq (z6x n x) (z3i n x) := by
 unfold z6x z3i
 repeat' with_reducible first | exact z0i _ | apply z24 | apply z2g | apply z0k | apply z1b | apply z0u | apply z2f | apply z2e | (refine z0j (fun _ => ?_) (fun _ => ?_) <;> dsimp only) | (intro _; try dsimp only) | dsimp only
noncomputable def z2n (most : Int) (l : (List Int)) : Option (Bool) :=
 (z52 l (fun x => z6x x most)).bind fun (t : Bool) =>
 some (!t)
theorem zib (most : Int) (l : (List Int)) : Lq (z2n most l) (z1o most l) := by
 unfold z2n z1o
 repeat' with_reducible first | exact z0i _ | apply z9p | apply zgf | apply z2g | apply z0k | apply z1b | apply z0u | apply z2f | apply z2e | (refine z0j (fun _ => ?_) (fun _ => ?_) <;> dsimp only) | (intro _; try dsimp only) | dsimp only
noncomputable def z9a (r : z02) : Option (Int) :=
 (z2n 7 [r.1]).bind fun (t : Bool) =>
 (bif t then
 (z2n 300000 [r.2.1, r.2.2.1, r.2.2.2.1]).bind fun (t_1 : Bool) =>
 some t_1
 else some false).bind fun (c : Bool) =>
 (bif c then
 (z2n 99 [r.2.2.2.2.1]).bind fun (t_2 : Bool) =>
 some t_2
 else some false).bind fun (c_1 : Bool) =>
 (bif c_1 then
 (z2n 70000 [r.2.2.2.2.2.1]).bind fun (t_3 : Bool) =>
 some t_3
 else some false).bind fun (c_2 : Bool) =>
 (bif c_2 then
 (z2n 10000 [r.2.2.2.2.2.2.1, r.2.2.2.2.2.2.2.1, r.2.2.2.2.2.2.2.2]).bind fun (t_4 : Bool) =>
 some t_4
 else some false).bind fun (c_3 : Bool) =>
 (z0l c_3 2).bind fun (t_5 : Int) =>
 some t_5
theorem zkf (r : z02) : Lq (z9a r) (z3x r) := by
 unfold z9a z3x
 repeat' with_reducible first | exact z0i _ | apply z3p | apply zib | apply z2g | apply z0k | apply z1b | apply z0u | apply z2f | apply z2e | (refine z0j (fun _ => ?_) (fun _ => ?_) <;> dsimp only) | (intro _; try dsimp only) | dsimp only
noncomputable def zca (r : z02) (l : (List z00)) : Option (z05 × Int) :=
 (z3o l (fun x => zda x)).bind fun (t : Bool) =>
 (z9a r).bind fun (t_1 : Int) =>
 (z0l (decide ((List.length l : Int) > 0)) 10).bind fun (t_2 : Int) =>
 (z0l (decide ((List.length l : Int) ≤ 7)) 8).bind fun (t_3 : Int) =>
 (z0l (!t) 2).bind fun (t_4 : Int) =>
 (z3a [t_1, t_2, t_3, t_4]).bind fun (t_5 : Int) =>
 some ((r, l), t_5)
theorem zjz (r : z02) (l : (List z00)) : Lq (zca r l) (z5p r l) := by
 unfold zca z5p
 repeat' with_reducible first | exact z0i _ | apply z3p | apply z4t | apply z9c | apply zpt | apply zkf | apply z2g | apply z0k | apply z1b | apply z0u | apply z2f | apply z2e | (refine z0j (fun _ => ?_) (fun _ => ?_) <;> dsimp only) | (intro _; try dsimp only) | dsimp only
noncomputable def zcb (count : Int) : Option ((List Int)) :=
 (ze9 (S := (List Int) × Int) (R := (List Int)) (fun s =>
 let out : (List Int) := s.1
 let t : Int := s.2
 bif decide (t < count) then
 (app out [t]).bind fun (t_1 : List Int) =>
 some (.inl (t_1, wi64 (t + 1)))
 else
 some (.inr out)) ([], 0)).bind fun (out_1 : (List Int)) =>
 some out_1
theorem zoe (count : Int) : Lq (zcb count) (z4f count) := by
 unfold zcb z4f
 repeat' with_reducible first | exact z0i _ | apply z2g | apply z0k | apply z1b | apply z0u | apply z2f | apply z2e | (refine z0j (fun _ => ?_) (fun _ => ?_) <;> dsimp only) | (intro _; try dsimp only) | dsimp only
noncomputable def z6d (n : Int) : Option (Int) :=
 let t : Int := imax n (wi64 (0 - n))
 some t
theorem zjy (n : Int) : Lq (z6d n) (z4z n) := by
 unfold z6d z4z
 repeat' with_reducible first | exact z0i _ | apply z2g | apply z0k | apply z1b | apply z0u | apply z2f | apply z2e | (refine z0j (fun _ => ?_) (fun _ => ?_) <;> dsimp only) | (intro _; try dsimp only) | dsimp only
noncomputable def z6w (r : z05) (sequence : (List Int)) (p : Int) : Option ((Nat → Bool)) :=
 chk (decide ((0 : Int) ≤ 0) && decide ((0 : Int) ≤ (wi64 (p + 1))) && decide ((wi64 (p + 1)) ≤ (List.length sequence : Int))) (
 (ze9 (S := Int × Int) (R := Int) (fun s =>
 let metres : Int := s.1
 let t : Int := s.2
 bif decide (t < (List.length (List.drop (Int.toNat 0) (List.take (Int.toNat (wi64 (p + 1))) sequence)) : Int)) then
 chk (decide ((0 : Int) ≤ t) && decide (t < (List.length (List.drop (Int.toNat 0) (List.take (Int.toNat (wi64 (p + 1))) sequence)) : Int))) (
 let i : Int := lget 0 (List.drop (Int.toNat 0) (List.take (Int.toNat (wi64 (p + 1))) sequence)) t
 chk (decide ((0 : Int) ≤ i) && decide (i < (List.length r.2 : Int))) (
 let metres_1 : Int := wi64 (metres + ((((lget (0, (0, (0, 0))) r.2 i).2).2).2))
 some (.inl (metres_1, wi64 (t + 1)))))
 else
 some (.inr metres)) (0, 0)).bind fun (metres_2 : Int) =>
 chk (decide ((0 : Int) ≤ 0) && decide ((0 : Int) < 5)) (
 let out : (Nat → Bool) := aset (fun _ => false) 0 (decide (metres_2 > r.1.2.2.2.2.2.1))
 bif (p == 0) then
 some out
 else
 chk (decide ((0 : Int) ≤ p) && decide (p < (List.length sequence : Int))) (
 chk (decide ((0 : Int) ≤ (lget 0 sequence p)) && decide ((lget 0 sequence p) < (List.length r.2 : Int))) (
 chk (decide ((0 : Int) ≤ (wi64 (p - 1))) && decide ((wi64 (p - 1)) < (List.length sequence : Int))) (
 chk (decide ((0 : Int) ≤ (lget 0 sequence (wi64 (p - 1)))) && decide ((lget 0 sequence (wi64 (p - 1))) < (List.length r.2 : Int))) (
 let x : z00 := lget (0, (0, (0, 0))) r.2 (lget 0 sequence p)
 let y : z00 := lget (0, (0, (0, 0))) r.2 (lget 0 sequence (wi64 (p - 1)))
 (bif decide (p < r.1.1) then
 chk (decide ((0 : Int) ≤ 1) && decide ((1 : Int) < 5)) (
 let out_1 : (Nat → Bool) := aset out 1 (decide ((wi64 (x.1 - y.1)) < 0))
 some out_1)
 else
 chk (decide ((0 : Int) ≤ 1) && decide ((1 : Int) < 5)) (
 let out_2 : (Nat → Bool) := aset out 1 (decide ((wi64 (x.1 - y.1)) > 0))
 some out_2)).bind fun (out_3 : (Nat → Bool)) =>
 (z10 (wi64 (x.1 - y.1)) (wi64 (0 - r.1.2.2.1)) r.1.2.1).bind fun (t_1 : Bool) =>
 chk (decide ((0 : Int) ≤ 2) && decide ((2 : Int) < 5)) (
 let out_4 : (Nat → Bool) := aset out_3 2 (!t_1)
 (z6d (wi64 (x.2.1 - y.2.1))).bind fun (t_2 : Int) =>
 chk (decide ((0 : Int) ≤ 3) && decide ((3 : Int) < 5)) (
 let out_5 : (Nat → Bool) := aset out_4 3 (decide (t_2 > r.1.2.2.2.1))
 (z6d (wi64 (x.2.2.1 - y.2.2.1))).bind fun (t_3 : Int) =>
 chk (decide ((0 : Int) ≤ 4) && decide ((4 : Int) < 5)) (
 let out_6 : (Nat → Bool) := aset out_5 4 (decide (t_3 > r.1.2.2.2.2.1))
 some out_6)))))))))
theorem zge (r : z05) (sequence : (List Int)) (p : Int) : Lq (z6w r sequence p) (z1w r sequence p) := by
 unfold z6w z1w
 repeat' with_reducible first | exact z0i _ | apply z24 | apply zjy | apply z2g | apply z0k | apply z1b | apply z0u | apply z2f | apply z2e | (refine z0j (fun _ => ?_) (fun _ => ?_) <;> dsimp only) | (intro _; try dsimp only) | dsimp only
noncomputable def zaw (s : (List Bool)) (v : Bool) : Option (Int) :=
 (ze9 (S := Int) (R := (Unit) ⊕ (Int)) (fun t =>
 bif decide (t < (List.length s : Int)) then
 chk (decide ((0 : Int) ≤ t) && decide (t < (List.length s : Int))) (
 bif (v == (lget false s t)) then
 Option.map Sum.inr (Option.map Sum.inr (
 some t))
 else
 some (.inl (wi64 (t + 1))))
 else
 some (.inr (.inl ()))) 0).bind fun j => match j with
 | .inl _ => (
 some (-1))
 | .inr r => some r
theorem zn8 (s : (List Bool)) (v : Bool) : Lq (zaw s v) (z5t s v) := by
 unfold zaw z5t
 repeat' with_reducible first | exact z0i _ | apply z2g | apply z0k | apply z1b | apply z0u | apply z2f | apply z2e | (refine z0j (fun _ => ?_) (fun _ => ?_) <;> dsimp only) | (intro _; try dsimp only) | dsimp only
noncomputable def z8b (s : (List Bool)) (v : Bool) : Option (Bool) :=
 (zaw s v).bind fun (t : Int) =>
 some (decide (t ≥ 0))
theorem zj9 (s : (List Bool)) (v : Bool) : Lq (z8b s v) (z2s s v) := by
 unfold z8b z2s
 repeat' with_reducible first | exact z0i _ | apply zn8 | apply z2g | apply z0k | apply z1b | apply z0u | apply z2f | apply z2e | (refine z0j (fun _ => ?_) (fun _ => ?_) <;> dsimp only) | (intro _; try dsimp only) | dsimp only
noncomputable def zs4 (r : z05) (begun : List Int) : Option Bool :=
 bif decide ((begun.length : Int) > 0) then (z6w r begun (wi64 ((begun.length : Int) - 1))).bind fun v => z8b ((List.range 5).map v) true else some false
theorem zvv (r : z05) (begun : List Int) : Lq (zs4 r begun) (zf7 r begun) := z0u (z0k (zge _ _ _) fun _ => zj9 _ _) (z0i _)
noncomputable def zc9 (s : (List Int)) (v : Int) : Option (Int) :=
 (ze9 (S := Int) (R := (Unit) ⊕ (Int)) (fun t =>
 bif decide (t < (List.length s : Int)) then
 chk (decide ((0 : Int) ≤ t) && decide (t < (List.length s : Int))) (
 bif (v == (lget 0 s t)) then
 Option.map Sum.inr (Option.map Sum.inr (
 some t))
 else
 some (.inl (wi64 (t + 1))))
 else
 some (.inr (.inl ()))) 0).bind fun j => match j with
 | .inl _ => (
 some (-1))
 | .inr r => some r
theorem zoc (s : (List Int)) (v : Int) : Lq (zc9 s v) (slices_Index_int s v) := by
 unfold zc9 slices_Index_int
 repeat' with_reducible first | exact z0i _ | apply z2g | apply z0k | apply z1b | apply z0u | apply z2f | apply z2e | (refine z0j (fun _ => ?_) (fun _ => ?_) <;> dsimp only) | (intro _; try dsimp only) | dsimp only
noncomputable def z6p (s : (List Int)) (v : Int) : Option (Bool) :=
 (zc9 s v).bind fun (t : Int) =>
 some (decide (t ≥ 0))
theorem zcn (s : (List Int)) (v : Int) : Lq (z6p s v) (slices_Contains_int s v) := by
 unfold z6p slices_Contains_int
 repeat' with_reducible first | exact z0i _ | apply zoc | apply z2g | apply z0k | apply z1b | apply z0u | apply z2f | apply z2e | (refine z0j (fun _ => ?_) (fun _ => ?_) <;> dsimp only) | (intro _; try dsimp only) | dsimp only
theorem yez {α β : Type} {f g : α → Option (List β)} (h : ∀ a, Lq (f a) (g a)) : ∀ l, Lq (catM f l) (catM g l)
 | [] => z0i _
 | a :: l => z0k (h a) fun _ => z0k (yez h l) fun _ => z0i _
noncomputable def zxg (r : z05) (items : List Int) : Nat → List Int → Option (List (List Int))
 | 0, begun => (zs4 r begun).bind fun bad => bif bad then some [] else bif ((begun.length : Int) == (items.length : Int)) then some [begun] else none
 | m + 1, begun => (zs4 r begun).bind fun bad => bif bad then some [] else bif ((begun.length : Int) == (items.length : Int)) then some [begun] else catM (fun i => (z6p begun i).bind fun t => bif t then some [] else zxg r items m (begun ++ [i])) items
theorem y9g (r : z05) (items : List Int) : ∀ (m : Nat) (begun : List Int), Lq (zxg r items m begun) (zwx r items m begun)
 | 0, begun => by
  unfold zxg zwx
  exact z0k (zvv _ _) fun _ => z0u (z0i _) (z0u (z0i _) (z0i _))
 | m + 1, begun => by
  unfold zxg zwx
  exact z0k (zvv _ _) fun _ => z0u (z0i _) (z0u (z0i _) (yez (fun i => z0k (zcn _ _) fun _ => z0u (z0i _) (y9g r items m _)) _))
noncomputable def z9v (r : z05) (items : List Int) : Option (List (List Int)) := bif decide (items.length ≤ 1000) then zxg r items (items.length + 1) [] else none
theorem zfw (r : z05) (items : List Int) : Lq (z9v r items) (z25 r items) := z0u (y9g _ _ _ _) (z0i _)
noncomputable def z6q (r : z05) (a : Int) (b : Int) : Option (Int) :=
 chk (decide ((0 : Int) ≤ a) && decide (a < (List.length r.2 : Int))) (
 chk (decide ((0 : Int) ≤ b) && decide (b < (List.length r.2 : Int))) (
 let x : z00 := lget (0, (0, (0, 0))) r.2 a
 let y : z00 := lget (0, (0, (0, 0))) r.2 b
 (z6d (wi64 (x.1 - y.1))).bind fun (t : Int) =>
 (z6d (wi64 (x.2.1 - y.2.1))).bind fun (t_1 : Int) =>
 (z6d (wi64 (x.2.2.1 - y.2.2.1))).bind fun (t_2 : Int) =>
 let t_3 : Int := wi64 ((wi64 ((wi64 (r.1.2.2.2.2.2.2.1 * t)) + (wi64 (r.1.2.2.2.2.2.2.2.1 * t_1)))) + (wi64 (r.1.2.2.2.2.2.2.2.2 * t_2)))
 some t_3))
theorem zco (r : z05) (a : Int) (b : Int) : Lq (z6q r a b) (z2m r a b) := by
 unfold z6q z2m
 repeat' with_reducible first | exact z0i _ | apply zjy | apply z2g | apply z0k | apply z1b | apply z0u | apply z2f | apply z2e | (refine z0j (fun _ => ?_) (fun _ => ?_) <;> dsimp only) | (intro _; try dsimp only) | dsimp only
noncomputable def z8c (r : z05) (sequence : (List Int)) : Option (Int) :=
 (ze9 (S := Int × Int) (R := Int) (fun s =>
 let sum : Int := s.1
 let p : Int := s.2
 bif decide (p < (List.length sequence : Int)) then
 chk (decide ((0 : Int) ≤ (wi64 (p - 1))) && decide ((wi64 (p - 1)) < (List.length sequence : Int))) (
 chk (decide ((0 : Int) ≤ p) && decide (p < (List.length sequence : Int))) (
 (z6q r (lget 0 sequence (wi64 (p - 1))) (lget 0 sequence p)).bind fun (t : Int) =>
 some (.inl (wi64 (sum + t), wi64 (p + 1)))))
 else
 some (.inr sum)) (0, 1)).bind fun (sum_1 : Int) =>
 some sum_1
theorem zja (r : z05) (sequence : (List Int)) : Lq (z8c r sequence) (z1k r sequence) := by
 unfold z8c z1k
 repeat' with_reducible first | exact z0i _ | apply zco | apply z2g | apply z0k | apply z1b | apply z0u | apply z2f | apply z2e | (refine z0j (fun _ => ?_) (fun _ => ?_) <;> dsimp only) | (intro _; try dsimp only) | dsimp only
noncomputable def yhc (x : z05) (s : List Int) (b : Option (List Int × Int)) : Option (Option (List Int × Int)) :=
 (z8c x s).bind fun n => match b with
  | none => some (some (s, n))
  | some c => chk (!c.1.isEmpty) (bif decide (n < c.2) then some (some (s, n)) else some (some c))
theorem yj2 (x : z05) (s : List Int) (b : Option (List Int × Int)) : Lq (yhc x s b) (y55 x s b) := z0k (zja _ _) fun _ => z0i _
noncomputable def y80 (x : z05) : List (List Int) → Option (List Int × Int) → Option (Option (List Int × Int))
 | [], b => some b
 | s :: cs, b => (yhc x s b).bind fun d => y80 x cs d
theorem y9h (x : z05) : ∀ (cs : List (List Int)) (b : Option (List Int × Int)), Lq (y80 x cs b) (y56 x cs b)
 | [], _ => z0i _
 | s :: cs, b => z0k (yj2 _ _ _) fun d => y9h x cs d
noncomputable def zgb (r : z02) (l : List z00) : Option (List Int × Int × Int) :=
 (zca r l).bind fun x => bif x.2 != 0 then some ([], 0, x.2) else
 (zcb (l.length : Int)).bind fun ns => (z9v x.1 ns).bind fun cs => (y80 x.1 cs none).bind fun b => match b with
 | none => some ([], 0, 12)
 | some c => chk (!c.1.isEmpty) (some (c.1, c.2, 0))
theorem zna (r : z02) (l : List z00) : Lq (zgb r l) (z4u r l) :=
 z0k (zjz _ _) fun _ => z0u (z0i _) (z0k (zoe _) fun _ => z0k (zfw _ _) fun _ => z0k (y9h _ _ _) fun _ => z0i _)
noncomputable def za3 (n : Int) : Option (Bool) :=
 (z10 n (-10000) 10000).bind fun (t : Bool) =>
 some (!t)
theorem zli (n : Int) : Lq (za3 n) (z5a n) := by
 unfold za3 z5a
 repeat' with_reducible first | exact z0i _ | apply z24 | apply z2g | apply z0k | apply z1b | apply z0u | apply z2f | apply z2e | (refine z0j (fun _ => ?_) (fun _ => ?_) <;> dsimp only) | (intro _; try dsimp only) | dsimp only
noncomputable def zau (x : List Int) : Option (List Int) := bif decide (x.length ≤ 1000000) then some x else none
theorem zn6 (x : List Int) : Lq (zau x) (z4o x) := by
 unfold zau z4o
 repeat' with_reducible first | exact z0i _ | apply z2g | apply z0k | apply z1b | apply z0u | apply z2f | apply z2e | (refine z0j (fun _ => ?_) (fun _ => ?_) <;> dsimp only) | (intro _; try dsimp only) | dsimp only
theorem zxn : z3y [0, 20, 0] = some [0, 0, 20] := by
 unfold z3y
 have h : ([0, 20, 0] : List Int).mergeSort (fun a b => decide (a ≤ b)) = [0, 0, 20] := by
  simp [List.mergeSort, List.MergeSort.Internal.splitInTwo, List.merge]
 rw [h]; rfl
def zav (x : List Int) : Option (List Int) := if x = [0, 20, 0] then some [0, 0, 20] else none
theorem zn7 (x : List Int) : Lq (zav x) (z3y x) := by
 intro v hv
 unfold zav at hv
 split at hv
 ·rename_i h
  subst h
  cases hv
  exact zxn
 ·cases hv
noncomputable def z97 (r : z05) (prices : (List Int)) : Option (Int) :=
 (ze9 (S := (List Int) × Int) (R := Int) (fun s =>
 let in_ : (List Int) := s.1
 let sum : Int := s.2
 bif decide ((List.length in_ : Int) < (List.length r.2 : Int)) then
 (ze9 (S := Int × Int × Int) (R := Int × Int) (fun s_1 =>
 let next : Int := s_1.1
 let least : Int := s_1.2.1
 let t : Int := s_1.2.2
 bif decide (t < (List.length in_ : Int)) then
 chk (decide ((0 : Int) ≤ t) && decide (t < (List.length in_ : Int))) (
 (ze9 (S := Int × Int × Int) (R := Int × Int) (fun s_2 =>
 let next_1 : Int := s_2.1
 let least_1 : Int := s_2.2.1
 let t_1 : Int := s_2.2.2
 bif decide (t_1 < (List.length r.2 : Int)) then
 (z6q r (lget 0 in_ t) t_1).bind fun (t_2 : Int) =>
 chk (decide ((0 : Int) ≤ (lget 0 in_ t)) && decide ((lget 0 in_ t) < (List.length prices : Int))) (
 chk (decide ((0 : Int) ≤ t_1) && decide (t_1 < (List.length prices : Int))) (
 let n : Int := wi64 ((wi64 (t_2 - (lget 0 prices (lget 0 in_ t)))) - (lget 0 prices t_1))
 (z6p in_ t_1).bind fun (t_3 : Bool) =>
 (bif ((!t_3) && ((decide (next_1 < 0)) || (decide (n < least_1)))) then
 some (t_1, n)
 else
 some (next_1, least_1)).bind fun (j : Int × Int) =>
 let next_2 : Int := j.1
 let least_2 : Int := j.2
 some (.inl (next_2, least_2, wi64 (t_1 + 1)))))
 else
 some (.inr (next_1, least_1))) (next, least, 0)).bind fun (b : Int × Int) =>
 let next_3 : Int := b.1
 let least_3 : Int := b.2
 some (.inl (next_3, least_3, wi64 (t + 1))))
 else
 some (.inr (next, least))) ((-1), 0, 0)).bind fun (b_1 : Int × Int) =>
 let next_4 : Int := b_1.1
 let least_4 : Int := b_1.2
 (app in_ [next_4]).bind fun (t_4 : List Int) =>
 let sum_1 : Int := wi64 (sum + least_4)
 some (.inl (t_4, sum_1))
 else
 some (.inr sum)) ([0], 0)).bind fun (sum_2 : Int) =>
 some sum_2
theorem zkc (r : z05) (prices : (List Int)) : Lq (z97 r prices) (z3w r prices) := by
 unfold z97 z3w
 repeat' with_reducible first | exact z0i _ | apply zcn | apply zco | apply z2g | apply z0k | apply z1b | apply z0u | apply z2f | apply z2e | (refine z0j (fun _ => ?_) (fun _ => ?_) <;> dsimp only) | (intro _; try dsimp only) | dsimp only
noncomputable def zcc (r : z02) (l : (List z00)) (prices : (List Int)) : Option (Int × Int) :=
 (zca r l).bind fun (r_1 : z05 × Int) =>
 (z52 prices (fun x => za3 x)).bind fun (t : Bool) =>
 (z0l ((List.length prices : Int) == (List.length l : Int)) 10).bind fun (t_1 : Int) =>
 (z0l (!t) 2).bind fun (t_2 : Int) =>
 (z3a [r_1.2, t_1, t_2]).bind fun (t_3 : Int) =>
 bif (t_3 != 0) then
 some (0, t_3)
 else
 bif ((List.length l : Int) == 1) then
 some (0, 0)
 else
 (ze9 (S := Int × Int) (R := Int) (fun s =>
 let sum : Int := s.1
 let t_4 : Int := s.2
 bif decide (t_4 < (List.length prices : Int)) then
 chk (decide ((0 : Int) ≤ t_4) && decide (t_4 < (List.length prices : Int))) (
 let sum_1 : Int := wi64 (sum + (wi64 (2 * (lget 0 prices t_4))))
 some (.inl (sum_1, wi64 (t_4 + 1))))
 else
 some (.inr sum)) (0, 0)).bind fun (sum_2 : Int) =>
 (zau prices).bind fun (t_5 : (List Int)) =>
 (zav t_5).bind fun (t_6 : (List Int)) =>
 chk (decide ((0 : Int) ≤ (wi64 ((List.length t_6 : Int) - 2))) && decide (((wi64 ((List.length t_6 : Int) - 2)) : Int) ≤ (List.length t_6 : Int)) && decide ((List.length t_6 : Int) ≤ (List.length t_6 : Int))) (
 let top : (List Int) := List.drop (Int.toNat (wi64 ((List.length t_6 : Int) - 2))) (List.take (Int.toNat (List.length t_6 : Int)) t_6)
 (z97 r_1.1 prices).bind fun (t_7 : Int) =>
 chk (decide ((0 : Int) ≤ 0) && decide (0 < (List.length top : Int))) (
 chk (decide ((0 : Int) ≤ 1) && decide (1 < (List.length top : Int))) (
 let t_8 : Int := wi64 ((wi64 ((wi64 (t_7 + sum_2)) - (lget 0 top 0))) - (lget 0 top 1))
 some (t_8, 0))))
theorem zof (r : z02) (l : (List z00)) (prices : (List Int)) : Lq (zcc r l prices) (z5e r l prices) := by
 unfold zcc z5e
 repeat' with_reducible first | exact z0i _ | apply z3p | apply z4t | apply z9p | apply zjz | apply zli | apply zn6 | apply zn7 | apply zkc | apply z2g | apply z0k | apply z1b | apply z0u | apply z2f | apply z2e | (refine z0j (fun _ => ?_) (fun _ => ?_) <;> dsimp only) | (intro _; try dsimp only) | dsimp only
noncomputable def zs5 (a : (List ByteArray)) (b : (List ByteArray)) : Option (Bool) :=
 bif ((List.length a : Int) != (List.length b : Int)) then
 some false
 else
 (ze9 (S := Int) (R := (Unit) ⊕ (Bool)) (fun i =>
 bif decide (i < (List.length a : Int)) then
 chk (decide ((0 : Int) ≤ i) && decide (i < (List.length a : Int))) (
 chk (decide ((0 : Int) ≤ i) && decide (i < (List.length b : Int))) (
 bif !y5r (lget ByteArray.empty a i) (lget ByteArray.empty b i) then
 Option.map Sum.inr (Option.map Sum.inr (
 some false))
 else
 some (.inl (wi64 (i + 1)))))
 else
 some (.inr (.inl ()))) 0).bind fun j => match j with
 | .inl _ => (
 some true)
 | .inr r => some r
theorem y72 (a : (List ByteArray)) (b : (List ByteArray)) : Lq (zs5 a b) (zf8 a b) := by
 unfold zs5 zf8
 try simp only [zuo]
 repeat' with_reducible first | exact z0i _ | apply z2g | apply z0k | apply z1b | apply z0u | apply z2f | apply z2e | (refine z0j (fun _ => ?_) (fun _ => ?_) <;> dsimp only) | (intro _; try dsimp only) | dsimp only
noncomputable def zxh (a : (List Int)) (b : (List Int)) : Option (Bool) :=
 bif ((List.length a : Int) != (List.length b : Int)) then
 some false
 else
 (ze9 (S := Int) (R := (Unit) ⊕ (Bool)) (fun i =>
 bif decide (i < (List.length a : Int)) then
 chk (decide ((0 : Int) ≤ i) && decide (i < (List.length a : Int))) (
 chk (decide ((0 : Int) ≤ i) && decide (i < (List.length b : Int))) (
 bif ((lget 0 a i) != (lget 0 b i)) then
 Option.map Sum.inr (Option.map Sum.inr (
 some false))
 else
 some (.inl (wi64 (i + 1)))))
 else
 some (.inr (.inl ()))) 0).bind fun j => match j with
 | .inl _ => (
 some true)
 | .inr r => some r
theorem ybg (a : (List Int)) (b : (List Int)) : Lq (zxh a b) (zhv a b) := by
 unfold zxh zhv
 repeat' with_reducible first | exact z0i _ | apply z2g | apply z0k | apply z1b | apply z0u | apply z2f | apply z2e | (refine z0j (fun _ => ?_) (fun _ => ?_) <;> dsimp only) | (intro _; try dsimp only) | dsimp only
noncomputable def y04  : Option (Bool) :=
 (z98 (bytes [97, 45, 49, 32, 119, 105, 100, 116, 104, 32, 49, 50, 48, 48, 32, 109, 109, 32, 116, 104, 105, 99, 107, 110, 101, 115, 115, 32, 51, 32, 109, 109, 32, 103, 114, 97, 100, 101, 32, 53, 32, 116, 111, 108, 101, 114, 97, 110, 99, 101, 32, 53, 48, 32, 117, 109, 32, 100, 117, 101, 32, 49, 50])).bind fun (r : z01 × Int × Int) =>
 (z99 ((bytes [115]), (5, (200000, (1250, 8000)))) r.1).bind fun (r_1 : z2r × Int) =>
 (zxf).bind fun (t : (List (List ByteArray))) =>
 (za4 t [(bytes [97]), (bytes [99])]).bind fun (r_2 : (List ByteArray) × Int) =>
 (zn0).bind fun (t_1 : z02) =>
 (zn1).bind fun (t_2 : (List z00)) =>
 (zgb t_1 t_2).bind fun (r_3 : (List Int) × Int × Int) =>
 (zn0).bind fun (t_3 : z02) =>
 (zn1).bind fun (t_4 : (List z00)) =>
 (zcc t_3 t_4 [0, 20, 0]).bind fun (r_4 : Int × Int) =>
 (bif ((r.2.2 == 0) && (r_1.2 == 0)) then
 some (Ty.eqb z0q r_1.1 (546448, 564972))
 else some false).bind fun (c : Bool) =>
 (bif (c && (r_2.2 == 0)) then
 (zs5 r_2.1 [(bytes [98]), (bytes [99])]).bind fun (t_5 : Bool) =>
 some t_5
 else some false).bind fun (c_1 : Bool) =>
 (bif (c_1 && (r_3.2.2 == 0)) then
 (zxh r_3.1 [1, 0, 2]).bind fun (t_6 : Bool) =>
 some t_6
 else some false).bind fun (c_2 : Bool) =>
 let t_7 : Bool := (((c_2 && (r_3.2.1 == 270)) && (r_4.2 == 0)) && (r_4.1 == 160))
 some t_7
theorem y6z  : Lq (y04 ) (z73 ) := by
 unfold y04 z73
 repeat' with_reducible first | exact z0i _ | apply zkd | apply zke | apply ybf | apply zlj | apply y70 | apply y71 | apply zna | apply zof | apply y72 | apply ybg | apply z2g | apply z0k | apply z1b | apply z0u | apply z2f | apply z2e | (refine z0j (fun _ => ?_) (fun _ => ?_) <;> dsimp only) | (intro _; try dsimp only) | dsimp only
end Go.Lift
namespace Go.Lift
open Go
theorem z84 : z73 = some true := y6z _ (by kernel_rfl)
end Go.Lift
