/-
  The chapter's examples.
-/
import Derived.Test.YtggnjngdmadbaaaGreatDoorPlainA
import Derived.KernelRfl
set_option linter.unusedSectionVars false
set_option linter.unusedVariables false
set_option linter.unusedSimpArgs false
namespace Go.Lift
open Go
def Lq {A : Type} (a b : Option A) : Prop := ∀ v, a = some v → b = some v
theorem z0k {A : Type} (a : Option A) : Lq a a := fun _ h => h
theorem z0n {A B : Type} {a a' : Option A} {f f' : A → Option B} (h : Lq a a') (k : ∀ x, Lq (f x) (f' x)) : Lq (a.bind f) (a'.bind f') := by
 intro v hv
 obtain ⟨x, hx, hf⟩ := Option.bind_eq_some_iff.1 hv
 exact Option.bind_eq_some_iff.2 ⟨x, h x hx, k x v hf⟩
theorem z0x {A : Type} {c : Bool} {a a' b b' : Option A} (h : Lq a a') (k : Lq b b') : Lq (bif c then a else b) (bif c then a' else b') := by
 cases c <;> assumption
theorem z25 {A : Type} {c : Bool} {a a' : Option A} (h : Lq a a') : Lq (chk c a) (chk c a') := by
 unfold chk
 exact z0x h (z0k _)
theorem z24 {A B : Type} {g : A → B} {a a' : Option A} (h : Lq a a') : Lq (Option.map g a) (Option.map g a') := by
 intro v hv
 obtain ⟨x, hx, hf⟩ := Option.map_eq_some_iff.1 hv
 exact Option.map_eq_some_iff.2 ⟨x, h x hx, hf⟩
def ze8 {S R : Type} (f : S → Option (S ⊕ R)) (s : S) : Option R := zfz f 300 s
theorem y5a {S R : Type} {f f' : S → Option (S ⊕ R)} (h : ∀ s, Lq (f s) (f' s)) : ∀ (n : Nat) (s : S), Lq (zfz f n s) (zfz f' n s)
 | 0, s => fun v hv => by simp [zfz] at hv
 | n + 1, s => fun v hv => by
  unfold zfz at hv ⊢
  cases hf : f s with
  | none => rw [hf] at hv; cases hv
  | some j =>
   rw [hf] at hv
   rw [h s j hf]
   cases j with
   | inl s' => exact y5a h n s' v hv
   | inr r => exact hv
theorem z15 {S R : Type} {f f' : S → Option (S ⊕ R)} {s : S} (h : ∀ s, Lq (f s) (f' s)) : Lq (ze8 f s) (z2d f' s) :=
 fun _ hv => zyu (y5a h 300 s _ hv)
theorem z0m {A B C : Type} {f g : A ⊕ B → Option C} (h1 : ∀ a, Lq (f (.inl a)) (g (.inl a))) (h2 : ∀ b, Lq (f (.inr b)) (g (.inr b))) : ∀ j, Lq (f j) (g j) := by
 intro j
 cases j with
 | inl a => exact h1 a
 | inr b => exact h2 b
def y2p (a b : ByteArray) : Bool := a.data.toList == b.data.toList
def catE (a b : ByteArray) : Option ByteArray := if a.size + b.size ≤ 4294967296 then some ⟨(a.data.toList ++ b.data.toList).toArray⟩ else none
theorem zt6 (b : ByteArray) : b.toList = b.data.toList := by
 have h : ∀ (n i : Nat) (r : List UInt8), b.size - i = n → ByteArray.toList.loop b i r = r.reverse ++ b.data.toList.drop i := by
  intro n
  induction n with
  | zero =>
   intro i r hn
   unfold ByteArray.toList.loop
   rw [if_neg (by omega), List.drop_eq_nil_of_le (show b.data.toList.length ≤ i by show b.size ≤ i; omega), List.append_nil]
  | succ n ih =>
   intro i r hn
   unfold ByteArray.toList.loop
   have hi : i < b.size := by omega
   rw [if_pos hi, ih (i + 1) _ (by omega)]
   have hi2 : i < b.data.toList.length := hi
   rw [List.drop_eq_getElem_cons hi2, List.reverse_cons, List.append_assoc]
   congr 1
   show [b.get! i] ++ _ = _
   have : b.get! i = b.data.toList[i] := by
    unfold ByteArray.get!
    show b.data[i]! = _
    rw [getElem!_pos b.data i hi]
    rfl
   rw [this]; rfl
 have := h b.size 0 [] rfl
 rw [List.reverse_nil, List.nil_append, List.drop_zero] at this
 exact this
theorem ztk (a b : ByteArray) : seqb a b = y2p a b := by unfold seqb y2p; rw [zt6, zt6]
theorem z26 (a b : ByteArray) : Lq (catE a b) (cat a b) := by
 intro v hv
 unfold catE at hv
 unfold cat
 split at hv
 ·rename_i h
  rw [if_pos h]
  rw [← hv]
  congr 1
 ·cases hv
def zhf (n : Int) : Option ByteArray :=
 bif n == 3 then some (bytes [51]) else bif n == 5 then some (bytes [53]) else bif n == 12 then some (bytes [49, 50]) else bif n == 50 then some (bytes [53, 48]) else bif n == 1200 then some (bytes [49, 50, 48, 48]) else none
theorem zuh (n : Int) : Lq (zhf n) (strconv_Itoa n) := by
 intro v hv
 unfold zhf at hv
 by_cases h3 : n = 3
 ·subst h3
  have e : some (bytes [51]) = some v := hv
  rw [← e]
  simp [strconv_Itoa, Lib.itoa, Lib.decDigits, bytes]
 rw [show (n == 3) = false by rw [beq_eq_false_iff_ne]; exact h3, cond_false] at hv
 by_cases h5 : n = 5
 ·subst h5
  have e : some (bytes [53]) = some v := hv
  rw [← e]
  simp [strconv_Itoa, Lib.itoa, Lib.decDigits, bytes]
 rw [show (n == 5) = false by rw [beq_eq_false_iff_ne]; exact h5, cond_false] at hv
 by_cases h12 : n = 12
 ·subst h12
  have e : some (bytes [49, 50]) = some v := hv
  rw [← e]
  simp [strconv_Itoa, Lib.itoa, Lib.decDigits, bytes]
 rw [show (n == 12) = false by rw [beq_eq_false_iff_ne]; exact h12, cond_false] at hv
 by_cases h50 : n = 50
 ·subst h50
  have e : some (bytes [53, 48]) = some v := hv
  rw [← e]
  simp [strconv_Itoa, Lib.itoa, Lib.decDigits, bytes]
 rw [show (n == 50) = false by rw [beq_eq_false_iff_ne]; exact h50, cond_false] at hv
 by_cases h1200 : n = 1200
 ·subst h1200
  have e : some (bytes [49, 50, 48, 48]) = some v := hv
  rw [← e]
  simp [strconv_Itoa, Lib.itoa, Lib.decDigits, bytes]
 rw [show (n == 1200) = false by rw [beq_eq_false_iff_ne]; exact h1200, cond_false] at hv
 cases hv
noncomputable def znb (s : ByteArray) : Option (Int × Bool) := strconv_Atoi s
theorem zui (s : ByteArray) : Lq (znb s) (strconv_Atoi s) := z0k _
noncomputable def z10 (n : Int) (lo : Int) (hi : Int) : Option (Bool) :=
 let t : Bool := ((decide (lo ≤ n)) && (decide (n ≤ hi)))
 some t
theorem z1o (n : Int) (lo : Int) (hi : Int) : Lq (z10 n lo hi) (z0w n lo hi) := by
 unfold z10 z0w
 repeat' with_reducible first | exact z0k _ | apply z26 | apply z0n | apply z15 | apply z0x | apply z25 | apply z24 | (refine z0m (fun _ => ?_) (fun _ => ?_) <;> dsimp only) | (intro _; try dsimp only) | dsimp only
noncomputable def z5l (s : ByteArray) : Option (Bool) :=
 (ze8 (S := Int) (R := (Unit) ⊕ (Bool)) (fun t =>
 bif decide (t < (List.length (z3y s) : Int)) then
 chk (decide ((0 : Int) ≤ t) && decide (t < (List.length (z3y s) : Int))) (
 let c : Int := lget 0 (z3y s) t
 (z10 (wi64 c) 97 122).bind fun (t_1 : Bool) =>
 (bif t_1 then some true else
 (z10 (wi64 c) 65 90).bind fun (t_2 : Bool) =>
 some t_2).bind fun (c_1 : Bool) =>
 (bif !c_1 then
 (bif (t == 0) then some true else
 (bif (c != 45) then
 (z10 (wi64 c) 48 57).bind fun (t_3 : Bool) =>
 some (!t_3)
 else some false).bind fun (c_2 : Bool) =>
 some c_2).bind fun (c_3 : Bool) =>
 some c_3
 else some false).bind fun (c_4 : Bool) =>
 bif c_4 then
 Option.map Sum.inr (Option.map Sum.inr (
 some false))
 else
 some (.inl (wi64 (t + 1))))
 else
 some (.inr (.inl ()))) 0).bind fun j => match j with
 | .inl _ => (
 (z10 (ByteArray.size s : Int) 1 12).bind fun (t_4 : Bool) =>
 some t_4)
 | .inr r => some r
theorem z89 (s : ByteArray) : Lq (z5l s) (z29 s) := by
 unfold z5l z29
 repeat' with_reducible first | exact z0k _ | apply z1o | apply z26 | apply z0n | apply z15 | apply z0x | apply z25 | apply z24 | (refine z0m (fun _ => ?_) (fun _ => ?_) <;> dsimp only) | (intro _; try dsimp only) | dsimp only
noncomputable def z6d (n : Int) : Option (Bool) :=
 (z10 n 1 99).bind fun (t : Bool) =>
 some t
theorem zak (n : Int) : Lq (z6d n) (z2s n) := by
 unfold z6d z2s
 repeat' with_reducible first | exact z0k _ | apply z1o | apply z26 | apply z0n | apply z15 | apply z0x | apply z25 | apply z24 | (refine z0m (fun _ => ?_) (fun _ => ?_) <;> dsimp only) | (intro _; try dsimp only) | dsimp only
noncomputable def z43 (n : Int) : Option (Bool) :=
 (z10 n 1 300000).bind fun (t : Bool) =>
 some t
theorem z7a (n : Int) : Lq (z43 n) (z1s n) := by
 unfold z43 z1s
 repeat' with_reducible first | exact z0k _ | apply z1o | apply z26 | apply z0n | apply z15 | apply z0x | apply z25 | apply z24 | (refine z0m (fun _ => ?_) (fun _ => ?_) <;> dsimp only) | (intro _; try dsimp only) | dsimp only
noncomputable def z6c (n : Int) : Option (Bool) :=
 (z10 n 500 2500).bind fun (t : Bool) =>
 some t
theorem zaj (n : Int) : Lq (z6c n) (z2r n) := by
 unfold z6c z2r
 repeat' with_reducible first | exact z0k _ | apply z1o | apply z26 | apply z0n | apply z15 | apply z0x | apply z25 | apply z24 | (refine z0m (fun _ => ?_) (fun _ => ?_) <;> dsimp only) | (intro _; try dsimp only) | dsimp only
noncomputable def z9e (n : Int) : Option (Bool) :=
 (z10 n 0 20000).bind fun (t : Bool) =>
 some t
theorem zpc (n : Int) : Lq (z9e n) (z5t n) := by
 unfold z9e z5t
 repeat' with_reducible first | exact z0k _ | apply z1o | apply z26 | apply z0n | apply z15 | apply z0x | apply z25 | apply z24 | (refine z0m (fun _ => ?_) (fun _ => ?_) <;> dsimp only) | (intro _; try dsimp only) | dsimp only
noncomputable def z0p (is : Bool) (e : Int) : Option (Int) :=
 bif is then
 some 0
 else
 some e
theorem z33 (is : Bool) (e : Int) : Lq (z0p is e) (z0l is e) := by
 unfold z0p z0l
 repeat' with_reducible first | exact z0k _ | apply z26 | apply z0n | apply z15 | apply z0x | apply z25 | apply z24 | (refine z0m (fun _ => ?_) (fun _ => ?_) <;> dsimp only) | (intro _; try dsimp only) | dsimp only
noncomputable def z2t (l : (List Int)) : Option (Int) :=
 (ze8 (S := Int) (R := (Unit) ⊕ (Int)) (fun t =>
 bif decide (t < (List.length l : Int)) then
 chk (decide ((0 : Int) ≤ t) && decide (t < (List.length l : Int))) (
 bif ((lget 0 l t) != 0) then
 Option.map Sum.inr (Option.map Sum.inr (
 some (lget 0 l t)))
 else
 some (.inl (wi64 (t + 1))))
 else
 some (.inr (.inl ()))) 0).bind fun j => match j with
 | .inl _ => (
 some 0)
 | .inr r => some r
theorem z49 (l : (List Int)) : Lq (z2t l) (z1t l) := by
 unfold z2t z1t
 repeat' with_reducible first | exact z0k _ | apply z26 | apply z0n | apply z15 | apply z0x | apply z25 | apply z24 | (refine z0m (fun _ => ?_) (fun _ => ?_) <;> dsimp only) | (intro _; try dsimp only) | dsimp only
noncomputable def z6e (o : z01) : Option (Int) :=
 (z6d o.2.1).bind fun (t : Bool) =>
 (bif t then
 (z43 o.2.2.1).bind fun (t_1 : Bool) =>
 some t_1
 else some false).bind fun (c : Bool) =>
 (bif c then
 (z10 o.2.2.2.1 0 (wi64 (o.2.2.1 - 1))).bind fun (t_2 : Bool) =>
 some t_2
 else some false).bind fun (c_1 : Bool) =>
 (bif c_1 then
 (z6c o.2.2.2.2.1).bind fun (t_3 : Bool) =>
 some t_3
 else some false).bind fun (c_2 : Bool) =>
 (bif c_2 then
 (z9e o.2.2.2.2.2.1.1).bind fun (t_4 : Bool) =>
 some t_4
 else some false).bind fun (c_3 : Bool) =>
 (bif c_3 then
 (z9e o.2.2.2.2.2.1.2).bind fun (t_5 : Bool) =>
 some t_5
 else some false).bind fun (c_4 : Bool) =>
 (z5l o.1).bind fun (t_6 : Bool) =>
 (z0p t_6 4).bind fun (t_7 : Int) =>
 (z0p c_4 2).bind fun (t_8 : Int) =>
 (z0p (decide (o.2.2.2.2.2.1.1 ≤ o.2.2.2.2.2.1.2)) 9).bind fun (t_9 : Int) =>
 chk (10 != 0) (
 let t_10 : Int := Int.tmod o.2.2.2.2.2.1.1 10
 (bif (t_10 == 0) then
 chk (10 != 0) (
 let t_11 : Int := Int.tmod o.2.2.2.2.2.1.2 10
 some (t_11 == 0))
 else some false).bind fun (c_5 : Bool) =>
 (z0p c_5 3).bind fun (t_12 : Int) =>
 (z10 o.2.2.2.2.2.2 0 100000).bind fun (t_13 : Bool) =>
 (z0p t_13 2).bind fun (t_14 : Int) =>
 (z2t [t_7, t_8, t_9, t_12, t_14]).bind fun (t_15 : Int) =>
 some t_15)
theorem zcj (o : z01) : Lq (z6e o) (z13 o) := by
 unfold z6e z13
 repeat' with_reducible first | exact z0k _ | apply z1o | apply z89 | apply zak | apply z7a | apply zaj | apply zpc | apply z33 | apply z49 | apply z26 | apply z0n | apply z15 | apply z0x | apply z25 | apply z24 | (refine z0m (fun _ => ?_) (fun _ => ?_) <;> dsimp only) | (intro _; try dsimp only) | dsimp only
noncomputable def zd8 (s : ByteArray) : Option (Int × Bool) :=
 (znb s).bind fun (r : Int × Bool) =>
 (bif (r.2 && (decide (r.1 ≥ 0))) then
 (zhf r.1).bind fun (t : ByteArray) =>
 some (y2p t s)
 else some false).bind fun (c : Bool) =>
 let t_1 : Bool := (c && (decide ((ByteArray.size s : Int) ≤ 6)))
 some (r.1, t_1)
theorem zpb (s : ByteArray) : Lq (zd8 s) (z6x s) := by
 unfold zd8 z6x
 try simp only [ztk]
 repeat' with_reducible first | exact z0k _ | apply zui | apply zuh | apply z26 | apply z0n | apply z15 | apply z0x | apply z25 | apply z24 | (refine z0m (fun _ => ?_) (fun _ => ?_) <;> dsimp only) | (intro _; try dsimp only) | dsimp only
noncomputable def zmc (ws : List ByteArray) (i : Int) : Option (Option Int) := (zd8 (z1b ws i)).bind fun r => some (bif r.2 then some r.1 else none)
theorem zns (ws : List ByteArray) (i : Int) : Lq (zmc ws i) (zer ws i) := z0n (zpb _) fun _ => z0k _
def zzp (us : List (ByteArray × Int)) (ws : List ByteArray) (i : Int) : Option Int := if i < (ws.length : Int) then (us.find? fun p => y2p (z1b ws i) p.1).map (·.2) else none
theorem y4b (us : List (ByteArray × Int)) (ws : List ByteArray) (i : Int) : zce us ws i = zzp us ws i := by
 unfold zce zzp y4f
 simp only [ztk]
def zmf (w : ByteArray) : Option Nat := zd2.findIdx? fun c => y2p c w
theorem zzq (w : ByteArray) : z9a w = zmf w := by
 unfold z9a zmf
 simp only [ztk]
noncomputable def z90 (us : List (ByteArray × Int)) (ws : List ByteArray) (i : Int) : Option (Int ⊕ Int) :=
 (zmc ws i).bind fun n => match n with
  | none => some (.inl i)
  | some n => match zzp us ws (i + 1) with
   | none => some (.inl (i + 1))
   | some b => some (.inr (wi64 (n * b)))
theorem zbi (us : List (ByteArray × Int)) (ws : List ByteArray) (i : Int) : Lq (z90 us ws i) (z62 us ws i) := by
 unfold z62 z90
 simp only [y4b]
 exact z0n (zns _ _) fun _ => z0k _
noncomputable def zy5 (k : Nat) (ws : List ByteArray) (o : z01) (i : Int) : Option (Int ⊕ (z01 × Int)) :=
 match k with
 | 0 => (zmc ws i).bind fun n => match n with
  | none => some (.inl i)
  | some n => some (.inr ((o.1, (n, o.2.2)), i + 1))
 | 1 => (z90 zmv ws i).bind fun v => match v with
  | .inl j => some (.inl j)
  | .inr v => some (.inr ((o.1, (o.2.1, (v, o.2.2.2))), i + 2))
 | 2 => (z90 zmv ws i).bind fun v => match v with
  | .inl j => some (.inl j)
  | .inr v => some (.inr ((o.1, (o.2.1, (o.2.2.1, (v, o.2.2.2.2)))), i + 2))
 | 3 => (z90 unMm ws i).bind fun v => match v with
  | .inl j => some (.inl j)
  | .inr v => some (.inr ((o.1, (o.2.1, (o.2.2.1, (o.2.2.2.1, (v, o.2.2.2.2.2))))), i + 2))
 | 4 => (z90 unTo ws i).bind fun v => match v with
  | .inl j => some (.inl j)
  | .inr v => (z90 unC ws (i + 2)).bind fun u => match u with
   | .inl j => some (.inl j)
   | .inr u => some (.inr ((o.1, (o.2.1, (o.2.2.1, (o.2.2.2.1, (o.2.2.2.2.1, ((v, u), o.2.2.2.2.2.2)))))), i + 4))
 | _ => (zmc ws i).bind fun n => match n with
  | none => some (.inl i)
  | some n => some (.inr ((o.1, (o.2.1, (o.2.2.1, (o.2.2.2.1, (o.2.2.2.2.1, (o.2.2.2.2.2.1, n)))))), i + 1))
theorem y3k (k : Nat) (ws : List ByteArray) (o : z01) (i : Int) : Lq (zy5 k ws o i) (zyj k ws o i) := by
 match k with
 | 0 => exact z0n (zns _ _) fun _ => z0k _
 | 1 => exact z0n (zbi _ _ _) fun _ => z0k _
 | 2 => exact z0n (zbi _ _ _) fun _ => z0k _
 | 3 => exact z0n (zbi _ _ _) fun _ => z0k _
 | 4 =>
  refine z0n (zbi _ _ _) fun v => ?_
  cases v with
  | inl _ => exact z0k _
  | inr _ => exact z0n (zbi _ _ _) fun _ => z0k _
 | k + 5 => exact z0n (zns _ _) fun _ => z0k _
noncomputable def zja (ws : List ByteArray) : Nat → z01 → Int → (Nat → Bool) → Option ((Int × Int) ⊕ (z01 × (Nat → Bool)))
 | 0, _, _, _ => none
 | n + 1, o, i, given => if i < (ws.length : Int) then match zmf (z1b ws i) with
   | none => some (.inl (i, 7))
   | some k => bif given k then some (.inl (i, 23)) else (zy5 k ws o (i + 1)).bind fun r => match r with
    | .inl j => some (.inl (j, 7))
    | .inr r => zja ws n r.1 r.2 (upd given k true)
  else some (.inr (o, given))
theorem zrt (ws : List ByteArray) : ∀ (n : Nat) (o : z01) (i : Int) (given : Nat → Bool), Lq (zja ws n o i given) (zfe ws n o i given)
 | 0, _, _, _ => z0k _
 | n + 1, o, i, given => by
  unfold zja zfe
  rw [zzq]
  split
  ·cases zmf (z1b ws i) with
   | none => exact z0k _
   | some k =>
    refine z0x (z0k _) (z0n (y3k _ _ _ _) fun r => ?_)
    cases r with
    | inl _ => exact z0k _
    | inr r => exact zrt ws n _ _ _
  ·exact z0k _
noncomputable def z93 (s : ByteArray) : Option (z01 × Int × Int) :=
 (strings_Split s (bytes [32])).bind fun ws => (z5l (z1b ws 0)).bind fun is => bif !is then some (z3f, 0, 7) else
  (zja ws (ws.length + 1) (z1b ws 0, (0, (0, (0, (0, ((0, 20000), 0)))))) 1 (fun _ => false)).bind fun r => match r with
   | .inl f => some (z3f, f.1, f.2)
   | .inr r => bif !(r.2 0 && r.2 1 && r.2 3) then some (z3f, 0, 14) else (z6e r.1).bind fun e => bif e != 0 then some (z3f, 0, e) else some (r.1, 0, 0)
theorem zjn (s : ByteArray) : Lq (z93 s) (z4a s) := by
 unfold z93 z4a
 refine z0n (z0k _) fun ws => z0n (z89 _) fun is => z0x (z0k _) (z0n (zrt _ _ _ _ _) fun r => ?_)
 cases r with
 | inl _ => exact z0k _
 | inr r => exact z0x (z0k _) (z0n (zcj _) fun _ => z0k _)
noncomputable def z9t (s : z09) : Option (Int) :=
 (z6d s.2.1).bind fun (t : Bool) =>
 (bif t then
 (z43 s.2.2.1).bind fun (t_1 : Bool) =>
 some t_1
 else some false).bind fun (c : Bool) =>
 (bif c then
 (z6c s.2.2.2.1).bind fun (t_2 : Bool) =>
 some t_2
 else some false).bind fun (c_1 : Bool) =>
 (bif c_1 then
 (z10 s.2.2.2.2 1 20000).bind fun (t_3 : Bool) =>
 some t_3
 else some false).bind fun (c_2 : Bool) =>
 (z5l s.1).bind fun (t_4 : Bool) =>
 (z0p t_4 4).bind fun (t_5 : Int) =>
 (z0p c_2 2).bind fun (t_6 : Int) =>
 (z2t [t_5, t_6]).bind fun (t_7 : Int) =>
 some t_7
theorem zkm (s : z09) : Lq (z9t s) (z36 s) := by
 unfold z9t z36
 repeat' with_reducible first | exact z0k _ | apply z1o | apply z89 | apply zak | apply z7a | apply zaj | apply z33 | apply z49 | apply z26 | apply z0n | apply z15 | apply z0x | apply z25 | apply z24 | (refine z0m (fun _ => ?_) (fun _ => ?_) <;> dsimp only) | (intro _; try dsimp only) | dsimp only
noncomputable def zee (s : z09) (o : z01) : Option (Bool) :=
 (bif (s.2.1 == o.2.1) then
 (z10 s.2.2.2.1 o.2.2.2.2.1 (wi64 (o.2.2.2.2.1 + 100))).bind fun (t : Bool) =>
 some t
 else some false).bind fun (c : Bool) =>
 some c
theorem zqy (s : z09) (o : z01) : Lq (zee s o) (z5h s o) := by
 unfold zee z5h
 repeat' with_reducible first | exact z0k _ | apply z1o | apply z26 | apply z0n | apply z15 | apply z0x | apply z25 | apply z24 | (refine z0m (fun _ => ?_) (fun _ => ?_) <;> dsimp only) | (intro _; try dsimp only) | dsimp only
noncomputable def z94 (s : z09) (o : z01) : Option (z1g × Int) :=
 (z9t s).bind fun (t : Int) =>
 (z6e o).bind fun (t_1 : Int) =>
 (zee s o).bind fun (t_2 : Bool) =>
 (z0p t_2 13).bind fun (t_3 : Int) =>
 (z2t [t, t_1, t_3]).bind fun (t_4 : Int) =>
 bif (t_4 != 0) then
 some ((0, 0), t_4)
 else
 let volume : Int := wi64 ((wi64 (s.2.2.1 * s.2.2.2.1)) * s.2.2.2.2)
 let thin : Int := wi64 ((wi64 (o.2.2.1 - o.2.2.2.1)) * o.2.2.2.2.1)
 let thick : Int := wi64 ((wi64 (o.2.2.1 + o.2.2.2.1)) * o.2.2.2.2.1)
 chk (thick != 0) (
 let t_5 : Int := wi64 (Int.tdiv volume thick)
 chk (thin != 0) (
 let t_6 : Int := wi64 (Int.tdiv (wi64 ((wi64 (volume + thin)) - 1)) thin)
 some ((t_5, t_6), 0)))
theorem zjo (s : z09) (o : z01) : Lq (z94 s o) (z2p s o) := by
 unfold z94 z2p
 repeat' with_reducible first | exact z0k _ | apply z33 | apply z49 | apply zcj | apply zkm | apply zqy | apply z26 | apply z0n | apply z15 | apply z0x | apply z25 | apply z24 | (refine z0m (fun _ => ?_) (fun _ => ?_) <;> dsimp only) | (intro _; try dsimp only) | dsimp only
noncomputable def zvx  : Option ((List (List ByteArray))) :=
 let t : (List (List ByteArray)) := [[(bytes [97]), (bytes [98]), (bytes [99])], [(bytes [100])], []]
 some t
theorem y6u  : Lq (zvx ) (zuk ) := by
 unfold zvx zuk
 repeat' with_reducible first | exact z0k _ | apply z26 | apply z0n | apply z15 | apply z0x | apply z25 | apply z24 | (refine z0m (fun _ => ?_) (fun _ => ?_) <;> dsimp only) | (intro _; try dsimp only) | dsimp only
noncomputable def z9s (y : (List (List ByteArray))) : Option (Int × Int) :=
 (z0p (decide ((List.length y : Int) > 0)) 10).bind fun (t : Int) =>
 (z0p (decide ((List.length y : Int) ≤ 4)) 8).bind fun (t_1 : Int) =>
 (z2t [t, t_1]).bind fun (t_2 : Int) =>
 bif (t_2 != 0) then
 some (0, t_2)
 else
 (ze8 (S := Int × (List (ByteArray × Bool))) (R := ((List (ByteArray × Bool))) ⊕ (Int × Int)) (fun s =>
 let t_3 : Int := s.1
 let t_4 : (List (ByteArray × Bool)) := s.2
 bif decide (t_3 < (List.length y : Int)) then
 chk (decide ((0 : Int) ≤ t_3) && decide (t_3 < (List.length y : Int))) (
 bif decide ((List.length (lget [] y t_3) : Int) > 6) then
 Option.map Sum.inr (Option.map Sum.inr (
 some (t_3, 8)))
 else
 (ze8 (S := Int × (List (ByteArray × Bool))) (R := ((List (ByteArray × Bool))) ⊕ ((Int × (List (ByteArray × Bool))) ⊕ (((List (ByteArray × Bool))) ⊕ (Int × Int)))) (fun s_1 =>
 let t_5 : Int := s_1.1
 let t_6 : (List (ByteArray × Bool)) := s_1.2
 bif decide (t_5 < (List.length (lget [] y t_3) : Int)) then
 chk (decide ((0 : Int) ≤ t_5) && decide (t_5 < (List.length (lget [] y t_3) : Int))) (
 let name : ByteArray := lget ByteArray.empty (lget [] y t_3) t_5
 (z5l name).bind fun (t_7 : Bool) =>
 (z0p t_7 4).bind fun (t_8 : Int) =>
 (z0p (!(mget .str .bool t_6 name)) 5).bind fun (t_9 : Int) =>
 (z2t [t_8, t_9]).bind fun (t_10 : Int) =>
 bif (t_10 != 0) then
 Option.map Sum.inr (Option.map Sum.inr (
 Option.map Sum.inr (Option.map Sum.inr (
 some (t_3, t_10)))))
 else
 let t_11 : (List (ByteArray × Bool)) := mput .str .bool t_6 name true
 some (.inl (wi64 (t_5 + 1), t_11)))
 else
 some (.inr (.inl t_6))) (0, t_4)).bind fun j => match j with
 | .inl t_12 => (
 some (.inl (wi64 (t_3 + 1), t_12)))
 | .inr r => some r)
 else
 some (.inr (.inl t_4))) (0, [])).bind fun j => match j with
 | .inl t_13 => (
 (z0p (decide ((List.length t_13 : Int) ≤ 8)) 8).bind fun (t_14 : Int) =>
 some (0, t_14))
 | .inr r => some r
theorem zkl (y : (List (List ByteArray))) : Lq (z9s y) (z67 y) := by
 unfold z9s z67
 repeat' with_reducible first | exact z0k _ | apply z89 | apply z33 | apply z49 | apply z26 | apply z0n | apply z15 | apply z0x | apply z25 | apply z24 | (refine z0m (fun _ => ?_) (fun _ => ?_) <;> dsimp only) | (intro _; try dsimp only) | dsimp only
noncomputable def z8z (x : List ByteArray) : Option (List ByteArray) := app [] x
theorem zjk (x : List ByteArray) : Lq (z8z x) (slices_Clone_string x) := by
 unfold z8z slices_Clone_string
 repeat' with_reducible first | exact z0k _ | apply z26 | apply z0n | apply z15 | apply z0x | apply z25 | apply z24 | (refine z0m (fun _ => ?_) (fun _ => ?_) <;> dsimp only) | (intro _; try dsimp only) | dsimp only
noncomputable def z91 (y : (List (List ByteArray))) : Option ((List (List ByteArray))) :=
 (ze8 (S := (List (List ByteArray)) × Int) (R := (List (List ByteArray))) (fun s =>
 let out : (List (List ByteArray)) := s.1
 let t : Int := s.2
 bif decide (t < (List.length y : Int)) then
 chk (decide ((0 : Int) ≤ t) && decide (t < (List.length y : Int))) (
 (z8z (lget [] y t)).bind fun (t_1 : (List ByteArray)) =>
 (app out [t_1]).bind fun (t_2 : List (List ByteArray)) =>
 some (.inl (t_2, wi64 (t + 1))))
 else
 some (.inr out)) ([], 0)).bind fun (out_1 : (List (List ByteArray))) =>
 some out_1
theorem zjl (y : (List (List ByteArray))) : Lq (z91 y) (z5s y) := by
 unfold z91 z5s
 repeat' with_reducible first | exact z0k _ | apply zjk | apply z26 | apply z0n | apply z15 | apply z0x | apply z25 | apply z24 | (refine z0m (fun _ => ?_) (fun _ => ?_) <;> dsimp only) | (intro _; try dsimp only) | dsimp only
noncomputable def zap (y : (List (List ByteArray))) : Option ((List (List ByteArray)) × Int) :=
 (z9s y).bind fun (r : Int × Int) =>
 (z91 y).bind fun (t : (List (List ByteArray))) =>
 some (t, r.2)
theorem zml (y : (List (List ByteArray))) : Lq (zap y) (z6w y) := by
 unfold zap z6w
 repeat' with_reducible first | exact z0k _ | apply zkl | apply zjl | apply z26 | apply z0n | apply z15 | apply z0x | apply z25 | apply z24 | (refine z0m (fun _ => ?_) (fun _ => ?_) <;> dsimp only) | (intro _; try dsimp only) | dsimp only
noncomputable def z6h (s : (List (List ByteArray))) (f : ((List ByteArray) → Option Bool)) : Option (Int) :=
 (ze8 (S := Int) (R := (Unit) ⊕ (Int)) (fun t =>
 bif decide (t < (List.length s : Int)) then
 chk (decide ((0 : Int) ≤ t) && decide (t < (List.length s : Int))) (
 (f (lget [] s t)).bind fun (t_1 : Bool) =>
 bif t_1 then
 Option.map Sum.inr (Option.map Sum.inr (
 some t))
 else
 some (.inl (wi64 (t + 1))))
 else
 some (.inr (.inl ()))) 0).bind fun j => match j with
 | .inl _ => (
 some (-1))
 | .inr r => some r
theorem zg0 (s : (List (List ByteArray))) {f f' : ((List ByteArray) → Option Bool)} (h_f : ∀ x, Lq (f x) (f' x)) : Lq (z6h s f) (z3s s f') := by
 unfold z6h z3s
 repeat' with_reducible first | exact z0k _ | exact h_f _ | apply z26 | apply z0n | apply z15 | apply z0x | apply z25 | apply z24 | (refine z0m (fun _ => ?_) (fun _ => ?_) <;> dsimp only) | (intro _; try dsimp only) | dsimp only
noncomputable def z5a (s : (List (List ByteArray))) (f : ((List ByteArray) → Option Bool)) : Option (Bool) :=
 (z6h s f).bind fun (t : Int) =>
 some (decide (t ≥ 0))
theorem ze9 (s : (List (List ByteArray))) {f f' : ((List ByteArray) → Option Bool)} (h_f : ∀ x, Lq (f x) (f' x)) : Lq (z5a s f) (z2w s f') := by
 unfold z5a z2w
 repeat' with_reducible first | exact z0k _ | exact h_f _ | apply zg0 | apply z26 | apply z0n | apply z15 | apply z0x | apply z25 | apply z24 | (refine z0m (fun _ => ?_) (fun _ => ?_) <;> dsimp only) | (intro _; try dsimp only) | dsimp only
noncomputable def z4m (s : (List ByteArray)) (v : ByteArray) : Option (Int) :=
 (ze8 (S := Int) (R := (Unit) ⊕ (Int)) (fun t =>
 bif decide (t < (List.length s : Int)) then
 chk (decide ((0 : Int) ≤ t) && decide (t < (List.length s : Int))) (
 bif y2p v (lget ByteArray.empty s t) then
 Option.map Sum.inr (Option.map Sum.inr (
 some t))
 else
 some (.inl (wi64 (t + 1))))
 else
 some (.inr (.inl ()))) 0).bind fun j => match j with
 | .inl _ => (
 some (-1))
 | .inr r => some r
theorem zcg (s : (List ByteArray)) (v : ByteArray) : Lq (z4m s v) (slices_Index_string s v) := by
 unfold z4m slices_Index_string
 try simp only [ztk]
 repeat' with_reducible first | exact z0k _ | apply z26 | apply z0n | apply z15 | apply z0x | apply z25 | apply z24 | (refine z0m (fun _ => ?_) (fun _ => ?_) <;> dsimp only) | (intro _; try dsimp only) | dsimp only
noncomputable def z3n (s : (List ByteArray)) (v : ByteArray) : Option (Bool) :=
 (z4m s v).bind fun (t : Int) =>
 some (decide (t ≥ 0))
theorem z6g (s : (List ByteArray)) (v : ByteArray) : Lq (z3n s v) (slices_Contains_string s v) := by
 unfold z3n slices_Contains_string
 repeat' with_reducible first | exact z0k _ | apply zcg | apply z26 | apply z0n | apply z15 | apply z0x | apply z25 | apply z24 | (refine z0m (fun _ => ?_) (fun _ => ?_) <;> dsimp only) | (intro _; try dsimp only) | dsimp only
noncomputable def z70 (pile : (List ByteArray)) (x : ByteArray) : Option (Bool) :=
 (z3n pile x).bind fun (t : Bool) =>
 some t
theorem zh6 (pile : (List ByteArray)) (x : ByteArray) : Lq (z70 pile x) (z40 pile x) := by
 unfold z70 z40
 repeat' with_reducible first | exact z0k _ | apply z6g | apply z26 | apply z0n | apply z15 | apply z0x | apply z25 | apply z24 | (refine z0m (fun _ => ?_) (fun _ => ?_) <;> dsimp only) | (intro _; try dsimp only) | dsimp only
noncomputable def z84 (y : (List (List ByteArray))) (request : (List ByteArray)) : Option ((List (List ByteArray)) × Int) :=
 (zap y).bind fun (r : (List (List ByteArray)) × Int) =>
 bif (r.2 != 0) then
 some ([], r.2)
 else
 (ze8 (S := Int) (R := (Unit) ⊕ ((List (List ByteArray)) × Int)) (fun t =>
 bif decide (t < (List.length request : Int)) then
 chk (decide ((0 : Int) ≤ t) && decide (t < (List.length request : Int))) (
 let name : ByteArray := lget ByteArray.empty request t
 (z5a y (fun x => z70 x name)).bind fun (t_1 : Bool) =>
 (z0p (!(!t_1)) 6).bind fun (t_2 : Int) =>
 chk (decide ((0 : Int) ≤ 0) && decide ((0 : Int) ≤ t) && decide (t ≤ (List.length request : Int))) (
 (z3n (List.drop (Int.toNat 0) (List.take (Int.toNat t) request)) name).bind fun (t_3 : Bool) =>
 (z0p (!t_3) 23).bind fun (t_4 : Int) =>
 (z2t [t_2, t_4]).bind fun (t_5 : Int) =>
 bif (t_5 != 0) then
 Option.map Sum.inr (Option.map Sum.inr (
 some ([], t_5)))
 else
 some (.inl (wi64 (t + 1)))))
 else
 some (.inr (.inl ()))) 0).bind fun j => match j with
 | .inl _ => (
 some (r.1, 0))
 | .inr r => some r
theorem zis (y : (List (List ByteArray))) (request : (List ByteArray)) : Lq (z84 y request) (z52 y request) := by
 unfold z84 z52
 repeat' with_reducible first | exact z0k _ | apply z33 | apply z49 | apply zml | apply ze9 | apply z6g | apply zh6 | apply z26 | apply z0n | apply z15 | apply z0x | apply z25 | apply z24 | (refine z0m (fun _ => ?_) (fun _ => ?_) <;> dsimp only) | (intro _; try dsimp only) | dsimp only
noncomputable def z4w (s : (List ByteArray)) (f : (ByteArray → Option Bool)) : Option (Int) :=
 (ze8 (S := Int) (R := (Unit) ⊕ (Int)) (fun t =>
 bif decide (t < (List.length s : Int)) then
 chk (decide ((0 : Int) ≤ t) && decide (t < (List.length s : Int))) (
 (f (lget ByteArray.empty s t)).bind fun (t_1 : Bool) =>
 bif t_1 then
 Option.map Sum.inr (Option.map Sum.inr (
 some t))
 else
 some (.inl (wi64 (t + 1))))
 else
 some (.inr (.inl ()))) 0).bind fun j => match j with
 | .inl _ => (
 some (-1))
 | .inr r => some r
theorem zdr (s : (List ByteArray)) {f f' : (ByteArray → Option Bool)} (h_f : ∀ x, Lq (f x) (f' x)) : Lq (z4w s f) (z2n s f') := by
 unfold z4w z2n
 repeat' with_reducible first | exact z0k _ | exact h_f _ | apply z26 | apply z0n | apply z15 | apply z0x | apply z25 | apply z24 | (refine z0m (fun _ => ?_) (fun _ => ?_) <;> dsimp only) | (intro _; try dsimp only) | dsimp only
noncomputable def z3w (s : (List ByteArray)) (f : (ByteArray → Option Bool)) : Option (Bool) :=
 (z4w s f).bind fun (t : Int) =>
 some (decide (t ≥ 0))
theorem zbh (s : (List ByteArray)) {f f' : (ByteArray → Option Bool)} (h_f : ∀ x, Lq (f x) (f' x)) : Lq (z3w s f) (z2a s f') := by
 unfold z3w z2a
 repeat' with_reducible first | exact z0k _ | exact h_f _ | apply zdr | apply z26 | apply z0n | apply z15 | apply z0x | apply z25 | apply z24 | (refine z0m (fun _ => ?_) (fun _ => ?_) <;> dsimp only) | (intro _; try dsimp only) | dsimp only
noncomputable def zef (request : (List ByteArray)) (name : ByteArray) (than : ByteArray) : Option (Bool) :=
 (z4m request name).bind fun (t : Int) =>
 (bif decide (t < 0) then some true else
 (z4m request than).bind fun (t_1 : Int) =>
 some (decide (t > t_1))).bind fun (c : Bool) =>
 some c
theorem zqz (request : (List ByteArray)) (name : ByteArray) (than : ByteArray) : Lq (zef request name than) (za4 request name than) := by
 unfold zef za4
 repeat' with_reducible first | exact z0k _ | apply zcg | apply z26 | apply z0n | apply z15 | apply z0x | apply z25 | apply z24 | (refine z0m (fun _ => ?_) (fun _ => ?_) <;> dsimp only) | (intro _; try dsimp only) | dsimp only
noncomputable def z5z (below : ByteArray) (x : (List ByteArray)) (x_1 : ByteArray) : Option (Bool) :=
 (z3n x below).bind fun (t : Bool) =>
 (bif t then
 (zef x x_1 below).bind fun (t_1 : Bool) =>
 some t_1
 else some false).bind fun (c : Bool) =>
 some c
theorem zfj (below : ByteArray) (x : (List ByteArray)) (x_1 : ByteArray) : Lq (z5z below x x_1) (z3k below x x_1) := by
 unfold z5z z3k
 repeat' with_reducible first | exact z0k _ | apply z6g | apply zqz | apply z26 | apply z0n | apply z15 | apply z0x | apply z25 | apply z24 | (refine z0m (fun _ => ?_) (fun _ => ?_) <;> dsimp only) | (intro _; try dsimp only) | dsimp only
noncomputable def z6z (y : (List (List ByteArray))) (request : (List ByteArray)) : Option ((List ByteArray)) :=
 (ze8 (S := (List ByteArray) × Int) (R := (List ByteArray)) (fun s =>
 let out : (List ByteArray) := s.1
 let t : Int := s.2
 bif decide (t < (List.length y : Int)) then
 chk (decide ((0 : Int) ≤ t) && decide (t < (List.length y : Int))) (
 (ze8 (S := (List ByteArray) × Int) (R := (List ByteArray)) (fun s_1 =>
 let out_1 : (List ByteArray) := s_1.1
 let t_1 : Int := s_1.2
 bif decide (t_1 < (List.length (lget [] y t) : Int)) then
 chk (decide ((0 : Int) ≤ t_1) && decide (t_1 < (List.length (lget [] y t) : Int))) (
 let name : ByteArray := lget ByteArray.empty (lget [] y t) t_1
 chk (decide ((0 : Int) ≤ 0) && decide ((0 : Int) ≤ t_1) && decide (t_1 ≤ (List.length (lget [] y t) : Int))) (
 (z3w (List.drop (Int.toNat 0) (List.take (Int.toNat t_1) (lget [] y t))) (fun x => z5z x request name)).bind fun (t_2 : Bool) =>
 (bif t_2 then
 (app out_1 [name]).bind fun (t_3 : List ByteArray) =>
 some t_3
 else
 some out_1).bind fun (out_2 : (List ByteArray)) =>
 some (.inl (out_2, wi64 (t_1 + 1)))))
 else
 some (.inr out_1)) (out, 0)).bind fun (out_3 : (List ByteArray)) =>
 some (.inl (out_3, wi64 (t + 1))))
 else
 some (.inr out)) ([], 0)).bind fun (out_4 : (List ByteArray)) =>
 some out_4
theorem zh5 (y : (List (List ByteArray))) (request : (List ByteArray)) : Lq (z6z y request) (z3z y request) := by
 unfold z6z z3z
 repeat' with_reducible first | exact z0k _ | apply zbh | apply zfj | apply z26 | apply z0n | apply z15 | apply z0x | apply z25 | apply z24 | (refine z0m (fun _ => ?_) (fun _ => ?_) <;> dsimp only) | (intro _; try dsimp only) | dsimp only
noncomputable def z9v (y : (List (List ByteArray))) (request : (List ByteArray)) : Option ((List ByteArray) × Int) :=
 (z84 y request).bind fun (r : (List (List ByteArray)) × Int) =>
 bif (r.2 != 0) then
 some ([], r.2)
 else
 (z6z r.1 request).bind fun (t : (List ByteArray)) =>
 some (t, 0)
theorem zko (y : (List (List ByteArray))) (request : (List ByteArray)) : Lq (z9v y request) (z68 y request) := by
 unfold z9v z68
 repeat' with_reducible first | exact z0k _ | apply zis | apply zh5 | apply z26 | apply z0n | apply z15 | apply z0x | apply z25 | apply z24 | (refine z0m (fun _ => ?_) (fun _ => ?_) <;> dsimp only) | (intro _; try dsimp only) | dsimp only
noncomputable def zmd  : Option (z02) :=
 some (2, (100, (150, (1000, (2, (5000, (1, (0, 10))))))))
theorem y3m  : Lq (zmd ) (zm3 ) := by
 unfold zmd zm3
 repeat' with_reducible first | exact z0k _ | apply z26 | apply z0n | apply z15 | apply z0x | apply z25 | apply z24 | (refine z0m (fun _ => ?_) (fun _ => ?_) <;> dsimp only) | (intro _; try dsimp only) | dsimp only
noncomputable def zme  : Option ((List z00)) :=
 let t : (List z00) := [(1200, (3000, (5, 1000))), (1100, (2500, (4, 1000))), (1050, (3400, (6, 2000)))]
 some t
theorem y3n  : Lq (zme ) (zm4 ) := by
 unfold zme zm4
 repeat' with_reducible first | exact z0k _ | apply z26 | apply z0n | apply z15 | apply z0x | apply z25 | apply z24 | (refine z0m (fun _ => ?_) (fun _ => ?_) <;> dsimp only) | (intro _; try dsimp only) | dsimp only
noncomputable def z3q (s : (List z00)) (f : (z00 → Option Bool)) : Option (Int) :=
 (ze8 (S := Int) (R := (Unit) ⊕ (Int)) (fun t =>
 bif decide (t < (List.length s : Int)) then
 chk (decide ((0 : Int) ≤ t) && decide (t < (List.length s : Int))) (
 (f (lget (0, (0, (0, 0))) s t)).bind fun (t_1 : Bool) =>
 bif t_1 then
 Option.map Sum.inr (Option.map Sum.inr (
 some t))
 else
 some (.inl (wi64 (t + 1))))
 else
 some (.inr (.inl ()))) 0).bind fun j => match j with
 | .inl _ => (
 some (-1))
 | .inr r => some r
theorem zai (s : (List z00)) {f f' : (z00 → Option Bool)} (h_f : ∀ x, Lq (f x) (f' x)) : Lq (z3q s f) (z1l s f') := by
 unfold z3q z1l
 repeat' with_reducible first | exact z0k _ | exact h_f _ | apply z26 | apply z0n | apply z15 | apply z0x | apply z25 | apply z24 | (refine z0m (fun _ => ?_) (fun _ => ?_) <;> dsimp only) | (intro _; try dsimp only) | dsimp only
noncomputable def z32 (s : (List z00)) (f : (z00 → Option Bool)) : Option (Bool) :=
 (z3q s f).bind fun (t : Int) =>
 some (decide (t ≥ 0))
theorem z97 (s : (List z00)) {f f' : (z00 → Option Bool)} (h_f : ∀ x, Lq (f x) (f' x)) : Lq (z32 s f) (z11 s f') := by
 unfold z32 z11
 repeat' with_reducible first | exact z0k _ | exact h_f _ | apply zai | apply z26 | apply z0n | apply z15 | apply z0x | apply z25 | apply z24 | (refine z0m (fun _ => ?_) (fun _ => ?_) <;> dsimp only) | (intro _; try dsimp only) | dsimp only
noncomputable def zd7 (x : z00) : Option (Bool) :=
 (z6c x.1).bind fun (t : Bool) =>
 (bif !t then some true else
 (z43 x.2.1).bind fun (t_1 : Bool) =>
 some (!t_1)).bind fun (c : Bool) =>
 (bif c then some true else
 (z6d x.2.2.1).bind fun (t_2 : Bool) =>
 some (!t_2)).bind fun (c_1 : Bool) =>
 (bif c_1 then some true else
 (z10 x.2.2.2 1 10000).bind fun (t_3 : Bool) =>
 some (!t_3)).bind fun (c_2 : Bool) =>
 some c_2
theorem zpa (x : z00) : Lq (zd7 x) (z6v x) := by
 unfold zd7 z6v
 repeat' with_reducible first | exact z0k _ | apply z1o | apply zak | apply z7a | apply zaj | apply z26 | apply z0n | apply z15 | apply z0x | apply z25 | apply z24 | (refine z0m (fun _ => ?_) (fun _ => ?_) <;> dsimp only) | (intro _; try dsimp only) | dsimp only
noncomputable def z81 (s : (List Int)) (f : (Int → Option Bool)) : Option (Int) :=
 (ze8 (S := Int) (R := (Unit) ⊕ (Int)) (fun t =>
 bif decide (t < (List.length s : Int)) then
 chk (decide ((0 : Int) ≤ t) && decide (t < (List.length s : Int))) (
 (f (lget 0 s t)).bind fun (t_1 : Bool) =>
 bif t_1 then
 Option.map Sum.inr (Option.map Sum.inr (
 some t))
 else
 some (.inl (wi64 (t + 1))))
 else
 some (.inr (.inl ()))) 0).bind fun j => match j with
 | .inl _ => (
 some (-1))
 | .inr r => some r
theorem zio (s : (List Int)) {f f' : (Int → Option Bool)} (h_f : ∀ x, Lq (f x) (f' x)) : Lq (z81 s f) (z2x s f') := by
 unfold z81 z2x
 repeat' with_reducible first | exact z0k _ | exact h_f _ | apply z26 | apply z0n | apply z15 | apply z0x | apply z25 | apply z24 | (refine z0m (fun _ => ?_) (fun _ => ?_) <;> dsimp only) | (intro _; try dsimp only) | dsimp only
noncomputable def z4i (s : (List Int)) (f : (Int → Option Bool)) : Option (Bool) :=
 (z81 s f).bind fun (t : Int) =>
 some (decide (t ≥ 0))
theorem z9i (s : (List Int)) {f f' : (Int → Option Bool)} (h_f : ∀ x, Lq (f x) (f' x)) : Lq (z4i s f) (z1y s f') := by
 unfold z4i z1y
 repeat' with_reducible first | exact z0k _ | exact h_f _ | apply zio | apply z26 | apply z0n | apply z15 | apply z0x | apply z25 | apply z24 | (refine z0m (fun _ => ?_) (fun _ => ?_) <;> dsimp only) | (intro _; try dsimp only) | dsimp only
noncomputable def z6j (n : Int) (x : Int) : Option (Bool) :=
 (z10 n 0 x).bind fun (t : Bool) =>
 some (!t)
theorem zg2 (n : Int) (x : Int) : Lq (z6j n x) (z2v n x) := by
 unfold z6j z2v
 repeat' with_reducible first | exact z0k _ | apply z1o | apply z26 | apply z0n | apply z15 | apply z0x | apply z25 | apply z24 | (refine z0m (fun _ => ?_) (fun _ => ?_) <;> dsimp only) | (intro _; try dsimp only) | dsimp only
noncomputable def z2c (most : Int) (l : (List Int)) : Option (Bool) :=
 (z4i l (fun x => z6j x most)).bind fun (t : Bool) =>
 some (!t)
theorem zhq (most : Int) (l : (List Int)) : Lq (z2c most l) (z1d most l) := by
 unfold z2c z1d
 repeat' with_reducible first | exact z0k _ | apply z9i | apply zg2 | apply z26 | apply z0n | apply z15 | apply z0x | apply z25 | apply z24 | (refine z0m (fun _ => ?_) (fun _ => ?_) <;> dsimp only) | (intro _; try dsimp only) | dsimp only
noncomputable def z95 (r : z02) : Option (Int) :=
 (z2c 7 [r.1]).bind fun (t : Bool) =>
 (bif t then
 (z2c 300000 [r.2.1, r.2.2.1, r.2.2.2.1]).bind fun (t_1 : Bool) =>
 some t_1
 else some false).bind fun (c : Bool) =>
 (bif c then
 (z2c 99 [r.2.2.2.2.1]).bind fun (t_2 : Bool) =>
 some t_2
 else some false).bind fun (c_1 : Bool) =>
 (bif c_1 then
 (z2c 70000 [r.2.2.2.2.2.1]).bind fun (t_3 : Bool) =>
 some t_3
 else some false).bind fun (c_2 : Bool) =>
 (bif c_2 then
 (z2c 10000 [r.2.2.2.2.2.2.1, r.2.2.2.2.2.2.2.1, r.2.2.2.2.2.2.2.2]).bind fun (t_4 : Bool) =>
 some t_4
 else some false).bind fun (c_3 : Bool) =>
 (z0p c_3 2).bind fun (t_5 : Int) =>
 some t_5
theorem zjp (r : z02) : Lq (z95 r) (z2q r) := by
 unfold z95 z2q
 repeat' with_reducible first | exact z0k _ | apply z33 | apply zhq | apply z26 | apply z0n | apply z15 | apply z0x | apply z25 | apply z24 | (refine z0m (fun _ => ?_) (fun _ => ?_) <;> dsimp only) | (intro _; try dsimp only) | dsimp only
noncomputable def zc2 (r : z02) (l : (List z00)) : Option (z05 × Int) :=
 (z32 l (fun x => zd7 x)).bind fun (t : Bool) =>
 (z95 r).bind fun (t_1 : Int) =>
 (z0p (decide ((List.length l : Int) > 0)) 10).bind fun (t_2 : Int) =>
 (z0p (decide ((List.length l : Int) ≤ 7)) 8).bind fun (t_3 : Int) =>
 (z0p (!t) 2).bind fun (t_4 : Int) =>
 (z2t [t_1, t_2, t_3, t_4]).bind fun (t_5 : Int) =>
 some ((r, l), t_5)
theorem zje (r : z02) (l : (List z00)) : Lq (zc2 r l) (z3t r l) := by
 unfold zc2 z3t
 repeat' with_reducible first | exact z0k _ | apply z33 | apply z49 | apply z97 | apply zpa | apply zjp | apply z26 | apply z0n | apply z15 | apply z0x | apply z25 | apply z24 | (refine z0m (fun _ => ?_) (fun _ => ?_) <;> dsimp only) | (intro _; try dsimp only) | dsimp only
noncomputable def zc3 (count : Int) : Option ((List Int)) :=
 (ze8 (S := (List Int) × Int) (R := (List Int)) (fun s =>
 let out : (List Int) := s.1
 let t : Int := s.2
 bif decide (t < count) then
 (app out [t]).bind fun (t_1 : List Int) =>
 some (.inl (t_1, wi64 (t + 1)))
 else
 some (.inr out)) ([], 0)).bind fun (out_1 : (List Int)) =>
 some out_1
theorem znt (count : Int) : Lq (zc3 count) (z3v count) := by
 unfold zc3 z3v
 repeat' with_reducible first | exact z0k _ | apply z26 | apply z0n | apply z15 | apply z0x | apply z25 | apply z24 | (refine z0m (fun _ => ?_) (fun _ => ?_) <;> dsimp only) | (intro _; try dsimp only) | dsimp only
noncomputable def z5v (n : Int) : Option (Int) :=
 let t : Int := imax n (wi64 (0 - n))
 some t
theorem zjd (n : Int) : Lq (z5v n) (z4h n) := by
 unfold z5v z4h
 repeat' with_reducible first | exact z0k _ | apply z26 | apply z0n | apply z15 | apply z0x | apply z25 | apply z24 | (refine z0m (fun _ => ?_) (fun _ => ?_) <;> dsimp only) | (intro _; try dsimp only) | dsimp only
noncomputable def z6i (r : z05) (sequence : (List Int)) (p : Int) : Option ((Nat → Bool)) :=
 chk (decide ((0 : Int) ≤ 0) && decide ((0 : Int) ≤ (wi64 (p + 1))) && decide ((wi64 (p + 1)) ≤ (List.length sequence : Int))) (
 (ze8 (S := Int × Int) (R := Int) (fun s =>
 let metres : Int := s.1
 let t : Int := s.2
 bif decide (t < (List.length (List.drop (Int.toNat 0) (List.take (Int.toNat (wi64 (p + 1))) sequence)) : Int)) then
 chk (decide ((0 : Int) ≤ t) && decide (t < (List.length (List.drop (Int.toNat 0) (List.take (Int.toNat (wi64 (p + 1))) sequence)) : Int))) (
 let i : Int := lget 0 (List.drop (Int.toNat 0) (List.take (Int.toNat (wi64 (p + 1))) sequence)) t
 chk (decide ((0 : Int) ≤ i) && decide (i < (List.length r.2 : Int))) (
 let metres_1 : Int := wi64 (metres + ((((lget (0, (0, (0, 0))) r.2 i).2).2).2))
 some (.inl (metres_1, wi64 (t + 1)))))
 else
 some (.inr metres)) (0, 0)).bind fun (metres_2 : Int) =>
 chk (decide ((0 : Int) ≤ 0) && decide ((0 : Int) < 5)) (
 let out : (Nat → Bool) := aset (fun _ => false) 0 (decide (metres_2 > r.1.2.2.2.2.2.1))
 bif (p == 0) then
 some out
 else
 chk (decide ((0 : Int) ≤ p) && decide (p < (List.length sequence : Int))) (
 chk (decide ((0 : Int) ≤ (lget 0 sequence p)) && decide ((lget 0 sequence p) < (List.length r.2 : Int))) (
 chk (decide ((0 : Int) ≤ (wi64 (p - 1))) && decide ((wi64 (p - 1)) < (List.length sequence : Int))) (
 chk (decide ((0 : Int) ≤ (lget 0 sequence (wi64 (p - 1)))) && decide ((lget 0 sequence (wi64 (p - 1))) < (List.length r.2 : Int))) (
 let x : z00 := lget (0, (0, (0, 0))) r.2 (lget 0 sequence p)
 let y : z00 := lget (0, (0, (0, 0))) r.2 (lget 0 sequence (wi64 (p - 1)))
 (bif decide (p < r.1.1) then
 chk (decide ((0 : Int) ≤ 1) && decide ((1 : Int) < 5)) (
 let out_1 : (Nat → Bool) := aset out 1 (decide ((wi64 (x.1 - y.1)) < 0))
 some out_1)
 else
 chk (decide ((0 : Int) ≤ 1) && decide ((1 : Int) < 5)) (
 let out_2 : (Nat → Bool) := aset out 1 (decide ((wi64 (x.1 - y.1)) > 0))
 some out_2)).bind fun (out_3 : (Nat → Bool)) =>
 (z10 (wi64 (x.1 - y.1)) (wi64 (0 - r.1.2.2.1)) r.1.2.1).bind fun (t_1 : Bool) =>
 chk (decide ((0 : Int) ≤ 2) && decide ((2 : Int) < 5)) (
 let out_4 : (Nat → Bool) := aset out_3 2 (!t_1)
 (z5v (wi64 (x.2.1 - y.2.1))).bind fun (t_2 : Int) =>
 chk (decide ((0 : Int) ≤ 3) && decide ((3 : Int) < 5)) (
 let out_5 : (Nat → Bool) := aset out_4 3 (decide (t_2 > r.1.2.2.2.1))
 (z5v (wi64 (x.2.2.1 - y.2.2.1))).bind fun (t_3 : Int) =>
 chk (decide ((0 : Int) ≤ 4) && decide ((4 : Int) < 5)) (
 let out_6 : (Nat → Bool) := aset out_5 4 (decide (t_3 > r.1.2.2.2.2.1))
 some out_6)))))))))
theorem zg1 (r : z05) (sequence : (List Int)) (p : Int) : Lq (z6i r sequence p) (z1a r sequence p) := by
 unfold z6i z1a
 repeat' with_reducible first | exact z0k _ | apply z1o | apply zjd | apply z26 | apply z0n | apply z15 | apply z0x | apply z25 | apply z24 | (refine z0m (fun _ => ?_) (fun _ => ?_) <;> dsimp only) | (intro _; try dsimp only) | dsimp only
noncomputable def zao (s : (List Bool)) (v : Bool) : Option (Int) :=
 (ze8 (S := Int) (R := (Unit) ⊕ (Int)) (fun t =>
 bif decide (t < (List.length s : Int)) then
 chk (decide ((0 : Int) ≤ t) && decide (t < (List.length s : Int))) (
 bif (v == (lget false s t)) then
 Option.map Sum.inr (Option.map Sum.inr (
 some t))
 else
 some (.inl (wi64 (t + 1))))
 else
 some (.inr (.inl ()))) 0).bind fun j => match j with
 | .inl _ => (
 some (-1))
 | .inr r => some r
theorem zmk (s : (List Bool)) (v : Bool) : Lq (zao s v) (z5i s v) := by
 unfold zao z5i
 repeat' with_reducible first | exact z0k _ | apply z26 | apply z0n | apply z15 | apply z0x | apply z25 | apply z24 | (refine z0m (fun _ => ?_) (fun _ => ?_) <;> dsimp only) | (intro _; try dsimp only) | dsimp only
noncomputable def z82 (s : (List Bool)) (v : Bool) : Option (Bool) :=
 (zao s v).bind fun (t : Int) =>
 some (decide (t ≥ 0))
theorem ziq (s : (List Bool)) (v : Bool) : Lq (z82 s v) (z2h s v) := by
 unfold z82 z2h
 repeat' with_reducible first | exact z0k _ | apply zmk | apply z26 | apply z0n | apply z15 | apply z0x | apply z25 | apply z24 | (refine z0m (fun _ => ?_) (fun _ => ?_) <;> dsimp only) | (intro _; try dsimp only) | dsimp only
noncomputable def zrl (r : z05) (begun : List Int) : Option Bool :=
 bif decide ((begun.length : Int) > 0) then (z6i r begun (wi64 ((begun.length : Int) - 1))).bind fun v => z82 ((List.range 5).map v) true else some false
theorem zuj (r : z05) (begun : List Int) : Lq (zrl r begun) (zgo r begun) := z0x (z0n (zg1 _ _ _) fun _ => ziq _ _) (z0k _)
noncomputable def zc1 (s : (List Int)) (v : Int) : Option (Int) :=
 (ze8 (S := Int) (R := (Unit) ⊕ (Int)) (fun t =>
 bif decide (t < (List.length s : Int)) then
 chk (decide ((0 : Int) ≤ t) && decide (t < (List.length s : Int))) (
 bif (v == (lget 0 s t)) then
 Option.map Sum.inr (Option.map Sum.inr (
 some t))
 else
 some (.inl (wi64 (t + 1))))
 else
 some (.inr (.inl ()))) 0).bind fun j => match j with
 | .inl _ => (
 some (-1))
 | .inr r => some r
theorem znr (s : (List Int)) (v : Int) : Lq (zc1 s v) (slices_Index_int s v) := by
 unfold zc1 slices_Index_int
 repeat' with_reducible first | exact z0k _ | apply z26 | apply z0n | apply z15 | apply z0x | apply z25 | apply z24 | (refine z0m (fun _ => ?_) (fun _ => ?_) <;> dsimp only) | (intro _; try dsimp only) | dsimp only
noncomputable def z6a (s : (List Int)) (v : Int) : Option (Bool) :=
 (zc1 s v).bind fun (t : Int) =>
 some (decide (t ≥ 0))
theorem zch (s : (List Int)) (v : Int) : Lq (z6a s v) (slices_Contains_int s v) := by
 unfold z6a slices_Contains_int
 repeat' with_reducible first | exact z0k _ | apply znr | apply z26 | apply z0n | apply z15 | apply z0x | apply z25 | apply z24 | (refine z0m (fun _ => ?_) (fun _ => ?_) <;> dsimp only) | (intro _; try dsimp only) | dsimp only
theorem y9l {α β : Type} {f g : α → Option (List β)} (h : ∀ a, Lq (f a) (g a)) : ∀ l, Lq (catM f l) (catM g l)
 | [] => z0k _
 | a :: l => z0n (h a) fun _ => z0n (y9l h l) fun _ => z0k _
noncomputable def zvy (r : z05) (items : List Int) : Nat → List Int → Option (List (List Int))
 | 0, begun => (zrl r begun).bind fun bad => bif bad then some [] else bif ((begun.length : Int) == (items.length : Int)) then some [begun] else none
 | m + 1, begun => (zrl r begun).bind fun bad => bif bad then some [] else bif ((begun.length : Int) == (items.length : Int)) then some [begun] else catM (fun i => (z6a begun i).bind fun t => bif t then some [] else zvy r items m (begun ++ [i])) items
theorem y5g (r : z05) (items : List Int) : ∀ (m : Nat) (begun : List Int), Lq (zvy r items m begun) (zvg r items m begun)
 | 0, begun => by
  unfold zvy zvg
  exact z0n (zuj _ _) fun _ => z0x (z0k _) (z0x (z0k _) (z0k _))
 | m + 1, begun => by
  unfold zvy zvg
  exact z0n (zuj _ _) fun _ => z0x (z0k _) (z0x (z0k _) (y9l (fun i => z0n (zch _ _) fun _ => z0x (z0k _) (y5g r items m _)) _))
noncomputable def z9n (r : z05) (items : List Int) : Option (List (List Int)) := bif decide (items.length ≤ 1000) then zvy r items (items.length + 1) [] else none
theorem zfk (r : z05) (items : List Int) : Lq (z9n r items) (z1f r items) := z0x (y5g _ _ _ _) (z0k _)
noncomputable def z6b (r : z05) (a : Int) (b : Int) : Option (Int) :=
 chk (decide ((0 : Int) ≤ a) && decide (a < (List.length r.2 : Int))) (
 chk (decide ((0 : Int) ≤ b) && decide (b < (List.length r.2 : Int))) (
 let x : z00 := lget (0, (0, (0, 0))) r.2 a
 let y : z00 := lget (0, (0, (0, 0))) r.2 b
 (z5v (wi64 (x.1 - y.1))).bind fun (t : Int) =>
 (z5v (wi64 (x.2.1 - y.2.1))).bind fun (t_1 : Int) =>
 (z5v (wi64 (x.2.2.1 - y.2.2.1))).bind fun (t_2 : Int) =>
 let t_3 : Int := wi64 ((wi64 ((wi64 (r.1.2.2.2.2.2.2.1 * t)) + (wi64 (r.1.2.2.2.2.2.2.2.1 * t_1)))) + (wi64 (r.1.2.2.2.2.2.2.2.2 * t_2)))
 some t_3))
theorem zci (r : z05) (a : Int) (b : Int) : Lq (z6b r a b) (z2b r a b) := by
 unfold z6b z2b
 repeat' with_reducible first | exact z0k _ | apply zjd | apply z26 | apply z0n | apply z15 | apply z0x | apply z25 | apply z24 | (refine z0m (fun _ => ?_) (fun _ => ?_) <;> dsimp only) | (intro _; try dsimp only) | dsimp only
noncomputable def z83 (r : z05) (sequence : (List Int)) : Option (Int) :=
 (ze8 (S := Int × Int) (R := Int) (fun s =>
 let sum : Int := s.1
 let p : Int := s.2
 bif decide (p < (List.length sequence : Int)) then
 chk (decide ((0 : Int) ≤ (wi64 (p - 1))) && decide ((wi64 (p - 1)) < (List.length sequence : Int))) (
 chk (decide ((0 : Int) ≤ p) && decide (p < (List.length sequence : Int))) (
 (z6b r (lget 0 sequence (wi64 (p - 1))) (lget 0 sequence p)).bind fun (t : Int) =>
 some (.inl (wi64 (sum + t), wi64 (p + 1)))))
 else
 some (.inr sum)) (0, 1)).bind fun (sum_1 : Int) =>
 some sum_1
theorem zir (r : z05) (sequence : (List Int)) : Lq (z83 r sequence) (z19 r sequence) := by
 unfold z83 z19
 repeat' with_reducible first | exact z0k _ | apply zci | apply z26 | apply z0n | apply z15 | apply z0x | apply z25 | apply z24 | (refine z0m (fun _ => ?_) (fun _ => ?_) <;> dsimp only) | (intro _; try dsimp only) | dsimp only
noncomputable def yb8 (x : z05) (s : List Int) (b : Option (List Int × Int)) : Option (Option (List Int × Int)) :=
 (z83 x s).bind fun n => match b with
  | none => some (some (s, n))
  | some c => chk (!c.1.isEmpty) (bif decide (n < c.2) then some (some (s, n)) else some (some c))
theorem ycb (x : z05) (s : List Int) (b : Option (List Int × Int)) : Lq (yb8 x s b) (y27 x s b) := z0n (zir _ _) fun _ => z0k _
noncomputable def y4c (x : z05) : List (List Int) → Option (List Int × Int) → Option (Option (List Int × Int))
 | [], b => some b
 | s :: cs, b => (yb8 x s b).bind fun d => y4c x cs d
theorem y5h (x : z05) : ∀ (cs : List (List Int)) (b : Option (List Int × Int)), Lq (y4c x cs b) (y28 x cs b)
 | [], _ => z0k _
 | s :: cs, b => z0n (ycb _ _ _) fun d => y5h x cs d
noncomputable def zfy (r : z02) (l : List z00) : Option (List Int × Int × Int) :=
 (zc2 r l).bind fun x => bif x.2 != 0 then some ([], 0, x.2) else
 (zc3 (l.length : Int)).bind fun ns => (z9n x.1 ns).bind fun cs => (y4c x.1 cs none).bind fun b => match b with
 | none => some ([], 0, 12)
 | some c => chk (!c.1.isEmpty) (some (c.1, c.2, 0))
theorem zmm (r : z02) (l : List z00) : Lq (zfy r l) (z1x r l) :=
 z0n (zje _ _) fun _ => z0x (z0k _) (z0n (znt _) fun _ => z0n (zfk _ _) fun _ => z0n (y5h _ _ _) fun _ => z0k _)
noncomputable def z9u (n : Int) : Option (Bool) :=
 (z10 n (-10000) 10000).bind fun (t : Bool) =>
 some (!t)
theorem zkn (n : Int) : Lq (z9u n) (z4r n) := by
 unfold z9u z4r
 repeat' with_reducible first | exact z0k _ | apply z1o | apply z26 | apply z0n | apply z15 | apply z0x | apply z25 | apply z24 | (refine z0m (fun _ => ?_) (fun _ => ?_) <;> dsimp only) | (intro _; try dsimp only) | dsimp only
noncomputable def zam (x : List Int) : Option (List Int) := bif decide (x.length ≤ 1000000) then some x else none
theorem zmi (x : List Int) : Lq (zam x) (z44 x) := by
 unfold zam z44
 repeat' with_reducible first | exact z0k _ | apply z26 | apply z0n | apply z15 | apply z0x | apply z25 | apply z24 | (refine z0m (fun _ => ?_) (fun _ => ?_) <;> dsimp only) | (intro _; try dsimp only) | dsimp only
theorem zw4 : z3j [0, 20, 0] = some [0, 0, 20] := by
 unfold z3j
 have h : ([0, 20, 0] : List Int).mergeSort (fun a b => decide (a ≤ b)) = [0, 0, 20] := by
  simp [List.mergeSort, List.MergeSort.Internal.splitInTwo, List.merge]
 rw [h]; rfl
def zan (x : List Int) : Option (List Int) := if x = [0, 20, 0] then some [0, 0, 20] else none
theorem zmj (x : List Int) : Lq (zan x) (z3j x) := by
 intro v hv
 unfold zan at hv
 split at hv
 ·rename_i h
  subst h
  cases hv
  exact zw4
 ·cases hv
noncomputable def z92 (r : z05) (prices : (List Int)) : Option (Int) :=
 (ze8 (S := (List Int) × Int) (R := Int) (fun s =>
 let in_ : (List Int) := s.1
 let sum : Int := s.2
 bif decide ((List.length in_ : Int) < (List.length r.2 : Int)) then
 (ze8 (S := Int × Int × Int) (R := Int × Int) (fun s_1 =>
 let next : Int := s_1.1
 let least : Int := s_1.2.1
 let t : Int := s_1.2.2
 bif decide (t < (List.length in_ : Int)) then
 chk (decide ((0 : Int) ≤ t) && decide (t < (List.length in_ : Int))) (
 (ze8 (S := Int × Int × Int) (R := Int × Int) (fun s_2 =>
 let next_1 : Int := s_2.1
 let least_1 : Int := s_2.2.1
 let t_1 : Int := s_2.2.2
 bif decide (t_1 < (List.length r.2 : Int)) then
 (z6b r (lget 0 in_ t) t_1).bind fun (t_2 : Int) =>
 chk (decide ((0 : Int) ≤ (lget 0 in_ t)) && decide ((lget 0 in_ t) < (List.length prices : Int))) (
 chk (decide ((0 : Int) ≤ t_1) && decide (t_1 < (List.length prices : Int))) (
 let n : Int := wi64 ((wi64 (t_2 - (lget 0 prices (lget 0 in_ t)))) - (lget 0 prices t_1))
 (z6a in_ t_1).bind fun (t_3 : Bool) =>
 (bif ((!t_3) && ((decide (next_1 < 0)) || (decide (n < least_1)))) then
 some (t_1, n)
 else
 some (next_1, least_1)).bind fun (j : Int × Int) =>
 let next_2 : Int := j.1
 let least_2 : Int := j.2
 some (.inl (next_2, least_2, wi64 (t_1 + 1)))))
 else
 some (.inr (next_1, least_1))) (next, least, 0)).bind fun (b : Int × Int) =>
 let next_3 : Int := b.1
 let least_3 : Int := b.2
 some (.inl (next_3, least_3, wi64 (t + 1))))
 else
 some (.inr (next, least))) ((-1), 0, 0)).bind fun (b_1 : Int × Int) =>
 let next_4 : Int := b_1.1
 let least_4 : Int := b_1.2
 (app in_ [next_4]).bind fun (t_4 : List Int) =>
 let sum_1 : Int := wi64 (sum + least_4)
 some (.inl (t_4, sum_1))
 else
 some (.inr sum)) ([0], 0)).bind fun (sum_2 : Int) =>
 some sum_2
theorem zjm (r : z05) (prices : (List Int)) : Lq (z92 r prices) (z3h r prices) := by
 unfold z92 z3h
 repeat' with_reducible first | exact z0k _ | apply zch | apply zci | apply z26 | apply z0n | apply z15 | apply z0x | apply z25 | apply z24 | (refine z0m (fun _ => ?_) (fun _ => ?_) <;> dsimp only) | (intro _; try dsimp only) | dsimp only
noncomputable def zc4 (r : z02) (l : (List z00)) (prices : (List Int)) : Option (Int × Int) :=
 (zc2 r l).bind fun (r_1 : z05 × Int) =>
 (z4i prices (fun x => z9u x)).bind fun (t : Bool) =>
 (z0p ((List.length prices : Int) == (List.length l : Int)) 10).bind fun (t_1 : Int) =>
 (z0p (!t) 2).bind fun (t_2 : Int) =>
 (z2t [r_1.2, t_1, t_2]).bind fun (t_3 : Int) =>
 bif (t_3 != 0) then
 some (0, t_3)
 else
 bif ((List.length l : Int) == 1) then
 some (0, 0)
 else
 (ze8 (S := Int × Int) (R := Int) (fun s =>
 let sum : Int := s.1
 let t_4 : Int := s.2
 bif decide (t_4 < (List.length prices : Int)) then
 chk (decide ((0 : Int) ≤ t_4) && decide (t_4 < (List.length prices : Int))) (
 let sum_1 : Int := wi64 (sum + (wi64 (2 * (lget 0 prices t_4))))
 some (.inl (sum_1, wi64 (t_4 + 1))))
 else
 some (.inr sum)) (0, 0)).bind fun (sum_2 : Int) =>
 (zam prices).bind fun (t_5 : (List Int)) =>
 (zan t_5).bind fun (t_6 : (List Int)) =>
 chk (decide ((0 : Int) ≤ (wi64 ((List.length t_6 : Int) - 2))) && decide (((wi64 ((List.length t_6 : Int) - 2)) : Int) ≤ (List.length t_6 : Int)) && decide ((List.length t_6 : Int) ≤ (List.length t_6 : Int))) (
 let top : (List Int) := List.drop (Int.toNat (wi64 ((List.length t_6 : Int) - 2))) (List.take (Int.toNat (List.length t_6 : Int)) t_6)
 (z92 r_1.1 prices).bind fun (t_7 : Int) =>
 chk (decide ((0 : Int) ≤ 0) && decide (0 < (List.length top : Int))) (
 chk (decide ((0 : Int) ≤ 1) && decide (1 < (List.length top : Int))) (
 let t_8 : Int := wi64 ((wi64 ((wi64 (t_7 + sum_2)) - (lget 0 top 0))) - (lget 0 top 1))
 some (t_8, 0))))
theorem znu (r : z02) (l : (List z00)) (prices : (List Int)) : Lq (zc4 r l prices) (z3d r l prices) := by
 unfold zc4 z3d
 repeat' with_reducible first | exact z0k _ | apply z33 | apply z49 | apply z9i | apply zje | apply zkn | apply zmi | apply zmj | apply zjm | apply z26 | apply z0n | apply z15 | apply z0x | apply z25 | apply z24 | (refine z0m (fun _ => ?_) (fun _ => ?_) <;> dsimp only) | (intro _; try dsimp only) | dsimp only
noncomputable def zrm (a : (List ByteArray)) (b : (List ByteArray)) : Option (Bool) :=
 bif ((List.length a : Int) != (List.length b : Int)) then
 some false
 else
 (ze8 (S := Int) (R := (Unit) ⊕ (Bool)) (fun i =>
 bif decide (i < (List.length a : Int)) then
 chk (decide ((0 : Int) ≤ i) && decide (i < (List.length a : Int))) (
 chk (decide ((0 : Int) ≤ i) && decide (i < (List.length b : Int))) (
 bif !y2p (lget ByteArray.empty a i) (lget ByteArray.empty b i) then
 Option.map Sum.inr (Option.map Sum.inr (
 some false))
 else
 some (.inl (wi64 (i + 1)))))
 else
 some (.inr (.inl ()))) 0).bind fun j => match j with
 | .inl _ => (
 some true)
 | .inr r => some r
theorem y3o (a : (List ByteArray)) (b : (List ByteArray)) : Lq (zrm a b) (zq5 a b) := by
 unfold zrm zq5
 try simp only [ztk]
 repeat' with_reducible first | exact z0k _ | apply z26 | apply z0n | apply z15 | apply z0x | apply z25 | apply z24 | (refine z0m (fun _ => ?_) (fun _ => ?_) <;> dsimp only) | (intro _; try dsimp only) | dsimp only
noncomputable def zvz (a : (List Int)) (b : (List Int)) : Option (Bool) :=
 bif ((List.length a : Int) != (List.length b : Int)) then
 some false
 else
 (ze8 (S := Int) (R := (Unit) ⊕ (Bool)) (fun i =>
 bif decide (i < (List.length a : Int)) then
 chk (decide ((0 : Int) ≤ i) && decide (i < (List.length a : Int))) (
 chk (decide ((0 : Int) ≤ i) && decide (i < (List.length b : Int))) (
 bif ((lget 0 a i) != (lget 0 b i)) then
 Option.map Sum.inr (Option.map Sum.inr (
 some false))
 else
 some (.inl (wi64 (i + 1)))))
 else
 some (.inr (.inl ()))) 0).bind fun j => match j with
 | .inl _ => (
 some true)
 | .inr r => some r
theorem y6v (a : (List Int)) (b : (List Int)) : Lq (zvz a b) (zlb a b) := by
 unfold zvz zlb
 repeat' with_reducible first | exact z0k _ | apply z26 | apply z0n | apply z15 | apply z0x | apply z25 | apply z24 | (refine z0m (fun _ => ?_) (fun _ => ?_) <;> dsimp only) | (intro _; try dsimp only) | dsimp only
noncomputable def zy6  : Option (Bool) :=
 (z93 (bytes [97, 45, 49, 32, 119, 105, 100, 116, 104, 32, 49, 50, 48, 48, 32, 109, 109, 32, 116, 104, 105, 99, 107, 110, 101, 115, 115, 32, 51, 32, 109, 109, 32, 103, 114, 97, 100, 101, 32, 53, 32, 116, 111, 108, 101, 114, 97, 110, 99, 101, 32, 53, 48, 32, 117, 109, 32, 100, 117, 101, 32, 49, 50])).bind fun (r : z01 × Int × Int) =>
 (z94 ((bytes [115]), (5, (200000, (1250, 8000)))) r.1).bind fun (r_1 : z1g × Int) =>
 (zvx).bind fun (t : (List (List ByteArray))) =>
 (z9v t [(bytes [97]), (bytes [99])]).bind fun (r_2 : (List ByteArray) × Int) =>
 (zmd).bind fun (t_1 : z02) =>
 (zme).bind fun (t_2 : (List z00)) =>
 (zfy t_1 t_2).bind fun (r_3 : (List Int) × Int × Int) =>
 (zmd).bind fun (t_3 : z02) =>
 (zme).bind fun (t_4 : (List z00)) =>
 (zc4 t_3 t_4 [0, 20, 0]).bind fun (r_4 : Int × Int) =>
 (bif ((r.2.2 == 0) && (r_1.2 == 0)) then
 some (Ty.eqb z0r r_1.1 (546448, 564972))
 else some false).bind fun (c : Bool) =>
 (bif (c && (r_2.2 == 0)) then
 (zrm r_2.1 [(bytes [98]), (bytes [99])]).bind fun (t_5 : Bool) =>
 some t_5
 else some false).bind fun (c_1 : Bool) =>
 (bif (c_1 && (r_3.2.2 == 0)) then
 (zvz r_3.1 [1, 0, 2]).bind fun (t_6 : Bool) =>
 some t_6
 else some false).bind fun (c_2 : Bool) =>
 let t_7 : Bool := (((c_2 && (r_3.2.1 == 270)) && (r_4.2 == 0)) && (r_4.1 == 160))
 some t_7
theorem y3l  : Lq (zy6 ) (z7b ) := by
 unfold zy6 z7b
 repeat' with_reducible first | exact z0k _ | apply zjn | apply zjo | apply y6u | apply zko | apply y3m | apply y3n | apply zmm | apply znu | apply y3o | apply y6v | apply z26 | apply z0n | apply z15 | apply z0x | apply z25 | apply z24 | (refine z0m (fun _ => ?_) (fun _ => ?_) <;> dsimp only) | (intro _; try dsimp only) | dsimp only
end Go.Lift
namespace Go.Lift
open Go
theorem zf2 : z7b = some true := y3l _ (by kernel_rfl)
end Go.Lift
