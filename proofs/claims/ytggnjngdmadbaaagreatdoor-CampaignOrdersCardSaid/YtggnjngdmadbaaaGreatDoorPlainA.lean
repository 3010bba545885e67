/-
  Loops, numbers in their kinds, names on both sides.
-/
import Derived.Test.YtggnjngdmadbaaaGreatDoorFunF
set_option linter.unusedSectionVars false
set_option linter.unusedVariables false
set_option linter.unusedSimpArgs false
namespace Go.Lift
open Go
theorem zqu {S R : Type} {f : S → Option (S ⊕ R)} : ∀ {n m : Nat} {s : S} {r : R}, zfz f n s = some r → n ≤ m → zfz f m s = some r
 | 0, _, _, _, h, _ => by simp [zfz] at h
 | n + 1, 0, _, _, _, h => by omega
 | n + 1, m + 1, s, r, h, hm => by
  simp only [zfz] at h ⊢
  split at h
  ·exact zqu h (by omega)
  ·exact h
  ·cases h
theorem zyu {S R : Type} {f : S → Option (S ⊕ R)} {s : S} {r : R} {n : Nat} (h : zfz f n s = some r) : z2d f s = some r := by
 unfold z2d
 have hx : ∃ n r, zfz f n s = some r := ⟨n, r, h⟩
 rw [dif_pos hx]
 have h2 := Classical.choose_spec (Classical.choose_spec hx)
 have a := zqu h (Nat.le_max_left n (Classical.choose hx))
 have b := zqu h2 (Nat.le_max_right n (Classical.choose hx))
 rw [b] at a
 exact a
theorem y1a {S R : Type} {f : S → Option (S ⊕ R)} {s : S} {r : R} : z2d f s = some r ↔ ∃ n, zfz f n s = some r := by
 constructor
 ·intro h
  unfold z2d at h
  split at h
  ·rename_i hx
   simp only [Option.some.injEq] at h
   subst h
   exact ⟨_, Classical.choose_spec (Classical.choose_spec hx)⟩
  ·cases h
 ·exact fun ⟨n, h⟩ => zyu h
theorem zqw {S R : Type} {f : S → Option (S ⊕ R)} {s s' : S} (h : f s = some (.inl s')) : z2d f s = z2d f s' := by
 have key : ∀ r, z2d f s = some r ↔ z2d f s' = some r := fun r => by
  rw [y1a, y1a]
  constructor
  ·rintro ⟨n, hn⟩
   cases n with
   | zero => simp [zfz] at hn
   | succ n => simp only [zfz, h] at hn; exact ⟨n, hn⟩
  ·rintro ⟨n, hn⟩
   exact ⟨n + 1, by simp only [zfz, h]; exact hn⟩
 cases h1 : z2d f s with
 | some r => exact ((key r).1 h1).symm
 | none =>
  cases h2 : z2d f s' with
  | some r => rw [(key r).2 h2] at h1; cases h1
  | none => rfl
theorem zhp {S R : Type} {f : S → Option (S ⊕ R)} {s : S} {r : R} (h : f s = some (.inr r)) : z2d f s = some r :=
 zyu (n := 1) (by simp only [zfz, h])
theorem yn3 {S R : Type} {f : S → Option (S ⊕ R)} (I : S → Prop) (μ : S → Nat) (Q : R → Prop)
  (hstep : ∀ s, I s → (∃ s', f s = some (.inl s') ∧ I s' ∧ μ s' < μ s) ∨ ∃ r, f s = some (.inr r) ∧ Q r) {s : S} (h : I s) : ∃ r, z2d f s = some r ∧ Q r := by
 generalize hd : μ s = d
 induction d using Nat.strongRecOn generalizing s with
 | _ d ih =>
  rcases hstep s h with ⟨s', h1, h2, h3⟩ | ⟨r, h1, h2⟩
  ·rw [zqw h1]
   exact ih (μ s') (by omega) h2 rfl
  ·exact ⟨r, zhp h1, h2⟩
theorem ynl (k : IntKind) (hk : k.signed = false) (x : Int) : k.wrap x = x % 2 ^ k.bits := by
 unfold IntKind.wrap
 simp [hk]
theorem ydv (x : Int) : wi64 x = if x % 18446744073709551616 ≥ 9223372036854775808 then x % 18446744073709551616 - 18446744073709551616 else x % 18446744073709551616 := by
 unfold wi64 IntKind.wrap
 have h1 : IntKind.i64.signed = true := rfl
 have h2 : IntKind.i64.bits = 64 := rfl
 have e1 : (2 : Int) ^ 64 = 18446744073709551616 := by decide
 have e2 : (2 : Int) ^ (64 - 1) = 9223372036854775808 := by decide
 simp only [h1, h2, Bool.true_and, e1, e2, decide_eq_true_eq]
theorem z0j {x : Int} (h0 : -9223372036854775808 ≤ x) (h1 : x < 9223372036854775808) : wi64 x = x := by
 rw [ydv]; split <;> omega
theorem zlc {α : Type} {l m : List α} (h : l.length + m.length ≤ 4294967296) : app l m = some (l ++ m) := by unfold app; rw [if_pos h]
theorem z18 {A : Type} {c : Bool} {k : Option A} (h : c = true) : chk c k = k := by subst h; rfl
end Go.Lift
namespace Go.Lift
open Go
theorem zi5 {a b : Bool} (ha : a = true) (hb : b = true) : (a && b) = true := by rw [ha, hb]; rfl
theorem z07 {p : Prop} [Decidable p] (h : p) : decide p = true := decide_eq_true h
theorem z0v {p : Prop} [Decidable p] (h : ¬ p) : decide p = false := decide_eq_false h
theorem z7f (n lo hi : Int) : z0w n lo hi = some (decide (lo ≤ n ∧ n ≤ hi)) := by
 unfold z0w
 simp only [Option.some.injEq]
 by_cases h1 : lo ≤ n <;> by_cases h2 : n ≤ hi <;> simp [h1, h2]
theorem zc0 (n lo hi : Int) : z1q n lo hi = some (decide (lo ≤ n ∧ n ≤ hi)) := by
 unfold z1q
 simp only [Option.some.injEq]
 by_cases h1 : lo ≤ n <;> by_cases h2 : n ≤ hi <;> simp [h1, h2]
theorem zx8 {X S R : Type} {f : S → Option (S ⊕ R)} (I : List X → S → Prop) (Q : R → Prop)
  (hstep : ∀ x l s, I (x :: l) s → (∃ s', f s = some (.inl s') ∧ I l s') ∨ ∃ r, f s = some (.inr r) ∧ Q r)
  (hend : ∀ s, I [] s → ∃ r, f s = some (.inr r) ∧ Q r) : ∀ {l : List X} {s : S}, I l s → ∃ r, z2d f s = some r ∧ Q r
 | [], s, h => by
  obtain ⟨r, h1, h2⟩ := hend s h
  exact ⟨r, zhp h1, h2⟩
 | x :: l, s, h => by
  rcases hstep x l s h with ⟨s', h1, h2⟩ | ⟨r, h1, h2⟩
  ·rw [zqw h1]
   exact zx8 I Q hstep hend h2
  ·exact ⟨r, zhp h1, h2⟩
theorem z58 {X S R : Type} {f : S → Option (S ⊕ R)} {t : R} (I : List X → S → Prop)
  (hstep : ∀ x l s, I (x :: l) s → (∃ s', f s = some (.inl s') ∧ I l s') ∨ f s = some (.inr t))
  (hend : ∀ s, I [] s → f s = some (.inr t)) {l : List X} {s : S} (h : I l s) : z2d f s = some t := by
 obtain ⟨r, h1, h2⟩ := zx8 I (fun r => r = t) (fun x l s hi => by
  rcases hstep x l s hi with h | h
  ·exact Or.inl h
  ·exact Or.inr ⟨t, h, rfl⟩) (fun s hi => ⟨t, hend s hi, rfl⟩) h
 rw [h1, h2]
theorem zp8 {A : Type} {d x : A} {pre post : List A} : lget d (pre ++ x :: post) (pre.length : Int) = x := by
 unfold lget
 rw [Int.toNat_natCast]
 simp
def z4z : List Int → Int
 | [] => 0
 | x :: l => if x = 0 then z4z l else x
theorem ziz {l : List Int} (hl : l.length ≤ 1000) : z1t l = some (z4z l) := by
 unfold z1t
 refine Option.bind_eq_some_iff.2 ⟨(if z4z l = 0 then .inl () else .inr (z4z l)), ?_, by
  by_cases h : z4z l = 0
  ·rw [if_pos h, h]
  ·rw [if_neg h]⟩
 refine z58 (X := Int) (l := l) (fun l' s => ∃ pre, l = pre ++ l' ∧ s = (pre.length : Int) ∧ z4z l = z4z l') ?_ ?_ ⟨[], rfl, rfl, rfl⟩
 ·rintro x l' s ⟨pre, e1, rfl, e2⟩
  have hL : l.length = pre.length + (l'.length + 1) := by rw [e1, List.length_append, List.length_cons]
  have g1 : ∀ d, lget d l (pre.length : Int) = x := fun d => by rw [e1]; exact zp8
  rw [z07 (show (pre.length : Int) < (l.length : Int) by omega), cond_true, z18 (zi5 (z07 (by omega)) rfl), g1]
  by_cases h : x = 0
  ·left
   have : z4z (x :: l') = z4z l' := if_pos h
   rw [this] at e2
   rw [h, show ((0 : Int) != 0) = false from rfl, cond_false, z0j (by omega) (by omega)]
   exact ⟨_, rfl, pre ++ [x], by rw [e1]; simp, by rw [List.length_append, List.length_singleton]; rfl, e2⟩
  ·right
   have : z4z (x :: l') = x := if_neg h
   rw [e2, this, if_neg h, show (x != 0) = true by simpa using h, cond_true]
   rfl
 ·rintro s ⟨pre, e1, rfl, e2⟩
  have hL : l.length = pre.length := by rw [e1, List.append_nil]
  rw [z0v (show ¬ (pre.length : Int) < (l.length : Int) by omega), cond_false, e2]
  rfl
def nameAt (i : Nat) (c : Int) : Bool := (decide (97 ≤ c ∧ c ≤ 122) || decide (65 ≤ c ∧ c ≤ 90)) || (decide (i ≠ 0) && (decide (c = 45) || decide (48 ≤ c ∧ c ≤ 57)))
def zp4 : Nat → List Int → Bool
 | _, [] => true
 | i, c :: l => nameAt i c && zp4 (i + 1) l
def zqt (s : ByteArray) : Bool := zp4 0 (z3y s) && decide (1 ≤ (s.size : Int) ∧ (s.size : Int) ≤ 12)
theorem zwv (s : ByteArray) : (z3y s).length = s.size := by
 unfold z3y
 rw [List.length_map]
 rfl
theorem zrq {s : ByteArray} {c : Int} (h : c ∈ z3y s) : 0 ≤ c ∧ c < 256 := by
 unfold z3y at h
 obtain ⟨b, _, rfl⟩ := List.mem_map.1 h
 have := b.toNat_lt
 omega
theorem y8c {s : ByteArray} {i : Int} (h0 : 0 ≤ i) (h1 : i < s.size) : sget s i = lget 0 (z3y s) i := by
 unfold sget lget z3y
 obtain ⟨n, rfl⟩ : ∃ n : Nat, i = (n : Int) := ⟨i.toNat, by omega⟩
 rw [Int.toNat_natCast]
 have hn : n < s.data.size := by
  have : (n : Int) < (s.data.size : Int) := h1
  omega
 have hn2 : n < s.data.toList.length := hn
 rw [Array.getD_eq_getD_getElem?, List.getD_eq_getElem?_getD, List.getElem?_map, Array.getElem?_eq_getElem hn, List.getElem?_eq_getElem hn2]
 rfl
theorem y1f {s : ByteArray} (h : s.size ≤ 9223372036854775807) : z29 s = some (zqt s) := by
 unfold z29
 have hlen := zwv s
 refine Option.bind_eq_some_iff.2 ⟨(if zp4 0 (z3y s) then .inl () else .inr false), ?_, ?_⟩
 ·refine z58 (X := Int) (l := z3y s) (fun l' t => ∃ pre, z3y s = pre ++ l' ∧ t = (pre.length : Int) ∧ zp4 0 (z3y s) = zp4 pre.length l') ?_ ?_ ⟨[], rfl, rfl, rfl⟩
  ·rintro x l' t ⟨pre, e1, rfl, e2⟩
   have hL : (z3y s).length = pre.length + (l'.length + 1) := by rw [e1, List.length_append, List.length_cons]
   have g1 : ∀ d, lget d (z3y s) (pre.length : Int) = x := fun d => by rw [e1]; exact zp8
   have hx := zrq (s := s) (c := x) (by rw [e1]; simp)
   rw [z07 (show (pre.length : Int) < ((z3y s).length : Int) by omega), cond_true, z18 (zi5 (z07 (by omega)) rfl), g1]
   simp only
   rw [z0j (by omega) (by omega), z7f, Option.bind_some, z7f, Option.bind_some, z7f, Option.bind_some]
   have e3 : zp4 pre.length (x :: l') = (nameAt pre.length x && zp4 (pre.length + 1) l') := rfl
   rw [e3] at e2
   have hb : ((bif decide (97 ≤ x ∧ x ≤ 122) then some true else some (decide (65 ≤ x ∧ x ≤ 90))).bind fun c_1 =>
     (bif !c_1 then (bif ((pre.length : Int) == 0) then some true else (bif (x != 45) then some (!decide (48 ≤ x ∧ x ≤ 57)) else some false).bind fun c_2 => some c_2).bind fun c_3 => some c_3 else some false)) = some (!nameAt pre.length x) := by
    unfold nameAt
    by_cases h1 : 97 ≤ x ∧ x ≤ 122
    ·rw [z07 h1]; rfl
    ·rw [z0v h1, cond_false, Option.bind_some, Bool.false_or]
     by_cases h2 : 65 ≤ x ∧ x ≤ 90
     ·rw [z07 h2]; rfl
     ·rw [z0v h2, Bool.not_false, cond_true, Bool.false_or]
      by_cases h3 : pre.length = 0
      ·rw [show ((pre.length : Int) == 0) = true by rw [h3]; rfl, z0v (show ¬ pre.length ≠ 0 by omega)]; rfl
      ·rw [show ((pre.length : Int) == 0) = false by rw [beq_eq_false_iff_ne]; omega, z07 (show pre.length ≠ 0 from h3), cond_false, Bool.true_and]
       by_cases h4 : x = 45
       ·rw [z07 h4, show (x != 45) = false by rw [h4]; rfl]; rfl
       ·rw [z0v h4, show (x != 45) = true by rw [bne_iff_ne]; exact h4, Bool.false_or]; rfl
   generalize nameAt pre.length x = b at *
   rw [Option.bind_eq_some_iff] at hb
   obtain ⟨c1, hc1, hc2⟩ := hb
   rw [hc1, Option.bind_some, hc2, Option.bind_some]
   cases b with
   | true =>
    left
    rw [Bool.not_true, cond_false, z0j (by omega) (by omega)]
    rw [Bool.true_and] at e2
    exact ⟨_, rfl, pre ++ [x], by rw [e1]; simp, by rw [List.length_append, List.length_singleton]; rfl, by rw [List.length_append, List.length_singleton]; exact e2⟩
   | false =>
    right
    rw [Bool.false_and] at e2
    rw [e2]
    rfl
  ·rintro t ⟨pre, e1, rfl, e2⟩
   have hL : (z3y s).length = pre.length := by rw [e1, List.append_nil]
   rw [z0v (show ¬ (pre.length : Int) < ((z3y s).length : Int) by omega), cond_false, e2]
   rfl
 ·unfold zqt
  cases zp4 0 (z3y s) with
  | true => simp only [if_true, Bool.true_and]; rw [z7f, Option.bind_some]
  | false => rfl
theorem y2h {s : ByteArray} (h : s.size ≤ 9223372036854775807) : zi4 s = some (zqt s) := by
 unfold zi4 zqt
 have hlen := zwv s
 by_cases hs : 1 ≤ (s.size : Int) ∧ (s.size : Int) ≤ 12
 ·rw [z07 hs, Bool.and_true, z0v (show ¬ (s.size : Int) < 1 by omega), z0v (show ¬ (s.size : Int) > 12 by omega), Bool.or_self, cond_false]
  refine Option.bind_eq_some_iff.2 ⟨(if zp4 0 (z3y s) then .inl () else .inr false), ?_, by cases zp4 0 (z3y s) <;> rfl⟩
  refine z58 (X := Int) (l := z3y s) (fun l' t => ∃ pre, z3y s = pre ++ l' ∧ t = (pre.length : Int) ∧ zp4 0 (z3y s) = zp4 pre.length l') ?_ ?_ ⟨[], rfl, rfl, rfl⟩
  ·rintro x l' t ⟨pre, e1, rfl, e2⟩
   have hL : (z3y s).length = pre.length + (l'.length + 1) := by rw [e1, List.length_append, List.length_cons]
   have g1 : sget s (pre.length : Int) = x := by rw [y8c (by omega) (by omega), e1]; exact zp8
   have hx := zrq (s := s) (c := x) (by rw [e1]; simp)
   rw [z07 (show (pre.length : Int) < (s.size : Int) by omega), cond_true, z18 (zi5 (z07 (by omega)) rfl), g1]
   simp only
   have e3 : zp4 pre.length (x :: l') = (nameAt pre.length x && zp4 (pre.length + 1) l') := rfl
   rw [e3] at e2
   have hb : ((!((decide (x ≥ 97) && decide (x ≤ 122)) || (decide (x ≥ 65) && decide (x ≤ 90)))) && (((pre.length : Int) == 0) || ((x != 45) && (decide (x < 48) || decide (x > 57))))) = !nameAt pre.length x := by
    unfold nameAt
    rw [Bool.eq_iff_iff]
    simp only [Bool.and_eq_true, Bool.or_eq_true, Bool.not_eq_true', decide_eq_true_eq, beq_iff_eq, bne_iff_ne, Bool.or_eq_false_iff, Bool.and_eq_false_iff, decide_eq_false_iff_not]
    omega
   rw [hb]
   generalize nameAt pre.length x = b at *
   cases b with
   | true =>
    left
    rw [Bool.not_true, cond_false, z0j (by omega) (by omega)]
    rw [Bool.true_and] at e2
    exact ⟨_, rfl, pre ++ [x], by rw [e1]; simp, by rw [List.length_append, List.length_singleton]; rfl, by rw [List.length_append, List.length_singleton]; exact e2⟩
   | false =>
    right
    rw [Bool.false_and] at e2
    rw [e2]
    rfl
  ·rintro t ⟨pre, e1, rfl, e2⟩
   have hL : (z3y s).length = pre.length := by rw [e1, List.append_nil]
   rw [z0v (show ¬ (pre.length : Int) < (s.size : Int) by omega), cond_false, e2]
   rfl
 ·rw [z0v hs, Bool.and_false]
  have : (decide ((s.size : Int) < 1) || decide ((s.size : Int) > 12)) = true := by
   rw [Bool.or_eq_true, decide_eq_true_eq, decide_eq_true_eq]; omega
  rw [this, cond_true]
theorem z6l (b : Bool) (e : Int) : z0l b e = some (if b then 0 else e) := by
 unfold z0l
 cases b <;> rfl
end Go.Lift
