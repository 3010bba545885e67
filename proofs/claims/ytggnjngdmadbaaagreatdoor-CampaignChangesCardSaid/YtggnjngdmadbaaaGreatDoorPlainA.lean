/-
  Loops, numbers in their kinds, names on both sides.
-/
import Derived.Test.YtggnjngdmadbaaaGreatDoorFunF
set_option linter.unusedSectionVars false
set_option linter.unusedVariables false
set_option linter.unusedSimpArgs false
namespace Go.Lift
open Go
theorem zqu {S R : Type} {f : S → Option (S ⊕ R)} : ∀ {n m : Nat} {s : S} {r : R}, zfz f n s = some r → n ≤ m → zfz f m s = some r
 | 0, _, _, _, h, _ => by simp [zfz] at h
 | n + 1, 0, _, _, _, h => by omega
 | n + 1, m + 1, s, r, h, hm => by
  simp only [zfz] at h ⊢
  split at h
  ·exact zqu h (by omega)
  ·exact h
  ·cases h
theorem zyu {S R : Type} {f : S → Option (S ⊕ R)} {s : S} {r : R} {n : Nat} (h : zfz f n s = some r) : z2d f s = some r := by
 unfold z2d
 have hx : ∃ n r, zfz f n s = some r := ⟨n, r, h⟩
 rw [dif_pos hx]
 have h2 := Classical.choose_spec (Classical.choose_spec hx)
 have a := zqu h (Nat.le_max_left n (Classical.choose hx))
 have b := zqu h2 (Nat.le_max_right n (Classical.choose hx))
 rw [b] at a
 exact a
theorem y1a {S R : Type} {f : S → Option (S ⊕ R)} {s : S} {r : R} : z2d f s = some r ↔ ∃ n, zfz f n s = some r := by
 constructor
 ·intro h
  unfold z2d at h
  split at h
  ·rename_i hx
   simp only [Option.some.injEq] at h
   subst h
   exact ⟨_, Classical.choose_spec (Classical.choose_spec hx)⟩
  ·cases h
 ·exact fun ⟨n, h⟩ => zyu h
theorem zqw {S R : Type} {f : S → Option (S ⊕ R)} {s s' : S} (h : f s = some (.inl s')) : z2d f s = z2d f s' := by
 have key : ∀ r, z2d f s = some r ↔ z2d f s' = some r := fun r => by
  rw [y1a, y1a]
  constructor
  ·rintro ⟨n, hn⟩
   cases n with
   | zero => simp [zfz] at hn
   | succ n => simp only [zfz, h] at hn; exact ⟨n, hn⟩
  ·rintro ⟨n, hn⟩
   exact ⟨n + 1, by simp only [zfz, h]; exact hn⟩
 cases h1 : z2d f s with
 | some r => exact ((key r).1 h1).symm
 | none =>
  cases h2 : z2d f s' with
  | some r => rw [(key r).2 h2] at h1; cases h1
  | none => rfl
theorem zhp {S R : Type} {f : S → Option (S ⊕ R)} {s : S} {r : R} (h : f s = some (.inr r)) : z2d f s = some r :=
 zyu (n := 1) (by simp only [zfz, h])
theorem znp {S R : Type} {f : S → Option (S ⊕ R)} (g : Nat → S) (n : Nat) {r : R} (hstep : ∀ k, k < n → f (g k) = some (.inl (g (k + 1)))) (hend : f (g n) = some (.inr r)) : z2d f (g 0) = some r := by
 have key : ∀ k, k ≤ n → z2d f (g k) = some r := by
  intro k hk
  generalize hd : n - k = d
  induction d generalizing k with
  | zero =>
   have : k = n := by omega
   subst this
   exact zhp hend
  | succ d ih =>
   rw [zqw (hstep k (by omega))]
   exact ih (k + 1) (by omega) (by omega)
 exact key 0 (Nat.zero_le n)
theorem ydv (x : Int) : wi64 x = if x % 18446744073709551616 ≥ 9223372036854775808 then x % 18446744073709551616 - 18446744073709551616 else x % 18446744073709551616 := by
 unfold wi64 IntKind.wrap
 have h1 : IntKind.i64.signed = true := rfl
 have h2 : IntKind.i64.bits = 64 := rfl
 have e1 : (2 : Int) ^ 64 = 18446744073709551616 := by decide
 have e2 : (2 : Int) ^ (64 - 1) = 9223372036854775808 := by decide
 simp only [h1, h2, Bool.true_and, e1, e2, decide_eq_true_eq]
theorem z0j {x : Int} (h0 : -9223372036854775808 ≤ x) (h1 : x < 9223372036854775808) : wi64 x = x := by
 rw [ydv]; split <;> omega
theorem zlc {α : Type} {l m : List α} (h : l.length + m.length ≤ 4294967296) : app l m = some (l ++ m) := by unfold app; rw [if_pos h]
theorem z18 {A : Type} {c : Bool} {k : Option A} (h : c = true) : chk c k = k := by subst h; rfl
end Go.Lift
namespace Go.Lift
open Go
theorem zi5 {a b : Bool} (ha : a = true) (hb : b = true) : (a && b) = true := by rw [ha, hb]; rfl
theorem z07 {p : Prop} [Decidable p] (h : p) : decide p = true := decide_eq_true h
theorem z0v {p : Prop} [Decidable p] (h : ¬ p) : decide p = false := decide_eq_false h
theorem z7f (n lo hi : Int) : z0w n lo hi = some (decide (lo ≤ n ∧ n ≤ hi)) := by
 unfold z0w
 simp only [Option.some.injEq]
 by_cases h1 : lo ≤ n <;> by_cases h2 : n ≤ hi <;> simp [h1, h2]
theorem zc0 (n lo hi : Int) : z1q n lo hi = some (decide (lo ≤ n ∧ n ≤ hi)) := by
 unfold z1q
 simp only [Option.some.injEq]
 by_cases h1 : lo ≤ n <;> by_cases h2 : n ≤ hi <;> simp [h1, h2]
theorem zx8 {X S R : Type} {f : S → Option (S ⊕ R)} (I : List X → S → Prop) (Q : R → Prop)
  (hstep : ∀ x l s, I (x :: l) s → (∃ s', f s = some (.inl s') ∧ I l s') ∨ ∃ r, f s = some (.inr r) ∧ Q r)
  (hend : ∀ s, I [] s → ∃ r, f s = some (.inr r) ∧ Q r) : ∀ {l : List X} {s : S}, I l s → ∃ r, z2d f s = some r ∧ Q r
 | [], s, h => by
  obtain ⟨r, h1, h2⟩ := hend s h
  exact ⟨r, zhp h1, h2⟩
 | x :: l, s, h => by
  rcases hstep x l s h with ⟨s', h1, h2⟩ | ⟨r, h1, h2⟩
  ·rw [zqw h1]
   exact zx8 I Q hstep hend h2
  ·exact ⟨r, zhp h1, h2⟩
theorem z58 {X S R : Type} {f : S → Option (S ⊕ R)} {t : R} (I : List X → S → Prop)
  (hstep : ∀ x l s, I (x :: l) s → (∃ s', f s = some (.inl s') ∧ I l s') ∨ f s = some (.inr t))
  (hend : ∀ s, I [] s → f s = some (.inr t)) {l : List X} {s : S} (h : I l s) : z2d f s = some t := by
 obtain ⟨r, h1, h2⟩ := zx8 I (fun r => r = t) (fun x l s hi => by
  rcases hstep x l s hi with h | h
  ·exact Or.inl h
  ·exact Or.inr ⟨t, h, rfl⟩) (fun s hi => ⟨t, hend s hi, rfl⟩) h
 rw [h1, h2]
theorem zp8 {A : Type} {d x : A} {pre post : List A} : lget d (pre ++ x :: post) (pre.length : Int) = x := by
 unfold lget
 rw [Int.toNat_natCast]
 simp
def z4z : List Int → Int
 | [] => 0
 | x :: l => if x = 0 then z4z l else x
theorem ziz {l : List Int} (hl : l.length ≤ 1000) : z1t l = some (z4z l) := by
 unfold z1t
 refine Option.bind_eq_some_iff.2 ⟨(if z4z l = 0 then .inl () else .inr (z4z l)), ?_, by
  by_cases h : z4z l = 0
  ·rw [if_pos h, h]
  ·rw [if_neg h]⟩
 refine z58 (X := Int) (l := l) (fun l' s => ∃ pre, l = pre ++ l' ∧ s = (pre.length : Int) ∧ z4z l = z4z l') ?_ ?_ ⟨[], rfl, rfl, rfl⟩
 ·rintro x l' s ⟨pre, e1, rfl, e2⟩
  have hL : l.length = pre.length + (l'.length + 1) := by rw [e1, List.length_append, List.length_cons]
  have g1 : ∀ d, lget d l (pre.length : Int) = x := fun d => by rw [e1]; exact zp8
  rw [z07 (show (pre.length : Int) < (l.length : Int) by omega), cond_true, z18 (zi5 (z07 (by omega)) rfl), g1]
  by_cases h : x = 0
  ·left
   have : z4z (x :: l') = z4z l' := if_pos h
   rw [this] at e2
   rw [h, show ((0 : Int) != 0) = false from rfl, cond_false, z0j (by omega) (by omega)]
   exact ⟨_, rfl, pre ++ [x], by rw [e1]; simp, by rw [List.length_append, List.length_singleton]; rfl, e2⟩
  ·right
   have : z4z (x :: l') = x := if_neg h
   rw [e2, this, if_neg h, show (x != 0) = true by simpa using h, cond_true]
   rfl
 ·rintro s ⟨pre, e1, rfl, e2⟩
  have hL : l.length = pre.length := by rw [e1, List.append_nil]
  rw [z0v (show ¬ (pre.length : Int) < (l.length : Int) by omega), cond_false, e2]
  rfl
theorem z6l (b : Bool) (e : Int) : z0l b e = some (if b then 0 else e) := by
 unfold z0l
 cases b <;> rfl
end Go.Lift
