/-
  Loops, numbers in their kinds, names on both sides.
-/
import Derived.Test.YtbmclapepgfjhaaGreatFunF
set_option linter.unusedSectionVars false
set_option linter.unusedVariables false
set_option linter.unusedSimpArgs false
namespace Go.Lift
open Go
theorem zk8 {S R : Type} {f : S → Option (S ⊕ R)} : ∀ {n m : Nat} {s : S} {r : R}, zcc f n s = some r → n ≤ m → zcc f m s = some r
 | 0, _, _, _, h, _ => by simp [zcc] at h
 | n + 1, 0, _, _, _, h => by omega
 | n + 1, m + 1, s, r, h, hm => by
  simp only [zcc] at h ⊢
  split at h
  ·exact zk8 h (by omega)
  ·exact h
  ·cases h
theorem zq2 {S R : Type} {f : S → Option (S ⊕ R)} {s : S} {r : R} {n : Nat} (h : zcc f n s = some r) : z29 f s = some r := by
 unfold z29
 have hx : ∃ n r, zcc f n s = some r := ⟨n, r, h⟩
 rw [dif_pos hx]
 have h2 := Classical.choose_spec (Classical.choose_spec hx)
 have a := zk8 h (Nat.le_max_left n (Classical.choose hx))
 have b := zk8 h2 (Nat.le_max_right n (Classical.choose hx))
 rw [b] at a
 exact a
theorem zs2 {S R : Type} {f : S → Option (S ⊕ R)} {s : S} {r : R} : z29 f s = some r ↔ ∃ n, zcc f n s = some r := by
 constructor
 ·intro h
  unfold z29 at h
  split at h
  ·rename_i hx
   simp only [Option.some.injEq] at h
   subst h
   exact ⟨_, Classical.choose_spec (Classical.choose_spec hx)⟩
  ·cases h
 ·exact fun ⟨n, h⟩ => zq2 h
theorem zh4 {S R : Type} {f : S → Option (S ⊕ R)} {s s' : S} (h : f s = some (.inl s')) : z29 f s = z29 f s' := by
 have key : ∀ r, z29 f s = some r ↔ z29 f s' = some r := fun r => by
  rw [zs2, zs2]
  constructor
  ·rintro ⟨n, hn⟩
   cases n with
   | zero => simp [zcc] at hn
   | succ n => simp only [zcc, h] at hn; exact ⟨n, hn⟩
  ·rintro ⟨n, hn⟩
   exact ⟨n + 1, by simp only [zcc, h]; exact hn⟩
 cases h1 : z29 f s with
 | some r => exact ((key r).1 h1).symm
 | none =>
  cases h2 : z29 f s' with
  | some r => rw [(key r).2 h2] at h1; cases h1
  | none => rfl
theorem z9t {S R : Type} {f : S → Option (S ⊕ R)} {s : S} {r : R} (h : f s = some (.inr r)) : z29 f s = some r :=
 zq2 (n := 1) (by simp only [zcc, h])
theorem ztv {S R : Type} {f : S → Option (S ⊕ R)} (g : Nat → S) (n : Nat) {r : R} (hstep : ∀ k, k < n → f (g k) = some (.inl (g (k + 1)))) (hend : f (g n) = some (.inr r)) : z29 f (g 0) = some r := by
 have key : ∀ k, k ≤ n → z29 f (g k) = some r := by
  intro k hk
  generalize hd : n - k = d
  induction d generalizing k with
  | zero =>
   have : k = n := by omega
   subst this
   exact z9t hend
  | succ d ih =>
   rw [zh4 (hstep k (by omega))]
   exact ih (k + 1) (by omega) (by omega)
 exact key 0 (Nat.zero_le n)
theorem y2b (x : Int) : wi64 x = if x % 18446744073709551616 ≥ 9223372036854775808 then x % 18446744073709551616 - 18446744073709551616 else x % 18446744073709551616 := by
 unfold wi64 IntKind.wrap
 have h1 : IntKind.i64.signed = true := rfl
 have h2 : IntKind.i64.bits = 64 := rfl
 have e1 : (2 : Int) ^ 64 = 18446744073709551616 := by decide
 have e2 : (2 : Int) ^ (64 - 1) = 9223372036854775808 := by decide
 simp only [h1, h2, Bool.true_and, e1, e2, decide_eq_true_eq]
theorem z0m {x : Int} (h0 : -9223372036854775808 ≤ x) (h1 : x < 9223372036854775808) : wi64 x = x := by
 rw [y2b]; split <;> omega
theorem znq {α : Type} {l m : List α} (h : l.length + m.length ≤ 4294967296) : app l m = some (l ++ m) := by unfold app; rw [if_pos h]
theorem z1h {A : Type} {c : Bool} {k : Option A} (h : c = true) : chk c k = k := by subst h; rfl
end Go.Lift
namespace Go.Lift
open Go
theorem zjv {a b : Bool} (ha : a = true) (hb : b = true) : (a && b) = true := by rw [ha, hb]; rfl
theorem z0a {p : Prop} [Decidable p] (h : p) : decide p = true := decide_eq_true h
theorem z1s {p : Prop} [Decidable p] (h : ¬ p) : decide p = false := decide_eq_false h
theorem zfq (n lo hi : Int) : z0n n lo hi = some (decide (lo ≤ n ∧ n ≤ hi)) := by
 unfold z0n
 simp only [Option.some.injEq]
 by_cases h1 : lo ≤ n <;> by_cases h2 : n ≤ hi <;> simp [h1, h2]
theorem zgq (n lo hi : Int) : z1t n lo hi = some (decide (lo ≤ n ∧ n ≤ hi)) := by
 unfold z1t
 simp only [Option.some.injEq]
 by_cases h1 : lo ≤ n <;> by_cases h2 : n ≤ hi <;> simp [h1, h2]
theorem zox {X S R : Type} {f : S → Option (S ⊕ R)} (I : List X → S → Prop) (Q : R → Prop)
  (hstep : ∀ x l s, I (x :: l) s → (∃ s', f s = some (.inl s') ∧ I l s') ∨ ∃ r, f s = some (.inr r) ∧ Q r)
  (hend : ∀ s, I [] s → ∃ r, f s = some (.inr r) ∧ Q r) : ∀ {l : List X} {s : S}, I l s → ∃ r, z29 f s = some r ∧ Q r
 | [], s, h => by
  obtain ⟨r, h1, h2⟩ := hend s h
  exact ⟨r, z9t h1, h2⟩
 | x :: l, s, h => by
  rcases hstep x l s h with ⟨s', h1, h2⟩ | ⟨r, h1, h2⟩
  ·rw [zh4 h1]
   exact zox I Q hstep hend h2
  ·exact ⟨r, z9t h1, h2⟩
theorem z8q {X S R : Type} {f : S → Option (S ⊕ R)} {t : R} (I : List X → S → Prop)
  (hstep : ∀ x l s, I (x :: l) s → (∃ s', f s = some (.inl s') ∧ I l s') ∨ f s = some (.inr t))
  (hend : ∀ s, I [] s → f s = some (.inr t)) {l : List X} {s : S} (h : I l s) : z29 f s = some t := by
 obtain ⟨r, h1, h2⟩ := zox I (fun r => r = t) (fun x l s hi => by
  rcases hstep x l s hi with h | h
  ·exact Or.inl h
  ·exact Or.inr ⟨t, h, rfl⟩) (fun s hi => ⟨t, hend s hi, rfl⟩) h
 rw [h1, h2]
theorem zq3 {A : Type} {d x : A} {pre post : List A} : lget d (pre ++ x :: post) (pre.length : Int) = x := by
 unfold lget
 rw [Int.toNat_natCast]
 simp
def zd0 : List Int → Int
 | [] => 0
 | x :: l => if x = 0 then zd0 l else x
theorem zlo {l : List Int} (hl : l.length ≤ 1000) : z1a l = some (zd0 l) := by
 unfold z1a
 refine Option.bind_eq_some_iff.2 ⟨(if zd0 l = 0 then .inl () else .inr (zd0 l)), ?_, by
  by_cases h : zd0 l = 0
  ·rw [if_pos h, h]
  ·rw [if_neg h]⟩
 refine z8q (X := Int) (l := l) (fun l' s => ∃ pre, l = pre ++ l' ∧ s = (pre.length : Int) ∧ zd0 l = zd0 l') ?_ ?_ ⟨[], rfl, rfl, rfl⟩
 ·rintro x l' s ⟨pre, e1, rfl, e2⟩
  have hL : l.length = pre.length + (l'.length + 1) := by rw [e1, List.length_append, List.length_cons]
  have g1 : ∀ d, lget d l (pre.length : Int) = x := fun d => by rw [e1]; exact zq3
  rw [z0a (show (pre.length : Int) < (l.length : Int) by omega), cond_true, z1h (zjv (z0a (by omega)) rfl), g1]
  by_cases h : x = 0
  ·left
   have : zd0 (x :: l') = zd0 l' := if_pos h
   rw [this] at e2
   rw [h, show ((0 : Int) != 0) = false from rfl, cond_false, z0m (by omega) (by omega)]
   exact ⟨_, rfl, pre ++ [x], by rw [e1]; simp, by rw [List.length_append, List.length_singleton]; rfl, e2⟩
  ·right
   have : zd0 (x :: l') = x := if_neg h
   rw [e2, this, if_neg h, show (x != 0) = true by simpa using h, cond_true]
   rfl
 ·rintro s ⟨pre, e1, rfl, e2⟩
  have hL : l.length = pre.length := by rw [e1, List.append_nil]
  rw [z1s (show ¬ (pre.length : Int) < (l.length : Int) by omega), cond_false, e2]
  rfl
theorem z7h (b : Bool) (e : Int) : z0c b e = some (if b then 0 else e) := by
 unfold z0c
 cases b <;> rfl
end Go.Lift
