/-
  Strips of the program and of the document.
-/
import Derived.Test.YteobfadhflofpaaGreatDoorPlainB
set_option linter.unusedSectionVars false
set_option linter.unusedVariables false
set_option linter.unusedSimpArgs false
namespace Go.Lift
open Go
structure Sec where
 a : Rat
 b : Rat
 u : Rat
 v : Rat
 old : Int
 area : Int
structure SecOk (x : Sec) : Prop where
 ab : x.a < x.b
 uv : x.u < x.v
 old1 : 1 ≤ x.old
 old2 : x.old ≤ 1000
 area1 : 1 ≤ x.area
 area2 : x.area ≤ 1000
 vol : (x.b - x.a) * (x.old : Rat) = (x.v - x.u) * (x.area : Rat)
theorem int_pos {n : Int} (h : 1 ≤ n) : (0 : Rat) < (n : Rat) := by
 have : ((0 : Int) : Rat) < (n : Rat) := by rw [Rat.intCast_lt_intCast]; omega
 rw [Rat.intCast_zero] at this; exact this
def Secs : Rat → Rat → List Sec → Prop
 | _, _, [] => True
 | p, q, x :: l => x.a = p ∧ x.u = q ∧ SecOk x ∧ Secs x.b x.v l
def lastV : Rat → List Sec → Rat
 | q, [] => q
 | _, x :: l => lastV x.v l
def OnSec (x : Sec) (p q : Rat) : Prop := x.a ≤ p ∧ p ≤ x.b ∧ x.u ≤ q ∧ q ≤ x.v ∧ (p - x.a) * (x.old : Rat) = (q - x.u) * (x.area : Rat)
def On (l : List Sec) (p q : Rat) : Prop := ∃ x, x ∈ l ∧ OnSec x p q
theorem on_cons {x : Sec} {l : List Sec} {p q : Rat} : On (x :: l) p q ↔ OnSec x p q ∨ On l p q := by
 constructor
 ·rintro ⟨y, hy, h⟩
  rcases List.mem_cons.1 hy with rfl | hy
  ·exact Or.inl h
  ·exact Or.inr ⟨y, hy, h⟩
 ·rintro (h | ⟨y, hy, h⟩)
  ·exact ⟨x, List.mem_cons_self, h⟩
  ·exact ⟨y, List.mem_cons_of_mem _ hy, h⟩
theorem not_on_nil {p q : Rat} : ¬ On [] p q := fun ⟨_, h, _⟩ => by cases h
theorem mul_pos_le {c a b : Rat} (hc : 0 < c) (h : a ≤ b) : a * c ≤ b * c := Rat.mul_le_mul_of_nonneg_right h (Rat.le_of_lt hc)
theorem mul_pos_lt {c a b : Rat} (hc : 0 < c) (h : a < b) : a * c < b * c := Rat.mul_lt_mul_of_pos_right h hc
theorem of_mul_lt {c a b : Rat} (hc : 0 < c) (h : a * c < b * c) : a < b := by
 apply Decidable.byContradiction
 intro h1
 have := mul_pos_le hc (show b ≤ a by grind)
 grind
theorem of_mul_le {c a b : Rat} (hc : 0 < c) (h : a * c ≤ b * c) : a ≤ b := by
 apply Decidable.byContradiction
 intro h1
 have := mul_pos_lt hc (show b < a by grind)
 grind
theorem of_mul_eq {c a b : Rat} (hc : 0 < c) (h : a * c = b * c) : a = b := by
 have h1 := of_mul_le (a := a) (b := b) hc (by rw [h]; exact Rat.le_refl)
 have h2 := of_mul_le (a := b) (b := a) hc (by rw [h]; exact Rat.le_refl)
 grind
theorem nonneg_of_mul {c b : Rat} (hc : 0 < c) (h : 0 ≤ b * c) : 0 ≤ b := of_mul_le (a := 0) hc (by rw [Rat.zero_mul]; exact h)
theorem onSec_mono {x : Sec} (hx : SecOk x) {p q p' q' : Rat} (h : OnSec x p q) (h' : OnSec x p' q') : (p ≤ p' ↔ q ≤ q') := by
 have ho := int_pos hx.old1
 have ha := int_pos hx.area1
 obtain ⟨_, _, _, _, e⟩ := h
 obtain ⟨_, _, _, _, e'⟩ := h'
 constructor
 ·intro hp
  have := mul_pos_le ho (show p - x.a ≤ p' - x.a by grind)
  rw [e, e'] at this
  have := of_mul_le ha this
  grind
 ·intro hq
  have := mul_pos_le ha (show q - x.u ≤ q' - x.u by grind)
  rw [← e, ← e'] at this
  have := of_mul_le ho this
  grind
theorem onSec_begin {x : Sec} (hx : SecOk x) : OnSec x x.a x.u := by
 have := hx.ab; have := hx.uv
 refine ⟨Rat.le_refl, by grind, Rat.le_refl, by grind, by grind⟩
theorem onSec_end {x : Sec} (hx : SecOk x) : OnSec x x.b x.v := by
 have := hx.ab; have := hx.uv
 refine ⟨by grind, Rat.le_refl, by grind, Rat.le_refl, hx.vol⟩
theorem on_ge : ∀ {l : List Sec} {p q P Q : Rat}, Secs p q l → On l P Q → p ≤ P ∧ q ≤ Q ∧ (P ≤ p ↔ Q ≤ q)
 | [], _, _, _, _, _, h => absurd h not_on_nil
 | x :: l, p, q, P, Q, ⟨h1, h2, hx, hc⟩, h => by
  subst h1 h2
  rcases on_cons.1 h with h | h
  ·exact ⟨h.1, h.2.2.1, onSec_mono hx h (onSec_begin hx)⟩
  ·obtain ⟨a1, a2, _⟩ := on_ge hc h
   have := hx.ab; have := hx.uv
   refine ⟨by grind, by grind, ?_⟩
   constructor <;> intro _ <;> grind
theorem on_mono : ∀ {l : List Sec} {p q P Q P' Q' : Rat}, Secs p q l → On l P Q → On l P' Q' → (P ≤ P' ↔ Q ≤ Q')
 | [], _, _, _, _, _, _, _, h, _ => absurd h not_on_nil
 | x :: l, p, q, P, Q, P', Q', ⟨h1, h2, hx, hc⟩, h, h' => by
  subst h1 h2
  have := hx.ab; have := hx.uv
  rcases on_cons.1 h with h | h <;> rcases on_cons.1 h' with h' | h'
  ·exact onSec_mono hx h h'
  ·obtain ⟨a1, a2, _⟩ := on_ge hc h'
   exact ⟨fun _ => Rat.le_trans h.2.2.2.1 a2, fun _ => Rat.le_trans h.2.1 a1⟩
  ·obtain ⟨a1, a2, a3⟩ := on_ge hc h
   have e := onSec_mono hx (onSec_end hx) h'
   have := h'.2.1; have := h'.2.2.2.1
   constructor
   ·intro hp
    have h1 : P ≤ x.b := by grind
    have h2 := a3.1 h1
    have h3 := e.1 (show x.b ≤ P' by grind)
    grind
   ·intro hq
    have h1 : Q ≤ x.v := by grind
    have h2 := a3.2 h1
    have h3 := e.2 (show x.v ≤ Q' by grind)
    grind
  ·exact on_mono hc h h'
theorem on_fun {l : List Sec} {p q P Q Q' : Rat} (hc : Secs p q l) (h : On l P Q) (h' : On l P Q') : Q = Q' := by
 have h1 := (on_mono hc h h').1 Rat.le_refl
 have h2 := (on_mono hc h' h).1 Rat.le_refl
 grind
theorem onSec_of_q {x : Sec} (hx : SecOk x) {q : Rat} (h1 : x.u ≤ q) (h2 : q ≤ x.v) : OnSec x (x.a + (q - x.u) * ((x.area : Rat) / (x.old : Rat))) q := by
 have ho := int_pos hx.old1
 have ha := int_pos hx.area1
 have e : (x.a + (q - x.u) * ((x.area : Rat) / (x.old : Rat)) - x.a) * (x.old : Rat) = (q - x.u) * (x.area : Rat) := by grind
 refine ⟨?_, ?_, h1, h2, e⟩
 ·have := mul_pos_le ha (show (0 : Rat) ≤ q - x.u by grind)
  rw [← e, Rat.zero_mul] at this
  have := nonneg_of_mul ho this
  grind
 ·have := mul_pos_le ha (show q - x.u ≤ x.v - x.u by grind)
  rw [← e, ← hx.vol] at this
  have := of_mul_le ho this
  grind
theorem onSec_of_p {x : Sec} (hx : SecOk x) {p : Rat} (h1 : x.a ≤ p) (h2 : p ≤ x.b) : OnSec x p (x.u + (p - x.a) * ((x.old : Rat) / (x.area : Rat))) := by
 have ho := int_pos hx.old1
 have ha := int_pos hx.area1
 have e : (p - x.a) * (x.old : Rat) = (x.u + (p - x.a) * ((x.old : Rat) / (x.area : Rat)) - x.u) * (x.area : Rat) := by grind
 refine ⟨h1, h2, ?_, ?_, e⟩
 ·have := mul_pos_le ho (show (0 : Rat) ≤ p - x.a by grind)
  rw [e, Rat.zero_mul] at this
  have := nonneg_of_mul ha this
  grind
 ·have := mul_pos_le ho (show p - x.a ≤ x.b - x.a by grind)
  rw [e, hx.vol] at this
  have := of_mul_le ha this
  grind
def slabAtS : List Sec → Rat → Rat
 | [], _ => 0
 | x :: l, q => if x.u ≤ q ∧ q ≤ x.v then x.a + (q - x.u) * ((x.area : Rat) / (x.old : Rat)) else slabAtS l q
def atS : List Sec → Rat → Option Rat
 | [], _ => none
 | x :: l, p => if x.a ≤ p ∧ p ≤ x.b then some (x.u + (p - x.a) * ((x.old : Rat) / (x.area : Rat))) else atS l p
theorem slabAt_on : ∀ {l : List Sec} {p q Q : Rat}, Secs p q l → l ≠ [] → q ≤ Q → Q ≤ lastV q l → On l (slabAtS l Q) Q
 | [], _, _, _, _, h, _, _ => absurd rfl h
 | x :: l, p, q, Q, ⟨h1, h2, hx, hc⟩, _, hq, hq2 => by
  subst h1 h2
  unfold slabAtS
  rw [on_cons]
  by_cases h : x.u ≤ Q ∧ Q ≤ x.v
  ·rw [if_pos h]; exact Or.inl (onSec_of_q hx h.1 h.2)
  ·rw [if_neg h]
   right
   unfold lastV at hq2
   cases l with
   | nil => exact absurd ⟨hq, hq2⟩ h
   | cons y l => exact slabAt_on hc (by simp) (by grind) hq2
theorem at_on : ∀ {l : List Sec} {p q P Q : Rat}, Secs p q l → (atS l P = some Q ↔ On l P Q)
 | [], _, _, _, _, _ => ⟨fun h => by simp [atS] at h, fun h => absurd h not_on_nil⟩
 | x :: l, p, q, P, Q, hcc => by
  obtain ⟨h1, h2, hx, hc⟩ := hcc
  unfold atS
  by_cases h : x.a ≤ P ∧ P ≤ x.b
  ·rw [if_pos h]
   have ho := onSec_of_p hx h.1 h.2
   constructor
   ·intro e
    rw [Option.some.injEq] at e
    rw [← e]; exact on_cons.2 (Or.inl ho)
   ·intro e
    rw [on_fun (l := x :: l) (p := p) (q := q) ⟨h1, h2, hx, hc⟩ (on_cons.2 (Or.inl ho)) e]
  ·rw [if_neg h, at_on hc, on_cons]
   exact ⟨Or.inr, fun e => e.resolve_left fun e => h ⟨e.1, e.2.1⟩⟩
def rolledS : Rat → List Sec → List Int → List Sec
 | t, x :: l, n :: m => ⟨x.a, x.b, t, t + (x.v - x.u) * ((x.area : Rat) / (n : Rat)), x.old, n⟩ :: rolledS (t + (x.v - x.u) * ((x.area : Rat) / (n : Rat))) l m
 | _, _, _ => []
def cutS (lo hi : Rat) : List Sec → List Sec
 | [] => []
 | x :: l =>
  if (if x.u < lo then lo else x.u) < (if hi < x.v then hi else x.v) then
   ⟨x.a + ((if x.u < lo then lo else x.u) - x.u) * ((x.area : Rat) / (x.old : Rat)), x.a + ((if hi < x.v then hi else x.v) - x.u) * ((x.area : Rat) / (x.old : Rat)),
    (if x.u < lo then lo else x.u) - lo, (if hi < x.v then hi else x.v) - lo, x.old, x.area⟩ :: cutS lo hi l
  else cutS lo hi l
theorem div_pos {a b : Rat} (ha : 0 < a) (hb : 0 < b) : 0 < a / b := by
 refine of_mul_lt (c := b) hb ?_
 have e : a / b * b = a := by grind
 rw [e, Rat.zero_mul]; exact ha
theorem rolled_ok : ∀ {l : List Sec} {m : List Int} {p q t : Rat}, Secs p q l → l.length = m.length → (∀ n, n ∈ m → 1 ≤ n ∧ n ≤ 1000) → Secs p t (rolledS t l m)
 | [], _, _, _, _, _, _, _ => by simp [rolledS, Secs]
 | x :: l, [], _, _, _, _, h, _ => by simp at h
 | x :: l, n :: m, p, q, t, ⟨h1, h2, hx, hc⟩, hl, hm => by
  unfold rolledS
  have hn := hm n List.mem_cons_self
  have hn0 := int_pos hn.1
  have ha := int_pos hx.area1
  have hv := hx.uv
  have hvol := hx.vol
  refine ⟨h1, rfl, ⟨hx.ab, ?_, hx.old1, hx.old2, hn.1, hn.2, ?_⟩, rolled_ok hc (by simpa using hl) fun k hk => hm k (List.mem_cons_of_mem _ hk)⟩
  ·show t < t + (x.v - x.u) * ((x.area : Rat) / (n : Rat))
   have := Rat.mul_pos (show 0 < x.v - x.u by grind) (div_pos ha hn0)
   grind
  ·show (x.b - x.a) * (x.old : Rat) = (t + (x.v - x.u) * ((x.area : Rat) / (n : Rat)) - t) * (n : Rat)
   grind
def Same : List Sec → List Sec → Prop
 | [], [] => True
 | x :: l, y :: m => x.a = y.a ∧ x.b = y.b ∧ Same l m
 | _, _ => False
theorem rolled_same : ∀ {l : List Sec} {m : List Int} {t : Rat}, l.length = m.length → Same l (rolledS t l m)
 | [], [], _, _ => by simp [rolledS, Same]
 | [], _ :: _, _, h => by simp at h
 | x :: l, [], _, h => by simp at h
 | x :: l, n :: m, t, h => by unfold rolledS; exact ⟨rfl, rfl, rolled_same (by simpa using h)⟩
theorem same_symm : ∀ {l m : List Sec}, Same l m → Same m l
 | [], [], _ => trivial
 | x :: l, y :: m, ⟨h1, h2, h3⟩ => ⟨h1.symm, h2.symm, same_symm h3⟩
 | [], _ :: _, h => h.elim
 | _ :: _, [], h => h.elim
def throughS : Rat → Rat → List Sec → List Sec → Rat → Rat
 | f, t, x :: l, y :: m, q => if l = [] ∨ q ≤ f + (x.v - x.u) then t + (q - f) * (y.v - y.u) / (x.v - x.u) else throughS (f + (x.v - x.u)) (t + (y.v - y.u)) l m q
 | _, t, _, _, _ => t
theorem through_on : ∀ {l m : List Sec} {p q t P Q : Rat}, Secs p q l → Secs p t m → Same l m → On l P Q → On m P (throughS q t l m Q)
 | [], _, _, _, _, _, _, _, _, _, h => absurd h not_on_nil
 | x :: l, [], _, _, _, _, _, _, _, h, _ => h.elim
 | x :: l, y :: m, p, q, t, P, Q, ⟨h1, h2, hx, hc⟩, ⟨g1, g2, hy, gc⟩, ⟨s1, s2, hs⟩, h => by
  unfold throughS
  subst h1 h2 g2
  have hxo := int_pos hx.old1
  have hxa := int_pos hx.area1
  have hyo := int_pos hy.old1
  have hya := int_pos hy.area1
  have e1 : x.u + (x.v - x.u) = x.v := by grind
  have e2 : y.u + (y.v - y.u) = y.v := by grind
  rw [e1, e2]
  have hxv := hx.uv
  have hyv := hy.uv
  have hab := hx.ab
  have key : OnSec x P Q → OnSec y P (y.u + (Q - x.u) * (y.v - y.u) / (x.v - x.u)) := by
   intro ho
   have hp := onSec_of_p hy (p := P) (by rw [← s1]; exact ho.1) (by rw [← s2]; exact ho.2.1)
   have e : y.u + (P - y.a) * ((y.old : Rat) / (y.area : Rat)) = y.u + (Q - x.u) * (y.v - y.u) / (x.v - x.u) := by
    have v1 := hx.vol
    have v2 := hy.vol
    have v3 := ho.2.2.2.2
    rw [← s1, ← s2] at v2
    rw [← s1]
    have d1 : 0 < x.v - x.u := by grind
    have d2 : 0 < x.b - x.a := by grind
    have k1 : (P - x.a) * (y.old : Rat) / (y.area : Rat) = (P - x.a) * (y.v - y.u) / (x.b - x.a) := by grind
    have k2 : (P - x.a) / (x.b - x.a) = (Q - x.u) / (x.v - x.u) := by
     have : (P - x.a) * (x.v - x.u) = (Q - x.u) * (x.b - x.a) := by
      refine of_mul_eq (c := (x.old : Rat) * (x.area : Rat)) (Rat.mul_pos hxo hxa) ?_
      grind
     grind
    grind
   rw [← e]; exact hp
  by_cases hcond : l = [] ∨ Q ≤ x.v
  ·rw [if_pos hcond, on_cons]
   left
   refine key ?_
   rcases on_cons.1 h with h | h
   ·exact h
   ·rcases hcond with rfl | hq
    ·exact absurd h not_on_nil
    ·obtain ⟨a1, a2, a3⟩ := on_ge hc h
     have hQ : Q = x.v := by grind
     have hP : P = x.b := by have := a3.2 (by grind); grind
     subst hQ hP
     exact onSec_end hx
  ·rw [if_neg hcond, on_cons]
   right
   have : ¬ OnSec x P Q := fun ho => hcond (Or.inr ho.2.2.2.1)
   refine through_on hc ?_ hs ((on_cons.1 h).resolve_left this)
   rw [s2]; exact gc
theorem on_cut : ∀ {l : List Sec} {p q P Q lo hi : Rat}, Secs p q l → lo < hi → (On (cutS lo hi l) P Q → On l P (Q + lo) ∧ lo ≤ Q + lo ∧ Q + lo ≤ hi)
 | [], _, _, _, _, _, _, _, _, h => absurd h (by unfold cutS; exact not_on_nil)
 | x :: l, p, q, P, Q, lo, hi, ⟨h1, h2, hx, hc⟩, hlt, h => by
  have hxo := int_pos hx.old1
  have hxa := int_pos hx.area1
  have hxv := hx.uv
  unfold cutS at h
  generalize hL : (if x.u < lo then lo else x.u) = L at h
  generalize hH : (if hi < x.v then hi else x.v) = H at h
  have l1 : lo ≤ L ∧ x.u ≤ L := by rw [← hL]; split <;> constructor <;> grind
  have l2 : H ≤ hi ∧ H ≤ x.v := by rw [← hH]; split <;> constructor <;> grind
  split at h
  ·rename_i hlh
   rcases on_cons.1 h with h | h
   ·obtain ⟨o1, o2, o3, o4, o5⟩ := h
    simp only at o1 o2 o3 o4 o5
    refine ⟨on_cons.2 (Or.inl ?_), by grind, by grind⟩
    have e := onSec_of_q hx (q := Q + lo) (by grind) (by grind)
    have : x.a + (Q + lo - x.u) * ((x.area : Rat) / (x.old : Rat)) = P := by grind
    rw [this] at e
    exact e
   ·obtain ⟨r1, r2⟩ := on_cut hc hlt h
    exact ⟨on_cons.2 (Or.inr r1), r2⟩
  ·obtain ⟨r1, r2⟩ := on_cut hc hlt h
   exact ⟨on_cons.2 (Or.inr r1), r2⟩
theorem on_begin {l : List Sec} {p q : Rat} (hc : Secs p q l) (h : l ≠ []) : On l p q := by
 cases l with
 | nil => exact absurd rfl h
 | cons x l =>
  obtain ⟨h1, h2, hx, _⟩ := hc
  subst h1 h2
  exact on_cons.2 (Or.inl (onSec_begin hx))
theorem cut_on : ∀ {l : List Sec} {p q P Q lo hi : Rat}, Secs p q l → lo < hi → q < hi → hi ≤ lastV q l → lo ≤ Q → Q ≤ hi → On l P Q → On (cutS lo hi l) P (Q - lo)
 | [], _, _, _, _, _, _, _, _, _, _, _, _, h => absurd h not_on_nil
 | x :: l, p, q, P, Q, lo, hi, ⟨h1, h2, hx, hc⟩, hlt, hq, hlast, hQ1, hQ2, h => by
  have hxo := int_pos hx.old1
  have hxa := int_pos hx.area1
  have hxv := hx.uv
  subst h1 h2
  unfold cutS
  unfold lastV at hlast
  by_cases hd : x.v ≤ lo
  ·have hne : l ≠ [] := by
    intro e
    subst e
    unfold lastV at hlast
    grind
   have hnot : ¬ (if x.u < lo then lo else x.u) < (if hi < x.v then hi else x.v) := by
    split <;> split <;> grind
   rw [if_neg hnot]
   refine cut_on hc hlt (by grind) hlast hQ1 hQ2 ?_
   rcases on_cons.1 h with h | h
   ·have := h.2.2.2.1
    have e : Q = x.v := by grind
    subst e
    have e2 := (onSec_mono hx (onSec_end hx) h).2 Rat.le_refl
    have e3 := h.2.1
    have e4 : P = x.b := by grind
    rw [e4]
    exact on_begin hc hne
   ·exact h
  ·have hyes : (if x.u < lo then lo else x.u) < (if hi < x.v then hi else x.v) := by
    split <;> split <;> grind
   rw [if_pos hyes]
   have key : OnSec x P Q → OnSec ⟨x.a + ((if x.u < lo then lo else x.u) - x.u) * ((x.area : Rat) / (x.old : Rat)), x.a + ((if hi < x.v then hi else x.v) - x.u) * ((x.area : Rat) / (x.old : Rat)), (if x.u < lo then lo else x.u) - lo, (if hi < x.v then hi else x.v) - lo, x.old, x.area⟩ P (Q - lo) := by
    intro ho
    generalize hL : (if x.u < lo then lo else x.u) = L at hyes ⊢
    generalize hH : (if hi < x.v then hi else x.v) = H at hyes ⊢
    obtain ⟨o1, o2, o3, o4, o5⟩ := ho
    have l1 : L ≤ Q := by rw [← hL]; split <;> grind
    have l2 : Q ≤ H := by rw [← hH]; split <;> grind
    have l3 : x.u ≤ L := by rw [← hL]; split <;> grind
    have l4 : H ≤ x.v := by rw [← hH]; split <;> grind
    have oL := onSec_of_q hx (q := L) l3 (by grind)
    have oH := onSec_of_q hx (q := H) (by grind) l4
    have m1 := (onSec_mono hx oL ⟨o1, o2, o3, o4, o5⟩).2 l1
    have m2 := (onSec_mono hx ⟨o1, o2, o3, o4, o5⟩ oH).2 l2
    refine ⟨m1, m2, by show L - lo ≤ Q - lo; grind, by show Q - lo ≤ H - lo; grind, ?_⟩
    show (P - (x.a + (L - x.u) * ((x.area : Rat) / (x.old : Rat)))) * (x.old : Rat) = (Q - lo - (L - lo)) * (x.area : Rat)
    grind
   rcases on_cons.1 h with h | h
   ·exact on_cons.2 (Or.inl (key h))
   ·by_cases hv : x.v < hi
    ·exact on_cons.2 (Or.inr (cut_on hc hlt hv hlast hQ1 hQ2 h))
    ·obtain ⟨a1, a2, a3⟩ := on_ge hc h
     have hQ : Q = x.v := by grind
     have hP : P = x.b := by have := a3.2 (by grind); grind
     subst hQ hP
     exact on_cons.2 (Or.inl (key (onSec_end hx)))
theorem cut_nil : ∀ {l : List Sec} {p q lo hi : Rat}, Secs p q l → lo < hi → hi ≤ q → cutS lo hi l = []
 | [], _, _, _, _, _, _, _ => rfl
 | x :: l, p, q, lo, hi, ⟨h1, h2, hx, hc⟩, hlt, hq => by
  have hxv := hx.uv
  subst h1 h2
  unfold cutS
  have hnot : ¬ (if x.u < lo then lo else x.u) < (if hi < x.v then hi else x.v) := by
   split <;> split <;> grind
  rw [if_neg hnot]
  exact cut_nil hc hlt (by grind)
theorem secOk_cut {x : Sec} (hx : SecOk x) {L H lo : Rat} (h : L < H) : SecOk ⟨x.a + (L - x.u) * ((x.area : Rat) / (x.old : Rat)), x.a + (H - x.u) * ((x.area : Rat) / (x.old : Rat)), L - lo, H - lo, x.old, x.area⟩ := by
 have hxo := int_pos hx.old1
 have hxa := int_pos hx.area1
 refine ⟨?_, by show L - lo < H - lo; grind, hx.old1, hx.old2, hx.area1, hx.area2, ?_⟩
 ·show x.a + (L - x.u) * ((x.area : Rat) / (x.old : Rat)) < x.a + (H - x.u) * ((x.area : Rat) / (x.old : Rat))
  have := mul_pos_lt (div_pos hxa hxo) (show L - x.u < H - x.u by grind)
  grind
 ·show (x.a + (H - x.u) * ((x.area : Rat) / (x.old : Rat)) - (x.a + (L - x.u) * ((x.area : Rat) / (x.old : Rat)))) * (x.old : Rat) = (H - lo - (L - lo)) * (x.area : Rat)
  grind
theorem sec_b {x : Sec} (hx : SecOk x) : x.a + (x.v - x.u) * ((x.area : Rat) / (x.old : Rat)) = x.b := by
 have hxo := int_pos hx.old1
 have := hx.vol
 grind
theorem chain_cut_after : ∀ {l : List Sec} {p q lo hi : Rat}, Secs p q l → lo < hi → lo ≤ q → Secs p (q - lo) (cutS lo hi l)
 | [], _, _, _, _, _, _, _ => trivial
 | x :: l, p, q, lo, hi, hcc, hlt, hq => by
  by_cases hhi : hi ≤ q
  ·rw [cut_nil hcc hlt hhi]; trivial
  ·obtain ⟨h1, h2, hx, hc⟩ := hcc
   have hxv := hx.uv
   subst h1 h2
   unfold cutS
   have hL : (if x.u < lo then lo else x.u) = x.u := by split <;> grind
   have hyes : (if x.u < lo then lo else x.u) < (if hi < x.v then hi else x.v) := by
    split <;> split <;> grind
   rw [if_pos hyes]
   refine ⟨by show _ = _; simp only [hL]; grind, by show _ = _; simp only [hL], secOk_cut hx hyes, ?_⟩
   show Secs (x.a + ((if hi < x.v then hi else x.v) - x.u) * ((x.area : Rat) / (x.old : Rat))) ((if hi < x.v then hi else x.v) - lo) (cutS lo hi l)
   by_cases hv : hi < x.v
   ·rw [cut_nil hc hlt (by grind)]; trivial
   ·rw [if_neg hv, sec_b hx]
    exact chain_cut_after hc hlt (by grind)
theorem chain_cut : ∀ {l : List Sec} {p q lo hi : Rat}, Secs p q l → lo < hi → q ≤ lo → ∃ p', Secs p' 0 (cutS lo hi l)
 | [], _, _, _, _, _, _, _ => ⟨0, trivial⟩
 | x :: l, p, q, lo, hi, ⟨h1, h2, hx, hc⟩, hlt, hq => by
  have hxv := hx.uv
  subst h1 h2
  unfold cutS
  by_cases hd : x.v ≤ lo
  ·have hnot : ¬ (if x.u < lo then lo else x.u) < (if hi < x.v then hi else x.v) := by
    split <;> split <;> grind
   rw [if_neg hnot]
   exact chain_cut hc hlt hd
  ·have hL : (if x.u < lo then lo else x.u) = lo := by split <;> grind
   have hyes : (if x.u < lo then lo else x.u) < (if hi < x.v then hi else x.v) := by
    split <;> split <;> grind
   rw [if_pos hyes]
   refine ⟨_, rfl, by show _ = _; simp only [hL]; grind, secOk_cut hx hyes, ?_⟩
   show Secs (x.a + ((if hi < x.v then hi else x.v) - x.u) * ((x.area : Rat) / (x.old : Rat))) ((if hi < x.v then hi else x.v) - lo) (cutS lo hi l)
   by_cases hv : hi < x.v
   ·rw [cut_nil hc hlt (by grind)]; trivial
   ·rw [if_neg hv, sec_b hx]
    exact chain_cut_after hc hlt (by grind)
theorem cut_ne {l : List Sec} {p q lo hi : Rat} (hc : Secs p q l) (hlt : lo < hi) (h1 : q ≤ lo) (h2 : hi ≤ lastV q l) : cutS lo hi l ≠ [] := by
 intro e
 have hne : l ≠ [] := by rintro rfl; unfold lastV at h2; grind
 have := cut_on hc hlt (by grind) h2 Rat.le_refl (Rat.le_of_lt hlt) (slabAt_on hc hne h1 (by grind))
 rw [e] at this
 exact not_on_nil this
end Go.Lift
namespace Go.Lift
open Go
theorem chk_idx {A : Type} {n : Nat} {m : Int} {k : Option A} (h : (n : Int) < m) : chk (decide ((0 : Int) ≤ (n : Int)) && decide ((n : Int) < m)) k = k :=
 chk_true (and_true' (dec_true (by omega)) (dec_true h))
def arr2 (a b : Dtrace_ratio) : Nat → Dtrace_ratio := aset (aset (fun _ => (false, ([], []))) 0 a) 1 b
theorem arr2_0 {a b : Dtrace_ratio} : aget (arr2 a b) 0 = a := rfl
theorem arr2_1 {a b : Dtrace_ratio} : aget (arr2 a b) 1 = b := rfl
theorem arr2_set0 {a b c : Dtrace_ratio} : aset (arr2 a b) 0 c = arr2 c b := by
 funext j
 unfold arr2 aset
 match j with
 | 0 => rfl
 | 1 => rfl
 | n + 2 => rfl
theorem arr2_set1 {a b c : Dtrace_ratio} : aset (arr2 a b) 1 c = arr2 a c := by
 funext j
 unfold arr2 aset
 match j with
 | 0 => rfl
 | 1 => rfl
 | n + 2 => rfl
def secQ (x : Sec) : Dtrace_section := (arr2 (ratioQ x.a) (ratioQ x.b), (arr2 (ratioQ x.u) (ratioQ x.v), (x.old, x.area)))
def secW (x : Sec) : Dr9_Section := (ratioW (x.v - x.u), x.area)
theorem chk01 {A : Type} {k : Option A} : chk (decide ((0 : Int) ≤ 0) && decide ((0 : Int) < 2)) k = k := chk_true (by decide)
theorem chk11 {A : Type} {k : Option A} : chk (decide ((0 : Int) ≤ 1) && decide ((1 : Int) < 2)) k = k := chk_true (by decide)
structure SecFit (S : Nat) (x : Sec) : Prop where
 a : Fit S x.a
 b : Fit S x.b
 u : smallQ x.u = true
 v : smallQ x.v = true
 l : smallQ (x.v - x.u) = true
theorem seclen_ok {x : Sec} {N : Nat} (h1 : Fit N x.u) (h2 : Fit N x.v) (hN : N ≤ 1000) : trace_section_length (secQ x) = some (ratioQ (x.v - x.u)) ∧ Fit (N + N + 1) (x.v - x.u) := by
 obtain ⟨r1, r2⟩ := rminus_ok h2 h1 (by omega)
 unfold trace_section_length
 rw [chk11, chk01]
 show (trace_ratio_minus (ratioQ x.v) (ratioQ x.u)).bind _ = _ ∧ _
 rw [r1, Option.bind_some]
 exact ⟨rfl, r2⟩
theorem small_u : ∀ {l : List Sec} {p q : Rat}, Secs p q l → smallQ q = true → (∀ x, x ∈ l → smallQ x.v = true) → ∀ x, x ∈ l → smallQ x.u = true
 | [], _, _, _, _, _, _, h => by cases h
 | x :: l, p, q, ⟨h1, h2, hx, hc⟩, hq, hv, y, hy => by
  rcases List.mem_cons.1 hy with rfl | hy
  ·rw [h2]; exact hq
  ·exact small_u hc (hv x List.mem_cons_self) (fun z hz => hv z (List.mem_cons_of_mem _ hz)) y hy
theorem chain_ok : ∀ {l : List Sec} {p q : Rat}, Secs p q l → ∀ x, x ∈ l → SecOk x
 | [], _, _, _, _, h => by cases h
 | x :: l, p, q, ⟨h1, h2, hx, hc⟩, y, hy => by
  rcases List.mem_cons.1 hy with rfl | hy
  ·exact hx
  ·exact chain_ok hc y hy
theorem last_app {q : Rat} {l : List Sec} {x : Sec} : lastV q (l ++ [x]) = x.v := by
 induction l generalizing q with
 | nil => rfl
 | cons y l ih => exact ih
theorem strip_length_ok {l : List Sec} (hne : l ≠ []) (hl : l.length ≤ 100) : trace_strip_length (l.map secQ) = some (ratioQ (lastV 0 l)) := by
 obtain ⟨pre, x, rfl⟩ : ∃ pre x, l = pre ++ [x] := ⟨l.dropLast, l.getLast hne, (List.dropLast_concat_getLast hne).symm⟩
 unfold trace_strip_length
 have e : wi64 ((((pre ++ [x]).map secQ).length : Int) - 1) = (pre.length : Int) := by
  rw [List.length_append, List.length_singleton] at hl
  rw [List.length_map, List.length_append, List.length_singleton, wi64_id (by omega) (by omega)]
  omega
 rw [e, chk_idx (by rw [List.length_map, List.length_append, List.length_singleton]; omega), chk11, lget_map, last_app]
 rfl
theorem fit_zero : Fit 1 (0 : Rat) := by
 have := fit_whole (n := 0) (by decide) (by decide)
 rwa [Rat.intCast_zero] at this
theorem whole0 : trace_whole 0 = some (ratioQ 0) := by
 rw [whole_ok (by decide) (by decide), Rat.intCast_zero]
theorem has_ok {l : List Sec} {n : Int} {N : Nat} (hne : l ≠ []) (hl : l.length ≤ 100) (hf : Fit N (lastV 0 l)) (hN : N ≤ 1000) (h1 : -9223372036854775808 ≤ n) (h2 : n < 9223372036854775808) : trace_strip_has (l.map secQ) n = some (decide (0 ≤ n ∧ (n : Rat) ≤ lastV 0 l)) := by
 unfold trace_strip_has
 have hfn : Fit 2 (n : Rat) := by
  unfold Fit
  rw [Rat.num_intCast, Rat.den_intCast]
  exact ⟨nw64 (by omega), nw64 (by decide)⟩
 rw [whole_ok h1 h2, Option.bind_some, whole0, Option.bind_some, strip_length_ok hne hl, Option.bind_some]
 rw [rbetween_ok (N := N + 2) (hfn.mono (by omega)) (fit_zero.mono (by omega)) (hf.mono (by omega)) (by omega), Option.bind_some]
 congr 1
 refine decide_eq_decide.2 ?_
 have : (0 : Rat) ≤ (n : Rat) ↔ 0 ≤ n := by rw [← Rat.intCast_zero, Rat.intCast_le_intCast]
 rw [this]
theorem roll_step {t d : Rat} {N : Nat} {k n : Int} (ht : Fit N t) (hd : Fit 3 d) (hN : N ≤ 1000) (hk1 : 1 ≤ k) (hk2 : k ≤ 1000) (hn1 : 1 ≤ n) (hn2 : n ≤ 1000) :
  trace_quotient k n = some (ratioQ ((k : Rat) / (n : Rat))) ∧ trace_ratio_times (ratioQ d) (ratioQ ((k : Rat) / (n : Rat))) = some (ratioQ (d * ((k : Rat) / (n : Rat)))) ∧
   trace_ratio_plus (ratioQ t) (ratioQ (d * ((k : Rat) / (n : Rat)))) = some (ratioQ (t + d * ((k : Rat) / (n : Rat)))) ∧ Fit (N + 5) (t + d * ((k : Rat) / (n : Rat))) := by
 obtain ⟨q1, q2⟩ := quotient_ok (n := k) (d := n) (by omega) (by omega) (by omega) (by omega)
 obtain ⟨m1, m2⟩ := rtimes_ok hd q2 (by omega)
 obtain ⟨p1, p2⟩ := rplus_ok ht m2 (by omega)
 exact ⟨q1, m1, p1, p2.mono (by omega)⟩
theorem rolled_fit : ∀ {l : List Sec} {m : List Int} {t : Rat} {N : Nat}, (∀ x, x ∈ l → SecOk x ∧ Fit 1 x.u ∧ Fit 1 x.v) → (∀ n, n ∈ m → 1 ≤ n ∧ n ≤ 1000) → Fit N t → N + 5 * l.length ≤ 1000 → ∀ y, y ∈ rolledS t l m → Fit (N + 5 * l.length) y.u ∧ Fit (N + 5 * l.length) y.v
 | [], _, _, _, _, _, _, _, y, hy => by simp [rolledS] at hy
 | x :: l, [], _, _, _, _, _, _, y, hy => by simp [rolledS] at hy
 | x :: l, n :: m, t, N, hl, hm, ht, hN, y, hy => by
  rw [List.length_cons] at hN ⊢
  unfold rolledS at hy
  obtain ⟨hx, hu, hv⟩ := hl x List.mem_cons_self
  have hn := hm n List.mem_cons_self
  have hd := (seclen_ok hu hv (by omega)).2
  obtain ⟨_, _, _, hf⟩ := roll_step ht hd (by omega) hx.area1 hx.area2 hn.1 hn.2
  rcases List.mem_cons.1 hy with rfl | hy
  ·exact ⟨ht.mono (by omega), hf.mono (by omega)⟩
  ·obtain ⟨a1, a2⟩ := rolled_fit (fun z hz => hl z (List.mem_cons_of_mem _ hz)) (fun z hz => hm z (List.mem_cons_of_mem _ hz)) hf (by omega) y hy
   exact ⟨a1.mono (by omega), a2.mono (by omega)⟩
theorem trolled_ok {l : List Sec} {m : List Int} (hl : ∀ x, x ∈ l → SecOk x ∧ Fit 1 x.u ∧ Fit 1 x.v) (hm : ∀ n, n ∈ m → 1 ≤ n ∧ n ≤ 1000) (hlen : l.length = m.length) (h6 : l.length ≤ 100) :
  trace_strip_rolled (l.map secQ) m = some ((rolledS 0 l m).map secQ) := by
 unfold trace_strip_rolled
 rw [whole0, Option.bind_some]
 refine Option.bind_eq_some_iff.2 ⟨_, ?_, rfl⟩
 refine loopM_list_eq (X := Sec) (l := l) (fun l' s => ∃ pre preM m' out t, l = pre ++ l' ∧ m = preM ++ m' ∧ pre.length = preM.length ∧ l'.length = m'.length ∧ out.length = pre.length ∧
  s = (out.map secQ, (pre.length : Int), ratioQ t) ∧ out ++ rolledS t l' m' = rolledS 0 l m ∧ Fit (5 * pre.length + 1) t) ?_ ?_ ⟨[], [], m, [], 0, rfl, rfl, rfl, hlen, rfl, rfl, rfl, fit_zero⟩
 ·rintro x l' s ⟨pre, preM, m', out, t, e1, e2, e3, e4, e5, rfl, e6, e7⟩
  left
  cases m' with
  | nil => simp at e4
  | cons n m' =>
   obtain ⟨hx, hu, hv⟩ := hl x (by rw [e1]; simp)
   have hn := hm n (by rw [e2]; simp)
   have hL : l.length = pre.length + (l'.length + 1) := by rw [e1, List.length_append, List.length_cons]
   have hM : m.length = preM.length + (m'.length + 1) := by rw [e2, List.length_append, List.length_cons]
   obtain ⟨s1, s2⟩ := seclen_ok hu hv (by omega)
   obtain ⟨r1, r2, r3, r4⟩ := roll_step e7 s2 (by omega) hx.area1 hx.area2 hn.1 hn.2
   simp only
   rw [List.length_map, dec_true (show (pre.length : Int) < (l.length : Int) by omega), cond_true, chk_true (and_true' (dec_true (by omega)) rfl)]
   have g1 : ∀ d, lget d (l.map secQ) (pre.length : Int) = secQ x := fun d => by rw [e1]; exact lget_map
   have g2 : ∀ d, lget d m (pre.length : Int) = n := fun d => by rw [e2, e3]; exact lget_mid
   rw [g1, g2, s1, Option.bind_some, chk_idx (by omega)]
   rw [show (secQ x).2.2.2 = x.area from rfl, r1, Option.bind_some, r2, Option.bind_some, r3, Option.bind_some, chk_idx (by omega)]
   rw [app_ok (by rw [List.length_map, List.length_singleton]; omega), Option.bind_some]
   refine ⟨_, rfl, pre ++ [x], preM ++ [n], m', out ++ [⟨x.a, x.b, t, t + (x.v - x.u) * ((x.area : Rat) / (n : Rat)), x.old, n⟩], t + (x.v - x.u) * ((x.area : Rat) / (n : Rat)), by rw [e1]; simp, by rw [e2]; simp, by simp [e3], by simpa using e4, by simp [e5], ?_, ?_, ?_⟩
   ·rw [List.map_append, wi64_id (by omega) (by omega), List.length_append, List.length_singleton]
    rfl
   ·rw [← e6]
    conv => rhs; unfold rolledS
    simp
   ·rw [List.length_append, List.length_singleton]
    exact r4.mono (by omega)
 ·rintro s ⟨pre, preM, m', out, t, e1, e2, e3, e4, e5, rfl, e6, e7⟩
  have hL : l.length = pre.length := by rw [e1, List.append_nil]
  simp only
  rw [List.length_map, dec_false (show ¬ (pre.length : Int) < (l.length : Int) by omega), cond_false, ← e6]
  simp [rolledS]
theorem divInt_div {k n : Int} : Rat.divInt k n = (k : Rat) / (n : Rat) := Rat.divInt_eq_div _ _
theorem rpass_ok {l : List Sec} {m : List Int} (hl : ∀ x, x ∈ l → SecOk x ∧ FitT 2 (x.v - x.u)) (hm : ∀ n, n ∈ m → 1 ≤ n ∧ n ≤ 1000) (hlen : l.length = m.length) (h6 : l.length ≤ 100) :
  r9_pass (l.map secW) m = some ((rolledS 0 l m).map secW) := by
 unfold r9_pass
 refine Option.bind_eq_some_iff.2 ⟨_, ?_, rfl⟩
 refine loopM_list_eq (X := Sec) (l := l) (fun l' s => ∃ pre preM m' out t, l = pre ++ l' ∧ m = preM ++ m' ∧ pre.length = preM.length ∧ l'.length = m'.length ∧ out.length = pre.length ∧
  s = (out.map secW, (pre.length : Int)) ∧ out ++ rolledS t l' m' = rolledS 0 l m) ?_ ?_ ⟨[], [], m, [], 0, rfl, rfl, rfl, hlen, rfl, rfl, rfl⟩
 ·rintro x l' s ⟨pre, preM, m', out, t, e1, e2, e3, e4, e5, rfl, e6⟩
  left
  cases m' with
  | nil => simp at e4
  | cons n m' =>
   obtain ⟨hx, hu⟩ := hl x (by rw [e1]; simp)
   have hn := hm n (by rw [e2]; simp)
   have hL : l.length = pre.length + (l'.length + 1) := by rw [e1, List.length_append, List.length_cons]
   have hM : m.length = preM.length + (m'.length + 1) := by rw [e2, List.length_append, List.length_cons]
   simp only
   have ha1 := hx.area1
   have ha2 := hx.area2
   rw [List.length_map, dec_true (show (pre.length : Int) < (l.length : Int) by omega), cond_true, chk_true (and_true' (dec_true (by omega)) rfl), chk_true (and_true' (dec_true (by omega)) rfl), chk_idx (by omega)]
   have g1 : ∀ d, lget d (l.map secW) (pre.length : Int) = secW x := fun d => by rw [e1]; exact lget_map
   have g2 : ∀ d, lget d m (pre.length : Int) = n := fun d => by rw [e2, e3]; exact lget_mid
   rw [g1, g2, show (secW x).2 = x.area from rfl]
   obtain ⟨q1, q2⟩ := RatioOf_ok (n := x.area) (d := n) (by omega) (by omega) (by omega) (by omega) (by omega)
   rw [q1, Option.bind_some]
   rw [show (secW x).1 = ratioW (x.v - x.u) from rfl, (RatioMul_ok hu q2 (by omega)).1, Option.bind_some, chk_idx (by omega)]
   rw [app_ok (by rw [List.length_map, List.length_singleton]; omega), Option.bind_some]
   refine ⟨_, rfl, pre ++ [x], preM ++ [n], m', out ++ [⟨x.a, x.b, t, t + (x.v - x.u) * ((x.area : Rat) / (n : Rat)), x.old, n⟩], t + (x.v - x.u) * ((x.area : Rat) / (n : Rat)), by rw [e1]; simp, by rw [e2]; simp, by simp [e3], by simpa using e4, by simp [e5], ?_, ?_⟩
   ·rw [List.map_append, wi64_id (by omega) (by omega), List.length_append, List.length_singleton]
    have : secW ⟨x.a, x.b, t, t + (x.v - x.u) * ((x.area : Rat) / (n : Rat)), x.old, n⟩ = (ratioW ((x.v - x.u) * Rat.divInt x.area n), n) := by
     unfold secW
     simp only
     rw [divInt_div]
     congr 2
     grind
    rw [List.map_singleton, this]
    rfl
   ·rw [← e6]
    conv => rhs; unfold rolledS
    simp
 ·rintro s ⟨pre, preM, m', out, t, e1, e2, e3, e4, e5, rfl, e6⟩
  have hL : l.length = pre.length := by rw [e1, List.append_nil]
  simp only
  rw [List.length_map, dec_false (show ¬ (pre.length : Int) < (l.length : Int) by omega), cond_false, ← e6]
  simp [rolledS]
end Go.Lift
namespace Go.Lift
open Go
theorem cmp_gt {a b : Rat} : ((if a = b then (0 : Int) else if a < b then -1 else 1) > 0) ↔ b < a := by
 have := @cmp_le a b
 constructor
 ·intro h
  have : ¬ a ≤ b := fun e => by have := this.2 e; omega
  grind
 ·intro h
  have : ¬ a ≤ b := by grind
  have h2 := mt (@cmp_le a b).1 this
  omega
theorem cmp_ge {a b : Rat} : ((if a = b then (0 : Int) else if a < b then -1 else 1) ≥ 0) ↔ b ≤ a := by
 have := @cmp_lt a b
 constructor
 ·intro h
  have : ¬ a < b := fun e => by have := this.2 e; omega
  grind
 ·intro h
  have : ¬ a < b := by grind
  have h2 := mt (@cmp_lt a b).1 this
  omega
theorem bif02 {A : Type} {a b : A} : (bif decide ((0 : Int) < 2) then a else b) = a := rfl
theorem bif12 {A : Type} {a b : A} : (bif decide ((1 : Int) < 2) then a else b) = a := rfl
theorem bif22 {A : Type} {a b : A} : (bif decide ((2 : Int) < 2) then a else b) = b := rfl
theorem cutS_cons {x : Sec} {l : List Sec} {lo hi : Rat} : cutS lo hi (x :: l) =
  if (if x.u < lo then lo else x.u) < (if hi < x.v then hi else x.v) then
   ⟨x.a + ((if x.u < lo then lo else x.u) - x.u) * ((x.area : Rat) / (x.old : Rat)), x.a + ((if hi < x.v then hi else x.v) - x.u) * ((x.area : Rat) / (x.old : Rat)),
    (if x.u < lo then lo else x.u) - lo, (if hi < x.v then hi else x.v) - lo, x.old, x.area⟩ :: cutS lo hi l
  else cutS lo hi l := rfl
theorem kept_step {x : Sec} {e a : Rat} {S : Nat} (hx : SecOk x) (hS : S ≤ 1000) (ha : Fit S x.a) (hu : Fit 1 x.u) (he : Fit 1 e) (hl : Fit 1 a) :
  trace_ratio_minus (ratioQ e) (ratioQ x.u) = some (ratioQ (e - x.u)) ∧ trace_quotient x.area x.old = some (ratioQ ((x.area : Rat) / (x.old : Rat))) ∧
   trace_ratio_times (ratioQ (e - x.u)) (ratioQ ((x.area : Rat) / (x.old : Rat))) = some (ratioQ ((e - x.u) * ((x.area : Rat) / (x.old : Rat)))) ∧
   trace_ratio_plus (ratioQ x.a) (ratioQ ((e - x.u) * ((x.area : Rat) / (x.old : Rat)))) = some (ratioQ (x.a + (e - x.u) * ((x.area : Rat) / (x.old : Rat)))) ∧
   Fit (S + 5) (x.a + (e - x.u) * ((x.area : Rat) / (x.old : Rat))) ∧ trace_ratio_minus (ratioQ e) (ratioQ a) = some (ratioQ (e - a)) ∧ Fit 3 (e - a) := by
 have o1 := hx.old1
 have o2 := hx.old2
 have a1 := hx.area1
 have a2 := hx.area2
 obtain ⟨m1, m2⟩ := rminus_ok he hu (by omega)
 obtain ⟨q1, q2⟩ := quotient_ok (n := x.area) (d := x.old) (by omega) (by omega) (by omega) (by omega)
 obtain ⟨t1, t2⟩ := rtimes_ok m2 q2 (by omega)
 obtain ⟨p1, p2⟩ := rplus_ok ha t2 (by omega)
 obtain ⟨k1, k2⟩ := rminus_ok he hl (by omega)
 exact ⟨m1, q1, t1, p1, p2.mono (by omega), k1, k2⟩
theorem cut_fit : ∀ {l : List Sec} {lo hi : Rat} {S : Nat}, (∀ x, x ∈ l → SecOk x ∧ Fit S x.a ∧ Fit 1 x.u ∧ Fit 1 x.v) → S ≤ 1000 → Fit 1 lo → Fit 1 hi → ∀ y, y ∈ cutS lo hi l → Fit (S + 5) y.a ∧ Fit (S + 5) y.b ∧ Fit 3 y.u ∧ Fit 3 y.v
 | [], _, _, _, _, _, _, _, y, hy => by simp [cutS] at hy
 | x :: l, lo, hi, S, hl, hS, h1, h2, y, hy => by
  have ih := cut_fit (l := l) (fun z hz => hl z (List.mem_cons_of_mem _ hz)) hS h1 h2 y
  obtain ⟨hx, ha, hu, hv⟩ := hl x List.mem_cons_self
  have fL : Fit 1 (if x.u < lo then lo else x.u) := by split <;> assumption
  have fH : Fit 1 (if hi < x.v then hi else x.v) := by split <;> assumption
  unfold cutS at hy
  generalize (if x.u < lo then lo else x.u) = L at *
  generalize (if hi < x.v then hi else x.v) = H at *
  split at hy
  ·rcases List.mem_cons.1 hy with rfl | hy
   ·obtain ⟨_, _, _, _, f1, _, f2⟩ := kept_step hx hS ha hu fL h1
    obtain ⟨_, _, _, _, f3, _, f4⟩ := kept_step hx hS ha hu fH h1
    exact ⟨f1, f3, f2, f4⟩
   ·exact ih hy
  ·exact ih hy
theorem tcut_ok {l : List Sec} {lo hi : Int} {S : Nat} (hl : ∀ x, x ∈ l → SecOk x ∧ Fit S x.a ∧ Fit 1 x.u ∧ Fit 1 x.v) (hS : S ≤ 1000) (h6 : l.length ≤ 100) (h1 : 0 ≤ lo) (h2 : lo ≤ 1000000) (h3 : 0 ≤ hi) (h4 : hi ≤ 1000000) :
  trace_strip_cut (l.map secQ) lo hi = some ((cutS (lo : Rat) (hi : Rat) l).map secQ) := by
 unfold trace_strip_cut
 rw [whole_ok (by omega) (by omega), Option.bind_some, whole_ok (by omega) (by omega), Option.bind_some]
 have flo : Fit 1 (lo : Rat) := fit_whole (by omega) (by omega)
 have fhi : Fit 1 (hi : Rat) := fit_whole (by omega) (by omega)
 refine Option.bind_eq_some_iff.2 ⟨_, ?_, rfl⟩
 refine loopM_list_eq (X := Sec) (l := l) (fun l' s => ∃ pre out, l = pre ++ l' ∧ out.length ≤ pre.length ∧
  s = (out.map secQ, (pre.length : Int)) ∧ out ++ cutS (lo : Rat) (hi : Rat) l' = cutS (lo : Rat) (hi : Rat) l) ?_ ?_ ⟨[], [], rfl, Nat.le_refl _, rfl, rfl⟩
 ·rintro x l' s ⟨pre, out, e1, e2, rfl, e3⟩
  left
  obtain ⟨hx, ha, hu, hv⟩ := hl x (by rw [e1]; simp)
  have hL : l.length = pre.length + (l'.length + 1) := by rw [e1, List.length_append, List.length_cons]
  simp only
  have g1 : ∀ d, lget d (l.map secQ) (pre.length : Int) = secQ x := fun d => by rw [e1]; exact lget_map
  rw [List.length_map, dec_true (show (pre.length : Int) < (l.length : Int) by omega), cond_true, chk_true (and_true' (dec_true (by omega)) rfl), g1, chk01]
  rw [show (secQ x).2.1 = arr2 (ratioQ x.u) (ratioQ x.v) from rfl, show (secQ x).1 = arr2 (ratioQ x.a) (ratioQ x.b) from rfl, show (secQ x).2.2.2 = x.area from rfl, show (secQ x).2.2.1 = x.old from rfl]
  rw [arr2_0, rcmp_ok hu flo (by omega), Option.bind_some]
  have w1 : (bif decide ((if x.u = (lo : Rat) then (0 : Int) else if x.u < (lo : Rat) then -1 else 1) < 0) then chk (decide ((0 : Int) ≤ 0) && decide ((0 : Int) < 2)) (some (aset (arr2 (ratioQ x.u) (ratioQ x.v)) 0 (ratioQ (lo : Rat)))) else some (arr2 (ratioQ x.u) (ratioQ x.v)) : Option (Nat → Dtrace_ratio)) = some (arr2 (ratioQ (if x.u < (lo : Rat) then (lo : Rat) else x.u)) (ratioQ x.v)) := by
   by_cases h : x.u < (lo : Rat)
   ·rw [dec_true (cmp_lt.2 h), cond_true, chk01, arr2_set0, if_pos h]
   ·rw [dec_false (mt cmp_lt.1 h), cond_false, if_neg h]
  rw [w1, Option.bind_some, chk11, arr2_1, rcmp_ok hv fhi (by omega), Option.bind_some]
  have w2 : (bif decide ((if x.v = (hi : Rat) then (0 : Int) else if x.v < (hi : Rat) then -1 else 1) > 0) then chk (decide ((0 : Int) ≤ 1) && decide ((1 : Int) < 2)) (some (aset (arr2 (ratioQ (if x.u < (lo : Rat) then (lo : Rat) else x.u)) (ratioQ x.v)) 1 (ratioQ (hi : Rat)))) else some (arr2 (ratioQ (if x.u < (lo : Rat) then (lo : Rat) else x.u)) (ratioQ x.v)) : Option (Nat → Dtrace_ratio)) = some (arr2 (ratioQ (if x.u < (lo : Rat) then (lo : Rat) else x.u)) (ratioQ (if (hi : Rat) < x.v then (hi : Rat) else x.v))) := by
   by_cases h : (hi : Rat) < x.v
   ·rw [dec_true (cmp_gt.2 h), cond_true, chk11, arr2_set1, if_pos h]
   ·rw [dec_false (mt cmp_gt.1 h), cond_false, if_neg h]
  rw [w2, Option.bind_some, chk01, chk11]
  have fL : Fit 1 (if x.u < (lo : Rat) then (lo : Rat) else x.u) := by split <;> assumption
  have fH : Fit 1 (if (hi : Rat) < x.v then (hi : Rat) else x.v) := by split <;> assumption
  have e3' := e3
  rw [cutS_cons] at e3
  generalize (if x.u < (lo : Rat) then (lo : Rat) else x.u) = L at *
  generalize (if (hi : Rat) < x.v then (hi : Rat) else x.v) = H at *
  rw [arr2_0, arr2_1, rcmp_ok fL fH (by omega), Option.bind_some]
  by_cases hlt : L < H
  ·rw [if_pos hlt] at e3
   rw [dec_false (mt cmp_ge.1 (show ¬ H ≤ L by grind)), cond_false]
   obtain ⟨m1, m2, m3, m4, _, m6, _⟩ := kept_step hx hS ha hu fL flo
   obtain ⟨n1, n2, n3, n4, _, n6, _⟩ := kept_step hx hS ha hu fH flo
   generalize hz : (⟨x.a + (L - x.u) * ((x.area : Rat) / (x.old : Rat)), x.a + (H - x.u) * ((x.area : Rat) / (x.old : Rat)), L - (lo : Rat), H - (lo : Rat), x.old, x.area⟩ : Sec) = z at e3
   refine ⟨_, Option.bind_eq_some_iff.2 ⟨secQ z, ?_, ?_⟩, pre ++ [x], out ++ [z], by rw [e1]; simp, by rw [List.length_append, List.length_append, List.length_singleton, List.length_singleton]; omega, rfl, by rw [← e3]; simp⟩
   ·refine (loopM_next (s' := ((1 : Int), ((aset (fun _ => (false, ([], []))) 0 (ratioQ (x.a + (L - x.u) * ((x.area : Rat) / (x.old : Rat)))), (aset (fun _ => (false, ([], []))) 0 (ratioQ (L - (lo : Rat))), (x.old, x.area))) : Dtrace_section))) ?_).trans ((loopM_next (s' := ((2 : Int), secQ z)) ?_).trans (loopM_done ?_))
    ·simp only
     rw [bif02, chk01, chk01, chk01, arr2_0, m1, Option.bind_some, m2, Option.bind_some, m3, Option.bind_some, arr2_0, m4, Option.bind_some, chk01, m6, Option.bind_some, chk01, wi64_id (by decide) (by decide)]
     rfl
    ·simp only
     rw [bif12, chk11, chk01, chk01, arr2_1, arr2_0, n1, Option.bind_some, n2, Option.bind_some, n3, Option.bind_some, n4, Option.bind_some, chk11, n6, Option.bind_some, chk11, wi64_id (by decide) (by decide), ← hz]
     rfl
    ·simp only
     rw [bif22]
   ·rw [app_ok (by rw [List.length_map, List.length_singleton]; omega), Option.bind_some, wi64_id (by omega) (by omega), List.map_append, List.length_append, List.length_singleton]
    rfl
  ·rw [if_neg hlt] at e3
   rw [dec_true (cmp_ge.2 (show H ≤ L by grind)), cond_true, wi64_id (by omega) (by omega)]
   exact ⟨_, rfl, pre ++ [x], out, by rw [e1]; simp, by rw [List.length_append, List.length_singleton]; omega, by rw [List.length_append, List.length_singleton]; rfl, e3⟩
 ·rintro s ⟨pre, out, e1, e2, rfl, e3⟩
  have hL : l.length = pre.length := by rw [e1, List.append_nil]
  simp only
  rw [List.length_map, dec_false (show ¬ (pre.length : Int) < (l.length : Int) by omega), cond_false, ← e3]
  simp [cutS]
def smallS (l : List Sec) : Bool := l.all fun x => smallQ (x.v - x.u) && smallQ x.v
theorem tsmall_ok {l : List Sec} {N : Nat} (hl : ∀ x, x ∈ l → Fit N x.u ∧ Fit N x.v) (hN : N ≤ 1000) (h6 : l.length ≤ 100) : trace_strip_isSmall (l.map secQ) = some (smallS l) := by
 unfold trace_strip_isSmall
 refine Option.bind_eq_some_iff.2 ⟨(if smallS l then .inl () else .inr false), ?_, by cases smallS l <;> rfl⟩
 refine loopM_list_eq (X := Sec) (l := l) (fun l' s => ∃ pre, l = pre ++ l' ∧ s = (pre.length : Int) ∧ smallS l = smallS l') ?_ ?_ ⟨[], rfl, rfl, rfl⟩
 ·rintro x l' s ⟨pre, e1, rfl, e2⟩
  have hL : l.length = pre.length + (l'.length + 1) := by rw [e1, List.length_append, List.length_cons]
  obtain ⟨hu, hv⟩ := hl x (by rw [e1]; simp)
  have g1 : ∀ d, lget d (l.map secQ) (pre.length : Int) = secQ x := fun d => by rw [e1]; exact lget_map
  obtain ⟨s1, s2⟩ := seclen_ok hu hv hN
  simp only
  rw [List.length_map, dec_true (show (pre.length : Int) < (l.length : Int) by omega), cond_true, chk_true (and_true' (dec_true (by omega)) rfl), g1, s1, Option.bind_some, frac_ok s2 (by omega), Option.bind_some, chk11]
  rw [show aget (secQ x).2.1 1 = ratioQ x.v from rfl, frac_ok hv (by omega), Option.bind_some, fracQ_small, fracQ_small]
  have e3 : smallS (x :: l') = (smallQ (x.v - x.u) && smallQ x.v && smallS l') := by unfold smallS; rw [List.all_cons]
  rw [e3] at e2
  by_cases h : (smallQ (x.v - x.u) && smallQ x.v) = true
  ·left
   rw [h, Bool.true_and] at e2
   rw [Bool.and_eq_true] at h
   rw [h.1, h.2, wi64_id (by omega) (by omega)]
   exact ⟨_, rfl, pre ++ [x], by rw [e1]; simp, by rw [List.length_append, List.length_singleton]; rfl, e2⟩
  ·right
   rw [Bool.not_eq_true] at h
   rw [h, Bool.false_and] at e2
   rw [e2]
   have : ((!smallQ (x.v - x.u)) || (!smallQ x.v)) = true := by
    revert h; cases smallQ (x.v - x.u) <;> cases smallQ x.v <;> simp
   rw [this]
   rfl
 ·rintro s ⟨pre, e1, rfl, e2⟩
  have hL : l.length = pre.length := by rw [e1, List.append_nil]
  simp only
  rw [List.length_map, dec_false (show ¬ (pre.length : Int) < (l.length : Int) by omega), cond_false, e2]
  rfl
structure SecT (N : Nat) (x : Sec) : Prop where
 u : FitT N x.u
 v : FitT N x.v
 l : FitT N (x.v - x.u)
theorem SecT.mono {N M : Nat} {x : Sec} (h : SecT N x) (hm : N ≤ M) : SecT M x := ⟨h.u.mono hm, h.v.mono hm, h.l.mono hm⟩
theorem fitT_zero : FitT 1 (0 : Rat) := ⟨by show tw 0 ≤ 1; exact tw_of_lt (by decide), by show tw 1 ≤ 1; exact tw_of_lt (by decide)⟩
theorem fitT_int {n : Int} (h1 : -1000000000000000000 < n) (h2 : n < 1000000000000000000) : FitT 2 (n : Rat) := by
 unfold FitT
 rw [Rat.num_intCast, Rat.den_intCast]
 have : (T9 : Nat) ^ 2 = 1000000000000000000 := by decide
 exact ⟨tw_of_lt (by rw [this]; omega), tw_of_lt (by rw [this]; omega)⟩
theorem RInt0 : b0_RatioInt 0 = some (ratioW 0) := by rw [RatioInt_ok (by decide) (by decide), Rat.intCast_zero]
theorem length_okW {l : List Sec} {p : Rat} {N : Nat} (hc : Secs p 0 l) (hl : ∀ x, x ∈ l → SecT N x) (hN : N ≤ 1000) (h6 : l.length ≤ 100) : r9_Strip_Length (l.map secW) = some (ratioW (lastV 0 l)) := by
 unfold r9_Strip_Length
 rw [RInt0, Option.bind_some]
 refine Option.bind_eq_some_iff.2 ⟨_, ?_, rfl⟩
 refine loopM_list_eq (X := Sec) (l := l) (fun l' s => ∃ pre p' q, l = pre ++ l' ∧ s = ((pre.length : Int), ratioW q) ∧ Secs p' q l' ∧ FitT (N + 1) q ∧ lastV q l' = lastV 0 l) ?_ ?_ ⟨[], p, 0, rfl, rfl, hc, fitT_zero.mono (by omega), rfl⟩
 ·rintro x l' s ⟨pre, p', q, e1, rfl, ⟨c1, c2, c3, c4⟩, hq, e2⟩
  left
  have hL : l.length = pre.length + (l'.length + 1) := by rw [e1, List.length_append, List.length_cons]
  have hx := hl x (by rw [e1]; simp)
  have g1 : ∀ d, lget d (l.map secW) (pre.length : Int) = secW x := fun d => by rw [e1]; exact lget_map
  simp only
  rw [List.length_map, dec_true (show (pre.length : Int) < (l.length : Int) by omega), cond_true, chk_true (and_true' (dec_true (by omega)) rfl), g1]
  rw [show (secW x).1 = ratioW (x.v - x.u) from rfl, (RatioAdd_ok hq hx.l (by omega)).1, Option.bind_some, wi64_id (by omega) (by omega), show q + (x.v - x.u) = x.v by grind]
  exact ⟨_, rfl, pre ++ [x], _, _, by rw [e1]; simp, by rw [List.length_append, List.length_singleton]; rfl, c4, hx.v.mono (by omega), e2⟩
 ·rintro s ⟨pre, p', q, e1, rfl, _, hq, e2⟩
  have hL : l.length = pre.length := by rw [e1, List.append_nil]
  simp only
  rw [List.length_map, dec_false (show ¬ (pre.length : Int) < (l.length : Int) by omega), cond_false, ← e2]
  rfl
theorem ends_okW {l : List Sec} {p : Rat} {N : Nat} (hc : Secs p 0 l) (hl : ∀ x, x ∈ l → SecT N x) (hN : N ≤ 1000) (h6 : l.length ≤ 100) : r9_Strip_Ends (l.map secW) = some (l.map fun x => ratioW x.v) := by
 unfold r9_Strip_Ends
 rw [RInt0, Option.bind_some]
 refine Option.bind_eq_some_iff.2 ⟨_, ?_, rfl⟩
 refine loopM_list_eq (X := Sec) (l := l) (fun l' s => ∃ pre p' q, l = pre ++ l' ∧ s = (pre.map (fun x => ratioW x.v), (pre.length : Int), ratioW q) ∧ Secs p' q l' ∧ FitT (N + 1) q) ?_ ?_ ⟨[], p, 0, rfl, rfl, hc, fitT_zero.mono (by omega)⟩
 ·rintro x l' s ⟨pre, p', q, e1, rfl, ⟨c1, c2, c3, c4⟩, hq⟩
  left
  have hL : l.length = pre.length + (l'.length + 1) := by rw [e1, List.length_append, List.length_cons]
  have hx := hl x (by rw [e1]; simp)
  have g1 : ∀ d, lget d (l.map secW) (pre.length : Int) = secW x := fun d => by rw [e1]; exact lget_map
  simp only
  rw [List.length_map, dec_true (show (pre.length : Int) < (l.length : Int) by omega), cond_true, chk_true (and_true' (dec_true (by omega)) rfl), g1]
  rw [show (secW x).1 = ratioW (x.v - x.u) from rfl, (RatioAdd_ok hq hx.l (by omega)).1, Option.bind_some, wi64_id (by omega) (by omega), show q + (x.v - x.u) = x.v by grind, app_ok (by rw [List.length_map, List.length_singleton]; omega), Option.bind_some]
  exact ⟨_, rfl, pre ++ [x], _, _, by rw [e1]; simp, by rw [List.length_append, List.length_singleton, List.map_append]; rfl, c4, hx.v.mono (by omega)⟩
 ·rintro s ⟨pre, p', q, e1, rfl, _, hq⟩
  have hL : l.length = pre.length := by rw [e1, List.append_nil]
  simp only
  rw [List.length_map, dec_false (show ¬ (pre.length : Int) < (l.length : Int) by omega), cond_false, e1, List.append_nil]
theorem rcut_ok {l : List Sec} {lo hi : Int} {p : Rat} (hc : Secs p 0 l) (hl : ∀ x, x ∈ l → SecT 2 x) (h6 : l.length ≤ 100) (h1 : 0 ≤ lo) (h2 : lo ≤ 1000000) (h3 : 0 ≤ hi) (h4 : hi ≤ 1000000) :
  r9_cut (l.map secW) lo hi = some ((cutS (lo : Rat) (hi : Rat) l).map secW) := by
 unfold r9_cut
 rw [RatioInt_ok (by omega) (by omega), Option.bind_some, RatioInt_ok (by omega) (by omega), Option.bind_some, RInt0, Option.bind_some]
 have flo : FitT 2 (lo : Rat) := fitT_int (by omega) (by omega)
 have fhi : FitT 2 (hi : Rat) := fitT_int (by omega) (by omega)
 refine Option.bind_eq_some_iff.2 ⟨_, ?_, rfl⟩
 refine loopM_list_eq (X := Sec) (l := l) (fun l' s => ∃ pre out p' q, l = pre ++ l' ∧ out.length ≤ pre.length ∧
  s = (out.map secW, (pre.length : Int), ratioW q) ∧ Secs p' q l' ∧ FitT 2 q ∧ out ++ cutS (lo : Rat) (hi : Rat) l' = cutS (lo : Rat) (hi : Rat) l) ?_ ?_ ⟨[], [], p, 0, rfl, Nat.le_refl _, rfl, hc, fitT_zero.mono (by omega), rfl⟩
 ·rintro x l' s ⟨pre, out, p', q, e1, e2, rfl, ⟨c1, c2, c3, c4⟩, hq, e3⟩
  left
  subst c2
  have hL : l.length = pre.length + (l'.length + 1) := by rw [e1, List.length_append, List.length_cons]
  have hx := hl x (by rw [e1]; simp)
  have g1 : ∀ d, lget d (l.map secW) (pre.length : Int) = secW x := fun d => by rw [e1]; exact lget_map
  simp only
  rw [List.length_map, dec_true (show (pre.length : Int) < (l.length : Int) by omega), cond_true, chk_true (and_true' (dec_true (by omega)) rfl), g1]
  rw [show (secW x).1 = ratioW (x.v - x.u) from rfl, show (secW x).2 = x.area from rfl, (RatioAdd_ok hq hx.l (by omega)).1, Option.bind_some, show x.u + (x.v - x.u) = x.v by grind]
  rw [RatioCmp_ok hq flo (by omega), Option.bind_some]
  have w1 : (bif decide ((if x.u = (lo : Rat) then (0 : Int) else if x.u < (lo : Rat) then -1 else 1) < 0) then some (ratioW (lo : Rat)) else some (ratioW x.u) : Option Db0_Ratio) = some (ratioW (if x.u < (lo : Rat) then (lo : Rat) else x.u)) := by
   by_cases h : x.u < (lo : Rat)
   ·rw [dec_true (cmp_lt.2 h), cond_true, if_pos h]
   ·rw [dec_false (mt cmp_lt.1 h), cond_false, if_neg h]
  rw [w1, Option.bind_some, RatioCmp_ok hx.v fhi (by omega), Option.bind_some]
  have w2 : (bif decide ((if x.v = (hi : Rat) then (0 : Int) else if x.v < (hi : Rat) then -1 else 1) > 0) then some (ratioW (hi : Rat)) else some (ratioW x.v) : Option Db0_Ratio) = some (ratioW (if (hi : Rat) < x.v then (hi : Rat) else x.v)) := by
   by_cases h : (hi : Rat) < x.v
   ·rw [dec_true (cmp_gt.2 h), cond_true, if_pos h]
   ·rw [dec_false (mt cmp_gt.1 h), cond_false, if_neg h]
  rw [w2, Option.bind_some]
  have hv := hx.v
  have fL : FitT 2 (if x.u < (lo : Rat) then (lo : Rat) else x.u) := by split <;> assumption
  have fH : FitT 2 (if (hi : Rat) < x.v then (hi : Rat) else x.v) := by split <;> assumption
  rw [cutS_cons] at e3
  generalize (if x.u < (lo : Rat) then (lo : Rat) else x.u) = L at *
  generalize (if (hi : Rat) < x.v then (hi : Rat) else x.v) = H at *
  rw [RatioCmp_ok fL fH (by omega), Option.bind_some]
  by_cases hlt : L < H
  ·rw [if_pos hlt] at e3
   generalize hz : (⟨x.a + (L - x.u) * ((x.area : Rat) / (x.old : Rat)), x.a + (H - x.u) * ((x.area : Rat) / (x.old : Rat)), L - (lo : Rat), H - (lo : Rat), x.old, x.area⟩ : Sec) = z at e3
   rw [dec_true (cmp_lt.2 hlt), cond_true, (RatioSub_ok fH fL (by omega)).1, Option.bind_some, chk_true (and_true' (dec_true (by omega)) rfl), app_ok (by rw [List.length_map, List.length_singleton]; omega), Option.bind_some, Option.bind_some, wi64_id (by omega) (by omega)]
   refine ⟨_, rfl, pre ++ [x], out ++ [z], x.b, x.v, by rw [e1]; simp, by rw [List.length_append, List.length_append, List.length_singleton, List.length_singleton]; omega, ?_, c4, hv, by rw [← e3]; simp⟩
   rw [List.map_append, List.length_append, List.length_singleton, List.map_singleton]
   have : secW z = (ratioW (H - L), x.area) := by
    rw [← hz]
    unfold secW
    simp only
    congr 2
    grind
   rw [this]
   rfl
  ·rw [if_neg hlt] at e3
   rw [dec_false (mt cmp_lt.1 hlt), cond_false, Option.bind_some, wi64_id (by omega) (by omega)]
   exact ⟨_, rfl, pre ++ [x], out, x.b, x.v, by rw [e1]; simp, by rw [List.length_append, List.length_singleton]; omega, by rw [List.length_append, List.length_singleton]; rfl, c4, hv, e3⟩
 ·rintro s ⟨pre, out, p', q, e1, e2, rfl, _, _, e3⟩
  have hL : l.length = pre.length := by rw [e1, List.append_nil]
  simp only
  rw [List.length_map, dec_false (show ¬ (pre.length : Int) < (l.length : Int) by omega), cond_false, ← e3]
  simp [cutS]
end Go.Lift
namespace Go.Lift
open Go
theorem contains_ok {l : List Int} {f : Int → Option Bool} {g : Int → Bool} (hf : ∀ x, f x = some (g x)) (hl : l.length ≤ 1000) : slices_ContainsFunc_int l f = some (l.any g) := by
 unfold slices_ContainsFunc_int slices_IndexFunc_int
 have key : ∃ r : Unit ⊕ Int, loopM (S := Int) (R := (Unit) ⊕ (Int)) (fun t =>
  bif decide (t < (List.length l : Int)) then
   chk (decide ((0 : Int) ≤ t) && decide (t < (List.length l : Int))) (
    (f (lget 0 l t)).bind fun (t_1 : Bool) =>
    bif t_1 then
     Option.map Sum.inr (Option.map Sum.inr (
      some t))
    else
     some (.inl (wi64 (t + 1))))
  else
   some (.inr (.inl ()))) 0 = some r ∧ ((r = .inl () ∧ l.any g = false) ∨ ∃ k, 0 ≤ k ∧ r = .inr k ∧ l.any g = true) := by
  refine loopM_list (X := Int) (l := l) (fun l' s => ∃ pre, l = pre ++ l' ∧ s = (pre.length : Int) ∧ l.any g = l'.any g) _ ?_ ?_ ⟨[], rfl, rfl, rfl⟩
  ·rintro x l' s ⟨pre, e1, rfl, e2⟩
   have hL : l.length = pre.length + (l'.length + 1) := by rw [e1, List.length_append, List.length_cons]
   have g1 : ∀ d, lget d l (pre.length : Int) = x := fun d => by rw [e1]; exact lget_mid
   rw [dec_true (show (pre.length : Int) < (l.length : Int) by omega), cond_true, chk_true (and_true' (dec_true (by omega)) rfl), g1, hf, Option.bind_some]
   rw [List.any_cons] at e2
   cases h : g x with
   | true =>
    right
    rw [h, Bool.true_or] at e2
    exact ⟨.inr (pre.length : Int), rfl, Or.inr ⟨_, by omega, rfl, e2⟩⟩
   | false =>
    left
    rw [h, Bool.false_or] at e2
    rw [cond_false, wi64_id (by omega) (by omega)]
    exact ⟨_, rfl, pre ++ [x], by rw [e1]; simp, by rw [List.length_append, List.length_singleton]; rfl, e2⟩
  ·rintro s ⟨pre, e1, rfl, e2⟩
   have hL : l.length = pre.length := by rw [e1, List.append_nil]
   rw [dec_false (show ¬ (pre.length : Int) < (l.length : Int) by omega), cond_false]
   exact ⟨.inl (), rfl, Or.inl ⟨rfl, e2⟩⟩
 obtain ⟨r, h1, h2⟩ := key
 rw [h1, Option.bind_some]
 rcases h2 with ⟨rfl, h⟩ | ⟨k, hk, rfl, h⟩
 ·rw [h]; rfl
 ·rw [h]
  simp only
  rw [Option.bind_some, dec_true (show k ≥ 0 from hk)]
theorem isArea_ok (n : Int) : trace_isArea n = some (decide (1 ≤ n ∧ n ≤ 1000)) := by unfold trace_isArea; rw [within_ok, Option.bind_some]
theorem isPosition_ok (n : Int) : trace_isPosition n = some (decide (0 ≤ n ∧ n ≤ 1000000)) := by unfold trace_isPosition; rw [within_ok, Option.bind_some]
theorem step1_ok (n : Int) : trace_strip_step_1 n = some (!decide (1 ≤ n ∧ n ≤ 1000)) := by unfold trace_strip_step_1; rw [isArea_ok, Option.bind_some]
structure StripOk (S : Nat) (l : List Sec) : Prop where
 ne : l ≠ []
 len : l.length ≤ 6
 secs : ∃ p, Secs p 0 l
 fit : ∀ x, x ∈ l → SecFit S x
theorem StripOk.each {S : Nat} {l : List Sec} (h : StripOk S l) : ∀ x, x ∈ l → SecOk x ∧ Fit S x.a ∧ Fit S x.b ∧ Fit 1 x.u ∧ Fit 1 x.v ∧ SecT 2 x := by
 intro x hx
 obtain ⟨p, hp⟩ := h.secs
 have hf := h.fit x hx
 exact ⟨chain_ok hp x hx, hf.a, hf.b, (fit_small hf.u).1, (fit_small hf.v).1, (fit_small hf.u).2, (fit_small hf.v).2, (fit_small hf.l).2⟩
theorem last_mem : ∀ {l : List Sec} {q : Rat}, l ≠ [] → ∃ x, x ∈ l ∧ lastV q l = x.v
 | [], _, h => absurd rfl h
 | [x], _, _ => ⟨x, by simp, rfl⟩
 | x :: y :: l, _, _ => by
  obtain ⟨z, h1, h2⟩ := last_mem (l := y :: l) (q := x.v) (by simp)
  exact ⟨z, List.mem_cons_of_mem _ h1, h2⟩
theorem StripOk.last {S : Nat} {l : List Sec} (h : StripOk S l) : smallQ (lastV 0 l) = true := by
 obtain ⟨x, h1, h2⟩ := last_mem (q := 0) h.ne
 rw [h2]; exact (h.fit x h1).v
theorem rolled_fitT : ∀ {l : List Sec} {m : List Int} {t : Rat} {N : Nat}, (∀ x, x ∈ l → SecOk x ∧ FitT 2 (x.v - x.u)) → (∀ n, n ∈ m → 1 ≤ n ∧ n ≤ 1000) → FitT N t → 5 ≤ N → N + 6 * l.length ≤ 1000 → ∀ y, y ∈ rolledS t l m → SecT (N + 6 * l.length) y
 | [], _, _, _, _, _, _, _, _, y, hy => by simp [rolledS] at hy
 | x :: l, [], _, _, _, _, _, _, _, y, hy => by simp [rolledS] at hy
 | x :: l, n :: m, t, N, hl, hm, ht, h5, hN, y, hy => by
  rw [List.length_cons] at hN ⊢
  unfold rolledS at hy
  obtain ⟨hx, hu⟩ := hl x List.mem_cons_self
  have hn := hm n List.mem_cons_self
  have a1 := hx.area1
  have a2 := hx.area2
  have q2 := (RatioOf_ok (n := x.area) (d := n) (by omega) (by omega) (by omega) (by omega) (by omega)).2
  rw [divInt_div] at q2
  have m2 := (RatioMul_ok hu q2 (by omega)).2
  have p2 := (RatioAdd_ok ht m2 (by omega)).2
  rcases List.mem_cons.1 hy with rfl | hy
  ·refine ⟨ht.mono (by omega), p2.mono (by omega), ?_⟩
   show FitT _ (t + (x.v - x.u) * ((x.area : Rat) / (n : Rat)) - t)
   rw [show t + (x.v - x.u) * ((x.area : Rat) / (n : Rat)) - t = (x.v - x.u) * ((x.area : Rat) / (n : Rat)) by grind]
   exact m2.mono (by omega)
  ·exact (rolled_fitT (fun z hz => hl z (List.mem_cons_of_mem _ hz)) (fun z hz => hm z (List.mem_cons_of_mem _ hz)) p2 (by omega) (by omega) y hy).mono (by omega)
theorem cut_fitT : ∀ {l : List Sec} {lo hi : Rat}, (∀ x, x ∈ l → SecT 2 x) → FitT 2 lo → FitT 2 hi → ∀ y, y ∈ cutS lo hi l → SecT 5 y
 | [], _, _, _, _, _, y, hy => by simp [cutS] at hy
 | x :: l, lo, hi, hl, h1, h2, y, hy => by
  have ih := cut_fitT (l := l) (fun z hz => hl z (List.mem_cons_of_mem _ hz)) h1 h2 y
  have hx := hl x List.mem_cons_self
  have hu := hx.u
  have hv := hx.v
  have fL : FitT 2 (if x.u < lo then lo else x.u) := by split <;> assumption
  have fH : FitT 2 (if hi < x.v then hi else x.v) := by split <;> assumption
  rw [cutS_cons] at hy
  generalize (if x.u < lo then lo else x.u) = L at *
  generalize (if hi < x.v then hi else x.v) = H at *
  split at hy
  ·rcases List.mem_cons.1 hy with rfl | hy
   ·refine ⟨(RatioSub_ok fL h1 (by omega)).2, (RatioSub_ok fH h1 (by omega)).2, ?_⟩
    show FitT 5 (H - lo - (L - lo))
    rw [show H - lo - (L - lo) = H - L by grind]
    exact (RatioSub_ok fH fL (by omega)).2
   ·exact ih hy
  ·exact ih hy
theorem rolled_len : ∀ {l : List Sec} {m : List Int} {t : Rat}, l.length = m.length → (rolledS t l m).length = l.length
 | [], _, _, _ => by simp [rolledS]
 | x :: l, [], _, h => by simp at h
 | x :: l, n :: m, t, h => by unfold rolledS; rw [List.length_cons, List.length_cons, rolled_len (by simpa using h)]
theorem rolled_slab : ∀ {l : List Sec} {m : List Int} {t : Rat} {y : Sec}, y ∈ rolledS t l m → ∃ x, x ∈ l ∧ x.a = y.a ∧ x.b = y.b
 | [], _, _, y, h => by simp [rolledS] at h
 | x :: l, [], _, y, h => by simp [rolledS] at h
 | x :: l, n :: m, t, y, h => by
  unfold rolledS at h
  rcases List.mem_cons.1 h with rfl | h
  ·exact ⟨x, List.mem_cons_self, rfl, rfl⟩
  ·obtain ⟨z, h1, h2⟩ := rolled_slab h
   exact ⟨z, List.mem_cons_of_mem _ h1, h2⟩
theorem cut_len : ∀ {l : List Sec} {lo hi : Rat}, (cutS lo hi l).length ≤ l.length
 | [], _, _ => by simp [cutS]
 | x :: l, lo, hi => by
  have := cut_len (l := l) (lo := lo) (hi := hi)
  rw [cutS_cons, List.length_cons]
  generalize (if x.u < lo then lo else x.u) = L
  generalize (if hi < x.v then hi else x.v) = H
  split
  ·rw [List.length_cons]; omega
  ·omega
theorem smallW_ok {l : List Sec} {p : Rat} {N : Nat} (hc : Secs p 0 l) (hl : ∀ x, x ∈ l → SecT N x) (hN : N ≤ 1000) (h6 : l.length ≤ 100) :
  ((r9_Strip_Ends (l.map secW)).bind fun (t_8 : (List Db0_Ratio)) =>
  (loopM (S := Int) (R := (Unit) ⊕ ((List Dr9_Section) × Int)) (fun i_1 =>
   bif decide (i_1 < (List.length (l.map secW) : Int)) then
    chk (decide ((0 : Int) ≤ i_1) && decide (i_1 < (List.length (l.map secW) : Int))) (
     (r9_isSmall ((lget (((0, []), (0, [])), 0) (l.map secW) i_1).1)).bind fun (t_9 : Bool) =>
     (bif !t_9 then some true else
      chk (decide ((0 : Int) ≤ i_1) && decide (i_1 < (List.length t_8 : Int))) (
       (r9_isSmall (lget ((0, []), (0, [])) t_8 i_1)).bind fun (t_10 : Bool) =>
       some (!t_10))).bind fun (c_1 : Bool) =>
     bif c_1 then
      Option.map Sum.inr (Option.map Sum.inr (
       some ([], 8)))
     else
      some (.inl (wi64 (i_1 + 1))))
   else
    some (.inr (.inl ()))) 0).bind fun j => match j with
  | .inl _ => (
   some (l.map secW, 0))
  | .inr r => some r) = some (if smallS l then l.map secW else [], if smallS l then (0 : Int) else 8) := by
 rw [ends_okW hc hl hN h6, Option.bind_some]
 refine Option.bind_eq_some_iff.2 ⟨(if smallS l then .inl () else .inr ([], 8)), ?_, by cases smallS l <;> rfl⟩
 refine loopM_list_eq (X := Sec) (l := l) (fun l' s => ∃ pre, l = pre ++ l' ∧ s = (pre.length : Int) ∧ smallS l = smallS l') ?_ ?_ ⟨[], rfl, rfl, rfl⟩
 ·rintro x l' s ⟨pre, e1, rfl, e2⟩
  have hL : l.length = pre.length + (l'.length + 1) := by rw [e1, List.length_append, List.length_cons]
  have hx := hl x (by rw [e1]; simp)
  have g1 : ∀ d, lget d (l.map secW) (pre.length : Int) = secW x := fun d => by rw [e1]; exact lget_map
  have g2 : ∀ d, lget d (l.map fun x => ratioW x.v) (pre.length : Int) = ratioW x.v := fun d => by rw [e1]; exact lget_map (f := fun x : Sec => ratioW x.v)
  rw [List.length_map, List.length_map, dec_true (show (pre.length : Int) < (l.length : Int) by omega), cond_true, chk_true (and_true' (dec_true (by omega)) rfl), g1, g2]
  rw [show (secW x).1 = ratioW (x.v - x.u) from rfl]
  unfold r9_isSmall
  rw [RatioFrac_ok hx.l (by omega), Option.bind_some, Option.bind_some, RatioFrac_ok hx.v (by omega), Option.bind_some, Option.bind_some, fracQ_small, fracQ_small, chk_true (and_true' (dec_true (by omega)) rfl)]
  have e3 : smallS (x :: l') = (smallQ (x.v - x.u) && smallQ x.v && smallS l') := by unfold smallS; rw [List.all_cons]
  rw [e3] at e2
  rw [e2]
  cases smallQ (x.v - x.u) with
  | false => right; rfl
  | true =>
   cases smallQ x.v with
   | false => right; rfl
   | true =>
    left
    simp only [Bool.and_self, Bool.true_and]
    exact ⟨_, rfl, pre ++ [x], by rw [e1]; simp, by rw [List.length_append, List.length_singleton, wi64_id (by omega) (by omega)]; rfl, trivial⟩
 ·rintro s ⟨pre, e1, rfl, e2⟩
  have hL : l.length = pre.length := by rw [e1, List.append_nil]
  rw [List.length_map, dec_false (show ¬ (pre.length : Int) < (l.length : Int) by omega), cond_false, e2]
  rfl
end Go.Lift
namespace Go.Lift
open Go
def StepRel (l : List Sec) (x : Dapi_TraceStep) (out : List Sec) : Prop :=
 (x.1 = 0 ∧ out = rolledS 0 l x.2.1 ∧ l.length = x.2.1.length ∧ ∀ n, n ∈ x.2.1 → 1 ≤ n ∧ n ≤ 1000) ∨
 (x.1 = 1 ∧ out = cutS (x.2.2.1 : Rat) (x.2.2.2 : Rat) l ∧ 0 ≤ x.2.2.1 ∧ x.2.2.1 < x.2.2.2 ∧ x.2.2.2 ≤ 1000000 ∧ (x.2.2.2 : Rat) ≤ lastV 0 l ∧ x.2.1 = [])
theorem areas_loop {m : List Int} (hm : m.length ≤ 1000) :
  (loopM (S := Int) (R := (Unit) ⊕ (((List Dr9_Section)) ⊕ ((List Dr9_Section) × Int))) (fun i =>
     bif decide (i < (List.length m : Int)) then
      chk (decide ((0 : Int) ≤ i) && decide (i < (List.length m : Int))) (
       (b0_Within (lget 0 m i) 1 1000).bind fun (t : Bool) =>
       bif !t then
        Option.map Sum.inr (Option.map Sum.inr (
         Option.map Sum.inr (
          some ([], 2))))
       else
        some (.inl (wi64 (i + 1))))
     else
      some (.inr (.inl ()))) 0) = some (if m.any (fun n => !decide (1 ≤ n ∧ n ≤ 1000)) then .inr (.inr ([], 2)) else .inl ()) := by
 refine loopM_list_eq (X := Int) (l := m) (fun l' s => ∃ pre, m = pre ++ l' ∧ s = (pre.length : Int) ∧ m.any (fun n => !decide (1 ≤ n ∧ n ≤ 1000)) = l'.any (fun n => !decide (1 ≤ n ∧ n ≤ 1000))) ?_ ?_ ⟨[], rfl, rfl, rfl⟩
 ·rintro x l' s ⟨pre, e1, rfl, e2⟩
  have hL : m.length = pre.length + (l'.length + 1) := by rw [e1, List.length_append, List.length_cons]
  have g1 : ∀ d, lget d m (pre.length : Int) = x := fun d => by rw [e1]; exact lget_mid
  rw [dec_true (show (pre.length : Int) < (m.length : Int) by omega), cond_true, chk_true (and_true' (dec_true (by omega)) rfl), g1, Within_ok, Option.bind_some]
  rw [List.any_cons] at e2
  by_cases h : 1 ≤ x ∧ x ≤ 1000
  ·left
   rw [dec_true h, Bool.not_true, Bool.false_or] at e2
   rw [dec_true h, Bool.not_true, cond_false, wi64_id (by omega) (by omega)]
   exact ⟨_, rfl, pre ++ [x], by rw [e1]; simp, by rw [List.length_append, List.length_singleton]; rfl, e2⟩
  ·right
   rw [dec_false h, Bool.not_false, Bool.true_or] at e2
   rw [dec_false h, Bool.not_false, cond_true, e2]
   rfl
 ·rintro s ⟨pre, e1, rfl, e2⟩
  have hL : m.length = pre.length := by rw [e1, List.append_nil]
  rw [dec_false (show ¬ (pre.length : Int) < (m.length : Int) by omega), cond_false, e2]
  rfl
theorem any_iff {m : List Int} : m.any (fun n => !decide (1 ≤ n ∧ n ≤ 1000)) = false ↔ ∀ n, n ∈ m → 1 ≤ n ∧ n ≤ 1000 := by
 rw [List.any_eq_false]
 constructor
 ·intro h n hn
  have := h n hn
  simpa using this
 ·intro h n hn
  simpa using h n hn
theorem smallS_all {l : List Sec} (h : smallS l = true) : ∀ x, x ∈ l → smallQ (x.v - x.u) = true ∧ smallQ x.v = true := by
 intro x hx
 unfold smallS at h
 rw [List.all_eq_true] at h
 have := h x hx
 rwa [Bool.and_eq_true] at this
theorem small_zero : smallQ 0 = true := by decide
theorem stripOk_of {S : Nat} {l : List Sec} {p : Rat} (hne : l ≠ []) (h6 : l.length ≤ 6) (hc : Secs p 0 l) (hf : ∀ x, x ∈ l → Fit S x.a ∧ Fit S x.b) (hs : smallS l = true) : StripOk S l := by
 have hv := smallS_all hs
 exact ⟨hne, h6, ⟨p, hc⟩, fun x hx => ⟨(hf x hx).1, (hf x hx).2, small_u hc small_zero (fun y hy => (hv y hy).2) x hx, (hv x hx).2, (hv x hx).1⟩⟩
theorem step_end {S N : Nat} {out : List Sec} {p : Rat} (h6 : out.length ≤ 6) (hne : out ≠ []) (hc : Secs p 0 out) (hS : ∀ x, x ∈ out → Fit S x.a ∧ Fit S x.b) (h1 : ∀ x, x ∈ out → Fit N x.u ∧ Fit N x.v) (hN : N ≤ 1000) :
  ((trace_strip_isSmall (out.map secQ)).bind fun (t_15 : Bool) =>
  (trace_unless t_15 8).bind fun (t_16 : Int) =>
  some (out.map secQ, t_16)) = some (out.map secQ, if smallS out then 0 else 8) ∧ (smallS out = true → StripOk S out) := by
 rw [tsmall_ok h1 hN (by omega), Option.bind_some, unless_ok, Option.bind_some]
 exact ⟨rfl, fun h => stripOk_of hne h6 hc hS h⟩
theorem pass_ok {l : List Sec} {S : Nat} {x : Dapi_TraceStep} (h : StripOk S l) (hS : S ≤ 500) (h8 : x.2.1.length ≤ 1000) (hk : x.1 = 0) :
  ∃ e out, trace_strip_step (l.map secQ) x = some (out.map secQ, e) ∧ r9_stepErr (l.map secW) x = some (if e = 0 then out.map secW else [], e) ∧ (e = 0 → StripOk (S + 5) out ∧ StepRel l x out) := by
 have hl6 := h.len
 have heach := h.each
 obtain ⟨p, hp⟩ := h.secs
 unfold trace_strip_step r9_stepErr
 rw [hk, show ((0 : Int) == 0) = true from rfl, cond_true, cond_true]
 rw [contains_ok step1_ok (by omega), Option.bind_some, unless_ok, Option.bind_some, unless_ok, Option.bind_some, unless_ok, Option.bind_some, first_ok (by simp), Option.bind_some, List.length_map, List.length_map]
 rw [areas_loop (by omega)]
 by_cases c1 : x.2.2.1 = 0 ∧ x.2.2.2 = 0
 ·rw [c1.1, c1.2, show (((0 : Int) == 0) && ((0 : Int) == 0)) = true from rfl, if_pos rfl, show (((0 : Int) != 0) || ((0 : Int) != 0)) = false from rfl, cond_false]
  by_cases c2 : x.2.1.length = l.length
  ·rw [show ((x.2.1.length : Int) == (l.length : Int)) = true by rw [c2]; exact beq_self_eq_true _, if_pos rfl, show ((x.2.1.length : Int) != (l.length : Int)) = false by rw [c2]; simp, cond_false]
   by_cases c3 : x.2.1.any (fun n => !decide (1 ≤ n ∧ n ≤ 1000)) = false
   ·have hm := any_iff.1 c3
    rw [c3, Bool.not_false, if_pos rfl, show firstE [0, 0, 0] = 0 from rfl, show ((0 : Int) != 0) = false from rfl, cond_false]
    rw [if_neg (by decide), Option.bind_some]
    rw [trolled_ok (fun y hy => ⟨(heach y hy).1, (heach y hy).2.2.2.1, (heach y hy).2.2.2.2.1⟩) hm c2.symm (by omega), Option.bind_some, Option.bind_some]
    rw [rpass_ok (fun y hy => ⟨(heach y hy).1, (heach y hy).2.2.2.2.2.l⟩) hm c2.symm (by omega), Option.bind_some]
    simp only
    rw [Option.bind_some]
    have hc : Secs p 0 (rolledS 0 l x.2.1) := rolled_ok hp c2.symm hm
    have hlen := rolled_len (t := 0) c2.symm
    have hne : rolledS 0 l x.2.1 ≠ [] := by
     intro e
     rw [e] at hlen
     exact h.ne (List.length_eq_zero_iff.1 hlen.symm)
    have hsl : ∀ y, y ∈ rolledS 0 l x.2.1 → Fit (S + 5) y.a ∧ Fit (S + 5) y.b := by
     intro y hy
     obtain ⟨z, z1, z2, z3⟩ := rolled_slab hy
     have := heach z z1
     rw [← z2, ← z3]
     exact ⟨this.2.1.mono (by omega), this.2.2.1.mono (by omega)⟩
    have hfit := rolled_fit (N := 1) (t := 0) (fun y hy => ⟨(heach y hy).1, (heach y hy).2.2.2.1, (heach y hy).2.2.2.2.1⟩) hm fit_zero (by omega)
    have hfitT := rolled_fitT (N := 5) (t := 0) (fun y hy => ⟨(heach y hy).1, (heach y hy).2.2.2.2.2.l⟩) hm (fitT_zero.mono (by decide)) (by omega) (by omega)
    obtain ⟨s1, s2⟩ := step_end (by omega) hne hc hsl hfit (by omega)
    refine ⟨(if smallS (rolledS 0 l x.2.1) then 0 else 8), rolledS 0 l x.2.1, s1, ?_, ?_⟩
    ·refine (smallW_ok hc hfitT (by omega) (by omega)).trans ?_
     cases smallS (rolledS 0 l x.2.1) <;> rfl
    ·intro he
     have hsm : smallS (rolledS 0 l x.2.1) = true := by
      revert he
      cases smallS (rolledS 0 l x.2.1) <;> simp
     exact ⟨s2 hsm, Or.inl ⟨hk, rfl, c2.symm, hm⟩⟩
   ·rw [Bool.not_eq_false] at c3
    rw [c3]
    exact ⟨2, [], rfl, rfl, fun e => by cases e⟩
  ·rw [show ((x.2.1.length : Int) == (l.length : Int)) = false by rw [beq_eq_false_iff_ne]; omega, show ((x.2.1.length : Int) != (l.length : Int)) = true by rw [bne_iff_ne]; omega]
   exact ⟨10, [], rfl, rfl, fun e => by cases e⟩
 ·rw [show ((x.2.2.1 == 0) && (x.2.2.2 == 0)) = false by
   rw [Bool.eq_false_iff, ne_eq, Bool.and_eq_true, beq_iff_eq, beq_iff_eq]; exact c1, show ((x.2.2.1 != 0) || (x.2.2.2 != 0)) = true by
   rw [Bool.or_eq_true, bne_iff_ne, bne_iff_ne]; omega]
  exact ⟨3, [], rfl, rfl, fun e => by cases e⟩
theorem cutstep_ok {l : List Sec} {S : Nat} {x : Dapi_TraceStep} (h : StripOk S l) (hS : S ≤ 500) (hTo : x.2.2.2 < 9223372036854775808) (h8 : x.2.1.length ≤ 1000) (hk : x.1 = 1) :
  ∃ e out, trace_strip_step (l.map secQ) x = some (out.map secQ, e) ∧ r9_stepErr (l.map secW) x = some (if e = 0 then out.map secW else [], e) ∧ (e = 0 → StripOk (S + 5) out ∧ StepRel l x out) := by
 have hl6 := h.len
 have heach := h.each
 obtain ⟨p, hp⟩ := h.secs
 unfold trace_strip_step r9_stepErr
 rw [hk, show ((1 : Int) == 0) = false from rfl, cond_false, cond_false, show ((1 : Int) == 1) = true from rfl, cond_true, cond_true]
 have hp2 : (bif decide (0 ≤ x.2.2.1 ∧ x.2.2.1 ≤ 1000000) then (trace_isPosition x.2.2.2).bind fun (t_8 : Bool) => some t_8 else some false) = some (decide ((0 ≤ x.2.2.1 ∧ x.2.2.1 ≤ 1000000) ∧ (0 ≤ x.2.2.2 ∧ x.2.2.2 ≤ 1000000))) := by
  rw [isPosition_ok, Option.bind_some]
  by_cases c : 0 ≤ x.2.2.1 ∧ x.2.2.1 ≤ 1000000
  ·rw [dec_true c, cond_true]
   congr 1
   exact decide_eq_decide.2 ⟨fun e => ⟨c, e⟩, fun e => e.2⟩
  ·rw [dec_false c, cond_false, dec_false (fun e => c e.1)]
 have hmax : imax 0 x.2.2.2 = if 0 ≤ x.2.2.2 then x.2.2.2 else 0 := by
  unfold imax
  split <;> split <;> omega
 rw [unless_ok, Option.bind_some, isPosition_ok, Option.bind_some, hp2, Option.bind_some, unless_ok, Option.bind_some, unless_ok, Option.bind_some]
 rw [has_ok h.ne (by omega) (fit_small h.last).1 (by omega) (by rw [hmax]; split <;> omega) (by rw [hmax]; split <;> omega), Option.bind_some, unless_ok, Option.bind_some, first_ok (by simp), Option.bind_some]
 by_cases c1 : x.2.1.length = 0
 ·rw [show ((x.2.1.length : Int) == 0) = true by rw [c1]; rfl, show ((x.2.1.length : Int) != 0) = false by rw [c1]; rfl, cond_false, if_pos rfl, Within_ok, Option.bind_some, Within_ok, Option.bind_some]
  by_cases c2 : (0 ≤ x.2.2.1 ∧ x.2.2.1 ≤ 1000000) ∧ (0 ≤ x.2.2.2 ∧ x.2.2.2 ≤ 1000000)
  ·rw [dec_true c2, if_pos rfl, dec_true c2.1, dec_true c2.2, Bool.not_true, cond_false, Option.bind_some, cond_false]
   by_cases c3 : x.2.2.1 < x.2.2.2
   ·rw [dec_true c3, if_pos rfl, dec_false (show ¬ x.2.2.1 ≥ x.2.2.2 by omega), cond_false, RatioInt_ok (by omega) (by omega), Option.bind_some]
    rw [length_okW hp (fun y hy => (heach y hy).2.2.2.2.2) (by decide) (by omega), Option.bind_some, RatioCmp_ok (fitT_int (by omega) (by omega)) (fit_small h.last).2 (by decide), Option.bind_some]
    rw [hmax, if_pos c2.2.1]
    by_cases c4 : (x.2.2.2 : Rat) ≤ lastV 0 l
    ·rw [dec_true ⟨c2.2.1, c4⟩, if_pos rfl, show firstE [0, 0, 0, 0] = 0 from rfl, show ((0 : Int) != 0) = false from rfl, cond_false, dec_false (mt cmp_gt.1 (show ¬ lastV 0 l < (x.2.2.2 : Rat) by grind)), cond_false]
     have hlt : (x.2.2.1 : Rat) < (x.2.2.2 : Rat) := by rw [Rat.intCast_lt_intCast]; exact c3
     have hlo : (0 : Rat) ≤ (x.2.2.1 : Rat) := by rw [← Rat.intCast_zero, Rat.intCast_le_intCast]; exact c2.1.1
     rw [tcut_ok (fun y hy => ⟨(heach y hy).1, (heach y hy).2.1, (heach y hy).2.2.2.1, (heach y hy).2.2.2.2.1⟩) (by omega) (by omega) c2.1.1 c2.1.2 c2.2.1 c2.2.2, Option.bind_some, Option.bind_some]
     rw [rcut_ok hp (fun y hy => (heach y hy).2.2.2.2.2) (by omega) c2.1.1 c2.1.2 c2.2.1 c2.2.2, Option.bind_some, Option.bind_some]
     obtain ⟨p', hc⟩ := chain_cut hp hlt hlo
     have hne := cut_ne hp hlt hlo c4
     have hlen := cut_len (l := l) (lo := (x.2.2.1 : Rat)) (hi := (x.2.2.2 : Rat))
     have hfit := cut_fit (lo := (x.2.2.1 : Rat)) (hi := (x.2.2.2 : Rat)) (fun y hy => ⟨(heach y hy).1, (heach y hy).2.1, (heach y hy).2.2.2.1, (heach y hy).2.2.2.2.1⟩) (show S ≤ 1000 by omega) (fit_whole (by omega) (by omega)) (fit_whole (by omega) (by omega))
     have hfit2 : ∀ y, y ∈ cutS (x.2.2.1 : Rat) (x.2.2.2 : Rat) l → Fit (S + 5) y.a ∧ Fit (S + 5) y.b := by
      intro y hy
      have hsz := hfit y hy
      exact ⟨hsz.1, hsz.2.1⟩
     have hfitT := cut_fitT (lo := (x.2.2.1 : Rat)) (hi := (x.2.2.2 : Rat)) (fun y hy => (heach y hy).2.2.2.2.2) (fitT_int (by omega) (by omega)) (fitT_int (by omega) (by omega))
     obtain ⟨s1, s2⟩ := step_end (N := 3) (by omega) hne hc hfit2 (fun y hy => (hfit y hy).2.2) (by omega)
     refine ⟨(if smallS (cutS (x.2.2.1 : Rat) (x.2.2.2 : Rat) l) then 0 else 8), cutS (x.2.2.1 : Rat) (x.2.2.2 : Rat) l, s1, ?_, ?_⟩
     ·refine (smallW_ok hc hfitT (by omega) (by omega)).trans ?_
      cases smallS (cutS (x.2.2.1 : Rat) (x.2.2.2 : Rat) l) <;> rfl
     ·intro he
      have hsm : smallS (cutS (x.2.2.1 : Rat) (x.2.2.2 : Rat) l) = true := by
       revert he
       cases smallS (cutS (x.2.2.1 : Rat) (x.2.2.2 : Rat) l) <;> simp
      exact ⟨s2 hsm, Or.inr ⟨hk, rfl, c2.1.1, c3, c2.2.2, c4, List.length_eq_zero_iff.1 c1⟩⟩
    ·rw [dec_false (fun e => c4 e.2), dec_true (cmp_gt.2 (show lastV 0 l < (x.2.2.2 : Rat) by grind))]
     exact ⟨6, [], rfl, rfl, fun e => by cases e⟩
   ·rw [dec_false c3, dec_true (show x.2.2.1 ≥ x.2.2.2 by omega)]
    exact ⟨9, [], rfl, rfl, fun e => by cases e⟩
  ·rw [dec_false c2]
   have : (bif !decide (0 ≤ x.2.2.1 ∧ x.2.2.1 ≤ 1000000) then some true else some (!decide (0 ≤ x.2.2.2 ∧ x.2.2.2 ≤ 1000000))) = some true := by
    by_cases c : 0 ≤ x.2.2.1 ∧ x.2.2.1 ≤ 1000000
    ·rw [dec_true c, dec_false (fun e => c2 ⟨c, e⟩)]; rfl
    ·rw [dec_false c]; rfl
   rw [this]
   exact ⟨2, [], rfl, rfl, fun e => by cases e⟩
 ·rw [show ((x.2.1.length : Int) == 0) = false by rw [beq_eq_false_iff_ne]; omega, show ((x.2.1.length : Int) != 0) = true by rw [bne_iff_ne]; omega]
  exact ⟨3, [], rfl, rfl, fun e => by cases e⟩
theorem step_ok {l : List Sec} {S : Nat} {x : Dapi_TraceStep} (h : StripOk S l) (hS : S ≤ 500) (hTo : x.2.2.2 < 9223372036854775808) (h8 : x.2.1.length ≤ 1000) :
  ∃ e out, trace_strip_step (l.map secQ) x = some (out.map secQ, e) ∧ r9_stepErr (l.map secW) x = some (if e = 0 then out.map secW else [], e) ∧ (e = 0 → StripOk (S + 5) out ∧ StepRel l x out) := by
 by_cases h0 : x.1 = 0
 ·exact pass_ok h hS h8 h0
 ·by_cases h1 : x.1 = 1
  ·exact cutstep_ok h hS hTo h8 h1
  ·refine ⟨15, [], ?_, ?_, fun e => by cases e⟩
   ·unfold trace_strip_step
    rw [show (x.1 == 0) = false by rw [beq_eq_false_iff_ne]; exact h0, show (x.1 == 1) = false by rw [beq_eq_false_iff_ne]; exact h1]
    rfl
   ·unfold r9_stepErr
    rw [show (x.1 == 0) = false by rw [beq_eq_false_iff_ne]; exact h0, show (x.1 == 1) = false by rw [beq_eq_false_iff_ne]; exact h1]
    rfl
end Go.Lift
