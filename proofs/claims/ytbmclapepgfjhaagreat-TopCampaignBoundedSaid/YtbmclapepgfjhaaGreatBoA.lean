/-
  No campaign is cheaper than the bound; the law holds of the plain functions.
-/
import Derived.Test.YtbmclapepgfjhaaGreatChB
import Derived.Test.YtbmclapepgfjhaaGreatFunF
set_option linter.unusedSectionVars false
set_option linter.unusedVariables false
set_option linter.unusedSimpArgs false
namespace Go.Lift
open Go
def PS (q : Int → Int → Int) : List Int → Int
 | a :: b :: l => q a b + PS q (b :: l)
 | _ => 0
theorem zvl {q : Int → Int → Int} {P : Int → Prop} (hq : ∀ a b, P a → P b → 0 ≤ q a b ∧ q a b ≤ 4000000000) : ∀ (s : List Int) (a sum : Int), P a → (∀ x ∈ s, P x) → 0 ≤ sum → sum + 4000000000 * s.length ≤ 4000000000000 → zx6 q sum a s = sum + PS q (a :: s) ∧ 0 ≤ PS q (a :: s) ∧ PS q (a :: s) ≤ 4000000000 * s.length
 | [], a, sum, ha, hs, h0, h1 => by
  refine ⟨?_, Int.le_refl _, by simp [PS]⟩
  show sum = sum + 0
  omega
 | b :: s, a, sum, ha, hs, h0, h1 => by
  have hb := hs b (List.mem_cons_self ..)
  have h := hq a b ha hb
  rw [List.length_cons] at h1 ⊢
  have ih := zvl hq s b (wi64 (sum + q a b)) hb (fun x hx => hs x (List.mem_cons_of_mem _ hx)) (by rw [z0m (by omega) (by omega)]; omega) (by rw [z0m (by omega) (by omega)]; omega)
  show zx6 q (wi64 (sum + q a b)) b s = sum + (q a b + PS q (b :: s)) ∧ 0 ≤ q a b + PS q (b :: s) ∧ q a b + PS q (b :: s) ≤ _
  rw [ih.1, z0m (by omega) (by omega)]
  omega
theorem zqj {r : z01} {l : List z00} {s : List Int} (hr : z2l r = true) (hl : l.all z9u = true) (hin : ∀ i ∈ s, 0 ≤ i ∧ i < (l.length : Int)) (hs : s.length ≤ 100) : z7p (z3z r l) s = PS (z3z r l) s ∧ 0 ≤ PS (z3z r l) s ∧ PS (z3z r l) s ≤ 4000000000 * s.length := by
 cases s with
 | nil => exact ⟨rfl, Int.le_refl _, by simp [PS]⟩
 | cons a s =>
  have := zvl (q := z3z r l) (P := fun i => 0 ≤ i ∧ i < (l.length : Int)) (fun a b ha hb => by have := (zh1 hr hl ha hb).2; omega) s a 0 (hin a (List.mem_cons_self ..)) (fun x hx => hin x (List.mem_cons_of_mem _ hx)) (Int.le_refl _) (by rw [List.length_cons] at hs; omega)
  show zx6 _ 0 a s = _ ∧ _
  rw [this.1, List.length_cons]
  exact ⟨by omega, this.2.1, by omega⟩
def zdb : List Int → List (Int × Int)
 | a :: b :: l => (a, b) :: zdb (b :: l)
 | _ => []
theorem zml : ∀ s : List Int, (zdb s).length = s.length - 1
 | [] => rfl
 | [_] => rfl
 | a :: b :: l => by
  have := zml (b :: l)
  show (zdb (b :: l)).length + 1 = _
  rw [this]; simp
theorem zmk : ∀ (s : List Int) (f : Int × Int), f ∈ zdb s → f.1 ∈ s ∧ f.2 ∈ s
 | [], f, h => by cases h
 | [_], f, h => by cases h
 | a :: b :: l, f, h => by
  rcases List.mem_cons.1 h with rfl | h
  ·simp
  ·obtain ⟨h1, h2⟩ := zmk (b :: l) f h
   exact ⟨List.mem_cons_of_mem _ h1, List.mem_cons_of_mem _ h2⟩
theorem zos {T : List (Int × Int)} {S : Int → Prop} : ∀ (s : List Int), (∀ f ∈ zdb s, f ∈ T) → (∃ u ∈ s, Reach T S u) → ∀ v ∈ s, Reach T S v
 | [], _, _, v, hv => by cases hv
 | [x], _, ⟨u, hu, h⟩, v, hv => by
  rw [List.mem_singleton.1 hv, ← List.mem_singleton.1 hu]; exact h
 | a :: b :: l, hT, ⟨u, hu, h⟩, v, hv => by
  have hab : (a, b) ∈ T := hT _ (List.mem_cons_self ..)
  have hrest : ∀ v ∈ b :: l, Reach T S v := by
   refine zos (b :: l) (fun f hf => hT f (List.mem_cons_of_mem _ hf)) ?_
   rcases List.mem_cons.1 hu with rfl | hu
   ·exact ⟨b, List.mem_cons_self .., .step h (Or.inl hab)⟩
   ·exact ⟨u, hu, h⟩
  rcases List.mem_cons.1 hv with rfl | hv
  ·exact .step (hrest b (List.mem_cons_self ..)) (Or.inr hab)
  ·exact hrest v hv
theorem zup (q : Int → Int → Int) (P : Int → Int) : ∀ (s : List Int) (a b : Int) (m : List Int), s = a :: m ++ [b] → ((zdb s).map fun f => q f.1 f.2 - P f.1 - P f.2).sum = PS q s - 2 * (s.map P).sum + P a + P b
 | _, a, b, [], rfl => by
  show (q a b - P a - P b) + 0 = (q a b + 0) - 2 * (P a + (P b + 0)) + P a + P b
  omega
 | _, a, b, c :: m, rfl => by
  have ih := zup q P (c :: m ++ [b]) c b m rfl
  show (q a c - P a - P c) + ((zdb (c :: (m ++ [b]))).map fun f => q f.1 f.2 - P f.1 - P f.2).sum = (q a c + PS q (c :: (m ++ [b]))) - 2 * (P a + ((c :: (m ++ [b])).map P).sum) + P a + P b
  rw [show c :: (m ++ [b]) = c :: m ++ [b] from rfl, ih]
  omega
theorem zr2 : ∀ (l : List Int) (t : Int × Int), t.2 ≤ t.1 → t.1 + t.2 ≤ (l.foldl topS t).1 + (l.foldl topS t).2
 | [], t, _ => Int.le_refl _
 | x :: l, t, h => by
  have := zr2 l (topS t x) (by unfold topS; simp only; omega)
  refine Int.le_trans ?_ this
  unfold topS
  simp only
  omega
theorem y2e {p rest : List Int} {x y : Int} (h : p.Perm (x :: y :: rest)) (hx : -10000 ≤ x) (hy : -10000 ≤ y) : x + y ≤ (top2 p).1 + (top2 p).2 := by
 have e : top2 p = top2 (x :: y :: rest) := zp5 zr3 h _
 rw [e]
 have := zr2 rest (topS (topS (-10000, -10000) x) y) (by unfold topS; simp only; omega)
 refine Int.le_trans ?_ this
 unfold topS
 simp only
 omega
theorem y34 {s : List Int} (h : 2 ≤ s.length) : ∃ a m b, s = a :: m ++ [b] := by
 cases s with
 | nil => simp at h
 | cons a t =>
  have ht : t ≠ [] := fun e => by rw [e] at h; simp at h
  exact ⟨a, t.dropLast, t.getLast ht, by rw [List.cons_append, List.dropLast_concat_getLast]⟩
theorem y0l {l m : List Int} (h : l.Perm m) : l.sum = m.sum := by
 induction h with
 | nil => rfl
 | cons x _ ih => rw [List.sum_cons, List.sum_cons, ih]
 | swap x y l => simp only [List.sum_cons]; omega
 | trans _ _ h1 h2 => rw [h1, h2]
theorem y1k {r : z01} {l : List z00} {p s : List Int} (hr : z2l r = true) (hl : l.all z9u = true) (hp : zbu p) (hpl : p.length = l.length) (h0 : 0 < l.length) (hs : s.Perm (upto l.length)) : zc3 r l p ≤ PS (z3z r l) s := by
 have hlen := hs.length_eq
 rw [z3g] at hlen
 have hin : ∀ i ∈ s, 0 ≤ i ∧ i < (l.length : Int) := fun i hi => z4g.1 (hs.subset hi)
 unfold zc3
 by_cases h1 : l.length = 1
 ·rw [if_pos h1]
  cases s with
  | nil => exact Int.le_refl _
  | cons a t =>
   rw [List.length_cons] at hlen
   rw [show t = [] from List.length_eq_zero_iff.1 (by omega)]
   exact Int.le_refl _
 rw [if_neg h1]
 obtain ⟨a, m, b, e⟩ := y34 (s := s) (by omega)
 have hsum : (s.map (lget 0 p)).sum = p.sum := by
  have := y0l (hs.map (lget 0 p))
  rw [← hpl, zs5] at this
  exact this
 have hpath := zup (z3z r l) (lget 0 p) s a b m e
 rw [hsum] at hpath
 have hab : p.Perm (lget 0 p a :: lget 0 p b :: m.map (lget 0 p)) := by
  have h2 := (hs.map (lget 0 p)).symm
  rw [← hpl, zs5, e] at h2
  refine h2.trans ?_
  rw [List.map_append, List.map_cons, List.cons_append]
  exact List.Perm.cons _ (List.perm_append_comm)
 have hpm : ∀ i ∈ s, -10000 ≤ lget 0 p i ∧ lget 0 p i ≤ 10000 := fun i hi => hp _ (zq4 (by rw [hpl]; exact hin i hi))
 have htop := y2e hab (hpm a (by rw [e]; simp)).1 (hpm b (by rw [e]; simp)).1
 have hz : (0 : Int) ∈ s := hs.symm.subset (z4g.2 (by omega))
 have key := zza (red := redQ r l p) (ns := upto l.length) (fun a ha b hb => by
   unfold redQ
   rw [zwd hr hl (z4g.1 ha) (z4g.1 hb)]
   omega) (fun b hb => (z4g.1 hb).1) (zbh _) (l.length - 1) (zdb s) ([0], 0) (fun f hf => by
   obtain ⟨h3, h4⟩ := zmk s f hf
   exact ⟨hs.subset h3, hs.subset h4⟩) (by simp) (by rw [z3g]; simp; omega) (by rw [zml, hlen]) (fun v hv => zos s (fun f hf => hf) ⟨0, hz, .base (by simp)⟩ v (hs.symm.subset hv))
 have hG : (zla (redQ r l p) (upto l.length) (l.length - 1) [] ([0], 0)).2 = zlx r l p := rfl
 have hT : ((zdb s).map fun f => redQ r l p f.1 f.2) = (zdb s).map fun f => z3z r l f.1 f.2 - lget 0 p f.1 - lget 0 p f.2 := rfl
 rw [hG, hT, hpath] at key
 dsimp only at key
 omega
end Go.Lift
namespace Go.Lift
open Go
def y3e (r w : z01) : Prop := w.1 = r.1 ∧ min r.2.1 2000 ≤ w.2.1 ∧ min r.2.2.1 2000 ≤ w.2.2.1 ∧ min r.2.2.2.1 299999 ≤ w.2.2.2.1 ∧ min r.2.2.2.2.1 98 ≤ w.2.2.2.2.1 ∧ r.2.2.2.2.2.1 ≤ w.2.2.2.2.2.1
theorem zr0 (r : z01) (l : List z00) (pre : List Int) (x : Int) : vioG r l pre x = none ↔ ∀ k, k < 5 → outV r l pre x k = false := by
 unfold vioG zlw
 rw [Option.map_eq_none_iff, List.head?_eq_none_iff, List.map_eq_nil_iff, List.filter_eq_nil_iff]
 constructor
 ·intro h k hk
  have := h k (List.mem_range.2 hk)
  simpa using this
 ·intro h k hk
  have := h k (List.mem_range.1 hk)
  simp [this]
theorem zwe {r w : z01} {l : List z00} (hl : l.all z9u = true) (hr : z2l r = true) (hw : z2l w = true) (h : y3e r w) {pre : List Int} {x : Int} (hin : ∀ i ∈ pre ++ [x], 0 ≤ i ∧ i < (l.length : Int)) (h0 : ∀ k, k < 5 → outV r l pre x k = false) : ∀ k, k < 5 → outV w l pre x k = false := by
 obtain ⟨w1, w2, w3, w4, w5, w6⟩ := h
 have hX := zva hl (hin x (by simp))
 have hr2 : 0 ≤ r.2.2.1 ∧ r.2.2.1 ≤ 300000 := by
  unfold z2l inB at hr
  simp only [Bool.and_eq_true, decide_eq_true_eq] at hr
  exact hr.1.1.1.1.1.1.2
 have hw2 : 0 ≤ w.2.2.1 ∧ w.2.2.1 ≤ 300000 := by
  unfold z2l inB at hw
  simp only [Bool.and_eq_true, decide_eq_true_eq] at hw
  exact hw.1.1.1.1.1.1.2
 unfold outV at h0 ⊢
 by_cases hp : pre = []
 ·rw [if_pos hp] at h0 ⊢
  intro k hk
  have h1 := h0 0 (by omega)
  have h1' : decide (metF l (pre ++ [x]) > r.2.2.2.2.2.1) = false := h1
  have h2 : decide (metF l (pre ++ [x]) > w.2.2.2.2.2.1) = false := z1s (by have := of_decide_eq_false h1'; omega)
  rw [h2]
  match k, hk with
  | 0, _ => rfl
  | 1, _ => rfl
  | 2, _ => rfl
  | 3, _ => rfl
  | 4, _ => rfl
 ·have hY := zva hl (hin (zn0 pre) (List.mem_append_left _ (zmz hp)))
  rw [if_neg hp] at h0 ⊢
  generalize lget z4k l x = X at *
  generalize lget z4k l (zn0 pre) = Y at *
  rw [z0m (x := X.1 - Y.1) (by omega) (by omega), z0m (x := X.2.1 - Y.2.1) (by omega) (by omega), z0m (x := X.2.2.1 - Y.2.2.1) (by omega) (by omega), z0m (x := 0 - r.2.2.1) (by omega) (by omega), zhw (by omega), zhw (by omega)] at h0
  rw [z0m (x := X.1 - Y.1) (by omega) (by omega), z0m (x := X.2.1 - Y.2.1) (by omega) (by omega), z0m (x := X.2.2.1 - Y.2.2.1) (by omega) (by omega), z0m (x := 0 - w.2.2.1) (by omega) (by omega), zhw (by omega), zhw (by omega)]
  have a0 : decide (metF l (pre ++ [x]) > r.2.2.2.2.2.1) = false := h0 0 (by omega)
  have a1 : (bif decide ((pre.length : Int) < r.1) then decide (X.1 - Y.1 < 0) else decide (X.1 - Y.1 > 0)) = false := h0 1 (by omega)
  have a2 : (!decide (0 - r.2.2.1 ≤ X.1 - Y.1 ∧ X.1 - Y.1 ≤ r.2.1)) = false := h0 2 (by omega)
  have a3 : decide (((X.2.1 - Y.2.1).natAbs : Int) > r.2.2.2.1) = false := h0 3 (by omega)
  have a4 : decide (((X.2.2.1 - Y.2.2.1).natAbs : Int) > r.2.2.2.2.1) = false := h0 4 (by omega)
  have b0 : decide (metF l (pre ++ [x]) > w.2.2.2.2.2.1) = false := z1s (by have := of_decide_eq_false a0; omega)
  have b2 : (!decide (0 - w.2.2.1 ≤ X.1 - Y.1 ∧ X.1 - Y.1 ≤ w.2.1)) = false := by
   rw [Bool.not_eq_false'] at a2 ⊢
   have := of_decide_eq_true a2
   exact z0a (by omega)
  have b3 : decide (((X.2.1 - Y.2.1).natAbs : Int) > w.2.2.2.1) = false := z1s (by have := of_decide_eq_false a3; omega)
  have b4 : decide (((X.2.2.1 - Y.2.2.1).natAbs : Int) > w.2.2.2.2.1) = false := z1s (by have := of_decide_eq_false a4; omega)
  rw [w1, b0, a1, b2, b3, b4]
  intro k hk
  match k, hk with
  | 0, _ => rfl
  | 1, _ => rfl
  | 2, _ => rfl
  | 3, _ => rfl
  | 4, _ => rfl
theorem zrt {r w : z01} {l : List z00} (hl : l.all z9u = true) (hr : z2l r = true) (hw : z2l w = true) (h : y3e r w) : ∀ (s pre : List Int), (∀ i ∈ pre ++ s, 0 ≤ i ∧ i < (l.length : Int)) → okP r l pre s = true → okP w l pre s = true
 | [], pre, _, _ => rfl
 | x :: s, pre, hin, ho => by
  have h2 : vioG r l pre x = none ∧ okP r l (pre ++ [x]) s = true := by
   unfold okP at ho ⊢
   simp only [z26] at ho
   cases hv : vioG r l pre x with
   | none => rw [hv] at ho; exact ⟨rfl, ho⟩
   | some q => rw [hv] at ho; cases ho
  have h3 : vioG w l pre x = none := (zr0 ..).2 (zwe hl hr hw h (fun i hi => hin i (by
   rcases List.mem_append.1 hi with h | h
   ·simp [h]
   ·rw [List.mem_singleton.1 h]; simp)) ((zr0 ..).1 h2.1))
  have := zrt hl hr hw h s (pre ++ [x]) (by simpa using hin) h2.2
  unfold okP at this ⊢
  simp only [z26, h3]
  exact this
theorem zrk {r w : z01} (h : w.2.2.2.2.2.2 = r.2.2.2.2.2.2) (l : List z00) : z3z w l = z3z r l := by
 unfold z3z y2n
 rw [h]
end Go.Lift
