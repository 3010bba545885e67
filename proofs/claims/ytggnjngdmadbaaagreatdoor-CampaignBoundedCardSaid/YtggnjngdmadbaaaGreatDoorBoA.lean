/-
  No campaign is cheaper than the bound; the law holds of the plain functions.
-/
import Derived.Test.YtggnjngdmadbaaaGreatDoorChB
import Derived.Test.YtggnjngdmadbaaaGreatDoorBoK
set_option linter.unusedSectionVars false
set_option linter.unusedVariables false
set_option linter.unusedSimpArgs false
namespace Go.Lift
open Go
def PS (q : Int → Int → Int) : List Int → Int
 | a :: b :: l => q a b + PS q (b :: l)
 | _ => 0
theorem y5v {q : Int → Int → Int} {P : Int → Prop} (hq : ∀ a b, P a → P b → 0 ≤ q a b ∧ q a b ≤ 4000000000) : ∀ (s : List Int) (a sum : Int), P a → (∀ x ∈ s, P x) → 0 ≤ sum → sum + 4000000000 * s.length ≤ 4000000000000 → y7g q sum a s = sum + PS q (a :: s) ∧ 0 ≤ PS q (a :: s) ∧ PS q (a :: s) ≤ 4000000000 * s.length
  | [], a, sum, ha, hs, h0, h1 => by
    refine ⟨?_, Int.le_refl _, by simp [PS]⟩
    show sum = sum + 0
    omega
  | b :: s, a, sum, ha, hs, h0, h1 => by
    have hb := hs b (List.mem_cons_self ..)
    have h := hq a b ha hb
    rw [List.length_cons] at h1 ⊢
    have ih := y5v hq s b (wi64 (sum + q a b)) hb (fun x hx => hs x (List.mem_cons_of_mem _ hx)) (by rw [z0j (by omega) (by omega)]; omega) (by rw [z0j (by omega) (by omega)]; omega)
    show y7g q (wi64 (sum + q a b)) b s = sum + (q a b + PS q (b :: s)) ∧ 0 ≤ q a b + PS q (b :: s) ∧ q a b + PS q (b :: s) ≤ _
    rw [ih.1, z0j (by omega) (by omega)]
    omega
theorem zsw {r : z02} {l : List z00} {s : List Int} (hr : z5d r = true) (hl : l.all zc6 = true) (hin : ∀ i ∈ s, 0 ≤ i ∧ i < (l.length : Int)) (hs : s.length ≤ 100) : zc8 (z45 r l) s = PS (z45 r l) s ∧ 0 ≤ PS (z45 r l) s ∧ PS (z45 r l) s ≤ 4000000000 * s.length := by
  cases s with
  | nil => exact ⟨rfl, Int.le_refl _, by simp [PS]⟩
  | cons a s =>
    have := y5v (q := z45 r l) (P := fun i => 0 ≤ i ∧ i < (l.length : Int)) (fun a b ha hb => by have := (zso hr hl ha hb).2; omega) s a 0 (hin a (List.mem_cons_self ..)) (fun x hx => hin x (List.mem_cons_of_mem _ hx)) (Int.le_refl _) (by rw [List.length_cons] at hs; omega)
    show y7g _ 0 a s = _ ∧ _
    rw [this.1, List.length_cons]
    exact ⟨by omega, this.2.1, by omega⟩
theorem y2g (q : Int → Int → Int) (a : Int) (t : List Int) : ∀ s : List Int, PS q (s ++ a :: t) = PS q (s ++ [a]) + PS q (a :: t)
  | [] => by
    have : PS q [a] = 0 := rfl
    rw [List.nil_append, List.nil_append, this]; omega
  | [x] => by show q x a + PS q (a :: t) = (q x a + PS q [a]) + PS q (a :: t); rw [show PS q [a] = 0 from rfl]; omega
  | x :: y :: s => by
    have := y2g q a t (y :: s)
    show q x y + PS q ((y :: s) ++ a :: t) = (q x y + PS q ((y :: s) ++ [a])) + PS q (a :: t)
    rw [this]; omega
theorem zy3 {q : Int → Int → Int} {P : Int → Prop} (hq : ∀ a b, P a → P b → q a b = q b a) : ∀ (s : List Int), (∀ x ∈ s, P x) → PS q s.reverse = PS q s
  | [], _ => rfl
  | [x], _ => rfl
  | a :: b :: l, h => by
    have ih := zy3 hq (b :: l) fun x hx => h x (List.mem_cons_of_mem _ hx)
    rw [List.reverse_cons, List.reverse_cons, List.append_assoc]
    rw [List.reverse_cons] at ih
    show PS q (l.reverse ++ b :: [a]) = q a b + PS q (b :: l)
    rw [y2g, ih, hq a b (h a (by simp)) (h b (by simp))]
    show _ + (q b a + 0) = _
    omega
def zh1 : List Int → List (Int × Int)
 | a :: b :: l => (a, b) :: zh1 (b :: l)
 | _ => []
theorem zu2 : ∀ s : List Int, (zh1 s).length = s.length - 1
  | [] => rfl
  | [_] => rfl
  | a :: b :: l => by
    have := zu2 (b :: l)
    show (zh1 (b :: l)).length + 1 = _
    rw [this]; simp
theorem zu1 : ∀ (s : List Int) (f : Int × Int), f ∈ zh1 s → f.1 ∈ s ∧ f.2 ∈ s
  | [], f, h => by cases h
  | [_], f, h => by cases h
  | a :: b :: l, f, h => by
    rcases List.mem_cons.1 h with rfl | h
    · simp
    · obtain ⟨h1, h2⟩ := zu1 (b :: l) f h
      exact ⟨List.mem_cons_of_mem _ h1, List.mem_cons_of_mem _ h2⟩
theorem zwz {T : List (Int × Int)} {S : Int → Prop} : ∀ (s : List Int), (∀ f ∈ zh1 s, f ∈ T) → (∃ u ∈ s, Reach T S u) → ∀ v ∈ s, Reach T S v
  | [], _, _, v, hv => by cases hv
  | [x], _, ⟨u, hu, h⟩, v, hv => by
    rw [List.mem_singleton.1 hv, ← List.mem_singleton.1 hu]; exact h
  | a :: b :: l, hT, ⟨u, hu, h⟩, v, hv => by
    have hab : (a, b) ∈ T := hT _ (List.mem_cons_self ..)
    have hrest : ∀ v ∈ b :: l, Reach T S v := by
      refine zwz (b :: l) (fun f hf => hT f (List.mem_cons_of_mem _ hf)) ?_
      rcases List.mem_cons.1 hu with rfl | hu
      · exact ⟨b, List.mem_cons_self .., .step h (Or.inl hab)⟩
      · exact ⟨u, hu, h⟩
    rcases List.mem_cons.1 hv with rfl | hv
    · exact .step (hrest b (List.mem_cons_self ..)) (Or.inr hab)
    · exact hrest v hv
theorem y4p (q : Int → Int → Int) (P : Int → Int) : ∀ (s : List Int) (a b : Int) (m : List Int), s = a :: m ++ [b] → ((zh1 s).map fun f => q f.1 f.2 - P f.1 - P f.2).sum = PS q s - 2 * (s.map P).sum + P a + P b
  | _, a, b, [], rfl => by
    show (q a b - P a - P b) + 0 = (q a b + 0) - 2 * (P a + (P b + 0)) + P a + P b
    omega
  | _, a, b, c :: m, rfl => by
    have ih := y4p q P (c :: m ++ [b]) c b m rfl
    show (q a c - P a - P c) + ((zh1 (c :: (m ++ [b]))).map fun f => q f.1 f.2 - P f.1 - P f.2).sum = (q a c + PS q (c :: (m ++ [b]))) - 2 * (P a + ((c :: (m ++ [b])).map P).sum) + P a + P b
    rw [show c :: (m ++ [b]) = c :: m ++ [b] from rfl, ih]
    omega
theorem y00 : ∀ (l : List Int) (t : Int × Int), t.2 ≤ t.1 → t.1 + t.2 ≤ (l.foldl topS t).1 + (l.foldl topS t).2
  | [], t, _ => Int.le_refl _
  | x :: l, t, h => by
    have := y00 l (topS t x) (by unfold topS; simp only; omega)
    refine Int.le_trans ?_ this
    unfold topS
    simp only
    omega
theorem ye0 {p rest : List Int} {x y : Int} (h : p.Perm (x :: y :: rest)) (hx : -10000 ≤ x) (hy : -10000 ≤ y) : x + y ≤ (top2 p).1 + (top2 p).2 := by
 have e : top2 p = top2 (x :: y :: rest) := zxf y01 h _
 rw [e]
 have := y00 rest (topS (topS (-10000, -10000) x) y) (by unfold topS; simp only; omega)
 refine Int.le_trans ?_ this
 unfold topS
 simp only
 omega
theorem yew {s : List Int} (h : 2 ≤ s.length) : ∃ a m b, s = a :: m ++ [b] := by
  cases s with
  | nil => simp at h
  | cons a t =>
    have ht : t ≠ [] := fun e => by rw [e] at h; simp at h
    exact ⟨a, t.dropLast, t.getLast ht, by rw [List.cons_append, List.dropLast_concat_getLast]⟩
theorem ybs {l m : List Int} (h : l.Perm m) : l.sum = m.sum := by
 induction h with
 | nil => rfl
 | cons x _ ih => rw [List.sum_cons, List.sum_cons, ih]
 | swap x y l => simp only [List.sum_cons]; omega
 | trans _ _ h1 h2 => rw [h1, h2]
theorem zzg {r : z02} {l : List z00} {p s : List Int} (hr : z5d r = true) (hl : l.all zc6 = true) (hp : zqm p) (hpl : p.length = l.length) (h0 : 0 < l.length) (hs : s.Perm (upto l.length)) : zi3 r l p ≤ PS (z45 r l) s := by
  have hlen := hs.length_eq
  rw [z3b] at hlen
  have hin : ∀ i ∈ s, 0 ≤ i ∧ i < (l.length : Int) := fun i hi => z6k.1 (hs.subset hi)
  unfold zi3
  by_cases h1 : l.length = 1
  · rw [if_pos h1]
    cases s with
    | nil => exact Int.le_refl _
    | cons a t =>
      rw [List.length_cons] at hlen
      rw [show t = [] from List.length_eq_zero_iff.1 (by omega)]
      exact Int.le_refl _
  rw [if_neg h1]
  obtain ⟨a, m, b, e⟩ := yew (s := s) (by omega)
  have hsum : (s.map (lget 0 p)).sum = p.sum := by
    have := ybs (hs.map (lget 0 p))
    rw [← hpl, zp7] at this
    exact this
  have hpath := y4p (z45 r l) (lget 0 p) s a b m e
  rw [hsum] at hpath
  have hab : p.Perm (lget 0 p a :: lget 0 p b :: m.map (lget 0 p)) := by
    have h2 := (hs.map (lget 0 p)).symm
    rw [← hpl, zp7, e] at h2
    refine h2.trans ?_
    rw [List.map_append, List.map_cons, List.cons_append]
    exact List.Perm.cons _ (List.perm_append_comm)
  have hpm : ∀ i ∈ s, -10000 ≤ lget 0 p i ∧ lget 0 p i ≤ 10000 := fun i hi => hp _ (zyv (by rw [hpl]; exact hin i hi))
  have htop := ye0 hab (hpm a (by rw [e]; simp)).1 (hpm b (by rw [e]; simp)).1
  have hz : (0 : Int) ∈ s := hs.symm.subset (z6k.2 (by omega))
  have key := ya2 (red := redQ r l p) (ns := upto l.length) (fun a ha b hb => by
      unfold redQ
      rw [zx2 hr hl (z6k.1 ha) (z6k.1 hb)]
      omega) (fun b hb => (z6k.1 hb).1) (zhh _) (l.length - 1) (zh1 s) ([0], 0) (fun f hf => by
      obtain ⟨h3, h4⟩ := zu1 s f hf
      exact ⟨hs.subset h3, hs.subset h4⟩) (by simp) (by rw [z3b]; simp; omega) (by rw [zu2, hlen]) (fun v hv => zwz s (fun f hf => hf) ⟨0, hz, .base (by simp)⟩ v (hs.symm.subset hv))
  have hG : (y1l (redQ r l p) (upto l.length) (l.length - 1) [] ([0], 0)).2 = zok r l p := rfl
  have hT : ((zh1 s).map fun f => redQ r l p f.1 f.2) = (zh1 s).map fun f => z45 r l f.1 f.2 - lget 0 p f.1 - lget 0 p f.2 := rfl
  rw [hG, hT, hpath] at key
  dsimp only at key
  omega
end Go.Lift
namespace Go.Lift
open Go
def yfg (r w : z02) : Prop := w.1 = r.1 ∧ min r.2.1 2000 ≤ w.2.1 ∧ min r.2.2.1 2000 ≤ w.2.2.1 ∧ min r.2.2.2.1 299999 ≤ w.2.2.2.1 ∧ min r.2.2.2.2.1 98 ≤ w.2.2.2.2.1 ∧ r.2.2.2.2.2.1 ≤ w.2.2.2.2.2.1
theorem zzy (r : z02) (l : List z00) (pre : List Int) (x : Int) : vioG r l pre x = none ↔ ∀ k, k < 5 → outV r l pre x k = false := by
 unfold vioG zoh
 rw [Option.map_eq_none_iff, List.head?_eq_none_iff, List.map_eq_nil_iff, List.filter_eq_nil_iff]
 constructor
 ·intro h k hk
  have := h k (List.mem_range.2 hk)
  simpa using this
 ·intro h k hk
  have := h k (List.mem_range.1 hk)
  simp [this]
theorem y6i {r w : z02} {l : List z00} (hl : l.all zc6 = true) (hr : z5d r = true) (hw : z5d w = true) (h : yfg r w) {pre : List Int} {x : Int} (hin : ∀ i ∈ pre ++ [x], 0 ≤ i ∧ i < (l.length : Int)) (h0 : ∀ k, k < 5 → outV r l pre x k = false) : ∀ k, k < 5 → outV w l pre x k = false := by
 obtain ⟨w1, w2, w3, w4, w5, w6⟩ := h
 have hX := y5j hl (hin x (by simp))
 have hr2 : 0 ≤ r.2.2.1 ∧ r.2.2.1 ≤ 300000 := by
  unfold z5d inB at hr
  simp only [Bool.and_eq_true, decide_eq_true_eq] at hr
  exact hr.1.1.1.1.1.1.2
 have hw2 : 0 ≤ w.2.2.1 ∧ w.2.2.1 ≤ 300000 := by
  unfold z5d inB at hw
  simp only [Bool.and_eq_true, decide_eq_true_eq] at hw
  exact hw.1.1.1.1.1.1.2
 unfold outV at h0 ⊢
 by_cases hp : pre = []
 ·rw [if_pos hp] at h0 ⊢
  intro k hk
  have h1 := h0 0 (by omega)
  have h1' : decide (metF l (pre ++ [x]) > r.2.2.2.2.2.1) = false := h1
  have h2 : decide (metF l (pre ++ [x]) > w.2.2.2.2.2.1) = false := z0v (by have := of_decide_eq_false h1'; omega)
  rw [h2]
  match k, hk with
  | 0, _ => rfl
  | 1, _ => rfl
  | 2, _ => rfl
  | 3, _ => rfl
  | 4, _ => rfl
 ·have hY := y5j hl (hin (z8e pre) (List.mem_append_left _ (zpd hp)))
  rw [if_neg hp] at h0 ⊢
  generalize lget z1e l x = X at *
  generalize lget z1e l (z8e pre) = Y at *
  rw [z0j (x := X.1 - Y.1) (by omega) (by omega), z0j (x := X.2.1 - Y.2.1) (by omega) (by omega), z0j (x := X.2.2.1 - Y.2.2.1) (by omega) (by omega), z0j (x := 0 - r.2.2.1) (by omega) (by omega), zng (by omega), zng (by omega)] at h0
  rw [z0j (x := X.1 - Y.1) (by omega) (by omega), z0j (x := X.2.1 - Y.2.1) (by omega) (by omega), z0j (x := X.2.2.1 - Y.2.2.1) (by omega) (by omega), z0j (x := 0 - w.2.2.1) (by omega) (by omega), zng (by omega), zng (by omega)]
  have a0 : decide (metF l (pre ++ [x]) > r.2.2.2.2.2.1) = false := h0 0 (by omega)
  have a1 : (bif decide ((pre.length : Int) < r.1) then decide (X.1 - Y.1 < 0) else decide (X.1 - Y.1 > 0)) = false := h0 1 (by omega)
  have a2 : (!decide (0 - r.2.2.1 ≤ X.1 - Y.1 ∧ X.1 - Y.1 ≤ r.2.1)) = false := h0 2 (by omega)
  have a3 : decide (((X.2.1 - Y.2.1).natAbs : Int) > r.2.2.2.1) = false := h0 3 (by omega)
  have a4 : decide (((X.2.2.1 - Y.2.2.1).natAbs : Int) > r.2.2.2.2.1) = false := h0 4 (by omega)
  have b0 : decide (metF l (pre ++ [x]) > w.2.2.2.2.2.1) = false := z0v (by have := of_decide_eq_false a0; omega)
  have b2 : (!decide (0 - w.2.2.1 ≤ X.1 - Y.1 ∧ X.1 - Y.1 ≤ w.2.1)) = false := by
   rw [Bool.not_eq_false'] at a2 ⊢
   have := of_decide_eq_true a2
   exact z07 (by omega)
  have b3 : decide (((X.2.1 - Y.2.1).natAbs : Int) > w.2.2.2.1) = false := z0v (by have := of_decide_eq_false a3; omega)
  have b4 : decide (((X.2.2.1 - Y.2.2.1).natAbs : Int) > w.2.2.2.2.1) = false := z0v (by have := of_decide_eq_false a4; omega)
  rw [w1, b0, a1, b2, b3, b4]
  intro k hk
  match k, hk with
  | 0, _ => rfl
  | 1, _ => rfl
  | 2, _ => rfl
  | 3, _ => rfl
  | 4, _ => rfl
theorem y0w {r w : z02} {l : List z00} (hl : l.all zc6 = true) (hr : z5d r = true) (hw : z5d w = true) (h : yfg r w) : ∀ (s pre : List Int), (∀ i ∈ pre ++ s, 0 ≤ i ∧ i < (l.length : Int)) → okP r l pre s = true → okP w l pre s = true
  | [], pre, _, _ => rfl
  | x :: s, pre, hin, ho => by
    have h2 : vioG r l pre x = none ∧ okP r l (pre ++ [x]) s = true := by
      unfold okP at ho ⊢
      simp only [z1h] at ho
      cases hv : vioG r l pre x with
      | none => rw [hv] at ho; exact ⟨rfl, ho⟩
      | some q => rw [hv] at ho; cases ho
    have h3 : vioG w l pre x = none := (zzy ..).2 (y6i hl hr hw h (fun i hi => hin i (by
      rcases List.mem_append.1 hi with h | h
      · simp [h]
      · rw [List.mem_singleton.1 h]; simp)) ((zzy ..).1 h2.1))
    have := y0w hl hr hw h s (pre ++ [x]) (by simpa using hin) h2.2
    unfold okP at this ⊢
    simp only [z1h, h3]
    exact this
theorem yc9 {s : List Int} (hs : s.length ≤ 1000) {F : List Int × Int → Option ((List Int × Int) ⊕ List Int)} (hF : ∀ st : List Int × Int, F st = bif decide (st.2 ≥ 0) then
          chk (decide ((0 : Int) ≤ st.2) && decide (st.2 < (List.length s : Int))) (
            (app st.1 [lget 0 s st.2]).bind fun (t_8 : List Int) =>
            some (.inl (t_8, wi64 (st.2 - 1))))
        else
          some (.inr st.1)) : z2d F ([], (s.length : Int) - 1) = some s.reverse := by
  refine z58 (X := Int) (l := s.reverse) (fun l' st => ∃ pre, s.reverse = pre ++ l' ∧ st = (pre, (s.length : Int) - 1 - pre.length)) ?_ ?_ ⟨[], rfl, by simp⟩
  · rintro x l' st ⟨pre, e, rfl⟩
    have hL : s.length = pre.length + (l'.length + 1) := by rw [← List.length_reverse, e, List.length_append, List.length_cons]
    have hx : lget 0 s ((s.length : Int) - 1 - pre.length) = x := by
      have h1 : s = l'.reverse ++ x :: pre.reverse := by
        have := congrArg List.reverse e
        rw [List.reverse_reverse] at this
        rw [this]; simp
      have := z59 (d := 0) h1
      rw [List.length_reverse] at this
      rw [show (s.length : Int) - 1 - pre.length = (l'.length : Int) by omega]
      exact this
    left
    rw [hF]
    simp only
    rw [z07 (by omega), cond_true, z18 (by rw [z07 (by omega)]; rfl), hx, zlc (by simp; omega), Option.bind_some, z0j (by omega) (by omega)]
    refine ⟨_, rfl, pre ++ [x], by rw [e]; simp, ?_⟩
    rw [List.length_append, List.length_singleton]
    congr 1
    omega
  · rintro st ⟨pre, e, rfl⟩
    rw [List.append_nil] at e
    have hL : s.length = pre.length := by rw [← List.length_reverse, e]
    rw [hF]
    simp only
    rw [z0v (by omega), cond_false, e]
theorem y0m {r w : z02} (h : w.2.2.2.2.2.2 = r.2.2.2.2.2.2) (l : List z00) : z45 w l = z45 r l := by
 unfold z45 y99
 rw [h]
theorem zqe (hw : z7b = some true) {r : z02} {l : List z00} {x : y4d} (hx : x.1.length ≤ 9223372036854775807) :
    z66 r l x = some true := by
  unfold z66
  rw [hw, Option.bind_some, Bool.not_true, cond_false]
  by_cases h6 : (l.length : Int) > 6
  · rw [z07 h6]; rfl
  rw [z0v h6, cond_false, zmh (by omega), Option.bind_some, Option.bind_some]
  by_cases h0 : z4j r l = 0
  rotate_left
  · rw [show (z4j r l != 0) = true by rw [bne_iff_ne]; exact h0]; rfl
  rw [show (z4j r l != 0) = false by rw [h0]; rfl, cond_false, zlj (by omega) hx, Option.bind_some, Option.bind_some]
  by_cases h1 : seqE l.length x.1 = 0
  rotate_left
  · rw [show (seqE l.length x.1 != 0) = true by rw [bne_iff_ne]; exact h1]; rfl
  rw [show (seqE l.length x.1 != 0) = false by rw [h1]; rfl, Bool.false_or]
  by_cases hxl : x.1.length = l.length
  rotate_left
  · rw [show ((x.1.length : Int) != (l.length : Int)) = true by rw [bne_iff_ne]; omega]; rfl
  rw [show ((x.1.length : Int) != (l.length : Int)) = false by rw [hxl]; simp, cond_false, zs4 (by omega), Option.bind_some, Option.bind_some]
  by_cases h2 : z3p l.length x.2 = 0
  rotate_left
  · rw [show (z3p l.length x.2 != 0) = true by rw [bne_iff_ne]; exact h2]; rfl
  rw [show (z3p l.length x.2 != 0) = false by rw [h2]; rfl, cond_false]
  obtain ⟨hpl, hp⟩ := zu0 h2
  obtain ⟨hl0, hl7⟩ := z8n h0
  obtain ⟨hr, hi⟩ := zhm h0
  obtain ⟨s, p⟩ := x
  dsimp only at *
  have hperm := ybh h1 hxl
  have hin := znj h1
  have hrev : s.reverse.Perm (upto l.length) := (List.reverse_perm s).trans hperm
  have cs := zsw hr hi hin (by omega)
  have crev := zsw hr hi (s := s.reverse) (fun i hi => hin i (List.mem_reverse.1 hi)) (by rw [List.length_reverse]; omega)
  have hrv : zc8 (z45 r l) s.reverse = zc8 (z45 r l) s := by
    rw [cs.1, crev.1]
    exact zy3 (P := fun i => 0 ≤ i ∧ i < (l.length : Int)) (fun a b ha hb => zx2 hr hi ha hb) s hin
  have hb := zzg hr hi hp hpl hl0 hperm
  rw [← cs.1] at hb
  rw [zaz (by omega), Option.bind_some, z7e (by omega), Option.bind_some, zy7 (by omega) (by omega), if_pos h0, if_pos h2, Option.bind_some]
  simp only [zaz (show l.length ≤ 4294967296 by omega), z7e (show s.length ≤ 4294967296 by omega), Option.bind_some]
  rw [zw0 h0 (by omega) h1, Option.bind_some, z0j (by omega) (by omega)]
  rw [show (l.length : Int) - 1 = (s.length : Int) - 1 by omega, yc9 (s := s) (by omega) (fun st => rfl), Option.bind_some, zw0 h0 (by rw [List.length_reverse]; omega) (zym hrev), Option.bind_some]
  simp only
  rw [hrv, z0v (show ¬ zc8 (z45 r l) s < zi3 r l p by omega), show (zc8 (z45 r l) s != zc8 (z45 r l) s) = false by simp]
  rw [show (((((0 : Int) != 0) || ((0 : Int) != 0)) || ((0 : Int) != 0)) || false || false) = false from rfl, cond_false]
  rw [zmg (by omega), if_pos h0, Option.bind_some, zde h0 (by omega) h1, Option.bind_some]
  cases hc : zi2 r l with
  | none =>
    have := zo9 hc s hperm
    rw [this]
    rfl
  | some c =>
    obtain ⟨c1, c2, c3, c4⟩ := zo8 hc
    have hcl := c1.length_eq
    rw [z3b] at hcl
    have hcs := zym c1
    have cc := zsw hr hi (znj hcs) (by omega)
    have hcb := zzg hr hi hp hpl hl0 c1
    rw [← cc.1, ← c3] at hcb
    simp only
    rw [show ((0 : Int) != 0) = false from rfl, cond_false, zhe (by omega) (by omega), Option.bind_some, hcs]
    have hown : (((bif okP r l [] s then (12 : Int) else 0) == 12) && decide (zc8 (z45 r l) s < c.2)) = false := by
      cases ho : okP r l [] s with
      | false => rfl
      | true =>
        have := c4 s hperm ho
        rw [z0v (by omega)]; rfl
    rw [hown, z0v (show ¬ c.2 < zi3 r l p by omega), show ((c.1.length : Int) != (l.length : Int)) = false by rw [hcl]; simp]
    simp only [z7e (show c.1.length ≤ 4294967296 by omega), Option.bind_some]
    rw [show ((((0 : Int) != 0) || false) || false || false) = false from rfl, cond_false, zw0 h0 (by omega) hcs, Option.bind_some, zde h0 (by omega) hcs, Option.bind_some, c2, ← c3]
    rw [show (c.2 != c.2) = false by simp]
    rw [show ((((bif true then (12 : Int) else 0) != 12) || ((0 : Int) != 0)) || false) = false from rfl, cond_false]
    have hw0 : z5d (r.1, (2500, (2500, (300000, (99, (70000, r.2.2.2.2.2.2)))))) = true := by
      have hr' := hr
      unfold z5d inB at hr' ⊢
      simp only [Bool.and_eq_true, decide_eq_true_eq] at hr' ⊢
      exact ⟨⟨⟨⟨⟨⟨⟨⟨hr'.1.1.1.1.1.1.1.1, by omega⟩, by omega⟩, by omega⟩, by omega⟩, by omega⟩, hr'.1.1.2⟩, hr'.1.2⟩, hr'.2⟩
    have hrM : r.2.2.2.2.2.1 ≤ 70000 := by
      have hr' := hr
      unfold z5d inB at hr'
      simp only [Bool.and_eq_true, decide_eq_true_eq] at hr'
      exact hr'.1.1.1.2.2
    have hwo : z4j (r.1, (2500, (2500, (300000, (99, (70000, r.2.2.2.2.2.2)))))) l = 0 := by
      unfold z4j at h0 ⊢
      rw [hr] at h0
      rw [hw0]
      exact h0
    have hwide : yfg r (r.1, (2500, (2500, (300000, (99, (70000, r.2.2.2.2.2.2)))))) := ⟨rfl, by dsimp only; omega, by dsimp only; omega, by dsimp only; omega, by dsimp only; omega, hrM⟩
    have hq : z45 (r.1, (2500, (2500, (300000, (99, (70000, r.2.2.2.2.2.2)))))) l = z45 r l := y0m rfl l
    have ho := y0w hi hr hw0 hwide c.1 [] (by simpa using znj hcs) c2
    rw [zmg (by omega), if_pos hwo, Option.bind_some]
    cases hd : zi2 (r.1, (2500, (2500, (300000, (99, (70000, r.2.2.2.2.2.2)))))) l with
    | none =>
      have := zo9 hd c.1 c1
      rw [ho] at this
      cases this
    | some d =>
      obtain ⟨d1, d2, d3, d4⟩ := zo8 hd
      rw [hq] at d3 d4
      have hdl := d1.length_eq
      rw [z3b] at hdl
      have h7 := d4 c.1 c1 ho
      have dd := zsw hr hi (znj (zym d1)) (by omega)
      have hdb := zzg hr hi hp hpl hl0 d1
      rw [← dd.1, ← d3] at hdb
      simp only
      rw [z07 (show d.2 ≤ c.2 by omega), z07 (show d.2 ≥ zi3 r l p by omega)]
      rfl
end Go.Lift
