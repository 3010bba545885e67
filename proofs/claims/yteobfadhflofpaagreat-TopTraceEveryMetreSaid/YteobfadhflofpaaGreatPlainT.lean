/-
  Charts without knots on straight lines.
-/
import Derived.Test.YteobfadhflofpaaGreatPlainR
set_option linter.unusedSectionVars false
set_option linter.unusedVariables false
set_option linter.unusedSimpArgs false
namespace Go.Lift
open Go
theorem val_at : ∀ {l : List Kn}, Inc l → ∀ {i : Nat}, i + 1 < l.length → ∀ {x : Rat}, (getK l i).1 ≤ x → x ≤ (getK l (i + 1)).1 → valK l x = segK (getK l i) (getK l (i + 1)) x
  | [], _, _, h, _, _, _ => absurd h (by simp)
  | [_], _, _, h, _, _, _ => absurd h (by simp)
  | a :: b :: l, h, 0, _, x, h1, h2 => val_le h2
  | [a, b], h, i + 1, hi, x, h1, h2 => absurd hi (by simp)
  | a :: b :: c :: l, h, i + 1, hi, x, h1, h2 => by
    rw [getK_cons] at h1 h2
    have ih := val_at h.2 (i := i) (by simpa using hi) h1 h2
    rw [getK_cons, getK_cons, ← ih]
    by_cases hb : x ≤ b.1
    · 
      have hi0 : i = 0 := by
        cases i with
        | zero => rfl
        | succ i =>
          exfalso
          have := inc_get h.2 (i := 0) (j := i + 1) (by omega) (by simp at hi ⊢; omega)
          have e : (getK (b :: c :: l) 0) = b := rfl
          rw [e] at this
          have := this.1
          grind
      subst hi0
      have e : x = b.1 := by
        have : b.1 ≤ x := h1
        grind
      rw [e, val_le Rat.le_refl, seg_right h.1, val_first h.2]
    · rw [val_gt (by grind)]
theorem seg_of : ∀ {l : List Kn}, Inc l → ∀ {x : Rat}, 2 ≤ l.length → (getK l 0).1 ≤ x → x < (getK l (l.length - 1)).1 → ∃ i, i + 1 < l.length ∧ (getK l i).1 ≤ x ∧ x < (getK l (i + 1)).1
  | [], _, _, h, _, _ => absurd h (by simp)
  | [_], _, _, h, _, _ => absurd h (by simp)
  | [a, b], h, x, _, h1, h2 => ⟨0, by simp, h1, h2⟩
  | a :: b :: c :: l, h, x, _, h1, h2 => by
    by_cases hb : x < b.1
    · exact ⟨0, by simp, h1, hb⟩
    · obtain ⟨i, h3, h4, h5⟩ := seg_of h.2 (x := x) (by simp) (by show b.1 ≤ x; grind) h2
      exact ⟨i + 1, by simpa using h3, h4, h5⟩
def lineAt (f : Rat → Rat) (p : Rat) : Prop := ∃ e s : Rat, 0 < e ∧ ∀ x, p - e < x → x < p + e → f x = f p + s * (x - p)
def slope (a b : Kn) : Rat := (b.2 - a.2) / (b.1 - a.1)
theorem seg_slope {a b : Kn} {x : Rat} : segK a b x = a.2 + slope a b * (x - a.1) := by
  unfold segK slope
  rw [Rat.div_def, Rat.div_def]
  grind
theorem seg_from {a b : Kn} {x p : Rat} : segK a b x = segK a b p + slope a b * (x - p) := by
  rw [seg_slope, seg_slope]
  grind
theorem col_slope {p q r : Kn} (h1 : Up2 p q) (h2 : Up2 q r) : colB p q r = true ↔ slope p q = slope q r := by
  rw [← col_other]
  unfold slope
  rw [Rat.div_def, Rat.div_def]
  obtain ⟨i1, i2⟩ := inv_pos (q := q.1 - p.1) (by have := h1.1; grind)
  obtain ⟨j1, j2⟩ := inv_pos (q := r.1 - q.1) (by have := h2.1; grind)
  constructor <;> intro h <;> grind
theorem line_seg {l : List Kn} (h : Inc l) {i : Nat} (hi : i + 1 < l.length) {p : Rat} (h1 : (getK l i).1 < p) (h2 : p < (getK l (i + 1)).1) : lineAt (valK l) p := by
  by_cases hc : p - (getK l i).1 < (getK l (i + 1)).1 - p
  · refine ⟨p - (getK l i).1, slope (getK l i) (getK l (i + 1)), by grind, fun x h3 h4 => ?_⟩
    rw [val_at h hi (by grind) (by grind), val_at h hi (by grind) (by grind)]
    exact seg_from
  · refine ⟨(getK l (i + 1)).1 - p, slope (getK l i) (getK l (i + 1)), by grind, fun x h3 h4 => ?_⟩
    rw [val_at h hi (by grind) (by grind), val_at h hi (by grind) (by grind)]
    exact seg_from
theorem line_knot {l : List Kn} (h : Inc l) {i : Nat} (hi : i + 2 < l.length) : lineAt (valK l) (getK l (i + 1)).1 ↔ colB (getK l i) (getK l (i + 1)) (getK l (i + 2)) = true := by
  have u1 := inc_get h (i := i) (j := i + 1) (by omega) (by omega)
  have u2 := inc_get h (i := i + 1) (j := i + 2) (by omega) (by omega)
  rw [col_slope u1 u2]
  generalize ha : getK l i = a at *
  generalize hb : getK l (i + 1) = b at *
  generalize hc : getK l (i + 2) = c at *
  obtain ⟨a1, a2⟩ := u1
  obtain ⟨b1, b2⟩ := u2
  have vl : ∀ x, a.1 ≤ x → x ≤ b.1 → valK l x = b.2 + slope a b * (x - b.1) := fun x h1 h2 => by
    rw [val_at h (i := i) (by omega) (by rw [ha]; exact h1) (by rw [hb]; exact h2), ha, hb, seg_from (p := b.1), seg_right ⟨a1, a2⟩]
  have vr : ∀ x, b.1 ≤ x → x ≤ c.1 → valK l x = b.2 + slope b c * (x - b.1) := fun x h1 h2 => by
    rw [val_at h (i := i + 1) (by omega) (by rw [hb]; exact h1) (by rw [hc]; exact h2), hb, hc, seg_slope]
  have vb : valK l b.1 = b.2 := by rw [vr b.1 Rat.le_refl (by grind)]; grind
  constructor
  · rintro ⟨e, s, he, hl⟩
    rw [vb] at hl
    have left : ∃ d, 0 < d ∧ d < e ∧ d ≤ b.1 - a.1 := by
      by_cases hd : e / 2 ≤ b.1 - a.1
      · exact ⟨e / 2, by grind, by grind, hd⟩
      · exact ⟨b.1 - a.1, by grind, by grind, Rat.le_refl⟩
    have right : ∃ d, 0 < d ∧ d < e ∧ d ≤ c.1 - b.1 := by
      by_cases hd : e / 2 ≤ c.1 - b.1
      · exact ⟨e / 2, by grind, by grind, hd⟩
      · exact ⟨c.1 - b.1, by grind, by grind, Rat.le_refl⟩
    obtain ⟨d, d1, d2, d3⟩ := left
    obtain ⟨d', d1', d2', d3'⟩ := right
    have e1 := vl (b.1 - d) (by grind) (by grind)
    rw [hl _ (by grind) (by grind)] at e1
    have e2 := vr (b.1 + d') (by grind) (by grind)
    rw [hl _ (by grind) (by grind)] at e2
    obtain ⟨i1, i2⟩ := inv_pos d1
    obtain ⟨j1, j2⟩ := inv_pos d1'
    have s1 : s = slope a b := by
      have : (s - slope a b) * d = 0 := by grind
      grind
    have s2 : s = slope b c := by
      have : (s - slope b c) * d' = 0 := by grind
      grind
    rw [← s1, ← s2]
  · intro hs
    have hmin : ∃ e, 0 < e ∧ e ≤ b.1 - a.1 ∧ e ≤ c.1 - b.1 := by
      by_cases hd : b.1 - a.1 ≤ c.1 - b.1
      · exact ⟨b.1 - a.1, by grind, Rat.le_refl, hd⟩
      · exact ⟨c.1 - b.1, by grind, by grind, Rat.le_refl⟩
    obtain ⟨e, e0, e1, e2⟩ := hmin
    refine ⟨e, slope a b, e0, fun x h1 h2 => ?_⟩
    rw [vb]
    by_cases hx : x ≤ b.1
    · exact vl x (by grind) hx
    · rw [vr x (by grind) (by grind), hs]
theorem srt_uniq {A : Type} {r : A → A → Prop} (has : ∀ {a b}, r a b → r b a → False) : ∀ {l m : List A}, l.Pairwise r → m.Pairwise r → (∀ x, x ∈ l ↔ x ∈ m) → l = m
  | [], [], _, _, _ => rfl
  | [], b :: m, _, _, h => by have := (h b).2 (by simp); cases this
  | a :: l, [], _, _, h => by have := (h a).1 (by simp); cases this
  | a :: l, b :: m, hl, hm, h => by
    rw [List.pairwise_cons] at hl hm
    have e : a = b := by
      rcases List.mem_cons.1 ((h a).1 (by simp)) with e | e
      · exact e
      rcases List.mem_cons.1 ((h b).2 (by simp)) with e' | e'
      · exact e'.symm
      · exact (has (hm.1 a e) (hl.1 b e')).elim
    subst e
    congr 1
    refine srt_uniq has hl.2 hm.2 fun x => ?_
    constructor
    · intro hx
      rcases List.mem_cons.1 ((h x).1 (List.mem_cons_of_mem _ hx)) with e | e
      · subst e; exact (has (hl.1 x hx) (hl.1 x hx)).elim
      · exact e
    · intro hx
      rcases List.mem_cons.1 ((h x).2 (List.mem_cons_of_mem _ hx)) with e | e
      · subst e; exact (has (hm.1 x hx) (hm.1 x hx)).elim
      · exact e
theorem simple_srt {l : List Kn} (h : Inc l) : (simpleK l).Pairwise Up2 := by
  unfold simpleK preK
  rw [List.pairwise_map]
  refine List.Pairwise.imp_of_mem ?_ (List.Pairwise.filter _ List.pairwise_lt_range)
  intro a b ha hb hab
  have := List.mem_range.1 (List.mem_filter.1 hb).1
  exact inc_get h hab this
theorem mem_simple {l : List Kn} {k : Kn} : k ∈ simpleK l ↔ ∃ i, i < l.length ∧ keepK l i = true ∧ getK l i = k := by
  unfold simpleK preK
  rw [List.mem_map]
  constructor
  · rintro ⟨i, hi, e⟩
    obtain ⟨h1, h2⟩ := List.mem_filter.1 hi
    exact ⟨i, List.mem_range.1 h1, h2, e⟩
  · rintro ⟨i, hi, h2, e⟩
    exact ⟨i, List.mem_filter.2 ⟨List.mem_range.2 hi, h2⟩, e⟩
theorem keep_inner {l : List Kn} {i : Nat} (hi : i + 2 < l.length) : keepK l (i + 1) = !colB (getK l i) (getK l (i + 1)) (getK l (i + 2)) := by
  unfold keepK
  rw [dec_true (show 0 < i + 1 by omega), dec_true (show i + 1 + 1 < l.length by omega)]
  rfl
theorem keep_first {l : List Kn} : keepK l 0 = true := rfl
theorem keep_last {l : List Kn} : keepK l (l.length - 1) = true := by
  unfold keepK
  rw [dec_false (show ¬ l.length - 1 + 1 < l.length by omega), Bool.and_false]
  rfl
theorem line_same {f g : Rat → Rat} {a b p : Rat} (h1 : a < p) (h2 : p < b) (h : ∀ x, a ≤ x → x ≤ b → f x = g x) : lineAt f p → lineAt g p := by
  rintro ⟨e, s, he, hl⟩
  have hm : ∃ d, 0 < d ∧ d ≤ e ∧ d ≤ p - a ∧ d ≤ b - p := by
    by_cases c1 : e ≤ p - a
    · by_cases c2 : e ≤ b - p
      · exact ⟨e, he, Rat.le_refl, c1, c2⟩
      · exact ⟨b - p, by grind, by grind, by grind, Rat.le_refl⟩
    · by_cases c2 : p - a ≤ b - p
      · exact ⟨p - a, by grind, by grind, Rat.le_refl, c2⟩
      · exact ⟨b - p, by grind, by grind, by grind, Rat.le_refl⟩
  obtain ⟨d, d1, d2, d3, d4⟩ := hm
  refine ⟨d, s, d1, fun x x1 x2 => ?_⟩
  rw [← h x (by grind) (by grind), ← h p (by grind) (by grind)]
  exact hl x (by grind) (by grind)
theorem simple_sub {l m : List Kn} (hl : Inc l) (hm : Inc m) (nl : 2 ≤ l.length) (nm : 2 ≤ m.length) (h0 : getK l 0 = getK m 0) (h1 : getK l (l.length - 1) = getK m (m.length - 1))
    (hv : ∀ x, (getK l 0).1 ≤ x → x ≤ (getK l (l.length - 1)).1 → valK l x = valK m x) {k : Kn} (hk : k ∈ simpleK l) : k ∈ simpleK m := by
  obtain ⟨i, hi, hkeep, rfl⟩ := mem_simple.1 hk
  cases i with
  | zero =>
    rw [h0]
    exact mem_simple.2 ⟨0, by omega, keep_first, rfl⟩
  | succ i =>
    by_cases hlast : i + 1 = l.length - 1
    · rw [hlast, h1]
      exact mem_simple.2 ⟨m.length - 1, by omega, keep_last, rfl⟩
    · have hin : i + 2 < l.length := by omega
      rw [keep_inner hin, Bool.not_eq_true'] at hkeep
      have nline : ¬ lineAt (valK l) (getK l (i + 1)).1 := fun e => by
        rw [line_knot hl hin, hkeep] at e; cases e
      have a1 := (inc_get hl (i := 0) (j := i + 1) (by omega) (by omega)).1
      have a2 := (inc_get hl (i := i + 1) (j := l.length - 1) (by omega) (by omega)).1
      have nline' : ¬ lineAt (valK m) (getK l (i + 1)).1 := fun e => nline (line_same a1 a2 (fun x x1 x2 => (hv x x1 x2).symm) e)
      have vk : valK l (getK l (i + 1)).1 = (getK l (i + 1)).2 := Chart.knot ⟨nl, hl⟩ (getK_mem (by omega))
      rw [hv _ (Rat.le_of_lt a1) (Rat.le_of_lt a2)] at vk
      rw [h0] at a1
      rw [h1] at a2
      obtain ⟨j, hj, j1, j2⟩ := seg_of hm (x := (getK l (i + 1)).1) nm (Rat.le_of_lt a1) a2
      have e : (getK m j).1 = (getK l (i + 1)).1 := by
        apply Decidable.byContradiction
        intro hne
        exact nline' (line_seg hm hj (by grind) j2)
      have e2 : getK m j = getK l (i + 1) := by
        have := Chart.knot ⟨nm, hm⟩ (getK_mem (l := m) (i := j) (by omega))
        rw [e, vk] at this
        exact Prod.ext e this.symm
      cases j with
      | zero =>
        rw [e] at a1
        exact absurd a1 Rat.lt_irrefl
      | succ j =>
        refine mem_simple.2 ⟨j + 1, by omega, ?_, e2⟩
        rw [keep_inner (by omega)]
        cases hc : colB (getK m j) (getK m (j + 1)) (getK m (j + 2)) with
        | false => rfl
        | true =>
          rw [← line_knot hm (by omega), e] at hc
          exact absurd hc nline'
theorem simple_uniq {l m : List Kn} (hl : Inc l) (hm : Inc m) (nl : 2 ≤ l.length) (nm : 2 ≤ m.length) (h0 : getK l 0 = getK m 0) (h1 : getK l (l.length - 1) = getK m (m.length - 1))
    (hv : ∀ x, (getK l 0).1 ≤ x → x ≤ (getK l (l.length - 1)).1 → valK l x = valK m x) : simpleK l = simpleK m := by
  refine srt_uniq (r := Up2) (fun {a b} h h' => ?_) (simple_srt hl) (simple_srt hm) fun k => ⟨simple_sub hl hm nl nm h0 h1 hv, simple_sub hm hl nm nl h0.symm h1.symm fun x x1 x2 => ?_⟩
  · have := h.1; have := h'.1; grind
  · exact (hv x (by rw [h0]; exact x1) (by rw [h1]; exact x2)).symm
def simpR : List Kn → List Kn
  | a :: b :: c :: l => if colB a b c then simpR (a :: c :: l) else a :: simpR (b :: c :: l)
  | l => l
termination_by l => l.length
def NoCol (l : List Kn) : Prop := ∀ i, i + 2 < l.length → colB (getK l i) (getK l (i + 1)) (getK l (i + 2)) = false
theorem slope_join {a b c : Kn} (h1 : Up2 a b) (h2 : Up2 b c) (h : slope a b = slope b c) : slope a c = slope a b := by
  unfold slope at *
  rw [Rat.div_def, Rat.div_def] at *
  obtain ⟨i1, i2⟩ := inv_pos (q := b.1 - a.1) (by have := h1.1; grind)
  obtain ⟨j1, j2⟩ := inv_pos (q := c.1 - b.1) (by have := h2.1; grind)
  obtain ⟨k1, k2⟩ := inv_pos (q := c.1 - a.1) (by have := h1.1; have := h2.1; grind)
  grind
theorem seg_same {a b c : Kn} {x : Rat} (h1 : Up2 a b) (h2 : Up2 b c) (h : slope a b = slope b c) : segK a b x = segK a c x ∧ segK b c x = segK a c x := by
  have e := slope_join h1 h2 h
  constructor
  · rw [seg_slope, seg_slope, e]
  · have e2 : segK a c b.1 = b.2 := by
      have := seg_right h1
      rw [seg_slope] at this ⊢
      rw [e]; exact this
    rw [seg_from (a := a) (b := c) (p := b.1), e2, seg_slope, e, h]
theorem val_join {a b c : Kn} {l : List Kn} (h : Inc (a :: b :: c :: l)) (hc : slope a b = slope b c) (x : Rat) : valK (a :: c :: l) x = valK (a :: b :: c :: l) x := by
  obtain ⟨e1, e2⟩ := seg_same (x := x) h.1 h.2.1 hc
  have hbc := h.2.1.1
  by_cases hb : x ≤ b.1
  · rw [val_le hb, val_le (by grind), e1]
  · rw [val_gt (by grind)]
    by_cases hx : x ≤ c.1
    · rw [val_le hx, val_le hx, e2]
    · cases l with
      | nil => rw [val_nil, val_nil, e2]
      | cons d l => rw [val_gt (by grind), val_gt (by grind)]
theorem simpR_ok : ∀ (l : List Kn) {a b : Kn}, Inc (a :: b :: l) → ∃ d r, simpR (a :: b :: l) = a :: d :: r ∧ Inc (a :: d :: r) ∧ slope a d = slope a b ∧ (∀ x, valK (a :: d :: r) x = valK (a :: b :: l) x) ∧ (a :: d :: r).getLast? = (a :: b :: l).getLast? ∧ NoCol (a :: d :: r) ∧ r.length ≤ l.length
  | [], a, b, h => ⟨b, [], (by rw [simpR]; intro _ _ _ _ e; cases e), h, rfl, fun _ => rfl, rfl, fun i hi => absurd hi (by simp), Nat.le_refl _⟩
  | c :: l, a, b, h => by
    rw [simpR]
    by_cases hc : colB a b c = true
    · rw [if_pos hc]
      have hs := (col_slope h.1 h.2.1).1 hc
      have hac : Inc (a :: c :: l) := ⟨⟨by have := h.1.1; have := h.2.1.1; grind, by have := h.1.2; have := h.2.1.2; grind⟩, h.2.2⟩
      obtain ⟨d, r, e1, e2, e3, e4, e5, e6, e7⟩ := simpR_ok l hac
      refine ⟨d, r, e1, e2, by rw [e3, slope_join h.1 h.2.1 hs], fun x => by rw [e4, val_join h hs], by rw [e5]; rfl, e6, by rw [List.length_cons]; omega⟩
    · rw [if_neg hc]
      obtain ⟨d, r, e1, e2, e3, e4, e5, e6, e7⟩ := simpR_ok l h.2
      rw [e1]
      refine ⟨b, d :: r, rfl, ⟨h.1, e2⟩, rfl, fun x => ?_, ?_, ?_, by simpa using e7⟩
      · by_cases hb : x ≤ b.1
        · rw [val_le hb, val_le hb]
        · rw [val_gt (by grind), val_gt (by grind), e4]
      · rw [List.getLast?_cons_cons, e5]; rfl
      · intro i hi
        cases i with
        | zero =>
          show colB a b d = false
          rw [Bool.not_eq_true] at hc
          cases hd : colB a b d with
          | false => rfl
          | true =>
            have := (col_slope h.1 e2.1).1 hd
            rw [e3, ← col_slope h.1 h.2.1, hc] at this
            cases this
        | succ i =>
          rw [getK_cons, getK_cons, getK_cons]
          exact e6 i (by simpa using hi)
theorem simple_nocol {l : List Kn} (h : NoCol l) : simpleK l = l := by
  have hk : ∀ i, i < l.length → keepK l i = true := fun i hi => by
    cases i with
    | zero => exact keep_first
    | succ i =>
      by_cases hin : i + 2 < l.length
      · rw [keep_inner hin, h i hin]; rfl
      · have e : i + 1 = l.length - 1 := by omega
        rw [e]; exact keep_last
  unfold simpleK preK
  rw [List.filter_eq_self.2 (fun i hi => hk i (List.mem_range.1 hi))]
  apply List.ext_getElem
  · simp
  · intro i h1 h2
    simp only [List.getElem_map, List.getElem_range]
    unfold getK
    rw [List.getD_eq_getElem?_getD, List.getElem?_eq_getElem h2]
    rfl
theorem getLast_getK {l : List Kn} (h : 0 < l.length) : l.getLast? = some (getK l (l.length - 1)) := by
  rw [List.getLast?_eq_getElem?]
  unfold getK
  rw [List.getD_eq_getElem?_getD, List.getElem?_eq_getElem (by omega)]
  rfl
theorem simple_ok {l : List Kn} (h : Chart l) : Chart (simpleK l) ∧ (∀ x, valK (simpleK l) x = valK l x) ∧ getK (simpleK l) 0 = getK l 0 ∧ getK (simpleK l) ((simpleK l).length - 1) = getK l (l.length - 1) ∧ simpleK (simpleK l) = simpleK l ∧ (simpleK l).length ≤ l.length := by
  obtain ⟨a, b, r, rfl⟩ := chart_two h
  obtain ⟨d, r', e1, e2, e3, e4, e5, e6, e7⟩ := simpR_ok r h.2
  have hlast : getK (a :: d :: r') ((a :: d :: r').length - 1) = getK (a :: b :: r) ((a :: b :: r).length - 1) := by
    rw [getLast_getK (by simp), getLast_getK (by simp)] at e5
    exact Option.some.inj e5
  have e : simpleK (a :: b :: r) = a :: d :: r' := by
    rw [← simple_nocol e6]
    exact simple_uniq h.2 e2 (by simp) (by simp) rfl hlast.symm fun x _ _ => (e4 x).symm
  rw [e]
  exact ⟨⟨by simp, e2⟩, e4, rfl, hlast, simple_nocol e6, by simpa using e7⟩
end Go.Lift
