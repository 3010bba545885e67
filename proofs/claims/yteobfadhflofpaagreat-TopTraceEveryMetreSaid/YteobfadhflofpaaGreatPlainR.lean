/-
  Charts: values, which knots make one, positions.
-/
import Derived.Test.YteobfadhflofpaaGreatPlainL
import Derived.Test.YteobfadhflofpaaGreatPlainH
set_option linter.unusedSectionVars false
set_option linter.unusedVariables false
set_option linter.unusedSimpArgs false
namespace Go.Lift
open Go
theorem quotient64_ok {n d : Int} (hd : 0 < d) (h1 : -9223372036854775808 ≤ n) (h2 : n < 9223372036854775808) (h3 : d < 9223372036854775808) : trace_quotient n d = some (ratioQ ((n : Rat) / (d : Rat))) ∧ Fit 2 ((n : Rat) / (d : Rat)) := by
  have e : ((n : Rat) / (d : Rat)) = mkRat n d.natAbs := by
    rw [Rat.mkRat_eq_div]
    congr 2
    omega
  rw [e]
  constructor
  · unfold trace_quotient
    rw [tsize_ok (by omega) (by omega), Option.bind_some, naturalOf_ok (by omega), Option.bind_some, tsize_ok (by omega) (by omega), Option.bind_some, naturalOf_ok (by omega), Option.bind_some]
    rw [ratioOf_ok (by omega) (Nat.le_trans (nw64 (by omega)) (by decide)) (Nat.le_trans (nw64 (by omega)) (by decide)), Option.bind_some]
    congr 3
    by_cases h : n < 0
    · rw [dec_true h, if_pos rfl]; omega
    · rw [dec_false h, if_neg (by decide)]; omega
  · exact fit_mk (by omega) (nw64 (by omega)) (nw64 (by omega))
end Go.Lift
namespace Go.Lift
open Go
def segK (a b : Kn) (x : Rat) : Rat := a.2 + (x - a.1) * (b.2 - a.2) / (b.1 - a.1)
def Up2 (a b : Kn) : Prop := a.1 < b.1 ∧ a.2 < b.2
def Inc : List Kn → Prop
  | [] => True
  | [_] => True
  | a :: b :: l => Up2 a b ∧ Inc (b :: l)
def valK : List Kn → Rat → Rat
  | a :: b :: l, x => if l = [] ∨ x ≤ b.1 then segK a b x else valK (b :: l) x
  | _, _ => 0
theorem inv_pos {q : Rat} (h : 0 < q) : 0 < q⁻¹ ∧ q * q⁻¹ = 1 := ⟨Rat.inv_pos.2 h, Rat.mul_inv_cancel _ (by grind)⟩
theorem seg_lt {a b : Kn} (h : Up2 a b) {x y : Rat} (hx : x < y) : segK a b x < segK a b y := by
  unfold segK
  rw [Rat.div_def, Rat.div_def]
  obtain ⟨h1, h2⟩ := h
  obtain ⟨i1, i2⟩ := inv_pos (q := b.1 - a.1) (by grind)
  have h3 := Rat.mul_pos (a := b.2 - a.2) (by grind) i1
  have h4 := Rat.mul_pos (a := y - x) (by grind) h3
  grind
theorem seg_left {a b : Kn} : segK a b a.1 = a.2 := by
  unfold segK
  rw [Rat.div_def]
  grind
theorem seg_right {a b : Kn} (h : Up2 a b) : segK a b b.1 = b.2 := by
  unfold segK
  rw [Rat.div_def]
  obtain ⟨h1, h2⟩ := h
  obtain ⟨i1, i2⟩ := inv_pos (q := b.1 - a.1) (by grind)
  grind
theorem inc_tail {a : Kn} {l : List Kn} (h : Inc (a :: l)) : Inc l := by
  cases l with
  | nil => trivial
  | cons b l => exact h.2
theorem inc_gt : ∀ {l : List Kn} {a : Kn}, Inc (a :: l) → ∀ k, k ∈ l → Up2 a k
  | [], _, _, _, h => by cases h
  | b :: l, a, ⟨h1, h2⟩, k, hk => by
    rcases List.mem_cons.1 hk with rfl | hk
    · exact h1
    · have := inc_gt h2 k hk
      exact ⟨by have := this.1; have := h1.1; grind, by have := this.2; have := h1.2; grind⟩
theorem val_nil {a b : Kn} {x : Rat} : valK [a, b] x = segK a b x := by
  show (if ([] : List Kn) = [] ∨ x ≤ b.1 then _ else _) = _
  rw [if_pos (Or.inl rfl)]
theorem val_le {a b : Kn} {l : List Kn} {x : Rat} (h : x ≤ b.1) : valK (a :: b :: l) x = segK a b x := by
  show (if l = [] ∨ x ≤ b.1 then _ else _) = _
  rw [if_pos (Or.inr h)]
theorem val_gt {a b c : Kn} {l : List Kn} {x : Rat} (h : b.1 < x) : valK (a :: b :: c :: l) x = valK (b :: c :: l) x := by
  show (if c :: l = [] ∨ x ≤ b.1 then _ else _) = _
  rw [if_neg (by rintro (e | e); · cases e
                 · grind)]
theorem val_first {a b : Kn} {l : List Kn} (h : Inc (a :: b :: l)) : valK (a :: b :: l) a.1 = a.2 := by
  rw [val_le (by have := h.1.1; grind), seg_left]
theorem val_lt : ∀ {l : List Kn} {a b : Kn}, Inc (a :: b :: l) → ∀ {x y : Rat}, x < y → valK (a :: b :: l) x < valK (a :: b :: l) y
  | [], a, b, h, x, y, hx => by rw [val_nil, val_nil]; exact seg_lt h.1 hx
  | c :: l, a, b, h, x, y, hx => by
    by_cases hy : y ≤ b.1
    · rw [val_le hy, val_le (by grind)]
      exact seg_lt h.1 hx
    · have ih := @val_lt l b c h.2
      rw [val_gt (x := y) (by grind)]
      by_cases hxb : x ≤ b.1
      · rw [val_le hxb]
        have h1 := ih (x := b.1) (y := y) (by grind)
        rw [val_first h.2] at h1
        have h2 : segK a b x ≤ b.2 := by
          by_cases e : x = b.1
          · rw [e, seg_right h.1]; exact Rat.le_refl
          · have := seg_lt h.1 (x := x) (y := b.1) (by grind)
            rw [seg_right h.1] at this
            grind
        grind
      · rw [val_gt (x := x) (by grind)]
        exact ih hx
theorem val_knot : ∀ {l : List Kn} {a b : Kn}, Inc (a :: b :: l) → ∀ k, k ∈ a :: b :: l → valK (a :: b :: l) k.1 = k.2
  | [], a, b, h, k, hk => by
    rw [val_nil]
    rcases List.mem_cons.1 hk with rfl | hk
    · exact seg_left
    · rw [List.mem_singleton.1 hk]; exact seg_right h.1
  | c :: l, a, b, h, k, hk => by
    rcases List.mem_cons.1 hk with rfl | hk
    · exact val_first h
    · by_cases hb : k.1 ≤ b.1
      · rcases List.mem_cons.1 hk with rfl | hk
        · rw [val_le hb, seg_right h.1]
        · have := (inc_gt h.2 k hk).1
          grind
      · rw [val_gt (by grind)]
        exact val_knot h.2 k hk
def Chart (l : List Kn) : Prop := 2 ≤ l.length ∧ Inc l
theorem chart_two {l : List Kn} (h : Chart l) : ∃ a b r, l = a :: b :: r := by
  match l, h with
  | a :: b :: r, _ => exact ⟨a, b, r, rfl⟩
  | [], h => exact absurd h.1 (by decide)
  | [_], h => exact absurd h.1 (by simp)
theorem Chart.lt {l : List Kn} (h : Chart l) {x y : Rat} (hx : x < y) : valK l x < valK l y := by
  obtain ⟨a, b, r, rfl⟩ := chart_two h
  exact val_lt h.2 hx
theorem Chart.knot {l : List Kn} (h : Chart l) {k : Kn} (hk : k ∈ l) : valK l k.1 = k.2 := by
  obtain ⟨a, b, r, rfl⟩ := chart_two h
  exact val_knot h.2 k hk
theorem Chart.lt_iff {l : List Kn} (h : Chart l) {x y : Rat} : valK l x < valK l y ↔ x < y := by
  constructor
  · intro h1
    apply Decidable.byContradiction
    intro h2
    by_cases e : x = y
    · rw [e] at h1; exact Rat.lt_irrefl h1
    · have := h.lt (x := y) (y := x) (by grind)
      grind
  · exact h.lt
theorem getK_cons {a : Kn} {l : List Kn} {i : Nat} : getK (a :: l) (i + 1) = getK l i := rfl
theorem inc_get : ∀ {l : List Kn}, Inc l → ∀ {i j : Nat}, i < j → j < l.length → Up2 (getK l i) (getK l j)
  | [], _, _, _, _, h => absurd h (by simp)
  | a :: l, h, 0, j + 1, _, hj => by
    rw [getK_cons]
    exact inc_gt h _ (getK_mem (by simpa using hj))
  | a :: l, h, i + 1, j + 1, hi, hj => by
    rw [getK_cons, getK_cons]
    exact inc_get (inc_tail h) (by omega) (by simpa using hj)
end Go.Lift
namespace Go.Lift
open Go
abbrev Asc (l : List Rat) : Prop := l.Pairwise (· < ·)
def laterQ (a b : Rat) : Rat := if a < b then b else a
def earlierQ (a b : Rat) : Rat := if b < a then b else a
end Go.Lift
namespace Go.Lift
open Go
def frQ (f : Dapi_Frac) : Rat := (f.1 : Rat) / (f.2 : Rat)
def kn (s : Dapi_Span) : Kn := (frQ s.1, frQ s.2)
def smB (f : Dapi_Frac) : Bool := decide (-1000000000 ≤ f.1 ∧ f.1 ≤ 1000000000) && decide (f.2 ≤ 1000000000)
def In64 (f : Dapi_Frac) : Prop := -9223372036854775808 ≤ f.1 ∧ f.1 < 9223372036854775808 ∧ -9223372036854775808 ≤ f.2 ∧ f.2 < 9223372036854775808
theorem low_pos {f : Dapi_Frac} (h : lowB f = true) : 0 < f.2 ∧ Nat.gcd f.1.natAbs f.2.natAbs = 1 := by
  unfold lowB at h
  simp only [Bool.and_eq_true, decide_eq_true_eq, beq_iff_eq] at h
  exact ⟨h.1, h.2⟩
theorem low_parts {f : Dapi_Frac} (h : lowB f = true) : (frQ f).num = f.1 ∧ ((frQ f).den : Int) = f.2 := by
  obtain ⟨h1, h2⟩ := low_pos h
  have e : frQ f = mkRat f.1 f.2.natAbs := by
    unfold frQ
    rw [Rat.mkRat_eq_div]
    congr 2
    omega
  obtain ⟨p1, p2⟩ := mkRat_parts (n := f.1) (d := f.2.natAbs) (by omega)
  rw [e, p1, p2, h2]
  constructor
  · rw [show ((1 : Nat) : Int) = 1 from rfl, Int.ediv_one]
  · rw [Nat.div_one]; omega
theorem fq_frQ {f : Dapi_Frac} (h : lowB f = true) : fq (frQ f) = f := by
  obtain ⟨h1, h2⟩ := low_parts h
  unfold fq
  rw [h1, h2]
theorem smB_small {f : Dapi_Frac} (h : lowB f = true) : smB f = smallQ (frQ f) := by
  obtain ⟨h1, h2⟩ := low_parts h
  obtain ⟨h3, _⟩ := low_pos h
  unfold smB smallQ
  rw [← h1, ← h2]
  congr 1
  · rw [decide_eq_decide]; omega
  · rw [decide_eq_decide]; omega
theorem divInt_frQ (f : Dapi_Frac) : Rat.divInt f.1 f.2 = frQ f := by
  unfold frQ
  rw [Rat.divInt_eq_div]
theorem low_fit {f : Dapi_Frac} (h : lowB f = true) (hi : In64 f) : trace_quotient f.1 f.2 = some (ratioQ (frQ f)) ∧ Fit 2 (frQ f) := quotient64_ok (low_pos h).1 hi.1 hi.2.1 hi.2.2.2
theorem Gcd64_ok {a b : Int} (h1 : -9223372036854775808 ≤ a) (h2 : a < 9223372036854775808) (h3 : 0 < b) (h4 : b < 9223372036854775808) : b0_Gcd a b = some ((Nat.gcd a.natAbs b.natAbs : Nat) : Int) := by
  obtain ⟨r, e1, e2⟩ := gcd_loop b.natAbs (a := a) (b := b) (Nat.le_refl _)
  have hr : r.natAbs < 9223372036854775808 := by
    rw [e2]
    exact Nat.lt_of_le_of_lt (Nat.gcd_le_right _ (by omega)) (by omega)
  unfold b0_Gcd
  refine Option.bind_eq_some_iff.2 ⟨r, e1, ?_⟩
  rw [size_ok (by omega) (by omega), Option.bind_some, e2]
theorem IsLowest64_ok {f : Dapi_Frac} (hi : In64 f) : b0_IsLowest f = some (lowB f) := by
  obtain ⟨h1, h2, h3, h4⟩ := hi
  unfold b0_IsLowest lowB
  by_cases h : f.2 > 0
  · rw [Gcd64_ok h1 h2 h h4, Option.bind_some, dec_true h, cond_true, Option.bind_some, Bool.true_and]
    congr 1
    rw [Bool.eq_iff_iff, beq_iff_eq, beq_iff_eq]
    omega
  · rw [dec_false h]
    rfl
def errE (p : Option Dapi_Span) (s : Dapi_Span) : Int :=
  if lowB s.1 && lowB s.2 then (if smB s.1 && smB s.2 then (match p with
    | none => 0
    | some p => if frQ s.1 ≤ frQ p.1 ∨ frQ s.2 ≤ frQ p.2 then 9 else 0) else 2) else 3
def getS (l : List Dapi_Span) (i : Nat) : Dapi_Span := l.getD i ((0, 0), (0, 0))
def prevS (l : List Dapi_Span) : Nat → Option Dapi_Span
  | 0 => none
  | i + 1 => some (getS l i)
def badE (l : List Dapi_Span) (i : Nat) : Option (Int × Int) := if errE (prevS l i) (getS l i) = 0 then none else some ((i : Int), errE (prevS l i) (getS l i))
def mapE (l : List Dapi_Span) : Int × Int := if l.length < 2 then (0, 10) else if 12 < l.length then (0, 8) else (findF (badE l) 0 l.length).getD (0, 0)
theorem errE_zero {p : Option Dapi_Span} {s : Dapi_Span} (h : errE p s = 0) : lowB s.1 = true ∧ lowB s.2 = true ∧ smB s.1 = true ∧ smB s.2 = true ∧ ∀ q, p = some q → Up2 (kn q) (kn s) := by
  unfold errE at h
  by_cases h1 : (lowB s.1 && lowB s.2) = true
  · rw [if_pos h1] at h
    by_cases h2 : (smB s.1 && smB s.2) = true
    · rw [if_pos h2] at h
      rw [Bool.and_eq_true] at h1 h2
      refine ⟨h1.1, h1.2, h2.1, h2.2, fun q hq => ?_⟩
      subst hq
      by_cases h3 : frQ s.1 ≤ frQ q.1 ∨ frQ s.2 ≤ frQ q.2
      · simp only at h
        rw [if_pos h3] at h
        cases h
      · exact ⟨by show frQ q.1 < frQ s.1; grind, by show frQ q.2 < frQ s.2; grind⟩
    · rw [if_neg h2] at h
      cases h
  · rw [if_neg h1] at h
    cases h
structure MapOk (l : List Dapi_Span) : Prop where
  len : l.length ≤ 12
  chart : Chart (l.map kn)
  small : ∀ s, s ∈ l → lowB s.1 = true ∧ lowB s.2 = true ∧ smallQ (frQ s.1) = true ∧ smallQ (frQ s.2) = true
theorem getS_mem {l : List Dapi_Span} {i : Nat} (hi : i < l.length) : getS l i ∈ l := by
  unfold getS
  rw [List.getD_eq_getElem?_getD, List.getElem?_eq_getElem hi]
  exact List.getElem_mem hi
theorem mem_getS {l : List Dapi_Span} {s : Dapi_Span} (h : s ∈ l) : ∃ i, i < l.length ∧ getS l i = s := by
  obtain ⟨i, hi, e⟩ := List.getElem_of_mem h
  refine ⟨i, hi, ?_⟩
  unfold getS
  rw [List.getD_eq_getElem?_getD, List.getElem?_eq_getElem hi]
  exact e
theorem inc_of : ∀ {l : List Dapi_Span}, (∀ i, i + 1 < l.length → Up2 (kn (getS l i)) (kn (getS l (i + 1)))) → Inc (l.map kn)
  | [], _ => trivial
  | [_], _ => trivial
  | a :: b :: l, h => ⟨h 0 (by simp), inc_of fun i hi => h (i + 1) (by simpa using hi)⟩
theorem map_ok {l : List Dapi_Span} (h : (mapE l).2 = 0) : mapE l = (0, 0) ∧ MapOk l := by
  unfold mapE at h ⊢
  by_cases h1 : l.length < 2
  · rw [if_pos h1] at h; cases h
  rw [if_neg h1] at h ⊢
  by_cases h2 : 12 < l.length
  · rw [if_pos h2] at h; cases h
  rw [if_neg h2] at h ⊢
  cases hf : findF (badE l) 0 l.length with
  | some r =>
    rw [hf] at h
    obtain ⟨i, _, _, hg, _⟩ := findF_some hf
    unfold badE at hg
    by_cases h3 : errE (prevS l i) (getS l i) = 0
    · rw [if_pos h3] at hg; cases hg
    · rw [if_neg h3] at hg
      cases hg
      exact absurd h h3
  | none =>
    have hz : ∀ i, i < l.length → errE (prevS l i) (getS l i) = 0 := fun i hi => by
      have := findF_none.1 hf i (Nat.zero_le _) (by omega)
      unfold badE at this
      by_cases h3 : errE (prevS l i) (getS l i) = 0
      · exact h3
      · rw [if_neg h3] at this; cases this
    refine ⟨rfl, by omega, ⟨by rw [List.length_map]; omega, inc_of fun i hi => (errE_zero (hz (i + 1) hi)).2.2.2.2 _ rfl⟩, fun s hs => ?_⟩
    obtain ⟨i, hi, rfl⟩ := mem_getS hs
    obtain ⟨e1, e2, e3, e4, _⟩ := errE_zero (hz i hi)
    exact ⟨e1, e2, by rw [← smB_small e1]; exact e3, by rw [← smB_small e2]; exact e4⟩
theorem loop_findS {S R : Type} {F : S → Option (S ⊕ R)} {st : Nat → S} {g : Nat → Option R} {n : Nat} {e : R}
    (h0 : ∀ i, i < n → (∀ j, j < i → g j = none) → g i = none → F (st i) = some (.inl (st (i + 1))))
    (h1 : ∀ i, i < n → (∀ j, j < i → g j = none) → ∀ r, g i = some r → F (st i) = some (.inr r)) (hend : (∀ j, j < n → g j = none) → F (st n) = some (.inr e)) :
    ∀ (m k : Nat), k + m = n → (∀ j, j < k → g j = none) → loopM F (st k) = some ((findF g k m).getD e)
  | 0, k, hk, hp => by
    have : k = n := by omega
    subst this
    exact loopM_done (hend hp)
  | m + 1, k, hk, hp => by
    unfold findF
    cases hg : g k with
    | none =>
      rw [loopM_next (h0 k (by omega) hp hg)]
      exact loop_findS h0 h1 hend m (k + 1) (by omega) fun j hj => by
        by_cases e : j = k
        · rw [e]; exact hg
        · exact hp j (by omega)
    | some r => exact loopM_done (h1 k (by omega) hp r hg)
end Go.Lift
