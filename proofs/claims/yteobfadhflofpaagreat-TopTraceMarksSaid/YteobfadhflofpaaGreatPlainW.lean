/-
  Passes that do not make a strip shorter; where the marks of a roll are found.
-/
import Derived.Test.YteobfadhflofpaaGreatLawRo
import Derived.Test.YteobfadhflofpaaGreatPlainH
set_option linter.unusedSectionVars false
set_option linter.unusedVariables false
set_option linter.unusedSimpArgs false
namespace Go.Lift
open Go
def NoLarger : List Sec → List Int → Prop
  | x :: l, n :: m => n ≤ x.area ∧ NoLarger l m
  | _, _ => True
theorem rate_le {o a n : Int} (ho : 1 ≤ o) (hn : 1 ≤ n) (h : n ≤ a) : (o : Rat) / (a : Rat) ≤ (o : Rat) / (n : Rat) := by
  have h1 := int_pos ho
  have h2 := int_pos hn
  have h3 := int_pos (n := a) (by omega)
  have h4 : (n : Rat) ≤ (a : Rat) := by rw [Rat.intCast_le_intCast]; exact h
  refine of_mul_le (c := (a : Rat) * (n : Rat)) (Rat.mul_pos h3 h2) ?_
  have e1 : (o : Rat) / (a : Rat) * ((a : Rat) * (n : Rat)) = (n : Rat) * (o : Rat) := by grind
  have e2 : (o : Rat) / (n : Rat) * ((a : Rat) * (n : Rat)) = (a : Rat) * (o : Rat) := by grind
  rw [e1, e2]
  exact mul_pos_le h1 h4
theorem on_head {x : Sec} {l : List Sec} {p q P Q : Rat} (hc : Secs p q (x :: l)) (h : On (x :: l) P Q) (hP : P ≤ x.b) : Q = x.u + (P - x.a) * ((x.old : Rat) / (x.area : Rat)) := by
  have h1 := (on_ge hc h).1
  have h2 := hc.1
  exact on_fun hc h (on_cons.2 (.inl (onSec_of_p hc.2.2.1 (by grind) hP)))
theorem on_tail {x : Sec} {l : List Sec} {P Q : Rat} (h : On (x :: l) P Q) (hP : ¬ P ≤ x.b) : On l P Q :=
  (on_cons.1 h).resolve_left fun e => hP e.2.1
theorem on_ne {l : List Sec} {P Q : Rat} (h : On l P Q) : l ≠ [] := fun e => not_on_nil (e ▸ h)
theorem roll_slope : ∀ {l : List Sec} {m : List Int} {p q t P P' Q Q' R R' : Rat}, Secs p q l → l.length = m.length → (∀ n, n ∈ m → 1 ≤ n ∧ n ≤ 1000) → NoLarger l m → P ≤ P' → On l P Q → On l P' Q' → On (rolledS t l m) P R → On (rolledS t l m) P' R' → Q' - Q ≤ R' - R
  | [], _, _, _, _, _, _, _, _, _, _, _, _, _, _, _, h, _, _, _ => absurd h not_on_nil
  | x :: l, [], _, _, _, _, _, _, _, _, _, _, h, _, _, _, _, _, _, _ => by simp at h
  | x :: l, n :: m, p, q, t, P, P', Q, Q', R, R', hc, hl, hm, hn, hP, h1, h2, h3, h4 => by
    have hr : Secs p t (rolledS t (x :: l) (n :: m)) := rolled_ok hc hl hm
    have hx := hc.2.2.1
    have hn1 := hm n List.mem_cons_self
    have hrate := rate_le hx.old1 hn1.1 hn.1
    have hap := hc.1
    have g1 := (on_ge hc h1).1
    have hxb := hx.ab
    unfold rolledS at h3 h4 hr
    generalize hy : (⟨x.a, x.b, t, t + (x.v - x.u) * ((x.area : Rat) / (n : Rat)), x.old, n⟩ : Sec) = y at h3 h4 hr
    have ya : y.a = x.a := by rw [← hy]
    have yb : y.b = x.b := by rw [← hy]
    have yu : y.u = t := by rw [← hy]
    have yv : y.v = t + (x.v - x.u) * ((x.area : Rat) / (n : Rat)) := by rw [← hy]
    have yo : y.old = x.old := by rw [← hy]
    have yr : y.area = n := by rw [← hy]
    rw [← yv] at h3 h4 hr
    by_cases c1 : P' ≤ x.b
    · have a1 := on_head hc h1 (by grind)
      have a2 := on_head hc h2 c1
      have a3 := on_head hr h3 (by grind)
      have a4 := on_head hr h4 (by grind)
      rw [ya, yo, yr] at a3 a4
      have := Rat.mul_le_mul_of_nonneg_left hrate (show (0 : Rat) ≤ P' - P by grind)
      grind
    · have b2 := on_tail h2 c1
      have b4 := on_tail h4 (by grind)
      by_cases c2 : P ≤ x.b
      · have a1 := on_head hc h1 c2
        have a3 := on_head hr h3 (by grind)
        rw [ya, yo, yr] at a3
        have e1 := on_begin hc.2.2.2 (on_ne b2)
        have e3 := on_begin hr.2.2.2 (on_ne b4)
        rw [yb] at e3
        have k1 := on_head hc (on_cons.2 (.inl (onSec_end hx))) (Rat.le_refl)
        have k3 := on_head hr (on_cons.2 (.inl (onSec_end hr.2.2.1))) (Rat.le_refl)
        rw [ya, yo, yr, yb] at k3
        have ih := roll_slope hc.2.2.2 (by simpa using hl) (fun k hk => hm k (List.mem_cons_of_mem _ hk)) hn.2 (show x.b ≤ P' by grind) e1 b2 e3 b4
        have := Rat.mul_le_mul_of_nonneg_left hrate (show (0 : Rat) ≤ x.b - P by grind)
        grind
      · exact roll_slope hc.2.2.2 (by simpa using hl) (fun k hk => hm k (List.mem_cons_of_mem _ hk)) hn.2 hP (on_tail h1 c2) b2 (on_tail h3 (by grind)) b4
theorem step_slope {l out : List Sec} {x : Dapi_TraceStep} {p P P' Q Q' R R' : Rat} (h : StepRel l x out) (hp : Secs p 0 l) (hn : NoLarger l x.2.1) (hP : P ≤ P') (h1 : On l P Q) (h2 : On l P' Q') (h3 : On out P R) (h4 : On out P' R') : Q' - Q ≤ R' - R := by
  rcases h with ⟨_, rfl, k3, k4⟩ | ⟨_, rfl, k3, k4, k5, k6, _⟩
  · exact roll_slope hp k3 k4 hn hP h1 h2 h3 h4
  · have hlt : (x.2.2.1 : Rat) < (x.2.2.2 : Rat) := by rw [Rat.intCast_lt_intCast]; exact k4
    have e1 := on_fun hp h1 (on_cut hp hlt h3).1
    have e2 := on_fun hp h2 (on_cut hp hlt h4).1
    grind
theorem slope_ok {c : Dapi_TraceCourse} (hv : Valid c) {s : Nat} {P P' Q Q' : Rat} (hP : P ≤ P') (h1 : On (stS c s) P Q) (h2 : On (stS c s) P' Q') : ∀ {d : Nat} {R R' : Rat}, s + d ≤ c.2.2.2.length →
    (∀ k, s ≤ k → k < s + d → NoLarger (stS c k) (stepAt c k).2.1) → On (stS c (s + d)) P R → On (stS c (s + d)) P' R' → Q' - Q ≤ R' - R
  | 0, R, R', hd, _, h3, h4 => by
    obtain ⟨p, hp⟩ := (hv.strip s (by omega)).secs
    have e1 := on_fun hp h1 h3
    have e2 := on_fun hp h2 h4
    grind
  | d + 1, R, R', hd, hn, h3, h4 => by
    obtain ⟨p, hp⟩ := (hv.strip (s + d) (by omega)).secs
    have hr := hv.rel (s + d) (by omega)
    obtain ⟨Z, hZ⟩ := step_back hr hp h3
    obtain ⟨Z', hZ'⟩ := step_back hr hp h4
    have ih := slope_ok hv hP h1 h2 (by omega) (fun k a b => hn k a (by omega)) hZ hZ'
    have := step_slope hr hp (hn (s + d) (by omega) (by omega)) hP hZ hZ' h3 h4
    grind
theorem floor_ok {q : Rat} (h : 0 ≤ q) : (((q.num / (q.den : Int)) : Int) : Rat) ≤ q ∧ q < (((q.num / (q.den : Int)) : Int) : Rat) + 1 ∧ 0 ≤ q.num / (q.den : Int) := by
  have hd : (0 : Int) < (q.den : Int) := by have := q.den_pos; omega
  have hdq : (0 : Rat) < ((q.den : Int) : Rat) := int_pos (by omega)
  have e : q * ((q.den : Int) : Rat) = ((q.num : Int) : Rat) := by
    have h1 := Rat.num_divInt_den q
    rw [Rat.divInt_eq_div] at h1
    conv => lhs; rw [← h1]
    grind
  have hn : 0 ≤ q.num := Rat.num_nonneg.2 h
  have h1 : q.num / (q.den : Int) * (q.den : Int) ≤ q.num := Int.ediv_mul_le _ (by omega)
  have h2 : q.num < (q.num / (q.den : Int) + 1) * (q.den : Int) := Int.lt_ediv_add_one_mul_self _ hd
  refine ⟨of_mul_le hdq ?_, of_mul_lt hdq ?_, Int.ediv_nonneg hn (by omega)⟩
  · rw [e, ← Rat.intCast_mul, Rat.intCast_le_intCast]; exact h1
  · rw [e, show (((q.num / (q.den : Int) : Int) : Rat) + 1) = (((q.num / (q.den : Int) + 1 : Int)) : Rat) by rw [Rat.intCast_add]; rfl, ← Rat.intCast_mul, Rat.intCast_lt_intCast]; exact h2
theorem near_turns {a b : Rat} {K j : Int} (hK : 7 ≤ K) (h1 : (j : Rat) * (K : Rat) - 1 < b - a) (h2 : b - a < (j : Rat) * (K : Rat) + 1) (hm : a ≤ b) : clashB a b K 1 = false := by
  have hKp : (0 : Rat) < (K : Rat) := int_pos (by omega)
  have hK7 : (7 : Rat) ≤ (K : Rat) := by
    have : ((7 : Int) : Rat) ≤ (K : Rat) := by rw [Rat.intCast_le_intCast]; exact hK
    exact this
  have hq : 0 ≤ (b - a) / (K : Rat) := by
    have := mul_pos_le (c := (K : Rat)⁻¹) (a := 0) (b := b - a) (Rat.inv_pos.2 hKp) (by grind)
    rw [Rat.zero_mul] at this
    rwa [Rat.div_def]
  obtain ⟨f1, f2, f3⟩ := floor_ok hq
  unfold clashB leftQ
  generalize hd : b - a = d at *
  generalize hf : (d / (K : Rat)).num / ((d / (K : Rat)).den : Int) = f at *
  have g1 : (f : Rat) * (K : Rat) ≤ d := by
    have := mul_pos_le hKp f1
    have e : d / (K : Rat) * (K : Rat) = d := by grind
    rwa [e] at this
  have g2 : d < ((f : Rat) + 1) * (K : Rat) := by
    have := mul_pos_lt hKp f2
    have e : d / (K : Rat) * (K : Rat) = d := by grind
    rwa [e] at this
  have hcase : j = f ∨ j = f + 1 := by
    have a1 : (j : Rat) * (K : Rat) < ((f + 2 : Int) : Rat) * (K : Rat) := by
      rw [Rat.intCast_add]
      have : ((2 : Int) : Rat) = 2 := rfl
      rw [this]
      grind
    have a2 : ((f - 1 : Int) : Rat) * (K : Rat) < (j : Rat) * (K : Rat) := by
      rw [Rat.intCast_sub]
      have : ((1 : Int) : Rat) = 1 := rfl
      rw [this]
      grind
    have b1 := of_mul_lt hKp a1
    have b2 := of_mul_lt hKp a2
    rw [Rat.intCast_lt_intCast] at b1 b2
    omega
  have e2 : (((2 * 1 : Int)) : Rat) = 2 := rfl
  rw [e2]
  rcases hcase with h | h
  · rw [h] at h1 h2
    rw [dec_false (show ¬ (2 : Rat) < d - (f : Rat) * (K : Rat) by grind)]
    rfl
  · rw [h, Rat.intCast_add] at h1 h2
    have : ((1 : Int) : Rat) = 1 := rfl
    rw [this] at h1 h2
    rw [dec_false (show ¬ (2 : Rat) < (K : Rat) - (d - (f : Rat) * (K : Rat)) by grind), Bool.and_false]
def turnQ (first K : Int) (i : Nat) : Int := first + (i : Int) * K
def coilAt (c : Dapi_TraceCourse) (s : Nat) (z : Int) : Option Rat := atS (coilS c) (slabAtS (stS c s) (z : Rat))
def markAt (c : Dapi_TraceCourse) (s : Nat) (z : Int) : Option Int := (coilAt c s z).bind fun q => if smallQ q then some (q.num / (q.den : Int)) else none
def marksL (c : Dapi_TraceCourse) (s : Nat) (first K : Int) (n : Nat) : List Int := (List.range n).filterMap fun i => markAt c s (turnQ first K i)
def OnStrip (c : Dapi_TraceCourse) (s : Nat) (z : Int) : Prop := 0 ≤ z ∧ (z : Rat) ≤ lastV 0 (stS c s)
def Longer (c : Dapi_TraceCourse) (s : Nat) : Prop := ∀ k, s ≤ k → k < c.2.2.2.length → NoLarger (stS c k) (stepAt c k).2.1
theorem markAt_some {c : Dapi_TraceCourse} {s : Nat} {z m : Int} (h : markAt c s z = some m) : ∃ q, coilAt c s z = some q ∧ smallQ q = true ∧ m = q.num / (q.den : Int) := by
  unfold markAt at h
  obtain ⟨q, h1, h2⟩ := Option.bind_eq_some_iff.1 h
  by_cases hs : smallQ q = true
  · rw [if_pos hs] at h2
    exact ⟨q, h1, hs, (Option.some.inj h2).symm⟩
  · rw [if_neg hs] at h2; cases h2
theorem strip_on {c : Dapi_TraceCourse} (hv : Valid c) {s : Nat} (hs : s ≤ c.2.2.2.length) {z : Int} (hz : OnStrip c s z) : On (stS c s) (slabAtS (stS c s) (z : Rat)) (z : Rat) := by
  obtain ⟨p, hp⟩ := (hv.strip s hs).secs
  exact slabAt_on hp (hv.strip s hs).ne (by rw [← Rat.intCast_zero, Rat.intCast_le_intCast]; exact hz.1) hz.2
theorem mark_on {c : Dapi_TraceCourse} (hv : Valid c) {s : Nat} (hs : s ≤ c.2.2.2.length) (hlo : Longer c s) {z m : Int} (hz : OnStrip c s z) (h : markAt c s z = some m) :
    OnCoil c m ∧ (z : Rat) - 1 < posQ c s m ∧ posQ c s m ≤ (z : Rat) := by
  obtain ⟨q, h1, h2, rfl⟩ := markAt_some h
  have hn := hv.strip c.2.2.2.length (Nat.le_refl _)
  obtain ⟨p, hp⟩ := hn.secs
  obtain ⟨p', hp'⟩ := (hv.strip s hs).secs
  have o1 := strip_on hv hs hz
  have o2 : On (coilS c) (slabAtS (stS c s) (z : Rat)) q := (at_on hp).1 h1
  have q0 := (on_ge hp o2).2.1
  have q1 := on_le_last hp o2
  obtain ⟨f1, f2, f3⟩ := floor_ok q0
  obtain ⟨b1, b2⟩ := small_parts h2
  have hm : OnCoil c (q.num / (q.den : Int)) := by
    refine ⟨f3, by grind, ?_⟩
    have h3 : q.num / (q.den : Int) ≤ q.num := Int.ediv_le_self _ (Rat.num_nonneg.2 q0)
    omega
  obtain ⟨_, _, _, _, o3⟩ := mark_ok hv hm hs
  have o4 : On (coilS c) (slabM c (q.num / (q.den : Int))) ((q.num / (q.den : Int) : Int) : Rat) := slabAt_on hp hn.ne (by rw [← Rat.intCast_zero, Rat.intCast_le_intCast]; exact hm.1) hm.2.1
  have hP := (on_mono hp o4 o2).2 f1
  have hle := (on_mono hp' o3 o1).1 hP
  have hsl := slope_ok hv hP o3 o1 (d := c.2.2.2.length - s) (R := ((q.num / (q.den : Int) : Int) : Rat)) (R' := q) (by omega) (fun k a b => hlo k a (by omega))
    (by rw [show s + (c.2.2.2.length - s) = c.2.2.2.length by omega]; exact o4) (by rw [show s + (c.2.2.2.length - s) = c.2.2.2.length by omega]; exact o2)
  exact ⟨hm, by grind, hle⟩
theorem turn_diff {first K : Int} {i j : Nat} : ((turnQ first K j : Int) : Rat) - ((turnQ first K i : Int) : Rat) = (((j : Int) - (i : Int) : Int) : Rat) * (K : Rat) := by
  unfold turnQ
  rw [Rat.intCast_add, Rat.intCast_add, Rat.intCast_mul, Rat.intCast_mul, Rat.intCast_sub]
  grind
theorem marks_two {c : Dapi_TraceCourse} (hv : Valid c) {s : Nat} (hs : s ≤ c.2.2.2.length) (hlo : Longer c s) {first K : Int} (hK : 7 ≤ K) {i j : Nat} (hij : i < j) (hi : OnStrip c s (turnQ first K i)) (hj : OnStrip c s (turnQ first K j))
    {m m' : Int} (h : markAt c s (turnQ first K i) = some m) (h' : markAt c s (turnQ first K j) = some m') : m < m' ∧ clashB (posQ c s m) (posQ c s m') K 1 = false := by
  obtain ⟨a1, a2, a3⟩ := mark_on hv hs hlo hi h
  obtain ⟨b1, b2, b3⟩ := mark_on hv hs hlo hj h'
  have hd := turn_diff (first := first) (K := K) (i := i) (j := j)
  have hlt : m < m' := by
    obtain ⟨q, e1, e2, rfl⟩ := markAt_some h
    obtain ⟨q', e1', e2', rfl⟩ := markAt_some h'
    have hn := hv.strip c.2.2.2.length (Nat.le_refl _)
    obtain ⟨p, hp⟩ := hn.secs
    obtain ⟨p', hp'⟩ := (hv.strip s hs).secs
    have o1 := strip_on hv hs hi
    have o1' := strip_on hv hs hj
    have o2 : On (coilS c) (slabAtS (stS c s) ((turnQ first K i : Int) : Rat)) q := (at_on hp).1 e1
    have o2' : On (coilS c) (slabAtS (stS c s) ((turnQ first K j : Int) : Rat)) q' := (at_on hp).1 e1'
    have hge : (7 : Rat) ≤ (((j : Int) - (i : Int) : Int) : Rat) * (K : Rat) := by
      have : ((7 : Int) : Rat) ≤ ((((j : Int) - (i : Int)) * K : Int) : Rat) := by
        rw [Rat.intCast_le_intCast]
        have := Int.mul_le_mul (show (1 : Int) ≤ (j : Int) - (i : Int) by omega) hK (by omega) (by omega)
        omega
      rw [Rat.intCast_mul] at this
      exact this
    have hP := (on_mono hp' o1 o1').2 (by grind)
    have hsl := slope_ok hv hP o1 o1' (d := c.2.2.2.length - s) (R := q) (R' := q') (by omega) (fun k a b => hlo k a (by omega))
      (by rw [show s + (c.2.2.2.length - s) = c.2.2.2.length by omega]; exact o2) (by rw [show s + (c.2.2.2.length - s) = c.2.2.2.length by omega]; exact o2')
    obtain ⟨f1, f2, _⟩ := floor_ok (on_ge hp o2).2.1
    obtain ⟨g1, g2, _⟩ := floor_ok (on_ge hp o2').2.1
    rw [← Rat.intCast_lt_intCast]
    grind
  exact ⟨hlt, near_turns (j := (j : Int) - (i : Int)) hK (by grind) (by grind) (pos_mono hv a1 b1 (by omega) hs)⟩
theorem marks_succ {c : Dapi_TraceCourse} {s : Nat} {first K : Int} {n : Nat} : marksL c s first K (n + 1) = match markAt c s (turnQ first K n) with | some m => marksL c s first K n ++ [m] | none => marksL c s first K n := by
  unfold marksL
  rw [List.range_succ, List.filterMap_append]
  cases h : markAt c s (turnQ first K n) with
  | none => simp [h]
  | some m => simp [h]
theorem marks_len {c : Dapi_TraceCourse} {s : Nat} {first K : Int} {n : Nat} : (marksL c s first K n).length ≤ n := by
  have := List.length_filterMap_le (fun i => markAt c s (turnQ first K i)) (List.range n)
  rw [List.length_range] at this
  exact this
theorem marks_pair {c : Dapi_TraceCourse} (hv : Valid c) {s : Nat} (hs : s ≤ c.2.2.2.length) (hlo : Longer c s) {first K : Int} (hK : 7 ≤ K) {n : Nat} (hn : ∀ i, i < n → OnStrip c s (turnQ first K i)) :
    (marksL c s first K n).Pairwise fun m m' => m < m' ∧ clashB (posQ c s m) (posQ c s m') K 1 = false := by
  unfold marksL
  rw [List.pairwise_filterMap]
  refine List.Pairwise.imp_of_mem ?_ List.pairwise_lt_range
  intro a b ha hb hab m hm m' hm'
  exact marks_two hv hs hlo hK hab (hn a (List.mem_range.1 ha)) (hn b (List.mem_range.1 hb)) hm hm'
theorem marks_on {c : Dapi_TraceCourse} (hv : Valid c) {s : Nat} (hs : s ≤ c.2.2.2.length) (hlo : Longer c s) {first K : Int} {n : Nat} (hn : ∀ i, i < n → OnStrip c s (turnQ first K i)) : ∀ m, m ∈ marksL c s first K n → OnCoil c m := by
  intro m hm
  unfold marksL at hm
  obtain ⟨i, h1, h2⟩ := List.mem_filterMap.1 hm
  exact (mark_on hv hs hlo (hn i (List.mem_range.1 h1)) h2).1
theorem lget_get {l : List Int} {i : Nat} (h : i < l.length) : lget 0 l (i : Int) = l[i] := by
  unfold lget
  rw [Int.toNat_natCast, List.getD_eq_getElem?_getD, List.getElem?_eq_getElem h]
  rfl
theorem marks_ok {c : Dapi_TraceCourse} {l : List Int} {r : Dapi_TraceRoll} {s : Nat} (hr : r.2.1 = (s : Int)) (h20 : l.length ≤ 20) (hon : ∀ m, m ∈ l → OnCoil c m) (hp : l.Pairwise fun m m' => m < m' ∧ clashB (posQ c s m) (posQ c s m') r.2.2 1 = false) :
    marksE c (l, 1) = 0 ∧ Ints64 l ∧ pairO (clashM c l r 1) l.length = ((fun _ => 0), false) := by
  rw [List.pairwise_iff_getElem] at hp
  refine ⟨?_, ?_, ?_⟩
  · show (if 20 < l.length then (8 : Int) else (findF (markR c l) 0 l.length).getD (if (0 : Int) ≤ 1 ∧ (1 : Int) ≤ 1000 then 0 else 2)) = 0
    rw [if_neg (show ¬ 20 < l.length by omega), findF_none.2 ?_]
    · rfl
    · intro i _ hi
      have hm := hon _ (lget_mem (d := 0) (show i < l.length by omega))
      have h1 : readErr c ((c.2.2.2.length : Int), (lget 0 l (i : Int), false)) = 0 := by rw [readErr_coil, if_pos ⟨hm.1, hm.2.1⟩]
      have h2 : i = 0 ∨ lget 0 l ((i : Int) - 1) < lget 0 l (i : Int) := by
        by_cases h0 : i = 0
        · exact .inl h0
        · right
          rw [show (i : Int) - 1 = ((i - 1 : Nat) : Int) by omega, lget_get (by omega), lget_get (by omega)]
          exact (hp (i - 1) i (by omega) (by omega) (by omega)).1
      have h3 : markE c l i = 0 := by
        unfold markE
        rw [h1, if_pos h2]; rfl
      unfold markR
      rw [if_pos h3]
  · intro m hm
    have := hon m hm
    have h0 := this.1
    have h1 := this.2.2
    omega
  · have hnone : pairF (clashM c l r 1) l.length = none := by
      unfold pairF
      refine findF_none.2 fun i _ hi => ?_
      refine findF_none.2 fun k hk1 hk2 => ?_
      have hcl : clashM c l r 1 i k = false := by
        unfold clashM
        rw [hr, Int.toNat_natCast, lget_get (by omega), lget_get (by omega)]
        exact (hp i k (by omega) (by omega) (by omega)).2
      rw [hcl]
      rfl
    unfold pairO
    rw [hnone]
    rfl
theorem roll_ok {c : Dapi_TraceCourse} {r : Dapi_TraceRoll} (h1 : nameB r.1 = true) (h2 : 0 ≤ r.2.1 ∧ r.2.1 ≤ (c.2.2.2.length : Int)) (h3 : 7 ≤ r.2.2 ∧ r.2.2 ≤ 100000) : rollE c 1 r = 0 := by
  unfold rollE
  rw [if_pos h1, if_pos h2, if_pos (by omega), if_pos (by omega)]
  rfl
theorem rolls_ok {c : Dapi_TraceCourse} {r : Dapi_TraceRoll} {l : List Int} (h : rollE c 1 r = 0) (hp : (pairO (clashM c l r 1) l.length).2 = false) : rollsE c 1 [r] = 0 ∧ namesL c (l, 1) [r] 1 = [r.1] := by
  constructor
  · unfold rollsE
    rw [if_neg (by simp)]
    rw [findF_none.2 ?_]
    · rfl
    · intro i _ hi
      have hi0 : i = 0 := by simp at hi; omega
      subst hi0
      unfold rollR
      have e : lget l0 [r] ((0 : Nat) : Int) = r := rfl
      rw [e, if_neg (fun q => q h)]
      rfl
  · unfold namesL
    have e : lget l0 [r] ((0 : Nat) : Int) = r := rfl
    rw [e, if_neg (by rw [hp]; decide)]
    rfl
end Go.Lift
namespace Go.Lift
open Go
theorem loop_brk {S R : Type} {f : S → Option (S ⊕ R)} (T : Nat → S) (out : Nat → R) (stop : Nat → Prop) [DecidablePred stop] {n : Nat} (h0 : ∀ i, i < n → ¬ stop i → f (T i) = some (.inl (T (i + 1))))
    (h1 : ∀ i, i < n → stop i → f (T i) = some (.inr (out i))) (hend : f (T n) = some (.inr (out n))) : ∃ k, k ≤ n ∧ (∀ i, i < k → ¬ stop i) ∧ loopM f (T 0) = some (out k) := by
  have key : ∀ m k, k + m = n → (∀ i, i < k → ¬ stop i) → ∃ k', k' ≤ n ∧ (∀ i, i < k' → ¬ stop i) ∧ loopM f (T k) = some (out k') := by
    intro m
    induction m with
    | zero =>
      intro k hk hs
      have : k = n := by omega
      subst this
      exact ⟨k, Nat.le_refl _, hs, loopM_done hend⟩
    | succ m ih =>
      intro k hk hs
      by_cases h : stop k
      · exact ⟨k, by omega, hs, loopM_done (h1 k (by omega) h)⟩
      · obtain ⟨k', a, b, c⟩ := ih (k + 1) (by omega) (fun i hi => by
          by_cases e : i = k
          · rw [e]; exact h
          · exact hs i (by omega))
        exact ⟨k', a, b, by rw [loopM_next (h0 k (by omega) h)]; exact c⟩
  exact key n 0 (by omega) (fun i hi => by omega)
theorem noLarger_of {d : Dr9_Section} : ∀ {l : List Sec} {m : List Int}, l.length = m.length → (∀ i, i < m.length → ¬ ((lget d (l.map secW) (i : Int)).2 < lget 0 m (i : Int))) → NoLarger l m
  | [], _, _, _ => by unfold NoLarger; trivial
  | x :: l, [], h, _ => by simp at h
  | x :: l, n :: m, h, hi => by
    have h0 := hi 0 (by simp)
    have e1 : lget d ((x :: l).map secW) ((0 : Nat) : Int) = secW x := rfl
    have e2 : lget 0 (n :: m) ((0 : Nat) : Int) = n := rfl
    rw [e1, e2, show (secW x).2 = x.area from rfl] at h0
    refine ⟨by omega, noLarger_of (d := d) (by simpa using h) fun i hi' => ?_⟩
    have h1 := hi (i + 1) (by simp; omega)
    have e3 : lget d ((x :: l).map secW) ((i + 1 : Nat) : Int) = lget d (l.map secW) (i : Int) := by
      unfold lget; rw [Int.toNat_natCast, Int.toNat_natCast]; rfl
    have e4 : lget 0 (n :: m) ((i + 1 : Nat) : Int) = lget 0 m (i : Int) := by
      unfold lget; rw [Int.toNat_natCast, Int.toNat_natCast]; rfl
    rw [e3, e4] at h1
    exact h1
theorem noLarger_nil {l : List Sec} : NoLarger l [] := by cases l <;> (unfold NoLarger; trivial)
theorem readErr_strip {c : Dapi_TraceCourse} {s : Nat} (hs : s ≤ c.2.2.2.length) {z : Int} {b : Bool} : readErr c ((s : Int), (z, b)) = if 0 ≤ z ∧ (z : Rat) ≤ lastV 0 (stS c s) then 0 else 6 := by
  unfold readErr
  simp only
  rw [if_pos (show (0 : Int) ≤ (s : Int) ∧ (s : Int) ≤ (c.2.2.2.length : Int) by omega), Int.toNat_natCast]
theorem readErr_on {c : Dapi_TraceCourse} {s : Nat} (hs : s ≤ c.2.2.2.length) {z : Int} {b : Bool} : readErr c ((s : Int), (z, b)) = 0 ↔ OnStrip c s z := by
  rw [readErr_strip hs]
  unfold OnStrip
  split
  · simp_all
  · simp_all
theorem PlaceOf_coil {c : Dapi_TraceCourse} (hv : Valid c) (hop : trace_opened c [] = some ((c, stripsQ c (c.2.2.2.length + 1)), 0)) {s : Nat} (hs : s ≤ c.2.2.2.length) {z : Int} {b : Bool} (hz : OnStrip c s z) (h2 : z < 9223372036854775808) :
    trace_PlaceOf c ((s : Int), (z, b)) (c.2.2.2.length : Int) = some (match coilAt c s z with | some q => fracE q | none => ((0, 0), 12)) := by
  unfold trace_PlaceOf
  rw [hop, Option.bind_some]
  simp only
  have h1 := hz.1
  obtain ⟨o, p1, _, p3, p4, _⟩ := place_ok hv (r := ((s : Int), (z, b))) rfl hs (Nat.le_refl _) hz.1 hz.2 h2
  have ho : coilAt c s z = o := by
    obtain ⟨p, hp⟩ := (hv.strip c.2.2.2.length (Nat.le_refl _)).secs
    unfold coilAt
    cases o with
    | some q => exact (at_on hp).2 (p3 q rfl).2.2
    | none =>
      cases h : atS (coilS c) (slabAtS (stS c s) (z : Rat)) with
      | none => rfl
      | some q => exact absurd ((at_on hp).1 h) (p4 rfl q)
  rw [show ((0 : Int) == 0) = true from rfl, cond_true, treadErr_ok hv (by show _ ≤ z; omega) h2, Option.bind_some, tstepsErr_ok, Option.bind_some, first_ok (by simp), Option.bind_some, Option.bind_some,
    (readErr_on hs).2 hz, if_pos (show (0 : Int) ≤ (c.2.2.2.length : Int) ∧ (c.2.2.2.length : Int) ≤ (c.2.2.2.length : Int) by omega), show firstE [(0 : Int), 0] = 0 from rfl, show ((0 : Int) != 0) = false from rfl, cond_false, p1, Option.bind_some, ho]
  cases o with
  | none => rfl
  | some q =>
    unfold atR
    simp only
    rw [Bool.not_true, cond_false, small_ok (p3 q rfl).1 (by decide), Option.bind_some]
    rfl
end Go.Lift
