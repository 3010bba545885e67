/-
  Causes predict; evidence is a table of bits.
-/
import Derived.Test.YteobfadhflofpaaGreatPlainN
import Derived.Test.YteobfadhflofpaaGreatFunRe
import Derived.Test.YteobfadhflofpaaGreatPlainD
set_option linter.unusedSectionVars false
set_option linter.unusedVariables false
set_option linter.unusedSimpArgs false
namespace Go.Lift
open Go
structure CauseOk (c : Dapi_TraceCourse) (x : Dapi_TraceCause) : Prop where
  step0 : 0 ≤ x.2.1
  step1 : x.2.1 ≤ (c.2.2.2.length : Int)
  from0 : 0 ≤ x.2.2.1
  from1 : x.2.2.1 ≤ 1000000
  to0 : 0 ≤ x.2.2.2.1
  to1 : x.2.2.2.1 ≤ 1000000
  per0 : 0 ≤ x.2.2.2.2
  per1 : x.2.2.2.2 ≤ 1000000
  le : x.2.2.1 ≤ x.2.2.2.1
theorem fE_zero {n : Int} {l : List Int} (h : firstE (n :: l) = 0) : n = 0 ∧ firstE l = 0 := by
  by_cases hn : n = 0
  · subst hn; rw [fE0] at h; exact ⟨rfl, h⟩
  · rw [fEn hn] at h; exact absurd h hn
theorem causeOk_of {c : Dapi_TraceCourse} {l : List Dapi_TraceCause} {i : Nat} (h : causeE c l i = 0) : CauseOk c (lget d0 l (i : Int)) := by
  unfold causeE at h
  simp only at h
  generalize lget d0 l (i : Int) = x at *
  obtain ⟨_, h⟩ := fE_zero h
  obtain ⟨_, h⟩ := fE_zero h
  obtain ⟨h1, h⟩ := fE_zero h
  obtain ⟨h2, h⟩ := fE_zero h
  obtain ⟨h3, _⟩ := fE_zero h
  have a1 : 0 ≤ x.2.1 ∧ x.2.1 ≤ (c.2.2.2.length : Int) := by
    by_cases e : 0 ≤ x.2.1 ∧ x.2.1 ≤ (c.2.2.2.length : Int)
    · exact e
    · rw [if_neg e] at h1; cases h1
  have a2 : (decide (0 ≤ x.2.2.1 ∧ x.2.2.1 ≤ 1000000) && decide (0 ≤ x.2.2.2.1 ∧ x.2.2.2.1 ≤ 1000000) && decide (0 ≤ x.2.2.2.2 ∧ x.2.2.2.2 ≤ 1000000)) = true := by
    by_cases e : (decide (0 ≤ x.2.2.1 ∧ x.2.2.1 ≤ 1000000) && decide (0 ≤ x.2.2.2.1 ∧ x.2.2.2.1 ≤ 1000000) && decide (0 ≤ x.2.2.2.2 ∧ x.2.2.2.2 ≤ 1000000)) = true
    · exact e
    · rw [if_neg e] at h2; cases h2
  have a3 : x.2.2.1 ≤ x.2.2.2.1 := by
    by_cases e : x.2.2.1 ≤ x.2.2.2.1
    · exact e
    · rw [dec_false e] at h3; cases h3
  rw [Bool.and_eq_true, Bool.and_eq_true, decide_eq_true_eq, decide_eq_true_eq, decide_eq_true_eq] at a2
  obtain ⟨⟨b1, b2⟩, b3⟩ := a2
  exact ⟨a1.1, a1.2, b1.1, b1.2, b2.1, b2.2, b3.1, b3.2, a3⟩
theorem ratioQ_int {n : Int} (h : 0 ≤ n) : ratioQ (n : Rat) = (false, nd n.natAbs, [1]) := by
  unfold ratioQ
  rw [Rat.num_intCast, Rat.den_intCast, nd_one, dec_false (show ¬ n < 0 by omega)]
theorem floor_nat {q : Rat} (h : 0 ≤ q) : 0 ≤ q.num / (q.den : Int) ∧ (q.num / (q.den : Int)).natAbs = q.num.natAbs / q.den ∧ (q.num / (q.den : Int)).natAbs ≤ q.num.natAbs := by
  have hn := Rat.num_nonneg.2 h
  obtain ⟨k, hk⟩ : ∃ k : Nat, q.num = (k : Int) := ⟨q.num.toNat, by omega⟩
  have e : q.num / (q.den : Int) = ((k / q.den : Nat) : Int) := by rw [hk]; rfl
  rw [e, hk, Int.natAbs_natCast, Int.natAbs_natCast]
  exact ⟨Int.natCast_nonneg _, rfl, Nat.div_le_self _ _⟩
theorem tfloor_ok {q : Rat} {N : Nat} (h : 0 ≤ q) (hf : Fit N q) (hN : N ≤ 1073741000) : trace_ratio_floor (ratioQ q) = some (ratioQ ((q.num / (q.den : Int) : Int) : Rat)) ∧ Fit N ((q.num / (q.den : Int) : Int) : Rat) := by
  obtain ⟨h0, h1, h2⟩ := floor_nat h
  have hd := q.den_nz
  constructor
  · unfold trace_ratio_floor
    rw [show (ratioQ q).2.1 = nd q.num.natAbs from rfl, show (ratioQ q).2.2 = nd q.den from rfl, divided_ok hd (Nat.le_trans hf.1 (by omega)) (Nat.le_trans hf.2 (by omega)), Option.bind_some, ratioQ_int h0, h1]
  · refine ⟨?_, ?_⟩
    · rw [Rat.num_intCast]
      exact Nat.le_trans (wd_mono hW h2) hf.1
    · rw [Rat.den_intCast]
      exact Nat.le_trans (nw32 (by decide)) (Nat.le_trans (Nat.one_le_iff_ne_zero.2 fun e => hd ((wd_eq_zero hW).1 e)) hf.2)
theorem wfloor_ok {q : Rat} {N : Nat} (h : 0 ≤ q) (hf : FitT N q) (hN : N ≤ 1073741000) : b0_RatioFloor (ratioW q) = some (wideZ (q.num / (q.den : Int))) ∧ FitT (N + 1) ((q.num / (q.den : Int) : Int) : Rat) ∧ ratioW ((q.num / (q.den : Int) : Int) : Rat) = (wideZ (q.num / (q.den : Int)), wideZ 1) := by
  obtain ⟨h0, h1, h2⟩ := floor_nat h
  have hd := q.den_pos
  refine ⟨?_, ⟨?_, ?_⟩, ?_⟩
  · unfold b0_RatioFloor
    rw [show (ratioW q).1 = wideZ q.num from rfl, show (ratioW q).2 = wideZ (q.den : Int) from rfl, WideFloor_ok (by omega) (Nat.le_trans hf.1 (by omega)) (Nat.le_trans (by rw [Int.natAbs_natCast]; exact hf.2) (by omega)), Option.bind_some]
  · rw [Rat.num_intCast]
    exact Nat.le_trans (Nat.le_trans (tw_mono h2) hf.1) (by omega)
  · rw [Rat.den_intCast]
    exact Nat.le_trans (tw_of_lt (n := 1) (k := 1) (by decide)) (by omega)
  · unfold ratioW
    rw [Rat.num_intCast, Rat.den_intCast]
    rfl
theorem predicts_ok {c : Dapi_TraceCourse} (hv : Valid c) {x : Dapi_TraceCause} {r : Dapi_TraceReading} (hx : CauseOk c x) (hr : readErr c r = 0) (h2 : r.2.1 < 9223372036854775808) :
    ∃ b, trace_course_predicts (c, stripsQ c (c.2.2.2.length + 1)) x r = some b ∧ r9_predicts c x r = some b := by
  obtain ⟨s0, s1, f0, f1, t0, t1, p0, p1, ft⟩ := hx
  unfold trace_course_predicts r9_predicts
  by_cases hlt : x.2.1 > r.1
  · rw [dec_true hlt]
    exact ⟨false, rfl, rfl⟩
  · rw [dec_false hlt, cond_false, cond_false]
    have hrs : 0 ≤ r.1 ∧ r.1 ≤ (c.2.2.2.length : Int) := by
      unfold readErr at hr
      by_cases e : 0 ≤ r.1 ∧ r.1 ≤ (c.2.2.2.length : Int)
      · exact e
      · rw [if_neg e] at hr; cases hr
    have hra : 0 ≤ r.2.1 ∧ (r.2.1 : Rat) ≤ lastV 0 (stS c r.1.toNat) := by
      unfold readErr at hr
      rw [if_pos hrs] at hr
      by_cases e : 0 ≤ r.2.1 ∧ (r.2.1 : Rat) ≤ lastV 0 (stS c r.1.toNat)
      · exact e
      · rw [if_neg e] at hr; cases hr
    obtain ⟨n, hn⟩ : ∃ n : Nat, r.1 = (n : Int) := ⟨r.1.toNat, by omega⟩
    obtain ⟨k, hk⟩ : ∃ k : Nat, x.2.1 = (k : Int) := ⟨x.2.1.toNat, by omega⟩
    rw [hn, Int.toNat_natCast] at hra
    obtain ⟨o, e1, e2, e3, e4, e5⟩ := place_ok hv hn (by omega) (show k ≤ _ by omega) hra.1 hra.2 h2
    cases o with
    | none =>
      obtain ⟨Q, hQ⟩ := on_before hv (k := k) (d := n - k) (P := slabAtS (stS c n) (r.2.1 : Rat)) (Q := (r.2.1 : Rat)) (by omega) (by rw [show k + (n - k) = n by omega]; exact e5)
      exact absurd hQ (e4 rfl Q)
    | some q =>
      obtain ⟨q1, q2, _⟩ := e3 q rfl
      have w1 : Fit 1 (x.2.2.1 : Rat) := fit_whole (by omega) (by omega)
      have w2 : FitT 2 (x.2.2.1 : Rat) := fitT_int (by omega) (by omega)
      obtain ⟨m1, m2⟩ := rminus_ok q1 w1 (by decide)
      obtain ⟨m3, m4⟩ := RatioSub_ok q2 w2 (by decide)
      have lastp : ∀ {z : Rat} {N M : Nat}, Fit N z → FitT M z → N ≤ 100000 → M ≤ 100000 → ∃ b, ((trace_whole (wi64 (x.2.2.2.1 - x.2.2.1))).bind fun (t_7 : Dtrace_ratio) => (trace_ratio_cmp (ratioQ z) t_7).bind fun (t_8 : Int) => some (decide (t_8 ≤ 0))) = some b ∧
          ((b0_RatioInt (wi64 (x.2.2.2.1 - x.2.2.1))).bind fun (t_11 : Db0_Ratio) => (b0_RatioCmp (ratioW z) t_11).bind fun (t_12 : Int) => some (decide (t_12 ≤ 0))) = some b := by
        intro z N M hz1 hz2 hN hM
        have hw : wi64 (x.2.2.2.1 - x.2.2.1) = x.2.2.2.1 - x.2.2.1 := wi64_id (by omega) (by omega)
        rw [hw, whole_ok (by omega) (by omega), Option.bind_some, RatioInt_ok (by omega) (by omega), Option.bind_some, rcmp_ok hz1 (fit_whole (n := x.2.2.2.1 - x.2.2.1) (by omega) (by omega)) (by omega), RatioCmp_ok hz2 (fitT_int (n := x.2.2.2.1 - x.2.2.1) (by omega) (by omega)) (by omega)]
        exact ⟨_, rfl, rfl⟩
      rw [hk, e1, Option.bind_some, RatioInt_ok (by omega) h2, Option.bind_some, hn, e2, Option.bind_some, whole_ok (by omega) (by omega), Option.bind_some, RatioInt_ok (by omega) (by omega), Option.bind_some]
      simp only [atR]
      rw [m1, Option.bind_some, m3, Option.bind_some]
      obtain ⟨sg1, sg2⟩ := @sign_of (q - (x.2.2.1 : Rat))
      have hsgn : b0_RatioSign (ratioW (q - (x.2.2.1 : Rat))) = some (sgn (q - (x.2.2.1 : Rat)).num) := rfl
      rw [hsgn, Option.bind_some]
      have hneg : (ratioQ (q - (x.2.2.1 : Rat))).1 = decide (sgn (q - (x.2.2.1 : Rat)).num < 0) := by
        show decide ((q - (x.2.2.1 : Rat)).num < 0) = _
        rw [decide_eq_decide]
        unfold sgn
        split
        · omega
        · split <;> omega
      rw [hneg]
      by_cases hs : sgn (q - (x.2.2.1 : Rat)).num < 0
      · rw [dec_true hs]
        exact ⟨false, rfl, rfl⟩
      · rw [dec_false hs, cond_false, cond_false]
        have hov : 0 ≤ q - (x.2.2.1 : Rat) := by
          have : ¬ (q - (x.2.2.1 : Rat)).num < 0 := fun e => by
            apply hs
            unfold sgn
            rw [if_neg (by omega), if_pos e]; decide
          exact Rat.num_nonneg.1 (by omega)
        generalize q - (x.2.2.1 : Rat) = z at *
        by_cases hp : x.2.2.2.2 = 0
        · rw [dec_false (show ¬ x.2.2.2.2 > 0 by omega), cond_false, Option.bind_some, show (x.2.2.2.2 != 0) = false by rw [bne_eq_false_iff_eq]; exact hp, cond_false, Option.bind_some]
          exact lastp m2 m4 (by decide) (by decide)
        · have hpp : 0 < x.2.2.2.2 := by omega
          have hpr : (0 : Rat) < (x.2.2.2.2 : Rat) := int_pos (by omega)
          have g1 : Fit 1 (x.2.2.2.2 : Rat) := fit_whole (by omega) (by omega)
          have g2 : FitT 2 (x.2.2.2.2 : Rat) := fitT_int (by omega) (by omega)
          obtain ⟨a1, a2⟩ := rover_ok m2 g1 hpr (by decide)
          obtain ⟨b1, b2⟩ := RatioDiv_ok m4 g2 (fun e => by rw [e] at hpr; exact absurd hpr (by decide)) (by decide)
          have hq0 : 0 ≤ z / (x.2.2.2.2 : Rat) := by
            have := mul_pos_le (c := (x.2.2.2.2 : Rat)⁻¹) (a := 0) (b := z) (Rat.inv_pos.2 hpr) hov
            rw [Rat.zero_mul] at this
            rwa [Rat.div_def]
          obtain ⟨a3, a4⟩ := tfloor_ok hq0 a2 (by decide)
          obtain ⟨b3, b4, b5⟩ := wfloor_ok hq0 b2 (by decide)
          obtain ⟨a5, a6⟩ := rtimes_ok a4 g1 (by decide)
          obtain ⟨b6, b7⟩ := RatioMul_ok b4 g2 (by decide)
          obtain ⟨a7, a8⟩ := rminus_ok m2 a6 (by decide)
          obtain ⟨b8, b9⟩ := RatioSub_ok m4 b7 (by decide)
          rw [dec_true (show x.2.2.2.2 > 0 from hpp), cond_true, whole_ok (by omega) (by omega), Option.bind_some, a1, Option.bind_some, a3, Option.bind_some, a5, Option.bind_some, a7, Option.bind_some, Option.bind_some]
          rw [show (x.2.2.2.2 != 0) = true by rw [bne_iff_ne]; exact hp, cond_true, RatioInt_ok (by omega) (by omega), Option.bind_some, b1, Option.bind_some, b3, Option.bind_some, WideOf_ok (by decide) (by decide), Option.bind_some, Option.bind_some, ← b5, b6, Option.bind_some, b8, Option.bind_some, Option.bind_some]
          exact lastp a8 b9 (by decide) (by decide)
noncomputable def predB (c : Dapi_TraceCourse) (x : Dapi_TraceCause) (r : Dapi_TraceReading) : Bool := (r9_predicts c x r).getD false
theorem predB_ok {c : Dapi_TraceCourse} (hv : Valid c) {x : Dapi_TraceCause} {r : Dapi_TraceReading} (hx : CauseOk c x) (hr : readErr c r = 0) (h2 : r.2.1 < 9223372036854775808) :
    trace_course_predicts (c, stripsQ c (c.2.2.2.length + 1)) x r = some (predB c x r) ∧ r9_predicts c x r = some (predB c x r) := by
  obtain ⟨b, h1, h2⟩ := predicts_ok hv hx hr h2
  unfold predB
  rw [h2]
  exact ⟨h1, rfl⟩
end Go.Lift
namespace Go.Lift
open Go
abbrev r0 : Dapi_TraceReading := (0, (0, false))
def readR (c : Dapi_TraceCourse) (l : List Dapi_TraceReading) (i : Nat) : Option Int := if readErr c (lget r0 l (i : Int)) = 0 then none else some (readErr c (lget r0 l (i : Int)))
def ReadIn (r : Dapi_TraceReading) : Prop := -9223372036854775808 ≤ r.2.1 ∧ r.2.1 < 9223372036854775808
theorem readIn_of {r : Dapi_TraceReading} (h : okv Tapi_TraceReading r) : ReadIn r := by
  have e : IntKind.i64.max = 9223372036854775807 := by decide
  have e' : IntKind.i64.min = -9223372036854775808 := by decide
  have h1 : IntKind.i64.min ≤ r.2.1 := h.2.1.1
  have h2 : r.2.1 ≤ IntKind.i64.max := h.2.1.2
  exact ⟨by omega, by omega⟩
theorem lget_mem {A : Type} {d : A} {l : List A} {i : Nat} (hi : i < l.length) : lget d l (i : Int) ∈ l := by rw [lget_getD hi]; exact List.getElem_mem hi
def readsE (c : Dapi_TraceCourse) (l : List Dapi_TraceReading) : Int := if l.length > 10 then 8 else (findF (readR c l) 0 l.length).getD 0
theorem openReadings_ok {c : Dapi_TraceCourse} (hv : Valid c) {l : List Dapi_TraceReading} (hl : ∀ r, r ∈ l → ReadIn r) : trace_course_openReadings (c, stripsQ c (c.2.2.2.length + 1)) l = some (readsE c l) := by
  unfold trace_course_openReadings readsE
  by_cases h : l.length > 10
  · rw [dec_true (show (l.length : Int) > 10 by omega), cond_true, if_pos h]
  · rw [dec_false (show ¬ (l.length : Int) > 10 by omega), cond_false, if_neg h]
    refine Option.bind_eq_some_iff.2 ⟨outF (findF (readR c l) 0 l.length), loop_find (n := l.length) (fun i hi hg => ?_) (fun i hi r hg => ?_) ?_ l.length 0 (by omega), ?_⟩
    · have hm := hl _ (lget_mem (d := r0) hi)
      unfold readR at hg
      split at hg
      · rename_i hz
        simp only
        rw [dec_true (show (i : Int) < (l.length : Int) by omega), cond_true, chk_true (and_true' (dec_true (by omega)) rfl), treadErr_ok hv hm.1 hm.2, Option.bind_some, hz, show ((0 : Int) != 0) = false from rfl, cond_false, wi64_id (by omega) (by omega)]
        rfl
      · cases hg
    · have hm := hl _ (lget_mem (d := r0) hi)
      unfold readR at hg
      split at hg
      · cases hg
      · rename_i hz
        cases hg
        simp only
        rw [dec_true (show (i : Int) < (l.length : Int) by omega), cond_true, chk_true (and_true' (dec_true (by omega)) rfl), treadErr_ok hv hm.1 hm.2, Option.bind_some, show (readErr c (lget r0 l (i : Int)) != 0) = true by rw [bne_iff_ne]; exact hz, cond_true]
        rfl
    · rw [dec_false (show ¬ (l.length : Int) < (l.length : Int) by omega), cond_false]
    · cases findF (readR c l) 0 l.length <;> rfl
theorem ReadingsErr_ok {c : Dapi_TraceCourse} (hv : Valid c) {l : List Dapi_TraceReading} (hl : ∀ r, r ∈ l → ReadIn r) : r9_ReadingsErr c l = some (readsE c l) := by
  unfold r9_ReadingsErr readsE
  by_cases h : l.length > 10
  · rw [dec_true (show (l.length : Int) > 10 by omega), cond_true, if_pos h]
  · rw [dec_false (show ¬ (l.length : Int) > 10 by omega), cond_false, if_neg h]
    refine Option.bind_eq_some_iff.2 ⟨outF (findF (readR c l) 0 l.length), loop_find (n := l.length) (fun i hi hg => ?_) (fun i hi r hg => ?_) ?_ l.length 0 (by omega), ?_⟩
    · have hm := hl _ (lget_mem (d := r0) hi)
      unfold readR at hg
      split at hg
      · rename_i hz
        rw [dec_true (show (i : Int) < (l.length : Int) by omega), cond_true, chk_true (and_true' (dec_true (by omega)) rfl), rreadErr_ok hv hm.1 hm.2, Option.bind_some, hz, show ((0 : Int) != 0) = false from rfl, cond_false, wi64_id (by omega) (by omega)]
        rfl
      · cases hg
    · have hm := hl _ (lget_mem (d := r0) hi)
      unfold readR at hg
      split at hg
      · cases hg
      · rename_i hz
        cases hg
        rw [dec_true (show (i : Int) < (l.length : Int) by omega), cond_true, chk_true (and_true' (dec_true (by omega)) rfl), rreadErr_ok hv hm.1 hm.2, Option.bind_some, show (readErr c (lget r0 l (i : Int)) != 0) = true by rw [bne_iff_ne]; exact hz, cond_true]
        rfl
    · rw [dec_false (show ¬ (l.length : Int) < (l.length : Int) by omega), cond_false]
    · cases findF (readR c l) 0 l.length <;> rfl
theorem readsE_zero {c : Dapi_TraceCourse} {l : List Dapi_TraceReading} (h : readsE c l = 0) : l.length ≤ 10 ∧ ∀ i, i < l.length → readErr c (lget r0 l (i : Int)) = 0 := by
  unfold readsE at h
  split at h
  · cases h
  · rename_i h10
    refine ⟨by omega, fun i hi => ?_⟩
    cases hf : findF (readR c l) 0 l.length with
    | none =>
      have := findF_none.1 hf i (by omega) (by omega)
      unfold readR at this
      split at this
      · assumption
      · cases this
    | some e =>
      rw [hf] at h
      obtain ⟨j, _, _, hj, _⟩ := findF_some hf
      unfold readR at hj
      split at hj
      · cases hj
      · rename_i hz
        cases hj
        exact absurd h hz
noncomputable def tabB (c : Dapi_TraceCourse) (l : List Dapi_TraceCause) (r : List Dapi_TraceReading) (i k : Nat) : Bool := predB c (lget d0 l (k : Int)) (lget r0 r (i : Int))
noncomputable def byN (c : Dapi_TraceCourse) (l : List Dapi_TraceCause) (r : List Dapi_TraceReading) (i : Nat) : Nat := setN (tabB c l r i) l.length
def presB (r : List Dapi_TraceReading) (i : Nat) : Bool := (lget r0 r (i : Int)).2.2
noncomputable def evidN (c : Dapi_TraceCourse) (l : List Dapi_TraceCause) (r : List Dapi_TraceReading) (k : Nat) : Dtrace_evidence :=
  ((l.length : Int), ((List.range k).map fun i => (byN c l r i : Int), (List.range k).map (presB r)))
theorem range_map_succ {A : Type} {f : Nat → A} {k : Nat} : (List.range (k + 1)).map f = (List.range k).map f ++ [f k] := by rw [List.range_succ, List.map_append]; rfl
theorem evidenceOf_ok {c : Dapi_TraceCourse} (hv : Valid c) {l : List Dapi_TraceCause} {r : List Dapi_TraceReading} (h5 : l.length ≤ 5) (hc : ∀ k, k < l.length → CauseOk c (lget d0 l (k : Int))) (h10 : r.length ≤ 12) (hr : ∀ i, i < r.length → readErr c (lget r0 r (i : Int)) = 0)
    (hin : ∀ x, x ∈ r → ReadIn x) : trace_course_evidenceOf (c, stripsQ c (c.2.2.2.length + 1)) l r = some (evidN c l r r.length) := by
  unfold trace_course_evidenceOf
  refine Option.bind_eq_some_iff.2 ⟨evidN c l r r.length, loopM_count (fun i => ((i : Int), evidN c l r i)) r.length (fun i hi => ?_) ?_, rfl⟩
  · have hri := hin _ (lget_mem (d := r0) hi)
    simp only
    rw [dec_true (show (i : Int) < (r.length : Int) by omega), cond_true, chk_true (and_true' (dec_true (by omega)) rfl)]
    refine Option.bind_eq_some_iff.2 ⟨(byN c l r i : Int), loopM_count (fun k => ((setN (tabB c l r i) k : Int), (k : Int))) l.length (fun k hk => ?_) ?_, ?_⟩
    · obtain ⟨p1, _⟩ := predB_ok hv (hc k hk) (hr i hi) hri.2
      simp only
      rw [dec_true (show (k : Int) < (l.length : Int) by omega), cond_true, chk_true (and_true' (dec_true (by omega)) rfl)]
      change ((trace_course_predicts (c, stripsQ c (c.2.2.2.length + 1)) (lget d0 l (k : Int)) (lget r0 r (i : Int))).bind _) = _
      rw [p1, Option.bind_some]
      have hT : tabB c l r i k = predB c (lget d0 l (k : Int)) (lget r0 r (i : Int)) := rfl
      have hs : setN (tabB c l r i) (k + 1) = setN (tabB c l r i) k ||| (if tabB c l r i k = true then 2 ^ k else 0) := rfl
      rw [hs, hT]
      cases predB c (lget d0 l (k : Int)) (lget r0 r (i : Int)) with
      | true =>
        rw [cond_true, chk_true (dec_true (by omega)), Option.bind_some, if_pos rfl, ishl_one (by omega), ior_nat (setN_64 (by omega)) (by rw [pow64]; exact Nat.pow_lt_pow_right (by decide) (by omega)), wi64_id (by omega) (by omega)]
        rfl
      | false =>
        rw [cond_false, Option.bind_some, if_neg (by decide), Nat.or_zero, wi64_id (by omega) (by omega)]
        rfl
    · simp only
      rw [dec_false (show ¬ (l.length : Int) < (l.length : Int) by omega), cond_false]
      rfl
    · have e1 : (evidN c l r i).2.1 = (List.range i).map fun i => (byN c l r i : Int) := rfl
      have e2 : (evidN c l r i).2.2 = (List.range i).map (presB r) := rfl
      rw [e1, app_ok (by rw [List.length_map, List.length_range, List.length_singleton]; omega), Option.bind_some, e2, app_ok (by rw [List.length_map, List.length_range, List.length_singleton]; omega), Option.bind_some, wi64_id (by omega) (by omega)]
      unfold evidN
      rw [range_map_succ, range_map_succ]
      rfl
  · simp only
    rw [dec_false (show ¬ (r.length : Int) < (r.length : Int) by omega), cond_false]
def allL (n : Nat) : List Int := (List.range n).map fun (i : Nat) => (i : Int)
def clashAt (T : Nat → Nat → Bool) (present : Nat → Bool) (set : List Int) (i : Nat) : Option (Int × Bool) := if (set.any fun k => T i k.toNat) ≠ present i then some ((i : Int), true) else none
theorem lget_range {A : Type} {f : Nat → A} {d : A} {n i : Nat} (hi : i < n) : lget d ((List.range n).map f) (i : Int) = f i := by
  unfold lget
  rw [Int.toNat_natCast, List.getD_eq_getElem?_getD, List.getElem?_map, List.getElem?_range hi]; rfl
end Go.Lift
namespace Go.Lift
open Go
theorem findF_map {R S : Type} {g : Nat → Option R} {f : R → S} : ∀ {m k : Nat}, (findF g k m).map f = findF (fun i => (g i).map f) k m
  | 0, _ => rfl
  | m + 1, k => by
    unfold findF
    cases g k with
    | none => exact findF_map
    | some r => rfl
theorem CopyCauses_ok {l : List Dapi_TraceCause} (h : l.length ≤ 1000) : r9_CopyCauses l = some l := by
  unfold r9_CopyCauses
  rw [app_ok (by rw [List.length_nil]; omega), Option.bind_some, List.nil_append]
theorem CopyReadings_ok {l : List Dapi_TraceReading} (h : l.length ≤ 1000) : r9_CopyReadings l = some l := by
  unfold r9_CopyReadings
  rw [app_ok (by rw [List.length_nil]; omega), Option.bind_some, List.nil_append]
theorem meet_all {T : Nat → Bool} {n : Nat} : decide ((2 ^ n - 1) &&& setN T n ≠ 0) = (allL n).any fun k => T k.toNat := by
  rw [Bool.eq_iff_iff, decide_eq_true_eq, List.any_eq_true]
  constructor
  · intro h
    rw [ne_eq, meet_zero] at h
    simp only [Classical.not_forall, Decidable.not_not] at h
    obtain ⟨i, h1, h2⟩ := h
    rw [ones_bit, decide_eq_true_eq] at h1
    rw [setN_bit, Bool.and_eq_true] at h2
    exact ⟨(i : Int), List.mem_map.2 ⟨i, List.mem_range.2 h1, rfl⟩, by rw [Int.toNat_natCast]; exact h2.2⟩
  · rintro ⟨k, hk, hT⟩
    obtain ⟨i, hi, rfl⟩ := List.mem_map.1 hk
    rw [Int.toNat_natCast] at hT
    intro h0
    refine meet_zero.1 h0 i ⟨?_, ?_⟩
    · rw [ones_bit, decide_eq_true_eq]; exact List.mem_range.1 hi
    · rw [setN_bit, Bool.and_eq_true, decide_eq_true_eq]; exact ⟨List.mem_range.1 hi, hT⟩
theorem wrong_all {T : Nat → Nat → Bool} {present : Nat → Bool} {n k i : Nat} (hi : i < k) : wrongAt (fun i => setN (T i) n) present (2 ^ n - 1) (2 ^ k - 1) i = (clashAt T present (allL n) i).map (·.1) := by
  unfold wrongAt clashAt
  rw [meet_all, ones_bit]
  by_cases h : ((allL n).any fun k => T i k.toNat) ≠ present i
  · rw [if_pos h, if_pos ⟨decide_eq_true hi, h⟩]; rfl
  · rw [if_neg h, if_neg (fun e => h e.2)]; rfl
theorem openEvidence_ok {c : Dapi_TraceCourse} (hv : Valid c) {l : List Dapi_TraceCause} {r : List Dapi_TraceReading} (hoc : trace_openCauses c l = some ((c, stripsQ c (c.2.2.2.length + 1)), (0, 0))) (h5 : l.length ≤ 5) (hc : ∀ k, k < l.length → CauseOk c (lget d0 l (k : Int))) (hin : ∀ x, x ∈ r → ReadIn x) :
    trace_openEvidence c l r = some ((c, stripsQ c (c.2.2.2.length + 1)), (if readsE c r = 0 then evidN c l r r.length else (0, ([], [])), readsE c r)) := by
  unfold trace_openEvidence
  rw [hoc, Option.bind_some]
  simp only
  rw [show ((0 : Int) == 0) = true from rfl, cond_true, openReadings_ok hv hin, Option.bind_some, Option.bind_some]
  by_cases h : readsE c r = 0
  · obtain ⟨h10, hr⟩ := readsE_zero h
    rw [h, show ((0 : Int) != 0) = false from rfl, cond_false, if_pos rfl, evidenceOf_ok hv h5 hc (by omega) hr hin, Option.bind_some]
  · rw [show (readsE c r != 0) = true by rw [bne_iff_ne]; exact h, cond_true, if_neg h]
theorem every_ok {n : Int} {k : Nat} {a : List Int} {b : List Bool} (ha : a.length = k) (hk : k < 64) : trace_evidence_every (n, (a, b)) = some ((2 ^ k - 1 : Nat) : Int) := by
  unfold trace_evidence_every
  simp only
  rw [ha, chk_true (dec_true (by omega)), ones_ok hk]
noncomputable def firstR (c : Dapi_TraceCourse) (l : List Dapi_TraceCause) (r : List Dapi_TraceReading) : Option (Int × Bool) := findF (clashAt (tabB c l r) (presB r) (allL l.length)) 0 r.length
theorem allL_mem {n : Nat} : ∀ k, k ∈ allL n → 0 ≤ k ∧ k < (n : Int) := by
  intro k hk
  obtain ⟨i, hi, rfl⟩ := List.mem_map.1 hk
  have := List.mem_range.1 hi
  omega
theorem Contra_ok {c : Dapi_TraceCourse} (hv : Valid c) {l : List Dapi_TraceCause} {r : List Dapi_TraceReading} (hoc : trace_openCauses c l = some ((c, stripsQ c (c.2.2.2.length + 1)), (0, 0))) (h5 : l.length ≤ 5) (hc : ∀ k, k < l.length → CauseOk c (lget d0 l (k : Int))) (hin : ∀ x, x ∈ r → ReadIn x) :
    trace_Contradiction c l r = some (if readsE c r = 0 then (match firstR c l r with | none => (0, 12) | some v => (v.1, 0)) else (0, readsE c r)) := by
  unfold trace_Contradiction
  rw [openEvidence_ok hv hoc h5 hc hin, Option.bind_some]
  simp only
  by_cases h : readsE c r = 0
  · obtain ⟨h10, hr⟩ := readsE_zero h
    rw [h, if_pos rfl, if_pos rfl, show ((0 : Int) != 0) = false from rfl, cond_false, chk_true (dec_true (by omega)), ones_ok (by omega)]
    unfold evidN
    rw [every_ok (k := r.length) (by rw [List.length_map, List.length_range]) (by omega), Option.bind_some, firstWrong_ok (by_ := byN c l r) (by omega) (fun i _ => setN_64 (by omega)) (ones_64 (by omega)) (ones_64 (by omega)), Option.bind_some]
    have e : findF (wrongAt (byN c l r) (presB r) (2 ^ l.length - 1) (2 ^ r.length - 1)) 0 r.length = (firstR c l r).map (·.1) := by
      unfold firstR
      rw [findF_map]
      refine findF_congr fun i _ hi => ?_
      exact wrong_all (T := tabB c l r) (by omega)
    rw [e]
    cases hf : firstR c l r with
    | none => rfl
    | some v =>
      unfold firstR at hf
      obtain ⟨i, _, _, hi, _⟩ := findF_some hf
      unfold clashAt at hi
      split at hi
      · cases hi
        simp only [Option.map_some]
        rw [dec_false (show ¬ (i : Int) < 0 by omega), cond_false]
      · cases hi
  · rw [if_neg h, show (readsE c r != 0) = true by rw [bne_iff_ne]; exact h, cond_true, if_neg h]
theorem size_of_okv {l : List Dapi_TraceCause} (h : okv (.slice Tapi_TraceCause) l) : ∀ x, x ∈ l → x.1.size ≤ 9223372036854775807 := by
  intro x hx
  have : x.1.size ≤ maxLen := (h.2 x hx).1
  unfold maxLen at this
  omega
end Go.Lift
