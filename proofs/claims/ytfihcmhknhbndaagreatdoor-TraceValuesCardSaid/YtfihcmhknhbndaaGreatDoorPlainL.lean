/-
  The knots of the map between two strips.
-/
import Derived.Test.YtfihcmhknhbndaaGreatDoorFunMa
import Derived.Test.YtfihcmhknhbndaaGreatDoorPlainJ
set_option linter.unusedSectionVars false
set_option linter.unusedVariables false
set_option linter.unusedSimpArgs false
namespace Go.Lift
open Go

abbrev Kn : Type := Rat × Rat
def kQ (k : Kn) : Dtrace_knot := (ratioQ k.1, ratioQ k.2)
def kW (k : Kn) : Dr9_Knot := (ratioW k.1, ratioW k.2)
def kF (k : Kn) : Dapi_Span := ((fracQ k.1).1, (fracQ k.2).1)
def kS (k : Kn) : Bool := smallQ k.1 && smallQ k.2
structure KFit (N : Nat) (k : Kn) : Prop where
  i : Fit N k.1
  o : Fit N k.2
  ti : FitT N k.1
  to : FitT N k.2

def getK (l : List Kn) (i : Nat) : Kn := l.getD i (0, 0)
def colB (p q r : Kn) : Bool := decide ((q.2 - p.2) * (r.1 - p.1) = (r.2 - p.2) * (q.1 - p.1))
def keepK (l : List Kn) (i : Nat) : Bool := !((decide (0 < i) && decide (i + 1 < l.length)) && colB (getK l (i - 1)) (getK l i) (getK l (i + 1)))
def preK (l : List Kn) (t : Nat) : List Kn := ((List.range t).filter (keepK l)).map (getK l)
def simpleK (l : List Kn) : List Kn := preK l l.length

theorem preK_succ (l : List Kn) (t : Nat) : preK l (t + 1) = preK l t ++ (if keepK l t then [getK l t] else []) := by
  unfold preK
  rw [List.range_succ, List.filter_append, List.map_append]
  congr 1
  rw [List.filter_cons]
  split <;> rfl
theorem preK_len (l : List Kn) (t : Nat) : (preK l t).length ≤ t := by
  unfold preK
  rw [List.length_map]
  exact Nat.le_trans (List.length_filter_le _ _) (by rw [List.length_range]; omega)

theorem lget_mapK {A : Type} {f : Kn → A} {d : A} {l : List Kn} {i : Nat} (hi : i < l.length) : lget d (l.map f) (i : Int) = f (getK l i) := by
  unfold lget getK
  rw [Int.toNat_natCast, List.getD_eq_getElem?_getD, List.getD_eq_getElem?_getD, List.getElem?_map, List.getElem?_eq_getElem hi]; rfl
theorem getK_mem {l : List Kn} {i : Nat} (hi : i < l.length) : getK l i ∈ l := by
  unfold getK
  rw [List.getD_eq_getElem?_getD, List.getElem?_eq_getElem hi]
  exact List.getElem_mem hi

theorem onLine_ok {p q r : Kn} {N : Nat} (hp : KFit N p) (hq : KFit N q) (hr : KFit N r) (hN : N ≤ 1000) : trace_onLine (kQ p) (kQ q) (kQ r) = some (colB p q r) := by
  unfold trace_onLine kQ
  simp only
  obtain ⟨a1, a2⟩ := rminus_ok hq.o hp.o (by omega)
  obtain ⟨b1, b2⟩ := rminus_ok hr.i hp.i (by omega)
  obtain ⟨c1, c2⟩ := rtimes_ok a2 b2 (by omega)
  obtain ⟨d1, d2⟩ := rminus_ok hr.o hp.o (by omega)
  obtain ⟨e1, e2⟩ := rminus_ok hq.i hp.i (by omega)
  obtain ⟨f1, f2⟩ := rtimes_ok d2 e2 (by omega)
  rw [a1, Option.bind_some, b1, Option.bind_some, c1, Option.bind_some, d1, Option.bind_some, e1, Option.bind_some, f1, Option.bind_some, rcmp_ok c2 f2 (by omega), Option.bind_some]
  congr 1
  unfold colB
  by_cases h : (q.2 - p.2) * (r.1 - p.1) = (r.2 - p.2) * (q.1 - p.1)
  · rw [dec_true h, if_pos h]; rfl
  · rw [dec_false h, if_neg h]
    split <;> rfl

theorem simpleQ_ok {l : List Kn} {N : Nat} (hl : ∀ k, k ∈ l → KFit N k) (hN : N ≤ 1000) (hlen : l.length ≤ 100) : trace_chart_simple (l.map kQ) = some ((simpleK l).map kQ) := by
  unfold trace_chart_simple
  refine Option.bind_eq_some_iff.2 ⟨(simpleK l).map kQ, loopM_count (fun t => ((preK l t).map kQ, (t : Int))) l.length (fun t ht => ?_) ?_, rfl⟩
  · have hpl := preK_len l t
    simp only
    rw [List.length_map, dec_true (show (t : Int) < (l.length : Int) by omega), cond_true, chk_true (and_true' (dec_true (by omega)) rfl), lget_mapK ht]
    have hc : (bif ((decide ((t : Int) > 0)) && (decide ((t : Int) < (wi64 ((l.length : Int) - 1))))) then
          chk (decide ((0 : Int) ≤ (wi64 ((t : Int) - 1))) && decide ((wi64 ((t : Int) - 1)) < (l.length : Int))) (
            chk (decide ((0 : Int) ≤ (wi64 ((t : Int) + 1))) && decide ((wi64 ((t : Int) + 1)) < (l.length : Int))) (
              (trace_onLine (lget ((false, ([], [])), (false, ([], []))) (l.map kQ) (wi64 ((t : Int) - 1))) (kQ (getK l t)) (lget ((false, ([], [])), (false, ([], []))) (l.map kQ) (wi64 ((t : Int) + 1)))).bind fun (t_1 : Bool) =>
              some t_1))
        else some false) = some (!keepK l t) := by
      unfold keepK
      rw [Bool.not_not, wi64_id (x := (l.length : Int) - 1) (by omega) (by omega)]
      by_cases h0 : 0 < t
      · by_cases h1 : t + 1 < l.length
        · have w1 : wi64 ((t : Int) - 1) = ((t - 1 : Nat) : Int) := by rw [wi64_id (by omega) (by omega)]; omega
          have w2 : wi64 ((t : Int) + 1) = ((t + 1 : Nat) : Int) := wi64_id (by omega) (by omega)
          rw [dec_true (show (t : Int) > 0 by omega), dec_true (show (t : Int) < (l.length : Int) - 1 by omega), dec_true h0, dec_true h1, Bool.and_self, Bool.true_and, cond_true, w1, w2, chk_true (and_true' (dec_true (by omega)) (dec_true (by omega))), chk_true (and_true' (dec_true (by omega)) (dec_true (by omega))), lget_mapK (by omega), lget_mapK (by omega),
            onLine_ok (hl _ (getK_mem (by omega))) (hl _ (getK_mem ht)) (hl _ (getK_mem (by omega))) hN, Option.bind_some]
        · rw [dec_false (show ¬ (t : Int) < (l.length : Int) - 1 by omega), dec_false h1, Bool.and_false, Bool.and_false, Bool.false_and]; rfl
      · rw [dec_false (show ¬ (t : Int) > 0 by omega), dec_false h0, Bool.false_and, Bool.false_and, Bool.false_and]; rfl
    refine Option.bind_eq_some_iff.2 ⟨_, hc, ?_⟩
    rw [preK_succ]
    cases keepK l t with
    | true =>
      rw [Bool.not_true, cond_false, app_ok (by rw [List.length_map, List.length_singleton]; omega), Option.bind_some, wi64_id (by omega) (by omega), if_pos rfl, List.map_append]
      rfl
    | false =>
      rw [Bool.not_false, cond_true, wi64_id (by omega) (by omega), if_neg (by decide), List.append_nil]
      rfl
  · simp only
    rw [List.length_map, dec_false (show ¬ (l.length : Int) < (l.length : Int) by omega), cond_false]
    rfl

theorem col_other {p q r : Kn} : ((q.2 - p.2) * (r.1 - q.1) = (r.2 - q.2) * (q.1 - p.1)) ↔ colB p q r = true := by
  unfold colB
  rw [decide_eq_true_eq]
  constructor <;> intro h <;> grind

theorem simpleW_ok {l : List Kn} {N : Nat} (hl : ∀ k, k ∈ l → KFit N k) (hN : N ≤ 1000) (hlen : l.length ≤ 100) : r9_simple (l.map kW) = some ((simpleK l).map kW) := by
  unfold r9_simple
  refine Option.bind_eq_some_iff.2 ⟨(simpleK l).map kW, loopM_count (fun t => ((preK l t).map kW, (t : Int))) l.length (fun t ht => ?_) ?_, rfl⟩
  · have hpl := preK_len l t
    simp only
    rw [List.length_map, dec_true (show (t : Int) < (l.length : Int) by omega), cond_true, wi64_id (x := (l.length : Int) - 1) (by omega) (by omega)]
    rw [preK_succ]
    by_cases h01 : 0 < t ∧ t + 1 < l.length
    · obtain ⟨h0, h1⟩ := h01
      have w1 : wi64 ((t : Int) - 1) = ((t - 1 : Nat) : Int) := by rw [wi64_id (by omega) (by omega)]; omega
      have w2 : wi64 ((t : Int) + 1) = ((t + 1 : Nat) : Int) := wi64_id (by omega) (by omega)
      have fp := hl _ (getK_mem (l := l) (i := t - 1) (by omega))
      have fq := hl _ (getK_mem (l := l) (i := t) ht)
      have fr := hl _ (getK_mem (l := l) (i := t + 1) (by omega))
      obtain ⟨a1, a2⟩ := RatioSub_ok fq.to fp.to (by omega)
      obtain ⟨b1, b2⟩ := RatioSub_ok fr.ti fq.ti (by omega)
      obtain ⟨c1, c2⟩ := RatioMul_ok a2 b2 (by omega)
      obtain ⟨d1, d2⟩ := RatioSub_ok fr.to fq.to (by omega)
      obtain ⟨e1, e2⟩ := RatioSub_ok fq.ti fp.ti (by omega)
      obtain ⟨f1, f2⟩ := RatioMul_ok d2 e2 (by omega)
      have hk : keepK l t = !colB (getK l (t - 1)) (getK l t) (getK l (t + 1)) := by unfold keepK; rw [dec_true h0, dec_true h1, Bool.and_self, Bool.true_and]
      rw [dec_true (show (t : Int) > 0 by omega), dec_true (show (t : Int) < (l.length : Int) - 1 by omega), Bool.and_self, cond_true, w1, w2, lget_mapK (i := t - 1) (by omega), lget_mapK (i := t) ht, lget_mapK (i := t + 1) (by omega)]
      simp only [kW]
      rw [chk_true (and_true' (dec_true (by omega)) rfl), chk_true (and_true' (dec_true (by omega)) (dec_true (by omega))), a1, Option.bind_some, chk_true (and_true' (dec_true (by omega)) (dec_true (by omega))), chk_true (and_true' (dec_true (by omega)) rfl), b1, Option.bind_some, c1, Option.bind_some, chk_true (and_true' (dec_true (by omega)) (dec_true (by omega))), chk_true (and_true' (dec_true (by omega)) rfl), d1, Option.bind_some, chk_true (and_true' (dec_true (by omega)) rfl), chk_true (and_true' (dec_true (by omega)) (dec_true (by omega))), e1, Option.bind_some, f1, Option.bind_some, RatioCmp_ok c2 f2 (by omega), Option.bind_some, hk]
      by_cases hcol : ((getK l t).2 - (getK l (t - 1)).2) * ((getK l (t + 1)).1 - (getK l t).1) = ((getK l (t + 1)).2 - (getK l t).2) * ((getK l t).1 - (getK l (t - 1)).1)
      · rw [if_pos hcol, show ((0 : Int) == 0) = true from rfl, cond_true, (col_other.1 hcol), if_neg (by decide), List.append_nil]
        rfl
      · have hc2 : colB (getK l (t - 1)) (getK l t) (getK l (t + 1)) = false := by
          cases hx : colB (getK l (t - 1)) (getK l t) (getK l (t + 1)) with
          | false => rfl
          | true => exact absurd (col_other.2 hx) hcol
        have hne : ((if ((getK l t).2 - (getK l (t - 1)).2) * ((getK l (t + 1)).1 - (getK l t).1) = ((getK l (t + 1)).2 - (getK l t).2) * ((getK l t).1 - (getK l (t - 1)).1) then (0 : Int) else if ((getK l t).2 - (getK l (t - 1)).2) * ((getK l (t + 1)).1 - (getK l t).1) < ((getK l (t + 1)).2 - (getK l t).2) * ((getK l t).1 - (getK l (t - 1)).1) then -1 else 1) == 0) = false := by
          rw [if_neg hcol]
          split <;> rfl
        rw [hne, cond_false, Option.bind_some, hc2, if_pos (by decide), List.map_append]
        simp only
        rw [chk_true (and_true' (dec_true (by omega)) rfl), app_ok (by rw [List.length_map, List.length_singleton]; omega), Option.bind_some]
        rfl
    · have hk : keepK l t = true := by
        unfold keepK
        by_cases h0 : 0 < t
        · rw [dec_false (show ¬ t + 1 < l.length from fun e => h01 ⟨h0, e⟩), Bool.and_false]; rfl
        · rw [dec_false h0]; rfl
      have hb : ((decide ((t : Int) > 0)) && (decide ((t : Int) < (l.length : Int) - 1))) = false := by
        rw [Bool.and_eq_false_iff, decide_eq_false_iff_not, decide_eq_false_iff_not]
        omega
      rw [hb, cond_false, Option.bind_some, hk, if_pos rfl, List.map_append, lget_mapK ht]
      simp only
      rw [chk_true (and_true' (dec_true (by omega)) rfl), app_ok (by rw [List.length_map, List.length_singleton]; omega), Option.bind_some, wi64_id (by omega) (by omega)]
      rfl
  · simp only
    rw [List.length_map, dec_false (show ¬ (l.length : Int) < (l.length : Int) by omega), cond_false]
    rfl

theorem written_ok {l : List Kn} {N : Nat} (hl : ∀ k, k ∈ l → KFit N k) (hN : N ≤ 1000000) (hlen : l.length ≤ 100) : trace_chart_written (l.map kQ) = some (if l.all kS then (l.map kF, 0) else ([], 8)) := by
  unfold trace_chart_written
  refine Option.bind_eq_some_iff.2 ⟨(if l.all kS then .inl (l.map kF) else .inr ([], 8)), ?_, by cases l.all kS <;> rfl⟩
  refine loopM_list_eq (X := Kn) (l := l) (fun l' s => ∃ pre, l = pre ++ l' ∧ s = ((pre.length : Int), pre.map kF) ∧ l.all kS = l'.all kS) ?_ ?_ ⟨[], rfl, rfl, rfl⟩
  · rintro k l' s ⟨pre, e1, rfl, e2⟩
    have hL : l.length = pre.length + (l'.length + 1) := by rw [e1, List.length_append, List.length_cons]
    have g1 : ∀ d, lget d (l.map kQ) (pre.length : Int) = kQ k := fun d => by rw [e1]; exact lget_map
    have hk := hl k (by rw [e1]; simp)
    rw [List.all_cons] at e2
    simp only
    rw [List.length_map, dec_true (show (pre.length : Int) < (l.length : Int) by omega), cond_true, chk_true (and_true' (dec_true (by omega)) rfl), g1]
    simp only [kQ]
    rw [small_ok hk.i (by omega), Option.bind_some, small_ok hk.o (by omega), Option.bind_some, first_ok (by simp), Option.bind_some, fracQ_small, fracQ_small]
    by_cases h : kS k = true
    · left
      have h' := h
      unfold kS at h'
      rw [Bool.and_eq_true] at h'
      rw [h, Bool.true_and] at e2
      rw [h'.1, h'.2, if_pos rfl, show firstE [(0 : Int), 0] = 0 from rfl, show ((0 : Int) != 0) = false from rfl, cond_false, app_ok (by rw [List.length_map, List.length_singleton]; omega), Option.bind_some, wi64_id (by omega) (by omega)]
      exact ⟨_, rfl, pre ++ [k], by rw [e1]; simp, by rw [List.length_append, List.length_singleton, List.map_append]; rfl, e2⟩
    · right
      rw [Bool.not_eq_true] at h
      rw [h, Bool.false_and] at e2
      rw [e2]
      have hf : firstE [if smallQ k.1 = true then (0 : Int) else 8, if smallQ k.2 = true then 0 else 8] = 8 := by
        unfold kS at h
        revert h
        cases smallQ k.1 <;> cases smallQ k.2 <;> simp [firstE]
      rw [hf]
      rfl
  · rintro s ⟨pre, e1, rfl, e2⟩
    have hL : l.length = pre.length := by rw [e1, List.append_nil]
    simp only
    rw [List.length_map, dec_false (show ¬ (pre.length : Int) < (l.length : Int) by omega), cond_false, e2, e1, List.append_nil]
    rfl

theorem rsmall_any {l : List Kn} {N : Nat} (hl : ∀ k, k ∈ l → KFit N k) (hN : N ≤ 1000000) (hlen : l.length ≤ 100) : r9_small (l.map kW) = some (if l.all kS then (l.map kF, decide (l.length ≤ 12)) else ([], false)) := by
  unfold r9_small
  refine Option.bind_eq_some_iff.2 ⟨(if l.all kS then .inl (l.map kF) else .inr ([], false)), ?_, ?_⟩
  · refine loopM_list_eq (X := Kn) (l := l) (fun l' s => ∃ pre, l = pre ++ l' ∧ s = ((pre.length : Int), pre.map kF) ∧ l.all kS = l'.all kS) ?_ ?_ ⟨[], rfl, rfl, rfl⟩
    · rintro k l' s ⟨pre, e1, rfl, e2⟩
      have hL : l.length = pre.length + (l'.length + 1) := by rw [e1, List.length_append, List.length_cons]
      have g1 : ∀ d, lget d (l.map kW) (pre.length : Int) = kW k := fun d => by rw [e1]; exact lget_map
      have hk := hl k (by rw [e1]; simp)
      rw [List.all_cons] at e2
      simp only
      rw [List.length_map, dec_true (show (pre.length : Int) < (l.length : Int) by omega), cond_true, chk_true (and_true' (dec_true (by omega)) rfl), g1]
      simp only [kW]
      rw [RatioFrac_ok hk.ti (by omega), Option.bind_some, chk_true (and_true' (dec_true (by omega)) rfl), RatioFrac_ok hk.to (by omega), Option.bind_some, fracQ_small, fracQ_small]
      by_cases h : kS k = true
      · left
        have h' := h
        unfold kS at h'
        rw [Bool.and_eq_true] at h'
        rw [h, Bool.true_and] at e2
        rw [h'.1, h'.2, Bool.not_true, Bool.or_self, cond_false, app_ok (by rw [List.length_map, List.length_singleton]; omega), Option.bind_some, wi64_id (by omega) (by omega)]
        exact ⟨_, rfl, pre ++ [k], by rw [e1]; simp, by rw [List.length_append, List.length_singleton, List.map_append]; rfl, e2⟩
      · right
        rw [Bool.not_eq_true] at h
        rw [h, Bool.false_and] at e2
        rw [e2]
        have hf : (!smallQ k.1 || !smallQ k.2) = true := by
          unfold kS at h
          revert h
          cases smallQ k.1 <;> cases smallQ k.2 <;> simp
        rw [hf]
        rfl
    · rintro s ⟨pre, e1, rfl, e2⟩
      have hL : l.length = pre.length := by rw [e1, List.append_nil]
      simp only
      rw [List.length_map, dec_false (show ¬ (pre.length : Int) < (l.length : Int) by omega), cond_false, e2, e1, List.append_nil]
      rfl
  · have e : decide ((l.length : Int) ≤ 12) = decide (l.length ≤ 12) := by rw [decide_eq_decide]; omega
    rw [List.length_map, e]
    cases l.all kS <;> rfl

theorem rsmall_ok {l : List Kn} {N : Nat} (hl : ∀ k, k ∈ l → KFit N k) (hN : N ≤ 1000000) (hlen : l.length ≤ 12) : r9_small (l.map kW) = some (if l.all kS then (l.map kF, true) else ([], false)) := by
  rw [rsmall_any hl hN (by omega), dec_true hlen]

theorem eqb_spanM (f : Dapi_Span) : Ty.eqb Tapi_Span f f = true := by
  show (Ty.eqb Tapi_Frac f.1 f.1 && Ty.eqb Tapi_Frac f.2 f.2) = true
  rw [eqb_frac, eqb_frac]; rfl
theorem SameMap_ok {l : Dapi_TraceMap} (h : l.length ≤ 1000) : r9_SameMap l l = some true := by
  unfold r9_SameMap
  rw [show ((l.length : Int) != (l.length : Int)) = false by simp, cond_false]
  refine Option.bind_eq_some_iff.2 ⟨.inl (), ?_, rfl⟩
  refine loopM_list_eq (X := Dapi_Span) (l := l) (fun l' s => ∃ pre, l = pre ++ l' ∧ s = (pre.length : Int)) ?_ ?_ ⟨[], rfl, rfl⟩
  · rintro x l' s ⟨pre, e1, rfl⟩
    left
    have hL : l.length = pre.length + (l'.length + 1) := by rw [e1, List.length_append, List.length_cons]
    rw [dec_true (show (pre.length : Int) < (l.length : Int) by omega), cond_true, chk_true (and_true' (dec_true (by omega)) rfl), chk_true (and_true' (dec_true (by omega)) rfl), eqb_spanM, Bool.not_true, cond_false, wi64_id (by omega) (by omega)]
    exact ⟨_, rfl, pre ++ [x], by rw [e1]; simp, by rw [List.length_append, List.length_singleton]; rfl⟩
  · rintro s ⟨pre, e1, rfl⟩
    have hL : l.length = pre.length := by rw [e1, List.append_nil]
    rw [dec_false (show ¬ (pre.length : Int) < (l.length : Int) by omega), cond_false]

end Go.Lift
