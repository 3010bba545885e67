/-
  The knots of the map between two strips.
-/
import Derived.Test.YteobfadhflofpaaGreatFunMa
import Derived.Test.YteobfadhflofpaaGreatPlainJ
set_option linter.unusedSectionVars false
set_option linter.unusedVariables false
set_option linter.unusedSimpArgs false
namespace Go.Lift
open Go
abbrev Kn : Type := Rat × Rat
def kQ (k : Kn) : Dtrace_knot := (ratioQ k.1, ratioQ k.2)
def kF (k : Kn) : Dapi_Span := ((fracQ k.1).1, (fracQ k.2).1)
def kS (k : Kn) : Bool := smallQ k.1 && smallQ k.2
structure KFit (N : Nat) (k : Kn) : Prop where
  i : Fit N k.1
  o : Fit N k.2
  ti : FitT N k.1
  to : FitT N k.2
def getK (l : List Kn) (i : Nat) : Kn := l.getD i (0, 0)
def colB (p q r : Kn) : Bool := decide ((q.2 - p.2) * (r.1 - p.1) = (r.2 - p.2) * (q.1 - p.1))
def keepK (l : List Kn) (i : Nat) : Bool := !((decide (0 < i) && decide (i + 1 < l.length)) && colB (getK l (i - 1)) (getK l i) (getK l (i + 1)))
def preK (l : List Kn) (t : Nat) : List Kn := ((List.range t).filter (keepK l)).map (getK l)
def simpleK (l : List Kn) : List Kn := preK l l.length
theorem preK_succ (l : List Kn) (t : Nat) : preK l (t + 1) = preK l t ++ (if keepK l t then [getK l t] else []) := by
  unfold preK
  rw [List.range_succ, List.filter_append, List.map_append]
  congr 1
  rw [List.filter_cons]
  split <;> rfl
theorem preK_len (l : List Kn) (t : Nat) : (preK l t).length ≤ t := by
  unfold preK
  rw [List.length_map]
  exact Nat.le_trans (List.length_filter_le _ _) (by rw [List.length_range]; omega)
theorem lget_mapK {A : Type} {f : Kn → A} {d : A} {l : List Kn} {i : Nat} (hi : i < l.length) : lget d (l.map f) (i : Int) = f (getK l i) := by
  unfold lget getK
  rw [Int.toNat_natCast, List.getD_eq_getElem?_getD, List.getD_eq_getElem?_getD, List.getElem?_map, List.getElem?_eq_getElem hi]; rfl
theorem getK_mem {l : List Kn} {i : Nat} (hi : i < l.length) : getK l i ∈ l := by
  unfold getK
  rw [List.getD_eq_getElem?_getD, List.getElem?_eq_getElem hi]
  exact List.getElem_mem hi
theorem onLine_ok {p q r : Kn} {N : Nat} (hp : KFit N p) (hq : KFit N q) (hr : KFit N r) (hN : N ≤ 1000) : trace_onLine (kQ p) (kQ q) (kQ r) = some (colB p q r) := by
  unfold trace_onLine kQ
  simp only
  obtain ⟨a1, a2⟩ := rminus_ok hq.o hp.o (by omega)
  obtain ⟨b1, b2⟩ := rminus_ok hr.i hp.i (by omega)
  obtain ⟨c1, c2⟩ := rtimes_ok a2 b2 (by omega)
  obtain ⟨d1, d2⟩ := rminus_ok hr.o hp.o (by omega)
  obtain ⟨e1, e2⟩ := rminus_ok hq.i hp.i (by omega)
  obtain ⟨f1, f2⟩ := rtimes_ok d2 e2 (by omega)
  rw [a1, Option.bind_some, b1, Option.bind_some, c1, Option.bind_some, d1, Option.bind_some, e1, Option.bind_some, f1, Option.bind_some, rcmp_ok c2 f2 (by omega), Option.bind_some]
  congr 1
  unfold colB
  by_cases h : (q.2 - p.2) * (r.1 - p.1) = (r.2 - p.2) * (q.1 - p.1)
  · rw [dec_true h, if_pos h]; rfl
  · rw [dec_false h, if_neg h]
    split <;> rfl
theorem simpleQ_ok {l : List Kn} {N : Nat} (hl : ∀ k, k ∈ l → KFit N k) (hN : N ≤ 1000) (hlen : l.length ≤ 100) : trace_chart_simple (l.map kQ) = some ((simpleK l).map kQ) := by
  unfold trace_chart_simple
  refine Option.bind_eq_some_iff.2 ⟨(simpleK l).map kQ, loopM_count (fun t => ((preK l t).map kQ, (t : Int))) l.length (fun t ht => ?_) ?_, rfl⟩
  · have hpl := preK_len l t
    simp only
    rw [List.length_map, dec_true (show (t : Int) < (l.length : Int) by omega), cond_true, chk_true (and_true' (dec_true (by omega)) rfl), lget_mapK ht]
    have hc : (bif ((decide ((t : Int) > 0)) && (decide ((t : Int) < (wi64 ((l.length : Int) - 1))))) then
          chk (decide ((0 : Int) ≤ (wi64 ((t : Int) - 1))) && decide ((wi64 ((t : Int) - 1)) < (l.length : Int))) (
            chk (decide ((0 : Int) ≤ (wi64 ((t : Int) + 1))) && decide ((wi64 ((t : Int) + 1)) < (l.length : Int))) (
              (trace_onLine (lget ((false, ([], [])), (false, ([], []))) (l.map kQ) (wi64 ((t : Int) - 1))) (kQ (getK l t)) (lget ((false, ([], [])), (false, ([], []))) (l.map kQ) (wi64 ((t : Int) + 1)))).bind fun (t_1 : Bool) =>
              some t_1))
        else some false) = some (!keepK l t) := by
      unfold keepK
      rw [Bool.not_not, wi64_id (x := (l.length : Int) - 1) (by omega) (by omega)]
      by_cases h0 : 0 < t
      · by_cases h1 : t + 1 < l.length
        · have w1 : wi64 ((t : Int) - 1) = ((t - 1 : Nat) : Int) := by rw [wi64_id (by omega) (by omega)]; omega
          have w2 : wi64 ((t : Int) + 1) = ((t + 1 : Nat) : Int) := wi64_id (by omega) (by omega)
          rw [dec_true (show (t : Int) > 0 by omega), dec_true (show (t : Int) < (l.length : Int) - 1 by omega), dec_true h0, dec_true h1, Bool.and_self, Bool.true_and, cond_true, w1, w2, chk_true (and_true' (dec_true (by omega)) (dec_true (by omega))), chk_true (and_true' (dec_true (by omega)) (dec_true (by omega))), lget_mapK (by omega), lget_mapK (by omega),
            onLine_ok (hl _ (getK_mem (by omega))) (hl _ (getK_mem ht)) (hl _ (getK_mem (by omega))) hN, Option.bind_some]
        · rw [dec_false (show ¬ (t : Int) < (l.length : Int) - 1 by omega), dec_false h1, Bool.and_false, Bool.and_false, Bool.false_and]; rfl
      · rw [dec_false (show ¬ (t : Int) > 0 by omega), dec_false h0, Bool.false_and, Bool.false_and, Bool.false_and]; rfl
    refine Option.bind_eq_some_iff.2 ⟨_, hc, ?_⟩
    rw [preK_succ]
    cases keepK l t with
    | true =>
      rw [Bool.not_true, cond_false, app_ok (by rw [List.length_map, List.length_singleton]; omega), Option.bind_some, wi64_id (by omega) (by omega), if_pos rfl, List.map_append]
      rfl
    | false =>
      rw [Bool.not_false, cond_true, wi64_id (by omega) (by omega), if_neg (by decide), List.append_nil]
      rfl
  · simp only
    rw [List.length_map, dec_false (show ¬ (l.length : Int) < (l.length : Int) by omega), cond_false]
    rfl
theorem col_other {p q r : Kn} : ((q.2 - p.2) * (r.1 - q.1) = (r.2 - q.2) * (q.1 - p.1)) ↔ colB p q r = true := by
  unfold colB
  rw [decide_eq_true_eq]
  constructor <;> intro h <;> grind
theorem written_ok {l : List Kn} {N : Nat} (hl : ∀ k, k ∈ l → KFit N k) (hN : N ≤ 1000000) (hlen : l.length ≤ 100) : trace_chart_written (l.map kQ) = some (if l.all kS then (l.map kF, 0) else ([], 8)) := by
  unfold trace_chart_written
  refine Option.bind_eq_some_iff.2 ⟨(if l.all kS then .inl (l.map kF) else .inr ([], 8)), ?_, by cases l.all kS <;> rfl⟩
  refine loopM_list_eq (X := Kn) (l := l) (fun l' s => ∃ pre, l = pre ++ l' ∧ s = ((pre.length : Int), pre.map kF) ∧ l.all kS = l'.all kS) ?_ ?_ ⟨[], rfl, rfl, rfl⟩
  · rintro k l' s ⟨pre, e1, rfl, e2⟩
    have hL : l.length = pre.length + (l'.length + 1) := by rw [e1, List.length_append, List.length_cons]
    have g1 : ∀ d, lget d (l.map kQ) (pre.length : Int) = kQ k := fun d => by rw [e1]; exact lget_map
    have hk := hl k (by rw [e1]; simp)
    rw [List.all_cons] at e2
    simp only
    rw [List.length_map, dec_true (show (pre.length : Int) < (l.length : Int) by omega), cond_true, chk_true (and_true' (dec_true (by omega)) rfl), g1]
    simp only [kQ]
    rw [small_ok hk.i (by omega), Option.bind_some, small_ok hk.o (by omega), Option.bind_some, first_ok (by simp), Option.bind_some, fracQ_small, fracQ_small]
    by_cases h : kS k = true
    · left
      have h' := h
      unfold kS at h'
      rw [Bool.and_eq_true] at h'
      rw [h, Bool.true_and] at e2
      rw [h'.1, h'.2, if_pos rfl, show firstE [(0 : Int), 0] = 0 from rfl, show ((0 : Int) != 0) = false from rfl, cond_false, app_ok (by rw [List.length_map, List.length_singleton]; omega), Option.bind_some, wi64_id (by omega) (by omega)]
      exact ⟨_, rfl, pre ++ [k], by rw [e1]; simp, by rw [List.length_append, List.length_singleton, List.map_append]; rfl, e2⟩
    · right
      rw [Bool.not_eq_true] at h
      rw [h, Bool.false_and] at e2
      rw [e2]
      have hf : firstE [if smallQ k.1 = true then (0 : Int) else 8, if smallQ k.2 = true then 0 else 8] = 8 := by
        unfold kS at h
        revert h
        cases smallQ k.1 <;> cases smallQ k.2 <;> simp [firstE]
      rw [hf]
      rfl
  · rintro s ⟨pre, e1, rfl, e2⟩
    have hL : l.length = pre.length := by rw [e1, List.append_nil]
    simp only
    rw [List.length_map, dec_false (show ¬ (pre.length : Int) < (l.length : Int) by omega), cond_false, e2, e1, List.append_nil]
    rfl
end Go.Lift
