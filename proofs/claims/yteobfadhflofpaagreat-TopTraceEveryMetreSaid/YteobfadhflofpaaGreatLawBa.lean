/-
  The law of maps there and back holds of the plain functions.
-/
import Derived.Test.YteobfadhflofpaaGreatLawVa
import Derived.Test.YteobfadhflofpaaGreatPlainX
import Derived.Test.YteobfadhflofpaaGreatFunBa
set_option linter.unusedSectionVars false
set_option linter.unusedVariables false
set_option linter.unusedSimpArgs false
namespace Go.Lift
open Go
theorem frQ_fq (q : Rat) : frQ (fq q) = q := by
  rw [← divInt_frQ]
  exact divInt_self q
theorem low_fq {q : Rat} : lowB (fq q) = true := by
  unfold lowB fq
  simp only
  have hd := q.den_pos
  rw [dec_true (show (q.den : Int) > 0 by omega), Bool.true_and, Int.natAbs_natCast, q.reduced]
  rfl
theorem kF_small {k : Kn} (h : kS k = true) : kF k = (fq k.1, fq k.2) ∧ kn (kF k) = k ∧ In64 (kF k).1 ∧ In64 (kF k).2 ∧ lowB (kF k).1 = true ∧ lowB (kF k).2 = true ∧ smallQ (frQ (kF k).1) = true ∧ smallQ (frQ (kF k).2) = true := by
  unfold kS at h
  rw [Bool.and_eq_true] at h
  have e : kF k = (fq k.1, fq k.2) := by
    unfold kF
    rw [fracQ_fq h.1, fracQ_fq h.2]
  have b : ∀ {q : Rat}, smallQ q = true → In64 (fq q) := fun {q} hq => by
    obtain ⟨h1, h2⟩ := small_parts hq
    have hd := q.den_pos
    exact ⟨by show _ ≤ q.num; omega, by show q.num < _; omega, by show _ ≤ (q.den : Int); omega, by show (q.den : Int) < _; omega⟩
  rw [e]
  refine ⟨rfl, ?_, b h.1, b h.2, low_fq, low_fq, ?_, ?_⟩
  · unfold kn
    rw [frQ_fq, frQ_fq]
  · rw [frQ_fq]; exact h.1
  · rw [frQ_fq]; exact h.2
theorem map_err {l : List Dapi_Span} (h : MapOk l) : mapE l = (0, 0) := by
  have h1 := h.chart.1
  rw [List.length_map] at h1
  have h2 := h.len
  unfold mapE
  rw [if_neg (by omega), if_neg (by omega)]
  have : findF (badE l) 0 l.length = none := findF_none.2 fun i _ hi => by
    have hi' : i < l.length := by omega
    obtain ⟨s1, s2, s3, s4⟩ := h.small _ (getS_mem hi')
    have e : errE (prevS l i) (getS l i) = 0 := by
      unfold errE
      rw [s1, s2, smB_small s1, smB_small s2, s3, s4, Bool.and_self, if_pos rfl, if_pos rfl]
      cases i with
      | zero => rfl
      | succ j =>
        have u := inc_get h.chart.2 (i := j) (j := j + 1) (by omega) (by rw [List.length_map]; exact hi')
        have g : ∀ i, i < l.length → getK (l.map kn) i = kn (getS l i) := fun i hi => by
          unfold getK getS
          rw [List.getD_eq_getElem?_getD, List.getD_eq_getElem?_getD, List.getElem?_map, List.getElem?_eq_getElem hi]
          rfl
        rw [g j (by omega), g (j + 1) hi'] at u
        have u1 : frQ (getS l j).1 < frQ (getS l (j + 1)).1 := u.1
        have u2 : frQ (getS l j).2 < frQ (getS l (j + 1)).2 := u.2
        exact if_neg (by rintro (e | e) <;> grind)
    unfold badE
    rw [if_pos e]
  rw [this]
  rfl
theorem small_map {S : List Kn} (hch : Chart S) (h12 : S.length ≤ 12) (hall : S.all kS = true) : MapOk (S.map kF) ∧ (S.map kF).map kn = S ∧ In64s (S.map kF) := by
  have hk : ∀ k, k ∈ S → kS k = true := fun k hk => List.all_eq_true.1 hall k hk
  have e : (S.map kF).map kn = S := by
    rw [List.map_map]
    conv => rhs; rw [← List.map_id S]
    exact List.map_congr_left fun k h => (kF_small (hk k h)).2.1
  refine ⟨⟨by rw [List.length_map]; exact h12, by rw [e]; exact hch, fun s hs => ?_⟩, e, fun s hs => ?_⟩
  · obtain ⟨k, h, rfl⟩ := List.mem_map.1 hs
    obtain ⟨_, _, _, _, h1, h2, h3, h4⟩ := kF_small (hk k h)
    exact ⟨h1, h2, h3, h4⟩
  · obtain ⟨k, h, rfl⟩ := List.mem_map.1 hs
    obtain ⟨_, _, h1, h2, _⟩ := kF_small (hk k h)
    exact ⟨h1, h2⟩
end Go.Lift
