/-
  The law of maps there and back holds of the plain functions.
-/
import Derived.Test.YtfihcmhknhbndaaGreatDoorLawVa
import Derived.Test.YtfihcmhknhbndaaGreatDoorPlainX
import Derived.Test.YtfihcmhknhbndaaGreatDoorFunBa
set_option linter.unusedSectionVars false
set_option linter.unusedVariables false
set_option linter.unusedSimpArgs false
namespace Go.Lift
open Go
theorem frQ_fq (q : Rat) : frQ (fq q) = q := by
  rw [← divInt_frQ]
  exact divInt_self q
theorem low_fq {q : Rat} : lowB (fq q) = true := by
  unfold lowB fq
  simp only
  have hd := q.den_pos
  rw [dec_true (show (q.den : Int) > 0 by omega), Bool.true_and, Int.natAbs_natCast, q.reduced]
  rfl
theorem kF_small {k : Kn} (h : kS k = true) : kF k = (fq k.1, fq k.2) ∧ kn (kF k) = k ∧ In64 (kF k).1 ∧ In64 (kF k).2 ∧ lowB (kF k).1 = true ∧ lowB (kF k).2 = true ∧ smallQ (frQ (kF k).1) = true ∧ smallQ (frQ (kF k).2) = true := by
  unfold kS at h
  rw [Bool.and_eq_true] at h
  have e : kF k = (fq k.1, fq k.2) := by
    unfold kF
    rw [fracQ_fq h.1, fracQ_fq h.2]
  have b : ∀ {q : Rat}, smallQ q = true → In64 (fq q) := fun {q} hq => by
    obtain ⟨h1, h2⟩ := small_parts hq
    have hd := q.den_pos
    exact ⟨by show _ ≤ q.num; omega, by show q.num < _; omega, by show _ ≤ (q.den : Int); omega, by show (q.den : Int) < _; omega⟩
  rw [e]
  refine ⟨rfl, ?_, b h.1, b h.2, low_fq, low_fq, ?_, ?_⟩
  · unfold kn
    rw [frQ_fq, frQ_fq]
  · rw [frQ_fq]; exact h.1
  · rw [frQ_fq]; exact h.2
theorem map_err {l : List Dapi_Span} (h : MapOk l) : mapE l = (0, 0) := by
  have h1 := h.chart.1
  rw [List.length_map] at h1
  have h2 := h.len
  unfold mapE
  rw [if_neg (by omega), if_neg (by omega)]
  have : findF (badE l) 0 l.length = none := findF_none.2 fun i _ hi => by
    have hi' : i < l.length := by omega
    obtain ⟨s1, s2, s3, s4⟩ := h.small _ (getS_mem hi')
    have e : errE (prevS l i) (getS l i) = 0 := by
      unfold errE
      rw [s1, s2, smB_small s1, smB_small s2, s3, s4, Bool.and_self, if_pos rfl, if_pos rfl]
      cases i with
      | zero => rfl
      | succ j =>
        have u := inc_get h.chart.2 (i := j) (j := j + 1) (by omega) (by rw [List.length_map]; exact hi')
        have g : ∀ i, i < l.length → getK (l.map kn) i = kn (getS l i) := fun i hi => by
          unfold getK getS
          rw [List.getD_eq_getElem?_getD, List.getD_eq_getElem?_getD, List.getElem?_map, List.getElem?_eq_getElem hi]
          rfl
        rw [g j (by omega), g (j + 1) hi'] at u
        have u1 : frQ (getS l j).1 < frQ (getS l (j + 1)).1 := u.1
        have u2 : frQ (getS l j).2 < frQ (getS l (j + 1)).2 := u.2
        exact if_neg (by rintro (e | e) <;> grind)
    unfold badE
    rw [if_pos e]
  rw [this]
  rfl
def swS (s : Dapi_Span) : Dapi_Span := (s.2, s.1)
theorem map_sw {l : List Dapi_Span} (h : MapOk l) : MapOk (l.map swS) ∧ (l.map swS).map kn = (l.map kn).map swK := by
  have e : (l.map swS).map kn = (l.map kn).map swK := by
    rw [List.map_map, List.map_map]
    rfl
  refine ⟨⟨by rw [List.length_map]; exact h.len, by rw [e]; exact chart_sw h.chart, fun s hs => ?_⟩, e⟩
  obtain ⟨s', hs', rfl⟩ := List.mem_map.1 hs
  obtain ⟨a, b, c, d⟩ := h.small s' hs'
  exact ⟨b, a, d, c⟩
theorem in64_sw {l : List Dapi_Span} (h : In64s l) : In64s (l.map swS) := fun s hs => by
  obtain ⟨s', hs', rfl⟩ := List.mem_map.1 hs
  exact ⟨(h s' hs').2, (h s' hs').1⟩
theorem sw_sw (l : List Dapi_Span) : (l.map swS).map swS = l := by
  rw [List.map_map]
  exact List.map_id' l
theorem at_knot {l : List Dapi_Span} (h : MapOk l) {s : Dapi_Span} (hs : s ∈ l) : atE l s.1 = (s.2, 0) := by
  obtain ⟨s1, s2, s3, s4⟩ := h.small s hs
  have hk : kn s ∈ l.map kn := List.mem_map.2 ⟨s, hs, rfl⟩
  have hv := h.chart.knot hk
  have e1 : (kn s).1 = frQ s.1 := rfl
  have e2 : (kn s).2 = frQ s.2 := rfl
  rw [e1, e2] at hv
  obtain ⟨i, hi, e⟩ := List.getElem_of_mem hk
  have eg : getK (l.map kn) i = kn s := by
    unfold getK
    rw [List.getD_eq_getElem?_getD, List.getElem?_eq_getElem hi]
    exact e
  have hin : (getK (l.map kn) 0).1 ≤ frQ s.1 ∧ frQ s.1 ≤ (getK (l.map kn) ((l.map kn).length - 1)).1 := by
    rw [← e1, ← eg]
    constructor
    · by_cases h0 : i = 0
      · rw [h0]; exact Rat.le_refl
      · exact Rat.le_of_lt (inc_get h.chart.2 (by omega) hi).1
    · by_cases h0 : i = (l.map kn).length - 1
      · rw [h0]; exact Rat.le_refl
      · exact Rat.le_of_lt (inc_get h.chart.2 (show i < (l.map kn).length - 1 by omega) (by omega)).1
  unfold atE
  rw [if_pos s1, if_pos hin, hv, fracE_fq s4, fq_frQ s2]
theorem half_ok {a : Dapi_TraceMap} (ia : In64s a) (h14 : a.length ≤ 14) : ((bif ((mapE a).2 == 0) then
        (r9_CopyMap a).bind fun (t_4 : Dapi_TraceMap) =>
        (trace_Inverse t_4).bind fun (r : Dapi_TraceMap × Int) =>
        (bif (r.2 != 0) then some true else
          (l9_fewMap r.1).bind fun (t_5 : Bool) =>
          some (!t_5)).bind fun (c_2 : Bool) =>
        bif c_2 then
          Option.map Sum.inr (
            some false)
        else
          (r9_CopyMap r.1).bind fun (t_6 : Dapi_TraceMap) =>
          (trace_Inverse t_6).bind fun (r_1 : Dapi_TraceMap × Int) =>
          (bif (r_1.2 != 0) then some true else
            (r9_SameMap r_1.1 a).bind fun (t_7 : Bool) =>
            some (!t_7)).bind fun (c_3 : Bool) =>
          bif (c_3 || ((List.length r.1 : Int) != (List.length a : Int))) then
            Option.map Sum.inr (
              some false)
          else
            (loopM (S := Int) (R := (Unit) ⊕ ((Unit) ⊕ (Bool))) (fun i =>
              bif decide (i < (List.length a : Int)) then
                (r9_CopyMap a).bind fun (t_8 : Dapi_TraceMap) =>
                chk (decide ((0 : Int) ≤ i) && decide (i < (List.length a : Int))) (
                  (trace_ValueAt t_8 ((lget ((0, 0), (0, 0)) a i).1)).bind fun (r_2 : Dapi_Frac × Int) =>
                  (r9_CopyMap r.1).bind fun (t_9 : Dapi_TraceMap) =>
                  chk (decide ((0 : Int) ≤ i) && decide (i < (List.length a : Int))) (
                    (trace_ValueAt t_9 ((lget ((0, 0), (0, 0)) a i).2)).bind fun (r_3 : Dapi_Frac × Int) =>
                    (bif (r_2.2 != 0) then some true else
                      chk (decide ((0 : Int) ≤ i) && decide (i < (List.length a : Int))) (
                        some (!(Ty.eqb Tapi_Frac r_2.1 ((lget ((0, 0), (0, 0)) a i).2))))).bind fun (c_4 : Bool) =>
                    (bif (c_4 || (r_3.2 != 0)) then some true else
                      chk (decide ((0 : Int) ≤ i) && decide (i < (List.length a : Int))) (
                        some (!(Ty.eqb Tapi_Frac r_3.1 ((lget ((0, 0), (0, 0)) a i).1))))).bind fun (c_5 : Bool) =>
                    bif c_5 then
                      Option.map Sum.inr (Option.map Sum.inr (
                        Option.map Sum.inr (
                          some false)))
                    else
                      some (.inl (wi64 (i + 1)))))
              else
                some (.inr (.inl ()))) 0).bind fun j => match j with
            | .inl _ => (
              some (.inl ()))
            | .inr r => some r
      else
        some (.inl ()) : Option ((Unit) ⊕ (Bool)))) = some (.inl ()) := by
  by_cases e : (mapE a).2 = 0
  · have hm := (map_ok e).2
    obtain ⟨hs, _⟩ := map_sw hm
    have is := in64_sw ia
    have es : (mapE (a.map swS)).2 = 0 := by rw [map_err hs]
    have h12 := hm.len
    have hl : (a.map swS).length = a.length := List.length_map _
    have i1 : trace_Inverse a = some (a.map swS, 0) := by rw [tInverse_ok ia, if_pos e]; rfl
    have i2 : trace_Inverse (a.map swS) = some (a, 0) := by
      rw [tInverse_ok is, if_pos es]
      have := sw_sw a
      exact congrArg (fun l => some (l, (0 : Int))) this
    rw [e, show ((0 : Int) == 0) = true from rfl, cond_true, CopyMap_ok h14, Option.bind_some, i1, Option.bind_some]
    simp only
    rw [show ((0 : Int) != 0) = false from rfl, cond_false, fewMap_ok, Option.bind_some, dec_true (show (a.map swS).length ≤ 14 by omega), Bool.not_true, Option.bind_some, cond_false, CopyMap_ok (show (a.map swS).length ≤ 14 by omega), Option.bind_some, i2, Option.bind_some]
    simp only
    rw [show ((0 : Int) != 0) = false from rfl, cond_false, SameMap_ok (by omega), Option.bind_some, Bool.not_true, Option.bind_some, hl, show ((List.length a : Int) != (List.length a : Int)) = false by simp, Bool.or_self, cond_false]
    refine Option.bind_eq_some_iff.2 ⟨.inl (), ?_, rfl⟩
    refine loopM_list_eq (X := Dapi_Span) (l := a) (fun l' s => ∃ pre, a = pre ++ l' ∧ s = (pre.length : Int)) ?_ ?_ ⟨[], rfl, rfl⟩
    · rintro k l' s ⟨pre, e1, rfl⟩
      left
      have hL : a.length = pre.length + (l'.length + 1) := by rw [e1, List.length_append, List.length_cons]
      have g1 : lget ((0, 0), (0, 0)) a (pre.length : Int) = k := by rw [e1]; exact lget_mid
      have hk : k ∈ a := by rw [e1]; simp
      have v1 : trace_ValueAt a k.1 = some (k.2, 0) := by rw [tValueAt_ok ia (ia k hk).1, if_pos e, at_knot hm hk]
      have hk2 : swS k ∈ a.map swS := List.mem_map.2 ⟨k, hk, rfl⟩
      have v2 : trace_ValueAt (a.map swS) k.2 = some (k.1, 0) := by
        rw [tValueAt_ok is (ia k hk).2, if_pos es]
        exact congrArg some (at_knot hs hk2)
      rw [dec_true (show (pre.length : Int) < (a.length : Int) by omega), cond_true, Option.bind_some, chk_true (and_true' (dec_true (by omega)) rfl), g1, v1, Option.bind_some, Option.bind_some, chk_true (and_true' (dec_true (by omega)) rfl), v2, Option.bind_some]
      simp only
      rw [show ((0 : Int) != 0) = false from rfl, cond_false, chk_true (and_true' (dec_true (by omega)) rfl), eqb_frac, Option.bind_some, Bool.not_true, Bool.or_self, cond_false, chk_true (and_true' (dec_true (by omega)) rfl), eqb_frac, Option.bind_some, Bool.not_true, cond_false, wi64_id (by omega) (by omega)]
      exact ⟨_, rfl, pre ++ [k], by rw [e1]; simp, by rw [List.length_append, List.length_singleton]; rfl⟩
    · rintro s ⟨pre, e1, rfl⟩
      have hL : a.length = pre.length := by rw [e1, List.append_nil]
      rw [dec_false (show ¬ (pre.length : Int) < (a.length : Int) by omega), cond_false]
  · rw [show ((mapE a).2 == 0) = false by rw [beq_eq_false_iff_ne]; exact e]
    rfl
theorem secs_p {l : List Sec} {p q p' q' : Rat} (hne : l ≠ []) (h : Secs p q l) (h' : Secs p' q' l) : p = p' := by
  cases l with
  | nil => exact absurd rfl hne
  | cons x l => rw [← h.1, ← h'.1]
theorem small_map {S : List Kn} (hch : Chart S) (h12 : S.length ≤ 12) (hall : S.all kS = true) : MapOk (S.map kF) ∧ (S.map kF).map kn = S ∧ In64s (S.map kF) := by
  have hk : ∀ k, k ∈ S → kS k = true := fun k hk => List.all_eq_true.1 hall k hk
  have e : (S.map kF).map kn = S := by
    rw [List.map_map]
    conv => rhs; rw [← List.map_id S]
    exact List.map_congr_left fun k h => (kF_small (hk k h)).2.1
  refine ⟨⟨by rw [List.length_map]; exact h12, by rw [e]; exact hch, fun s hs => ?_⟩, e, fun s hs => ?_⟩
  · obtain ⟨k, h, rfl⟩ := List.mem_map.1 hs
    obtain ⟨_, _, _, _, h1, h2, h3, h4⟩ := kF_small (hk k h)
    exact ⟨h1, h2, h3, h4⟩
  · obtain ⟨k, h, rfl⟩ := List.mem_map.1 hs
    obtain ⟨_, _, h1, h2, _⟩ := kF_small (hk k h)
    exact ⟨h1, h2⟩
theorem strips_comp {F M T : List Sec} {pF pM pT loM hiM loT hiT lo hi : Rat} (hF : Secs pF 0 F) (nF : F ≠ []) (hM : Secs pM 0 M) (nM : M ≠ []) (hT : Secs pT 0 T) (nT : T ≠ [])
    (iFM : (bs M).dropLast = (bs F).filter (inB pM (lastB pM M))) (oFM1 : On F pM loM) (oFM2 : On F (lastB pM M) hiM)
    (iMT : (bs T).dropLast = (bs M).filter (inB pT (lastB pT T))) (oMT1 : On M pT loT) (oMT2 : On M (lastB pT T) hiT)
    (iFT : (bs T).dropLast = (bs F).filter (inB pT (lastB pT T))) (oFT1 : On F pT lo) (oFT2 : On F (lastB pT T) hi)
    (lM : M.length ≤ 6) (lT : T.length ≤ 6) (aFM : (simpleK (knots F M pM)).all kS = true) (aMT : (simpleK (knots M T pT)).all kS = true) (aFT : (simpleK (knots F T pT)).all kS = true) :
    MapOk ((simpleK (knots F M pM)).map kF) ∧ MapOk ((simpleK (knots M T pT)).map kF) ∧ In64s ((simpleK (knots F M pM)).map kF) ∧ In64s ((simpleK (knots M T pT)).map kF) ∧
      trace_Composed ((simpleK (knots F M pM)).map kF) ((simpleK (knots M T pT)).map kF) = some ((simpleK (knots F T pT)).map kF, 0) := by
  obtain ⟨c1, f1, l1, v1⟩ := knots_val hF nF hM nM iFM oFM1 oFM2
  obtain ⟨c2, f2, l2, v2⟩ := knots_val hM nM hT nT iMT oMT1 oMT2
  obtain ⟨c3, f3, l3, v3⟩ := knots_val hF nF hT nT iFT oFT1 oFT2
  have kl : ∀ (A B : List Sec) (p : Rat), (knots A B p).length = B.length + 1 := fun A B p => by unfold knots bs; rw [List.length_map, List.length_cons, List.length_map]
  obtain ⟨s1, sv1, sf1, sl1, _, sn1⟩ := simple_ok c1
  obtain ⟨s2, sv2, sf2, sl2, _, sn2⟩ := simple_ok c2
  obtain ⟨s3, sv3, sf3, sl3, _, sn3⟩ := simple_ok c3
  rw [kl] at sn1 sn2 sn3
  obtain ⟨m1, e1, i1⟩ := small_map s1 (by omega) aFM
  obtain ⟨m2, e2, i2⟩ := small_map s2 (by omega) aMT
  refine ⟨m1, m2, i1, i2, ?_⟩
  have pMT : pM ≤ pT := (on_ge hM oMT1).1
  have bMT : lastB pT T ≤ lastB pM M := on_le_b hM oMT2
  have pbT : pT < lastB pT T := by
    have := bs_asc hT
    rw [bs_last (p := pT) nT] at this
    exact (List.pairwise_cons.1 this).1 _ (by simp)
  have onM : ∀ P, pT ≤ P → P ≤ lastB pT T → On M P (posS M P) := fun P h1 h2 => on_ex hM nM (by grind) (by grind)
  have onF : ∀ P, pT ≤ P → P ≤ lastB pT T → On F P (posS F P) := fun P h1 h2 => by
    have b1 := (on_ge hF oFT1).1
    have b2 := on_le_b hF oFT2
    exact on_ex hF nF (by grind) (by grind)
  have o0 := on_ex hM nM (P := pM) Rat.le_refl (by grind)
  have o1 := onM pT Rat.le_refl (by grind)
  have o2 := onM (lastB pT T) (by grind) Rat.le_refl
  have o3 := on_ex hM nM (P := lastB pM M) (by grind) Rat.le_refl
  have hlo : laterQ (getK (simpleK (knots F M pM)) 0).2 (getK (simpleK (knots M T pT)) 0).1 = posS M pT := by
    rw [sf1, sf2, f1, f2]
    have := (on_mono hM o0 o1).1 pMT
    unfold laterQ
    simp only
    split <;> grind
  have hhi : earlierQ (getK (simpleK (knots F M pM)) ((simpleK (knots F M pM)).length - 1)).2 (getK (simpleK (knots M T pT)) ((simpleK (knots M T pT)).length - 1)).1 = posS M (lastB pT T) := by
    rw [sl1, sl2, l1, l2]
    have := (on_mono hM o2 o3).1 bMT
    unfold earlierQ
    simp only
    split <;> grind
  have hlt : posS M pT < posS M (lastB pT T) := (on_lt hM o1 o2).1 pbT
  obtain ⟨_, t2⟩ := tComposed_ok i1 i2 m1 m2 (by rw [map_err m1]) (by rw [map_err m2])
  rw [e1, e2, hlo, hhi] at t2
  obtain ⟨B, hB, _, hc⟩ := t2 hlt
  rw [hc]
  have hhB : posS M (lastB pT T) ∈ B := (hB.mem _).2 (Or.inr ⟨hlt, Rat.le_refl, Or.inr ⟨getK (simpleK (knots M T pT)) ((simpleK (knots M T pT)).length - 1), getK_mem (by have := s2.1; omega), by rw [sl2, l2]⟩⟩)
  have back : ∀ P, pT ≤ P → P ≤ lastB pT T → valK ((simpleK (knots F M pM)).map swK) (posS M P) = posS F P := fun P h1 h2 => by
    have := s1.inv (posS F P)
    rwa [sv1, v1 P (by grind) (by grind)] at this
  obtain ⟨k1, k2, k3, k4⟩ := comp_val s1 s2 hB hlt (by rw [sf1, f1]; exact (on_mono hM o0 o1).1 pMT) (by rw [sf2, f2]; exact Rat.le_refl) (by rw [sl1, l1]; exact (on_mono hM o2 o3).1 bMT) (by rw [sl2, l2]; exact Rat.le_refl) hhB
  rw [back _ Rat.le_refl (by grind)] at k2 k4
  rw [back _ (by grind) Rat.le_refl] at k3 k4
  rw [sv2, v2 _ Rat.le_refl (by grind)] at k2
  rw [sv2, v2 _ (by grind) Rat.le_refl] at k3
  have hsame : simpleK (B.map fun p => ((valK ((simpleK (knots F M pM)).map swK) p, valK (simpleK (knots M T pT)) p) : Kn)) = simpleK (knots F T pT) := by
    refine simple_uniq k1.2 c3.2 k1.1 c3.1 (by rw [k2, f3]) (by rw [k3, l3]) fun q hq1 hq2 => ?_
    rw [k2] at hq1
    rw [k3] at hq2
    have hq1' : posS F pT ≤ q := hq1
    have hq2' : q ≤ posS F (lastB pT T) := hq2
    have oa := onF pT Rat.le_refl (by grind)
    have ob := onF (lastB pT T) (by grind) Rat.le_refl
    have hP := slabAt_on hF nF (Q := q) (by have := (on_ge hF oa).2.1; grind) (by have := on_le_last hF ob; grind)
    have p1 := (on_mono hF oa hP).2 hq1'
    have p2 := (on_mono hF hP ob).2 hq2'
    have eq := (posS_on hF hP).2
    rw [k4 q hq1' hq2', sv1, sv2, ← eq, v1 _ (by grind) (by grind), v2 _ p1 p2, v3 _ p1 p2]
  unfold finK
  rw [hsame, if_pos ⟨by omega, aFT⟩]
theorem TraceBack_ok {c : Dapi_TraceCourse} {x : Nat → Int} {a : Dapi_TraceMap} (hawake : l9_awake = some true) (hc : okv Tapi_TraceCourse c) (ha : okv Tapi_TraceMap a) : l9_TraceBack c x a = some true := by
  have ia := in64s_of ha
  unfold l9_TraceBack
  rw [hawake, Option.bind_some, Bool.not_true, cond_false]
  obtain ⟨b, hb, hb2⟩ := Few_ok (c := c)
  rw [hb, Option.bind_some]
  cases b with
  | false => rfl
  | true =>
    obtain ⟨h1, h2, h3, h5, h4⟩ := hb2 rfl
    have hin := courseIn_of hc h1 h2 h3 h5 h4
    rw [Bool.not_true, cond_false, fewMap_ok, Option.bind_some]
    by_cases h14 : a.length ≤ 14
    · rw [dec_true h14, Bool.not_true, Option.bind_some, cond_false, MapErr_ok ia, Option.bind_some]
      refine Option.bind_eq_some_iff.2 ⟨.inl (), half_ok ia h14, ?_⟩
      simp only
      obtain ⟨e, i, strips, q1, q2, q3⟩ := open_ok hin
      have hce : r9_CourseErr c = some e := by
        unfold r9_CourseErr
        rw [q2, Option.bind_some]
      rw [hce, Option.bind_some]
      by_cases he : e = 0
      · rw [he, show ((0 : Int) != 0) = false from rfl, cond_false, chk_true (and_true' (dec_true (by decide)) (dec_true (by decide))), chk_true (and_true' (dec_true (by decide)) (dec_true (by decide))), Within_ok, Option.bind_some, Option.bind_some]
        by_cases w0 : 0 ≤ aget x 0 ∧ aget x 0 ≤ aget x 1
        · rw [dec_true w0, Bool.not_true, cond_false, chk_true (and_true' (dec_true (by decide)) (dec_true (by decide))), chk_true (and_true' (dec_true (by decide)) (dec_true (by decide))), chk_true (and_true' (dec_true (by decide)) (dec_true (by decide))), Within_ok, Option.bind_some, Option.bind_some]
          by_cases w1 : aget x 0 ≤ aget x 1 ∧ aget x 1 ≤ aget x 2
          · rw [dec_true w1, Bool.not_true, cond_false, chk_true (and_true' (dec_true (by decide)) (dec_true (by decide))), Option.bind_some]
            by_cases w2 : aget x 2 > (c.2.2.2.length : Int)
            · rw [dec_true w2]; rfl
            · rw [dec_false w2, cond_false, CopyCourse_ok h1 h2 h3 h4, Option.bind_some, chk_true (and_true' (dec_true (by decide)) (dec_true (by decide))), chk_true (and_true' (dec_true (by decide)) (dec_true (by decide)))]
              obtain ⟨rfl, rfl, hv⟩ := q3 he
              rw [he] at q1
              generalize aget x 0 = x0 at *
              generalize aget x 1 = x1 at *
              generalize aget x 2 = x2 at *
              obtain ⟨k1, rfl⟩ : ∃ k : Nat, x0 = (k : Int) := ⟨x0.toNat, by omega⟩
              obtain ⟨d1, rfl⟩ : ∃ d : Nat, x1 = ((k1 + d : Nat) : Int) := ⟨(x1 - (k1 : Int)).toNat, by omega⟩
              obtain ⟨d2, rfl⟩ : ∃ d : Nat, x2 = ((k1 + d1 + d : Nat) : Int) := ⟨(x2 - ((k1 + d1 : Nat) : Int)).toNat, by omega⟩
              have hle : k1 + d1 + d2 ≤ c.2.2.2.length := by omega
              obtain ⟨pM, lo1, hi1, t1⟩ := two_ok hv (k1 := k1) (d := d1) (by omega)
              obtain ⟨pT, lo2, hi2, t2⟩ := two_ok hv (k1 := k1 + d1) (d := d2) hle
              obtain ⟨pT', lo3, hi3, t3⟩ := two_ok hv (k1 := k1) (d := d1 + d2) (by omega)
              have r3 := tMapOf_ok hv q1 (k1 := k1) (d := d1 + d2) (by omega) t3
              rw [← Nat.add_assoc] at t3 r3
              have r1 := tMapOf_ok hv q1 (k1 := k1) (d := d1) (by omega) t1
              have r2 := tMapOf_ok hv q1 (k1 := k1 + d1) (d := d2) hle t2
              have sF := hv.strip k1 (by omega)
              have sM := hv.strip (k1 + d1) (by omega)
              have sT := hv.strip (k1 + d1 + d2) hle
              obtain ⟨pF, hF⟩ := sF.secs
              have ep := secs_p sT.ne t3.hp t2.hp
              subst ep
              rw [r3, Option.bind_some, Option.bind_some, chk_true (and_true' (dec_true (by decide)) (dec_true (by decide))), chk_true (and_true' (dec_true (by decide)) (dec_true (by decide))), r1, Option.bind_some, Option.bind_some, chk_true (and_true' (dec_true (by decide)) (dec_true (by decide))), chk_true (and_true' (dec_true (by decide)) (dec_true (by decide))), r2, Option.bind_some]
              have key := strips_comp (lo := lo3) (hi := hi3) hF sF.ne t1.hp sM.ne t2.hp sT.ne t1.inner t1.onlo t1.onhi t2.inner t2.onlo t2.onhi t3.inner t3.onlo t3.onhi sM.len sT.len
              have hlen3 : (simpleK (knots (stS c k1) (stS c (k1 + d1 + d2)) pT')).length ≤ 7 := by
                have := preK_len (knots (stS c k1) (stS c (k1 + d1 + d2)) pT') (knots (stS c k1) (stS c (k1 + d1 + d2)) pT').length
                have kl : (knots (stS c k1) (stS c (k1 + d1 + d2)) pT').length = (stS c (k1 + d1 + d2)).length + 1 := by unfold knots bs; rw [List.length_map, List.length_cons, List.length_map]
                have := sT.len
                unfold simpleK
                omega
              cases a1 : (simpleK (knots (stS c k1) (stS c (k1 + d1)) pM)).all kS with
              | false => cases (simpleK (knots (stS c k1) (stS c (k1 + d1 + d2)) pT')).all kS <;> cases (simpleK (knots (stS c (k1 + d1)) (stS c (k1 + d1 + d2)) pT')).all kS <;> rfl
              | true =>
                cases a2 : (simpleK (knots (stS c (k1 + d1)) (stS c (k1 + d1 + d2)) pT')).all kS with
                | false => cases (simpleK (knots (stS c k1) (stS c (k1 + d1 + d2)) pT')).all kS <;> rfl
                | true =>
                  cases a3 : (simpleK (knots (stS c k1) (stS c (k1 + d1 + d2)) pT')).all kS with
                  | false => rfl
                  | true =>
                    obtain ⟨m1, m2, i1, i2, hcomp⟩ := key a1 a2 a3
                    have l1 := m1.len
                    have l2 := m2.len
                    simp only [if_true]
                    rw [show (((0 : Int) != 0 || (0 : Int) != 0) || (0 : Int) != 0) = false from rfl, cond_false, fewMap_ok, Option.bind_some, fewMap_ok, fewMap_ok, dec_true (show ((simpleK (knots (stS c k1) (stS c (k1 + d1 + d2)) pT')).map kF).length ≤ 14 by rw [List.length_map]; omega), Bool.not_true, cond_false, Option.bind_some, dec_true (show ((simpleK (knots (stS c k1) (stS c (k1 + d1)) pM)).map kF).length ≤ 14 by omega), Bool.not_true, Option.bind_some, cond_false, Option.bind_some, dec_true (show ((simpleK (knots (stS c (k1 + d1)) (stS c (k1 + d1 + d2)) pT')).map kF).length ≤ 14 by omega), Bool.not_true, Option.bind_some, cond_false, MapErr_ok i1, Option.bind_some, map_err m1, Option.bind_some, show ((0 : Int) != 0) = false from rfl, cond_false, MapErr_ok i2, Option.bind_some, map_err m2, Option.bind_some, show ((0 : Int) != 0) = false from rfl, cond_false, CopyMap_ok (by omega), Option.bind_some, CopyMap_ok (by omega), Option.bind_some, hcomp, Option.bind_some]
                    simp only
                    rw [show ((0 : Int) == 0) = true from rfl, cond_true, SameMap_ok (by rw [List.length_map]; omega)]
                    rfl
          · rw [dec_false w1]; rfl
        · rw [dec_false w0]; rfl
      · rw [show (e != 0) = true by rw [bne_iff_ne]; exact he]
        rfl
    · rw [dec_false h14]; rfl
end Go.Lift
