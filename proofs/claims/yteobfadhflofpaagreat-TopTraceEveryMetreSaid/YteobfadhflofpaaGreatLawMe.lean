/-
  The law of every metre holds of the plain functions.
-/
import Derived.Test.YteobfadhflofpaaGreatPlainY
import Derived.Test.YteobfadhflofpaaGreatLawBa
import Derived.Test.YteobfadhflofpaaGreatLawEv
import Derived.Test.YteobfadhflofpaaGreatFunMe
set_option linter.unusedSectionVars false
set_option linter.unusedVariables false
set_option linter.unusedSimpArgs false
namespace Go.Lift
open Go
theorem slab_loop {A B : Rat} (hA : FitT 2 A) (hB : FitT 2 B) {l k : List Int} (hlen : l.length ≤ 8) (hk : l.length = k.length) (hok : okLA l k = true) :
    loopM (S := Int × Int × Db0_Ratio) (R := Db0_Ratio) (fun s_1 =>
    let at_ : Int := s_1.1
    let i : Int := s_1.2.1
    let sum : Db0_Ratio := s_1.2.2
    bif decide (i < (List.length l : Int)) then
      (b0_RatioInt at_).bind fun (t_3 : Db0_Ratio) =>
      chk (decide ((0 : Int) ≤ i) && decide (i < (List.length l : Int))) (
        (b0_RatioInt (wi64 (at_ + (lget 0 l i)))).bind fun (t_4 : Db0_Ratio) =>
        chk (decide ((0 : Int) ≤ i) && decide (i < (List.length l : Int))) (
          let at__1 : Int := wi64 (at_ + (lget 0 l i))
          (b0_RatioCmp t_3 (ratioW A)).bind fun (t_5 : Int) =>
          (bif decide (t_5 < 0) then
            some (ratioW A)
          else
            some t_3).bind fun (a : Db0_Ratio) =>
          (b0_RatioCmp t_4 (ratioW B)).bind fun (t_6 : Int) =>
          (bif decide (t_6 > 0) then
            some (ratioW B)
          else
            some t_4).bind fun (b : Db0_Ratio) =>
          (b0_RatioCmp a b).bind fun (t_7 : Int) =>
          (bif decide (t_7 < 0) then
            (b0_RatioSub b a).bind fun (t_8 : Db0_Ratio) =>
            chk (decide ((0 : Int) ≤ i) && decide (i < (List.length k : Int))) (
              (b0_RatioInt (lget 0 k i)).bind fun (t_9 : Db0_Ratio) =>
              (b0_RatioMul t_8 t_9).bind fun (t_10 : Db0_Ratio) =>
              (b0_RatioAdd sum t_10).bind fun (t_11 : Db0_Ratio) =>
              some t_11)
          else
            some sum).bind fun (sum_1 : Db0_Ratio) =>
          some (.inl (at__1, wi64 (i + 1), sum_1))))
    else
      some (.inr sum)) (0, 0, ratioW 0) = some (ratioW (slabV A B (slabS 0 l k))) ∧ FitT 100 (slabV A B (slabS 0 l k)) := by
  have key := loopM_list (X := Int) (S := Int × Int × Db0_Ratio) (R := Db0_Ratio) (f := fun s_1 =>
    let at_ : Int := s_1.1
    let i : Int := s_1.2.1
    let sum : Db0_Ratio := s_1.2.2
    bif decide (i < (List.length l : Int)) then
      (b0_RatioInt at_).bind fun (t_3 : Db0_Ratio) =>
      chk (decide ((0 : Int) ≤ i) && decide (i < (List.length l : Int))) (
        (b0_RatioInt (wi64 (at_ + (lget 0 l i)))).bind fun (t_4 : Db0_Ratio) =>
        chk (decide ((0 : Int) ≤ i) && decide (i < (List.length l : Int))) (
          let at__1 : Int := wi64 (at_ + (lget 0 l i))
          (b0_RatioCmp t_3 (ratioW A)).bind fun (t_5 : Int) =>
          (bif decide (t_5 < 0) then
            some (ratioW A)
          else
            some t_3).bind fun (a : Db0_Ratio) =>
          (b0_RatioCmp t_4 (ratioW B)).bind fun (t_6 : Int) =>
          (bif decide (t_6 > 0) then
            some (ratioW B)
          else
            some t_4).bind fun (b : Db0_Ratio) =>
          (b0_RatioCmp a b).bind fun (t_7 : Int) =>
          (bif decide (t_7 < 0) then
            (b0_RatioSub b a).bind fun (t_8 : Db0_Ratio) =>
            chk (decide ((0 : Int) ≤ i) && decide (i < (List.length k : Int))) (
              (b0_RatioInt (lget 0 k i)).bind fun (t_9 : Db0_Ratio) =>
              (b0_RatioMul t_8 t_9).bind fun (t_10 : Db0_Ratio) =>
              (b0_RatioAdd sum t_10).bind fun (t_11 : Db0_Ratio) =>
              some t_11)
          else
            some sum).bind fun (sum_1 : Db0_Ratio) =>
          some (.inl (at__1, wi64 (i + 1), sum_1))))
    else
      some (.inr sum))
    (fun l' s => ∃ (pre kpre k' : List Int) (t : Int) (q : Rat), l = pre ++ l' ∧ k = kpre ++ k' ∧ kpre.length = pre.length ∧ k'.length = l'.length ∧ s = (t, (pre.length : Int), ratioW q) ∧ okLA l' k' = true ∧ 0 ≤ t ∧ t ≤ 20000 * (pre.length : Int) ∧
      FitT (2 + 8 * pre.length) q ∧ slabV A B (slabS 0 l k) = q + slabV A B (slabS t l' k'))
    (fun r => r = ratioW (slabV A B (slabS 0 l k)) ∧ FitT 100 (slabV A B (slabS 0 l k))) ?_ ?_ (l := l) (s := (0, 0, ratioW 0)) ⟨[], [], k, 0, 0, rfl, rfl, rfl, hk.symm, rfl, hok, Int.le_refl _, by simp, fitT_zero.mono (by decide), by rw [Rat.zero_add]⟩
  · obtain ⟨r, h1, h2, h3⟩ := key
    rw [h1, h2]
    exact ⟨rfl, h3⟩
  · rintro n l' s ⟨pre, kpre, k', t, q, e1, e2, e3, e4, rfl, hlk, ht0, ht1, hq, hV⟩
    left
    cases k' with
    | nil => simp at e4
    | cons m k' =>
      have hL : l.length = pre.length + (l'.length + 1) := by rw [e1, List.length_append, List.length_cons]
      have hK : k.length = pre.length + (k'.length + 1) := by rw [e2, List.length_append, List.length_cons, e3]
      have g1 : lget 0 l (pre.length : Int) = n := by rw [e1]; exact lget_mid
      have g2 : lget 0 k (pre.length : Int) = m := by rw [e2, ← e3]; exact lget_mid
      unfold okLA at hlk
      simp only [Bool.and_eq_true, decide_eq_true_eq] at hlk
      obtain ⟨⟨hn, hm⟩, hlk⟩ := hlk
      have w : wi64 (t + n) = t + n := wi64_id (by omega) (by omega)
      have f1 : FitT 2 (t : Rat) := fitT_int (by omega) (by omega)
      have f2 : FitT 2 ((t + n : Int) : Rat) := fitT_int (by omega) (by omega)
      have f3 : FitT 2 (m : Rat) := fitT_int (by omega) (by omega)
      have fa : FitT 2 (laterQ (t : Rat) A) := by unfold laterQ; split <;> assumption
      have fb : FitT 2 (earlierQ ((t + n : Int) : Rat) B) := by unfold earlierQ; split <;> assumption
      have hb1 : (bif decide ((t : Rat) < A) then some (ratioW A) else some (ratioW (t : Rat))) = some (ratioW (laterQ (t : Rat) A)) := by
        unfold laterQ
        by_cases h : (t : Rat) < A
        · rw [dec_true h, if_pos h]; rfl
        · rw [dec_false h, if_neg h]; rfl
      have hb2 : (bif decide (B < ((t + n : Int) : Rat)) then some (ratioW B) else some (ratioW ((t + n : Int) : Rat))) = some (ratioW (earlierQ ((t + n : Int) : Rat) B)) := by
        unfold earlierQ
        by_cases h : B < ((t + n : Int) : Rat)
        · rw [dec_true h, if_pos h]; rfl
        · rw [dec_false h, if_neg h]; rfl
      simp only
      rw [dec_true (show (pre.length : Int) < (l.length : Int) by omega), cond_true, RatioInt_ok (by omega) (by omega), Option.bind_some, chk_true (and_true' (dec_true (by omega)) rfl), g1, w, RatioInt_ok (by omega) (by omega), Option.bind_some, chk_true (and_true' (dec_true (by omega)) rfl), RatioCmp_ok f1 hA (by decide), Option.bind_some, cmp_lt0, hb1, Option.bind_some, RatioCmp_ok f2 hB (by decide), Option.bind_some, cmp_gt0, hb2, Option.bind_some, RatioCmp_ok fa fb (by decide), Option.bind_some, cmp_lt0, g2]
      have hsl : slabV A B (slabS t (n :: l') (m :: k')) = ovl A B ⟨(t : Rat), ((t + n : Int) : Rat), (t : Rat), ((t + n : Int) : Rat), m, m⟩ + slabV A B (slabS (t + n) l' k') := rfl
      rw [hsl] at hV
      by_cases hlt : laterQ (t : Rat) A < earlierQ ((t + n : Int) : Rat) B
      · have ho : ovl A B ⟨(t : Rat), ((t + n : Int) : Rat), (t : Rat), ((t + n : Int) : Rat), m, m⟩ = (earlierQ ((t + n : Int) : Rat) B - laterQ (t : Rat) A) * (m : Rat) := if_pos hlt
        rw [ho] at hV
        obtain ⟨a1, a2⟩ := RatioSub_ok fb fa (by decide)
        obtain ⟨b1, b2⟩ := RatioMul_ok a2 f3 (by decide)
        obtain ⟨c1, c2⟩ := RatioAdd_ok hq b2 (by omega)
        rw [dec_true hlt, cond_true, a1, Option.bind_some, chk_true (and_true' (dec_true (by omega)) (dec_true (by omega))), RatioInt_ok (by omega) (by omega), Option.bind_some, b1, Option.bind_some, c1, Option.bind_some, Option.bind_some, wi64_id (by omega) (by omega)]
        refine ⟨_, rfl, pre ++ [n], kpre ++ [m], k', t + n, _, by rw [e1]; simp, by rw [e2]; simp, by simp [e3], by simpa using e4, ?_, hlk, by omega, by rw [List.length_append, List.length_singleton]; omega, c2.mono (by rw [List.length_append, List.length_singleton]; omega), by rw [hV]; grind⟩
        rw [List.length_append, List.length_singleton]
        rfl
      · have ho : ovl A B ⟨(t : Rat), ((t + n : Int) : Rat), (t : Rat), ((t + n : Int) : Rat), m, m⟩ = 0 := if_neg hlt
        rw [ho, Rat.zero_add] at hV
        rw [dec_false hlt, cond_false, Option.bind_some, wi64_id (by omega) (by omega)]
        refine ⟨_, rfl, pre ++ [n], kpre ++ [m], k', t + n, q, by rw [e1]; simp, by rw [e2]; simp, by simp [e3], by simpa using e4, ?_, hlk, by omega, by rw [List.length_append, List.length_singleton]; omega, hq.mono (by rw [List.length_append, List.length_singleton]; omega), hV⟩
        rw [List.length_append, List.length_singleton]
        rfl
  · rintro s ⟨pre, kpre, k', t, q, e1, e2, e3, e4, rfl, hlk, ht0, ht1, hq, hV⟩
    have hL : l.length = pre.length := by rw [e1, List.append_nil]
    have hk0 : k' = [] := List.length_eq_zero_iff.1 (by simpa using e4)
    subst hk0
    have hz : slabV A B (slabS t [] []) = 0 := rfl
    rw [hz, Rat.add_zero] at hV
    refine ⟨ratioW q, ?_, by rw [hV], by rw [hV]; exact hq.mono (by omega)⟩
    simp only
    rw [dec_false (show ¬ (pre.length : Int) < (l.length : Int) by omega), cond_false]
theorem traceVolume_ok {c : Dapi_TraceCourse} (hv : Valid c) (h8 : c.2.1.length ≤ 8) {A B : Rat} (hA : smallQ A = true) (hB : smallQ B = true) :
    cobbletop_traceVolume c (fq A, fq B) = some (ratioW (slabV A B (stS c 0))) ∧ FitT 100 (slabV A B (stS c 0)) := by
  obtain ⟨h1, h2⟩ := slab_loop (fit_small hA).2 (fit_small hB).2 h8 hv.len hv.la
  rw [stS_zero]
  unfold cobbletop_traceVolume
  simp only
  rw [RatioFrom_fq hA, Option.bind_some, RatioFrom_fq hB, Option.bind_some, RInt0, Option.bind_some, h1, Option.bind_some]
  exact ⟨rfl, h2⟩
theorem small_cst {a : Nat} (h : a ≤ 1000000000) : smallQ (cst a) = true := by
  unfold smallQ cst
  rw [Rat.num_intCast, Rat.den_intCast, dec_true (show ((a : Int)).natAbs ≤ 1000000000 by omega)]
  rfl
theorem fq_cst (a : Nat) : fq (cst a) = ((a : Int), 1) := by
  unfold fq cst
  rw [Rat.num_intCast, Rat.den_intCast]
  rfl
def clampM (M : Rat) (a : Nat) : Rat := if M < cst a then M else cst a
theorem TopTraceEveryMetre_ok {c : Dapi_TraceCourse} {n : Int} (hawake : cobbletop_traceAwake = some true) (hc : okv Tapi_TraceCourse c) : cobbletop_TopTraceEveryMetre c n = some true := by
  unfold cobbletop_TopTraceEveryMetre
  rw [hawake, Option.bind_some, Bool.not_true, cond_false]
  obtain ⟨b, hb, hb2⟩ := Few_ok (c := c)
  rw [hb, Option.bind_some]
  cases b with
  | false => rfl
  | true =>
    obtain ⟨h1, h2, h3, h5, h4⟩ := hb2 rfl
    have hin := courseIn_of hc h1 h2 h3 h5 h4
    obtain ⟨e, i, strips, o1, o2, o3⟩ := open_ok hin
    obtain ⟨e', strips', q1, q2, q3⟩ := opened_ok hin
    have hce : r9_CourseErr c = some e := by
      unfold r9_CourseErr
      rw [o2, Option.bind_some]
    obtain rfl : e' = e := by rw [hce] at q2; exact (Option.some.inj q2).symm
    rw [Bool.not_true, cond_false, hce, Option.bind_some, Option.bind_some]
    by_cases he : e' = 0
    · subst he
      obtain ⟨rfl, rfl, hv⟩ := o3 rfl
      obtain ⟨rfl, _⟩ := q3 rfl
      have hst := hv.steps
      rw [show ((0 : Int) != 0) = false from rfl, cond_false, Within_ok, Option.bind_some, Option.bind_some]
      by_cases hn : 1 ≤ n ∧ n ≤ 1000000
      · obtain ⟨k, rfl⟩ : ∃ k : Nat, n = (k : Int) := ⟨n.toNat, by omega⟩
        have hk1 : 1 ≤ k := by omega
        have hk2 : k ≤ 1000000 := by omega
        obtain ⟨L, e, r1, r2⟩ := Pieces_ok hv q1 hk1 hk2
        have hMs := endM_small hv
        have hM0 := endM_pos hv
        obtain ⟨p, lo, hi, ht⟩ := two_ok hv (k1 := 0) (d := c.2.2.2.length) (by omega)
        have hmap := tMapOf_ok hv o1 (k1 := 0) (d := c.2.2.2.length) (by omega) ht
        rw [Nat.zero_add] at ht hmap
        have hmap0 : trace_MapOf c 0 (c.2.2.2.length : Int) = _ := hmap
        have hvol := VolumeAfter_ok hv o1 (k := c.2.2.2.length) (Nat.le_refl _)
        have hlen := LengthAfter_ok hv o1 (k := c.2.2.2.length) (Nat.le_refl _)
        have hlen' : fracE (lastV 0 (stS c c.2.2.2.length)) = (fq (endM c), 0) := fracE_fq hMs
        rw [hlen'] at hlen
        simp only
        rw [dec_true hn, Bool.not_true, cond_false, CopyCourse_ok h1 h2 h3 h4, Option.bind_some, r1, Option.bind_some, Option.bind_some, hmap0, Option.bind_some, Option.bind_some, hvol, Option.bind_some, Option.bind_some, hlen, Option.bind_some]
        have sF := hv.strip 0 (by omega)
        have sT := hv.strip c.2.2.2.length (Nat.le_refl _)
        have lT := sT.len
        obtain ⟨pF, hF⟩ := sF.secs
        obtain ⟨c1, k0, kl, v1⟩ := knots_val hF sF.ne ht.hp sT.ne ht.inner ht.onlo ht.onhi
        obtain ⟨s1, sv, sf, sl, _, sn⟩ := simple_ok c1
        have hp := ht.hp
        have idF : ∀ P, p ≤ P → P ≤ lastB p (stS c c.2.2.2.length) → posS (stS c 0) P = P := fun P g1 g2 => by
          have b1 := (on_ge hF ht.onlo).1
          have b2 := on_le_b hF ht.onhi
          exact (on_slab hv (on_ex hF sF.ne (show pF ≤ P by grind) (by grind))).symm
        have knl : (knots (stS c 0) (stS c c.2.2.2.length) p).length = (stS c c.2.2.2.length).length + 1 := by unfold knots bs; rw [List.length_map, List.length_cons, List.length_map]
        have pbT : p ≤ lastB p (stS c c.2.2.2.length) := lastB_ge hp
        have hvalue : ∀ q, 0 ≤ q → q ≤ endM c → p ≤ endA c q ∧ endA c q ≤ lastB p (stS c c.2.2.2.length) ∧ valK (simpleK (knots (stS c 0) (stS c c.2.2.2.length) p)) (endA c q) = q := fun q g1 g2 => by
          have hon := slabAt_on hp sT.ne (Q := q) g1 g2
          have e1 := (on_ge hp hon).1
          have e2 := on_le_b hp hon
          refine ⟨e1, e2, ?_⟩
          have e3 := v1 _ e1 e2
          rw [idF _ e1 e2, (posS_on hp hon).2] at e3
          rw [sv]
          exact e3
        have hends : (getK (simpleK (knots (stS c 0) (stS c c.2.2.2.length) p)) 0).1 = p ∧ (getK (simpleK (knots (stS c 0) (stS c c.2.2.2.length) p)) ((simpleK (knots (stS c 0) (stS c c.2.2.2.length) p)).length - 1)).1 = lastB p (stS c c.2.2.2.length) := by
          rw [sf, sl, k0, kl]
          exact ⟨idF p Rat.le_refl pbT, idF _ pbT Rat.le_refl⟩
        have hA0 : endA c 0 = p := by
          have := slabAt_on hp sT.ne (Q := 0) Rat.le_refl (endM_nonneg hv)
          exact on_inj hp this (on_begin hp sT.ne)
        have hAM : endA c (endM c) = lastB p (stS c c.2.2.2.length) := by
          have := slabAt_on hp sT.ne (Q := endM c) (endM_nonneg hv) Rat.le_refl
          exact on_inj hp this (on_end hp sT.ne)
        have hsl7 : (simpleK (knots (stS c 0) (stS c c.2.2.2.length) p)).length ≤ 7 := by omega
        have hvolS : volS (stS c c.2.2.2.length) = slabV p (lastB p (stS c c.2.2.2.length)) (stS c 0) := by
          refine vol_slab hF (fun s hs => ?_) hp (inSlab_ok hv _ (Nat.le_refl _))
          rw [stS_zero] at hs
          exact (slab_same hs).2
        have habF : ∀ y, y ∈ stS c 0 → y.a < y.b := fun y hy => (chain_ok hF y hy).ab
        generalize hS : simpleK (knots (stS c 0) (stS c c.2.2.2.length) p) = S at *
        have hvE : fracE (volS (stS c c.2.2.2.length)) = if smallQ (volS (stS c c.2.2.2.length)) = true then (fq (volS (stS c c.2.2.2.length)), 0) else ((0, 0), 8) := by
          by_cases g : smallQ (volS (stS c c.2.2.2.length)) = true
          · rw [if_pos g, fracE_fq g]
          · rw [if_neg g]
            unfold fracE fracQ
            rw [if_neg g]
            rfl
        rw [hvE]
        rcases r2 with ⟨r2, rfl⟩ | ⟨rfl, hpc, hL51, hM1, hM50⟩
        · cases S.all kS <;> cases smallQ (volS (stS c c.2.2.2.length)) <;> rcases r2 with rfl | rfl <;> rfl
        cases hall : S.all kS with
        | false => cases smallQ (volS (stS c c.2.2.2.length)) <;> rfl
        | true =>
        cases hvs : smallQ (volS (stS c c.2.2.2.length)) with
        | false => rfl
        | true =>
        simp only [if_true]
        obtain ⟨mok, mkn, min⟩ := small_map s1 (by omega) hall
        have m12 := mok.len
        have hL0 : L.length ≠ 0 := fun e => by rw [e, Nat.zero_mul, cst_zero] at hM1; grind
        have hget : ∀ i, i < L.length → ∃ x, L[i]? = some x ∧ PcOk c k i x := fun i hi => ⟨L[i], List.getElem?_eq_getElem hi, hpc i _ (List.getElem?_eq_getElem hi)⟩
        have hlast : cst ((L.length - 1) * k) < endM c := by
          obtain ⟨x, _, hx⟩ := hget (L.length - 1) (by omega)
          exact hx.1
        have hL50 : L.length ≤ 50 := by
          have h1 : cst ((L.length - 1) * k) < cst (50 * k) := by grind
          rw [cst_lt] at h1
          have := Nat.lt_of_mul_lt_mul_right h1
          omega
        have hlg : ∀ i, i < L.length → ∃ x, lget ((0, 0), (0, 0)) L (i : Int) = x ∧ PcOk c k i x := fun i hi => by
          obtain ⟨x, h1, h2⟩ := hget i hi
          refine ⟨x, ?_, h2⟩
          unfold lget
          rw [Int.toNat_natCast, List.getD_eq_getElem?_getD, h1]; rfl
        have hin64 : ∀ {q : Rat}, smallQ q = true → In64 (fq q) := fun {q} hq => by
          obtain ⟨g1, g2⟩ := small_parts hq
          have hd := q.den_pos
          exact ⟨by show _ ≤ q.num; omega, by show q.num < _; omega, by show _ ≤ (q.den : Int); omega, by show (q.den : Int) < _; omega⟩
        have hat : ∀ q, 0 ≤ q → q ≤ endM c → smallQ q = true → smallQ (endA c q) = true → trace_ValueAt (S.map kF) (fq (endA c q)) = some (fq q, 0) := fun q g1 g2 g3 g4 => by
          obtain ⟨p1, p2, p3⟩ := hvalue q g1 g2
          rw [tValueAt_ok min (hin64 g4), if_pos (by rw [map_err mok])]
          unfold atE
          rw [if_pos low_fq, mkn, frQ_fq, if_pos (by rw [hends.1, hends.2]; exact ⟨p1, p2⟩), p3, fracE_fq g3]
        rw [show (((0 : Int) != 0 || (0 : Int) != 0) || (0 : Int) != 0) = false from rfl, show ((0 : Int) != 0) = false from rfl, Bool.or_self, cond_false, show ((L.length : Int) == 0) = false by rw [beq_eq_false_iff_ne]; omega, dec_false (show ¬ (L.length : Int) > 50 by omega), dec_false (show ¬ ((S.map kF).length : Int) > 12 by omega), Bool.or_self, Bool.or_self, cond_false, MapErr_ok min, Option.bind_some, map_err mok, Option.bind_some, show ((0 : Int) != 0) = false from rfl, cond_false, fq_low hvs, Option.bind_some, Option.bind_some, Bool.not_true, cond_false, fq_small hvs, Option.bind_some, Option.bind_some, Bool.not_true, cond_false, fq_low hMs, Option.bind_some, Option.bind_some, Bool.not_true, cond_false, fq_small hMs, Option.bind_some, Option.bind_some, Bool.not_true, cond_false, RInt0, Option.bind_some]
        have hcl0 : clampM (endM c) (0 * k) = 0 := by
          unfold clampM
          rw [Nat.zero_mul, cst_zero, if_neg (by grind)]
        have hclL : clampM (endM c) (L.length * k) = endM c := by
          unfold clampM
          split <;> grind
        have hps : smallQ p = true := by
          obtain ⟨x, _, hx⟩ := hget 0 (by omega)
          have := hx.2.1
          rwa [Nat.zero_mul, cst_zero, hA0] at this
        have hbig : L.length * k ≤ 50 * 1000000 := Nat.mul_le_mul hL50 hk2
        rw [show ratioW 0 = ratioW (slabV p (endA c (clampM (endM c) (0 * k))) (stS c 0)) by rw [hcl0, hA0, slabV_self]]
        refine Option.bind_eq_some_iff.2 ⟨.inl (ratioW (slabV p (endA c (clampM (endM c) (L.length * k))) (stS c 0))), loopM_count (fun i => ((i : Int), ratioW (slabV p (endA c (clampM (endM c) (i * k))) (stS c 0)))) L.length (fun i hi => ?_) ?_, ?_⟩
        · obtain ⟨x, g1, x1, x2, x3, x4⟩ := hlg i hi
          have hik : cst (i * k) < pcEnd (endM c) k i := pcEnd_gt hk1 x1
          have h0i := cst_nonneg (i * k)
          have hmono : endA c (cst (i * k)) ≤ endA c (pcEnd (endM c) k i) := (A_mono hv (q := cst (i * k)) (q' := pcEnd (endM c) k i) h0i (by grind) (by grind) pcEnd_le).2 (Rat.le_of_lt hik)
          have hcli : clampM (endM c) (i * k) = cst (i * k) := by
            unfold clampM
            rw [if_neg (by grind)]
          have him : (i + 1) * k ≤ L.length * k := Nat.mul_le_mul_right k (by omega)
          have him0 : i * k ≤ (i + 1) * k := Nat.mul_le_mul_right k (by omega)
          have hpe : smallQ (pcEnd (endM c) k i) = true := by
            unfold pcEnd
            split
            · exact hMs
            · exact small_cst (by omega)
          have hlo := hat (cst (i * k)) h0i (by grind) (small_cst (by omega)) x2
          have hhi := hat (pcEnd (endM c) k i) (by grind) pcEnd_le hpe x3
          have hw1 : wi64 (wi64 ((i : Int) + 1) * (k : Int)) = (((i + 1) * k : Nat) : Int) := by
            rw [wi64_id (x := (i : Int) + 1) (by omega) (by omega)]
            have : ((i : Int) + 1) * (k : Int) = (((i + 1) * k : Nat) : Int) := by rw [Int.natCast_mul]; rfl
            rw [this, wi64_id (by omega) (by omega)]
          have hw0 : wi64 ((i : Int) * (k : Int)) = ((i * k : Nat) : Int) := by
            have : (i : Int) * (k : Int) = ((i * k : Nat) : Int) := by rw [Int.natCast_mul]
            rw [this, wi64_id (by omega) (by omega)]
          have hwl : wi64 ((L.length : Int) - 1) = ((L.length - 1 : Nat) : Int) := by rw [wi64_id (by omega) (by omega)]; omega
          have hend : (bif ((i : Int) == wi64 ((L.length : Int) - 1)) then some (fq (endM c)) else some ((((i + 1) * k : Nat) : Int), 1)) = some (fq (pcEnd (endM c) k i)) := by
            rw [hwl]
            by_cases hl : i = L.length - 1
            · have e1 : pcEnd (endM c) k i = endM c := by
                have e2 : i + 1 = L.length := by omega
                unfold pcEnd
                rw [e2]
                split <;> grind
              rw [show ((i : Int) == ((L.length - 1 : Nat) : Int)) = true by rw [beq_iff_eq]; omega, e1]
              rfl
            · obtain ⟨y, _, y1, _⟩ := hlg (i + 1) (by omega)
              have e1 : pcEnd (endM c) k i = cst ((i + 1) * k) := by
                unfold pcEnd
                rw [if_neg (by grind)]
              rw [show ((i : Int) == ((L.length - 1 : Nat) : Int)) = false by rw [beq_eq_false_iff_ne]; omega, e1, fq_cst]
              rfl
          have hprev : (bif decide ((i : Int) > 0) then chk (decide ((0 : Int) ≤ (i : Int)) && true) (chk (decide ((0 : Int) ≤ wi64 ((i : Int) - 1)) && decide (wi64 ((i : Int) - 1) < (L.length : Int))) (some (!(Ty.eqb Tapi_Frac (fq (endA c (cst (i * k)))) ((lget ((0, 0), (0, 0)) L (wi64 ((i : Int) - 1))).2))))) else some false) = some false := by
            cases i with
            | zero => rfl
            | succ j =>
              have hw : wi64 (((j + 1 : Nat) : Int) - 1) = (j : Int) := by rw [wi64_id (by omega) (by omega)]; omega
              obtain ⟨y, g2, y1, y2, y3, y4⟩ := hlg j (by omega)
              rw [dec_true (show ((j + 1 : Nat) : Int) > 0 by omega), cond_true, chk_true (and_true' (dec_true (by omega)) rfl), hw, chk_true (and_true' (dec_true (by omega)) (dec_true (by omega))), g2, y4]
              have hE : pcEnd (endM c) k j = cst ((j + 1) * k) := by unfold pcEnd; rw [if_neg (by grind)]
              simp only
              rw [hE, eqb_frac]
              rfl
          obtain ⟨t1, t2⟩ := traceVolume_ok hv h1 x2 x3
          have t3 := (traceVolume_ok hv h1 hps x2).2
          obtain ⟨a1, _⟩ := RatioAdd_ok t3 t2 (by decide)
          simp only
          rw [dec_true (show (i : Int) < (L.length : Int) by omega), cond_true, chk_true (and_true' (dec_true (by omega)) rfl), g1, x4]
          simp only
          rw [fq_low x2, Option.bind_some, Bool.not_true, cond_false, chk_true (and_true' (dec_true (by omega)) rfl), fq_low x3, Option.bind_some, Option.bind_some, Bool.not_true, cond_false, chk_true (and_true' (dec_true (by omega)) rfl), fq_small x2, Option.bind_some, Option.bind_some, Bool.not_true, cond_false, chk_true (and_true' (dec_true (by omega)) rfl), fq_small x3, Option.bind_some, Option.bind_some, Bool.not_true, cond_false, hprev, Option.bind_some, Option.bind_some, cond_false]
          rw [CopyMap_ok (by omega), Option.bind_some, chk_true (and_true' (dec_true (by omega)) rfl), hlo, Option.bind_some, Option.bind_some, chk_true (and_true' (dec_true (by omega)) rfl), hhi, Option.bind_some, hw1]
          unfold b0_Whole
          rw [Option.bind_some, hend, Option.bind_some, hw0]
          simp only
          rw [show ((0 : Int) != 0 || (0 : Int) != 0) = false from rfl, cond_false, Option.bind_some, fq_cst, eqb_frac, Option.bind_some, eqb_frac, Bool.not_true, Bool.or_self, cond_false, chk_true (and_true' (dec_true (by omega)) rfl)]
          rw [t1, Option.bind_some, hcli, a1, Option.bind_some, wi64_id (by omega) (by omega), slabV_add (hvalue _ h0i (by grind)).1 hmono habF]
          rfl
        · simp only
          rw [dec_false (show ¬ (L.length : Int) < (L.length : Int) by omega), cond_false]
        · simp only
          have t3 := (traceVolume_ok hv h1 hps hps).2
          rw [hclL, hAM, ← hvolS, RatioFrom_fq hvs, Option.bind_some, RatioCmp_ok (fit_small hvs).2 (fit_small hvs).2 (by decide), Option.bind_some, if_pos rfl]
          rfl
      · rw [dec_false hn]; rfl
    · rw [show (e' != 0) = true by rw [bne_iff_ne]; exact he]
      rfl
end Go.Lift
