/-
  The laws of suiting and of constant volume hold of the plain functions.
-/
import Derived.Test.YtggnjngdmadbaaaGreatDoorPlainB
set_option linter.unusedSectionVars false
set_option linter.unusedVariables false
set_option linter.unusedSimpArgs false
set_option linter.unusedVariables false
set_option linter.unusedSimpArgs false
namespace Go.Lift
open Go
theorem div_anti {a b c : Int} (ha : 0 ≤ a) (hb : 1 ≤ b) (hc : b ≤ c) : a / c ≤ a / b := by
  refine Int.le_ediv_of_mul_le (by omega) ?_
  have h1 : a / c * b ≤ a / c * c := Int.mul_le_mul_of_nonneg_left hc (Int.ediv_nonneg ha (by omega))
  have h2 := Int.mul_ediv_add_emod a c
  have h3 := Int.emod_nonneg a (show c ≠ 0 by omega)
  rw [Int.mul_comm (a / c) c] at h1
  omega
theorem up_spec {v d : Int} (hd : 1 ≤ d) : v ≤ (v + d - 1) / d * d ∧ (v + d - 1) / d ≤ v / d + 1 ∧ v / d ≤ (v + d - 1) / d := by
  have h2 := Int.mul_ediv_add_emod (v + d - 1) d
  have h3 := Int.emod_lt_of_pos (v + d - 1) (show 0 < d by omega)
  rw [Int.mul_comm] at h2
  refine ⟨by omega, ?_, Int.ediv_le_ediv (by omega) (by omega)⟩
  have e : v + d - 1 ≤ v + d * 1 := by omega
  have h4 := Int.ediv_le_ediv (show 0 < d by omega) e
  rw [Int.add_mul_ediv_left _ _ (by omega)] at h4
  exact h4
theorem up_anti {v b c : Int} (hv : 0 ≤ v) (hb : 1 ≤ b) (hc : b ≤ c) : (v + c - 1) / c ≤ (v + b - 1) / b := by
  have h1 := up_spec (v := v) hb
  have h2 : (v + b - 1) / b * b ≤ (v + b - 1) / b * c := Int.mul_le_mul_of_nonneg_left hc (Int.ediv_nonneg (by omega) (by omega))
  have h3 : (v + c - 1) / c < (v + b - 1) / b + 1 := by
    refine Int.ediv_lt_of_lt_mul (by omega) ?_
    rw [Int.add_mul, Int.one_mul]
    omega
  omega
theorem CampaignVolume_ok (hw : cobblelaw01_awake = some true) {s : Dapi_CampaignSlab} {o : Dapi_CampaignOrder} {more : Int} (hs : s.1.size ≤ 9223372036854775807) (ho : o.1.size ≤ 9223372036854775807) :
    cobblelaw01_CampaignVolume s o more = some true := by
  unfold cobblelaw01_CampaignVolume
  rw [hw, Option.bind_some, Bool.not_true, cond_false, SlabErr_ok hs, Option.bind_some, OrderErr_ok ho]
  by_cases h1 : slabE s = 0
  rotate_left
  · rw [show (slabE s != 0) = true by rw [bne_iff_ne]; exact h1]; rfl
  by_cases h2 : ordE o = 0
  rotate_left
  · rw [show (slabE s != 0) = false by rw [h1]; rfl, cond_false, Option.bind_some, show (ordE o != 0) = true by rw [bne_iff_ne]; exact h2]; rfl
  obtain ⟨hn, hsv⟩ := slabV_of h1
  have hov := ordV_of h2
  rw [show (slabE s != 0) = false by rw [h1]; rfl, cond_false, Option.bind_some, show (ordE o != 0) = false by rw [h2]; rfl, Option.bind_some, cond_false, Suits_ok hsv hov, Option.bind_some]
  cases hb : suitsB s o with
  | false => rfl
  | true =>
  rw [Bool.not_true, Option.bind_some, cond_false]
  have hex := ordE_tol h2
  obtain ⟨ex, hexd⟩ : ∃ ex : Dapi_CampaignOrder, ex = (o.1, (o.2.1, (o.2.2.1, (0, o.2.2.2.2)))) := ⟨_, rfl⟩
  rw [← hexd] at hex ⊢
  have hexv := ordV_of hex
  have hsx : suitsB s ex = true := by rw [hexd]; exact hb
  have hox : ex.1.size ≤ 9223372036854775807 := by rw [hexd]; exact ho
  have c1 : campaign_CoilLength s o = some (coilI s o, 0) := by
    rw [coil_ok hs ho, hb, if_pos (by simp [firstE, h1, h2])]
  have c2 : campaign_CoilLength s ex = some (coilI s ex, 0) := by
    rw [coil_ok hs hox, hsx, if_pos (by simp [firstE, h1, hex])]
  have hv := volI_bounds hsv
  have t1 := thinI_bounds hov
  have k1 := thickI_bounds hov
  obtain ⟨A, hA⟩ : ∃ A, A = o.2.2.1 * o.2.2.2.2.1 := ⟨_, rfl⟩
  have ht := hov.t; have hwd := hov.w; have htl := hov.tol; have hst := hsv.t; have hsw := hsv.w; have hsl := hsv.l
  have hA1 : thinI ex = A := by rw [hA, hexd]; unfold thinI; simp
  have hA2 : thickI ex = A := by rw [hA, hexd]; unfold thickI; simp
  have hAb : 500 ≤ A ∧ A ≤ 750000000 := by rw [← hA1]; exact thinI_bounds hexv
  have hAt : thinI o ≤ A := by rw [hA]; exact Int.mul_le_mul_of_nonneg_right (by omega) (by omega)
  have hAk : A ≤ thickI o := by rw [hA]; exact Int.mul_le_mul_of_nonneg_right (by omega) (by omega)
  have hx : coilI s ex = (volI s / A, (volI s + A - 1) / A) := by unfold coilI; rw [hA1, hA2]
  have hwA : wi64 (o.2.2.1 * o.2.2.2.2.1) = A := by rw [← hA]; exact wi64_id (by omega) (by omega)
  obtain ⟨V, hV'⟩ : ∃ V, V = volI s := ⟨_, rfl⟩
  have hV := hV'.symm
  have hco : coilI s o = (V / thickI o, (V + thinI o - 1) / thinI o) := by unfold coilI; rw [hV]
  rw [hV] at hv hx
  rw [hx] at c2
  rw [hco] at c1
  rw [c1, Option.bind_some, c2, Option.bind_some]
  simp only [wrap_vol hsv, hwA, hV]
  have d1 := div_bounds (a := V) (b := thickI o) (by omega) (by omega)
  have d2 := div_bounds (a := V) (b := A) (by omega) (by omega)
  have u1 := up_spec (v := V) (d := A) (by omega)
  have u2 := up_anti (v := V) (b := thinI o) (c := A) (by omega) (by omega) hAt
  have a1 := div_anti (a := V) (b := A) (c := thickI o) (by omega) (by omega) hAk
  have m1 := Int.mul_ediv_add_emod V A
  have m2 := Int.emod_nonneg V (show A ≠ 0 by omega)
  have m3 := Int.emod_lt_of_pos V (show 0 < A by omega)
  rw [Int.mul_comm] at m1
  have hbig : V / A ≤ 30000000000 := by
    have : V / A < 30000000001 := by
      refine Int.ediv_lt_of_lt_mul (by omega) ?_
      omega
    omega
  have w5 : wi64 (6000000000 * 5) = 30000000000 := by decide
  have hAm : V / A * A ≤ V := by omega
  have hUm : (V + A - 1) / A * A ≤ V + A := by
    have := Int.mul_le_mul_of_nonneg_right u1.2.1 (show 0 ≤ A by omega)
    rw [Int.add_mul, Int.one_mul] at this
    omega
  have hU0 : 0 ≤ (V + A - 1) / A * A := by omega
  have hL0 : 0 ≤ V / A * A := Int.mul_nonneg (by omega) (by omega)
  have hL1 : (V / A + 1) * A = V / A * A + A := by rw [Int.add_mul, Int.one_mul]
  rw [show ((0 : Int) != 0 || (0 : Int) != 0) = false from rfl, cond_false, Within_ok, Option.bind_some, dec_true (show 0 ≤ V / thickI o ∧ V / thickI o ≤ V / A by omega), Bool.not_true, Option.bind_some, Bool.false_or, dec_false (show ¬ (V + thinI o - 1) / thinI o < (V + A - 1) / A by omega), cond_false, Within_ok, Option.bind_some, w5, dec_true (show 0 ≤ V / A ∧ V / A ≤ 30000000000 by omega), Bool.not_true, Option.bind_some, cond_false, wi64_id (x := (V + A - 1) / A - V / A) (by omega) (by omega), Within_ok, Option.bind_some, dec_true (show 0 ≤ (V + A - 1) / A - V / A ∧ (V + A - 1) / A - V / A ≤ 1 by omega), Bool.not_true, Option.bind_some, cond_false,
    wi64_id (x := V / A * A) (by omega) (by omega), dec_false (show ¬ V / A * A > V by omega), wi64_id (x := (V + A - 1) / A * A) (by omega) (by omega), dec_false (show ¬ (V + A - 1) / A * A < V by omega), Bool.or_self, cond_false, wi64_id (x := V / A + 1) (by omega) (by omega), wi64_id (x := (V / A + 1) * A) (by omega) (by omega), dec_false (show ¬ (V / A + 1) * A ≤ V by omega), Option.bind_some, cond_false]
  have hmod : ∃ k, b0_Mod more 100 = some k ∧ 0 ≤ k ∧ k ≤ 99 := by
    unfold b0_Mod
    have hm2 := Int.tmod_lt_of_pos more (show (0 : Int) < 100 by omega)
    have hm3 : -100 < Int.tmod more 100 := by
      have h := Int.lt_tmod_of_pos more (show (0 : Int) < 100 by omega)
      exact h
    rw [chk_true (by rfl)]
    by_cases hneg : Int.tmod more 100 < 0
    · rw [dec_true hneg, cond_true]
      refine ⟨Int.tmod more 100 + 100, ?_, by omega, by omega⟩
      show (some (wi64 (Int.tmod more 100 + 100))).bind _ = _
      rw [wi64_id (by omega) (by omega)]; rfl
    · rw [dec_false hneg, cond_false]
      exact ⟨_, rfl, by omega, by omega⟩
  obtain ⟨k, hk, hk0, hk9⟩ := hmod
  rw [hk, Option.bind_some, wi64_id (x := s.2.2.2.2 + k) (by omega) (by omega)]
  obtain ⟨s2, hs2⟩ : ∃ s2 : Dapi_CampaignSlab, s2 = (s.1, (s.2.1, (s.2.2.1, (s.2.2.2.1, s.2.2.2.2 + k)))) := ⟨_, rfl⟩
  rw [← hs2]
  have hss2 : s2.1.size ≤ 9223372036854775807 := by rw [hs2]; exact hs
  rw [SlabErr_ok hss2, Option.bind_some]
  by_cases h3 : slabE s2 = 0
  rotate_left
  · rw [show (slabE s2 != 0) = true by rw [bne_iff_ne]; exact h3]; rfl
  have hsv2 := (slabV_of h3).2
  have hsb2 : suitsB s2 o = true := by rw [hs2]; exact hb
  have c3 : campaign_CoilLength s2 o = some (coilI s2 o, 0) := by
    rw [coil_ok hss2 ho, hsb2, if_pos (by simp [firstE, h3, h2])]
  have hV2 : V ≤ volI s2 := by
    rw [← hV, hs2]
    show s.2.2.1 * s.2.2.2.1 * s.2.2.2.2 ≤ s.2.2.1 * s.2.2.2.1 * (s.2.2.2.2 + k)
    exact Int.mul_le_mul_of_nonneg_left (by omega) hv.2.2.1
  rw [show (slabE s2 != 0) = false by rw [h3]; rfl, cond_false, c3, Option.bind_some]
  have e1 : V / thickI o ≤ volI s2 / thickI o := Int.ediv_le_ediv (by omega) hV2
  have e2 : (V + thinI o - 1) / thinI o ≤ (volI s2 + thinI o - 1) / thinI o := Int.ediv_le_ediv (by omega) (by omega)
  simp [coilI, e1, e2]
end Go.Lift
