/-
  Slabs, orders, and the lengths of coils, on both sides.
-/
import Derived.Test.YtggnjngdmadbaaaGreatDoorPlainA
set_option linter.unusedSectionVars false
set_option linter.unusedVariables false
set_option linter.unusedSimpArgs false
set_option linter.unusedVariables false
set_option linter.unusedSimpArgs false
namespace Go.Lift
open Go
theorem cand (a b : Bool) : (bif a then some b else some false) = some (a && b) := by cases a <;> rfl
theorem chk_t {A : Type} (k : Option A) : chk true k = k := rfl
theorem cor (a b : Bool) : (bif a then some true else some b) = some (a || b) := by cases a <;> rfl
def inR (n lo hi : Int) : Bool := decide (lo ≤ n ∧ n ≤ hi)
def slabB (s : Dapi_CampaignSlab) : Bool := ((inR s.2.1 1 99 && inR s.2.2.1 1 300000) && inR s.2.2.2.1 500 2500) && inR s.2.2.2.2 1 20000
def slabE (s : Dapi_CampaignSlab) : Int := bif nameB s.1 then (bif slabB s then 0 else 2) else 4
theorem CheckSlab_ok {s : Dapi_CampaignSlab} (h : s.1.size ≤ 9223372036854775807) : campaign_CheckSlab s = some (slabE s) := by
  unfold campaign_CheckSlab campaign_isGrade campaign_isThickness campaign_isWidth
  simp only [within_ok, Option.bind_some, cand, isName_ok h, unless_ok, show ((10 : Nat) != 0) = true from rfl, chk_t]
  rw [first_ok (by simp), Option.bind_some]
  unfold slabE slabB inR
  generalize (((decide (1 ≤ s.2.1 ∧ s.2.1 ≤ 99) && decide (1 ≤ s.2.2.1 ∧ s.2.2.1 ≤ 300000)) && decide (500 ≤ s.2.2.2.1 ∧ s.2.2.2.1 ≤ 2500)) && decide (1 ≤ s.2.2.2.2 ∧ s.2.2.2.2 ≤ 20000)) = b
  cases nameB s.1 <;> cases b <;> rfl
theorem SlabErr_ok {s : Dapi_CampaignSlab} (h : s.1.size ≤ 9223372036854775807) : cobbleref01_SlabErr s = some (slabE s) := by
  unfold cobbleref01_SlabErr cobbleref01_isWidth
  simp only [Within_ok, Option.bind_some, cor, IsName_ok h, show ((10 : Nat) != 0) = true from rfl, chk_t]
  unfold slabE slabB inR
  rw [show ((((!decide (1 ≤ s.2.1 ∧ s.2.1 ≤ 99) || !decide (1 ≤ s.2.2.1 ∧ s.2.2.1 ≤ 300000)) || !decide (500 ≤ s.2.2.2.1 ∧ s.2.2.2.1 ≤ 2500)) || !decide (1 ≤ s.2.2.2.2 ∧ s.2.2.2.2 ≤ 20000))) = !((((decide (1 ≤ s.2.1 ∧ s.2.1 ≤ 99) && decide (1 ≤ s.2.2.1 ∧ s.2.2.1 ≤ 300000)) && decide (500 ≤ s.2.2.2.1 ∧ s.2.2.2.1 ≤ 2500)) && decide (1 ≤ s.2.2.2.2 ∧ s.2.2.2.2 ≤ 20000))) by simp only [Bool.not_and]]
  generalize (((decide (1 ≤ s.2.1 ∧ s.2.1 ≤ 99) && decide (1 ≤ s.2.2.1 ∧ s.2.2.1 ≤ 300000)) && decide (500 ≤ s.2.2.2.1 ∧ s.2.2.2.1 ≤ 2500)) && decide (1 ≤ s.2.2.2.2 ∧ s.2.2.2.2 ≤ 20000)) = b
  cases nameB s.1 <;> cases b <;> rfl
def ordB (o : Dapi_CampaignOrder) : Bool := ((((inR o.2.1 1 99 && inR o.2.2.1 1 300000) && inR o.2.2.2.1 0 (wi64 (o.2.2.1 - 1))) && inR o.2.2.2.2.1 500 2500) && inR o.2.2.2.2.2.1.1 0 20000) && inR o.2.2.2.2.2.1.2 0 20000
def ordE (o : Dapi_CampaignOrder) : Int := bif nameB o.1 then (bif ordB o then (bif decide (o.2.2.2.2.2.1.1 ≤ o.2.2.2.2.2.1.2) then (bif (Int.tmod o.2.2.2.2.2.1.1 10 == 0) && (Int.tmod o.2.2.2.2.2.1.2 10 == 0) then (bif inR o.2.2.2.2.2.2 0 100000 then 0 else 2) else 3) else 9) else 2) else 4
theorem CheckOrder_ok {o : Dapi_CampaignOrder} (h : o.1.size ≤ 9223372036854775807) : campaign_CheckOrder o = some (ordE o) := by
  unfold campaign_CheckOrder campaign_isGrade campaign_isThickness campaign_isWidth campaign_isHeat
  simp only [within_ok, Option.bind_some, cand, isName_ok h, unless_ok, show ((10 : Nat) != 0) = true from rfl, chk_t]
  rw [first_ok (by simp), Option.bind_some]
  unfold ordE ordB inR
  generalize (((((decide (1 ≤ o.2.1 ∧ o.2.1 ≤ 99) && decide (1 ≤ o.2.2.1 ∧ o.2.2.1 ≤ 300000)) && decide (0 ≤ o.2.2.2.1 ∧ o.2.2.2.1 ≤ wi64 (o.2.2.1 - 1))) && decide (500 ≤ o.2.2.2.2.1 ∧ o.2.2.2.2.1 ≤ 2500)) && decide (0 ≤ o.2.2.2.2.2.1.1 ∧ o.2.2.2.2.2.1.1 ≤ 20000)) && decide (0 ≤ o.2.2.2.2.2.1.2 ∧ o.2.2.2.2.2.1.2 ≤ 20000)) = b
  generalize decide (o.2.2.2.2.2.1.1 ≤ o.2.2.2.2.2.1.2) = c
  generalize ((Int.tmod o.2.2.2.2.2.1.1 10 == 0) && (Int.tmod o.2.2.2.2.2.1.2 10 == 0)) = d
  generalize decide (0 ≤ o.2.2.2.2.2.2 ∧ o.2.2.2.2.2.2 ≤ 100000) = e
  cases nameB o.1 <;> cases b <;> cases c <;> cases d <;> cases e <;> rfl
theorem OrderErr_ok {o : Dapi_CampaignOrder} (h : o.1.size ≤ 9223372036854775807) : cobbleref01_OrderErr o = some (ordE o) := by
  unfold cobbleref01_OrderErr cobbleref01_isWidth
  simp only [Within_ok, Option.bind_some, cor, IsName_ok h, show ((10 : Nat) != 0) = true from rfl, chk_t]
  unfold ordE ordB inR
  rw [show ((((((!decide (1 ≤ o.2.1 ∧ o.2.1 ≤ 99) || !decide (1 ≤ o.2.2.1 ∧ o.2.2.1 ≤ 300000)) || !decide (0 ≤ o.2.2.2.1 ∧ o.2.2.2.1 ≤ wi64 (o.2.2.1 - 1))) || !decide (500 ≤ o.2.2.2.2.1 ∧ o.2.2.2.2.1 ≤ 2500)) || !decide (0 ≤ o.2.2.2.2.2.1.1 ∧ o.2.2.2.2.2.1.1 ≤ 20000)) || !decide (0 ≤ o.2.2.2.2.2.1.2 ∧ o.2.2.2.2.2.1.2 ≤ 20000))) =
    !((((((decide (1 ≤ o.2.1 ∧ o.2.1 ≤ 99) && decide (1 ≤ o.2.2.1 ∧ o.2.2.1 ≤ 300000)) && decide (0 ≤ o.2.2.2.1 ∧ o.2.2.2.1 ≤ wi64 (o.2.2.1 - 1))) && decide (500 ≤ o.2.2.2.2.1 ∧ o.2.2.2.2.1 ≤ 2500)) && decide (0 ≤ o.2.2.2.2.2.1.1 ∧ o.2.2.2.2.2.1.1 ≤ 20000)) && decide (0 ≤ o.2.2.2.2.2.1.2 ∧ o.2.2.2.2.2.1.2 ≤ 20000))) by simp only [Bool.not_and]]
  rw [show decide (o.2.2.2.2.2.1.1 > o.2.2.2.2.2.1.2) = !decide (o.2.2.2.2.2.1.1 ≤ o.2.2.2.2.2.1.2) by rw [← decide_not]; congr 1; rw [eq_iff_iff]; omega]
  rw [show (Int.tmod o.2.2.2.2.2.1.1 10 != 0 || Int.tmod o.2.2.2.2.2.1.2 10 != 0) = !((Int.tmod o.2.2.2.2.2.1.1 10 == 0) && (Int.tmod o.2.2.2.2.2.1.2 10 == 0)) by simp only [Bool.not_and]; rfl]
  generalize (((((decide (1 ≤ o.2.1 ∧ o.2.1 ≤ 99) && decide (1 ≤ o.2.2.1 ∧ o.2.2.1 ≤ 300000)) && decide (0 ≤ o.2.2.2.1 ∧ o.2.2.2.1 ≤ wi64 (o.2.2.1 - 1))) && decide (500 ≤ o.2.2.2.2.1 ∧ o.2.2.2.2.1 ≤ 2500)) && decide (0 ≤ o.2.2.2.2.2.1.1 ∧ o.2.2.2.2.2.1.1 ≤ 20000)) && decide (0 ≤ o.2.2.2.2.2.1.2 ∧ o.2.2.2.2.2.1.2 ≤ 20000)) = b
  generalize decide (o.2.2.2.2.2.1.1 ≤ o.2.2.2.2.2.1.2) = c
  generalize ((Int.tmod o.2.2.2.2.2.1.1 10 == 0) && (Int.tmod o.2.2.2.2.2.1.2 10 == 0)) = d
  generalize decide (0 ≤ o.2.2.2.2.2.2 ∧ o.2.2.2.2.2.2 ≤ 100000) = e
  cases nameB o.1 <;> cases b <;> cases c <;> cases d <;> cases e <;> rfl
end Go.Lift
set_option linter.unusedVariables false
set_option linter.unusedSimpArgs false
namespace Go.Lift
open Go
structure SlabV (s : Dapi_CampaignSlab) : Prop where
  g : 1 ≤ s.2.1 ∧ s.2.1 ≤ 99
  t : 1 ≤ s.2.2.1 ∧ s.2.2.1 ≤ 300000
  w : 500 ≤ s.2.2.2.1 ∧ s.2.2.2.1 ≤ 2500
  l : 1 ≤ s.2.2.2.2 ∧ s.2.2.2.2 ≤ 20000
structure OrdV (o : Dapi_CampaignOrder) : Prop where
  t : 1 ≤ o.2.2.1 ∧ o.2.2.1 ≤ 300000
  tol : 0 ≤ o.2.2.2.1 ∧ o.2.2.2.1 ≤ o.2.2.1 - 1
  w : 500 ≤ o.2.2.2.2.1 ∧ o.2.2.2.2.1 ≤ 2500
theorem slabV_of {s : Dapi_CampaignSlab} (h : slabE s = 0) : nameB s.1 = true ∧ SlabV s := by
  unfold slabE at h
  cases hn : nameB s.1 with
  | false => rw [hn] at h; cases h
  | true =>
    rw [hn, cond_true] at h
    cases hb : slabB s with
    | false => rw [hb] at h; cases h
    | true =>
      unfold slabB inR at hb
      simp only [Bool.and_eq_true, decide_eq_true_eq] at hb
      exact ⟨rfl, hb.1.1.1, hb.1.1.2, hb.1.2, hb.2⟩
theorem ordV_of {o : Dapi_CampaignOrder} (h : ordE o = 0) : OrdV o := by
  unfold ordE at h
  cases hn : nameB o.1 with
  | false => rw [hn] at h; cases h
  | true =>
    rw [hn, cond_true] at h
    cases hb : ordB o with
    | false => rw [hb] at h; cases h
    | true =>
      unfold ordB inR at hb
      simp only [Bool.and_eq_true, decide_eq_true_eq] at hb
      obtain ⟨⟨⟨⟨⟨_, h1⟩, h2⟩, h3⟩, _⟩, _⟩ := hb
      rw [wi64_id (by omega) (by omega)] at h2
      exact ⟨h1, h2, h3⟩
theorem ordE_tol {o : Dapi_CampaignOrder} (h : ordE o = 0) : ordE (o.1, (o.2.1, (o.2.2.1, (0, o.2.2.2.2)))) = 0 := by
  have hv := ordV_of h
  have hb : ordB (o.1, (o.2.1, (o.2.2.1, (0, o.2.2.2.2)))) = true := by
    unfold ordE at h
    cases hn : nameB o.1 with
    | false => rw [hn] at h; cases h
    | true =>
      rw [hn, cond_true] at h
      cases hb : ordB o with
      | false => rw [hb] at h; cases h
      | true =>
        unfold ordB inR at hb ⊢
        simp only [Bool.and_eq_true, decide_eq_true_eq] at hb ⊢
        obtain ⟨⟨⟨⟨⟨h0, h1⟩, h2⟩, h3⟩, h4⟩, h5⟩ := hb
        have := hv.t
        rw [wi64_id (by omega) (by omega)]
        exact ⟨⟨⟨⟨⟨h0, h1⟩, by omega⟩, h3⟩, h4⟩, h5⟩
  unfold ordE at h ⊢
  cases hn : nameB o.1 with
  | false => rw [hn] at h; cases h
  | true =>
    rw [hn, cond_true] at h
    simp only [hn, hb, cond_true]
    cases hob : ordB o with
    | false => rw [hob] at h; cases h
    | true => rw [hob, cond_true] at h; exact h
def suitsB (s : Dapi_CampaignSlab) (o : Dapi_CampaignOrder) : Bool := (s.2.1 == o.2.1) && inR s.2.2.2.1 o.2.2.2.2.1 (wi64 (o.2.2.2.2.1 + 100))
theorem suits_ok (s : Dapi_CampaignSlab) (o : Dapi_CampaignOrder) : campaign_suits s o = some (suitsB s o) := by
  unfold campaign_suits
  simp only [within_ok, Option.bind_some, cand]
  rfl
theorem Suits_ok {s : Dapi_CampaignSlab} {o : Dapi_CampaignOrder} (hs : SlabV s) (ho : OrdV o) : cobbleref01_Suits s o = some (suitsB s o) := by
  unfold cobbleref01_Suits
  simp only [Within_ok, Option.bind_some, cand]
  have h1 := hs.w
  have h2 := ho.w
  unfold suitsB inR
  rw [wi64_id (x := s.2.2.2.1 - o.2.2.2.2.1) (by omega) (by omega), wi64_id (x := o.2.2.2.2.1 + 100) (by omega) (by omega)]
  congr 2
  rw [decide_eq_decide]
  omega
def volI (s : Dapi_CampaignSlab) : Int := s.2.2.1 * s.2.2.2.1 * s.2.2.2.2
def thinI (o : Dapi_CampaignOrder) : Int := (o.2.2.1 - o.2.2.2.1) * o.2.2.2.2.1
def thickI (o : Dapi_CampaignOrder) : Int := (o.2.2.1 + o.2.2.2.1) * o.2.2.2.2.1
def coilI (s : Dapi_CampaignSlab) (o : Dapi_CampaignOrder) : Int × Int := (volI s / thickI o, (volI s + thinI o - 1) / thinI o)
theorem mul_bounds {a b A B : Int} (ha : 0 ≤ a) (hA : a ≤ A) (hb : 0 ≤ b) (hB : b ≤ B) : 0 ≤ a * b ∧ a * b ≤ A * B :=
  ⟨Int.mul_nonneg ha hb, Int.mul_le_mul hA hB hb (by omega)⟩
theorem volI_bounds {s : Dapi_CampaignSlab} (h : SlabV s) : 500 ≤ volI s ∧ volI s ≤ 15000000000000 ∧ 0 ≤ s.2.2.1 * s.2.2.2.1 ∧ s.2.2.1 * s.2.2.2.1 ≤ 750000000 := by
  have h1 := h.t; have h2 := h.w; have h3 := h.l
  have a := mul_bounds (a := s.2.2.1) (b := s.2.2.2.1) (A := 300000) (B := 2500) (by omega) (by omega) (by omega) (by omega)
  have b := mul_bounds (a := s.2.2.1 * s.2.2.2.1) (b := s.2.2.2.2) (A := 750000000) (B := 20000) (by omega) (by omega) (by omega) (by omega)
  have c : 1 * 500 ≤ s.2.2.1 * s.2.2.2.1 := Int.mul_le_mul h1.1 h2.1 (by omega) (by omega)
  have d : 500 * 1 ≤ s.2.2.1 * s.2.2.2.1 * s.2.2.2.2 := Int.mul_le_mul (by omega) h3.1 (by omega) (by omega)
  unfold volI
  omega
theorem thinI_bounds {o : Dapi_CampaignOrder} (h : OrdV o) : 500 ≤ thinI o ∧ thinI o ≤ 750000000 := by
  have h1 := h.t; have h2 := h.w; have h3 := h.tol
  have a := mul_bounds (a := o.2.2.1 - o.2.2.2.1) (b := o.2.2.2.2.1) (A := 300000) (B := 2500) (by omega) (by omega) (by omega) (by omega)
  have c : 1 * 500 ≤ (o.2.2.1 - o.2.2.2.1) * o.2.2.2.2.1 := Int.mul_le_mul (by omega) h2.1 (by omega) (by omega)
  unfold thinI
  omega
theorem thickI_bounds {o : Dapi_CampaignOrder} (h : OrdV o) : 500 ≤ thickI o ∧ thickI o ≤ 1500000000 := by
  have h1 := h.t; have h2 := h.w; have h3 := h.tol
  have a := mul_bounds (a := o.2.2.1 + o.2.2.2.1) (b := o.2.2.2.2.1) (A := 600000) (B := 2500) (by omega) (by omega) (by omega) (by omega)
  have c : 1 * 500 ≤ (o.2.2.1 + o.2.2.2.1) * o.2.2.2.2.1 := Int.mul_le_mul (by omega) h2.1 (by omega) (by omega)
  unfold thickI
  omega
theorem wrap_vol {s : Dapi_CampaignSlab} (h : SlabV s) : wi64 (wi64 (s.2.2.1 * s.2.2.2.1) * s.2.2.2.2) = volI s := by
  have := volI_bounds h
  rw [wi64_id (x := s.2.2.1 * s.2.2.2.1) (by omega) (by omega)]
  exact wi64_id (x := volI s) (by omega) (by omega)
theorem wrap_thin {o : Dapi_CampaignOrder} (h : OrdV o) : wi64 (wi64 (o.2.2.1 - o.2.2.2.1) * o.2.2.2.2.1) = thinI o := by
  have := thinI_bounds h
  have h1 := h.t; have h3 := h.tol
  rw [wi64_id (x := o.2.2.1 - o.2.2.2.1) (by omega) (by omega)]
  exact wi64_id (x := thinI o) (by omega) (by omega)
theorem wrap_thick {o : Dapi_CampaignOrder} (h : OrdV o) : wi64 (wi64 (o.2.2.1 + o.2.2.2.1) * o.2.2.2.2.1) = thickI o := by
  have := thickI_bounds h
  have h1 := h.t; have h3 := h.tol
  rw [wi64_id (x := o.2.2.1 + o.2.2.2.1) (by omega) (by omega)]
  exact wi64_id (x := thickI o) (by omega) (by omega)
theorem div_bounds {a b : Int} (ha : 0 ≤ a) (hb : 1 ≤ b) : 0 ≤ a / b ∧ a / b ≤ a :=
  ⟨Int.ediv_nonneg ha (by omega), Int.ediv_le_self _ ha⟩
theorem coil_ok {s : Dapi_CampaignSlab} {o : Dapi_CampaignOrder} (hs : s.1.size ≤ 9223372036854775807) (ho : o.1.size ≤ 9223372036854775807) :
    campaign_CoilLength s o = some (if firstE [slabE s, ordE o, if suitsB s o then 0 else 13] = 0 then (coilI s o, 0) else ((0, 0), firstE [slabE s, ordE o, if suitsB s o then 0 else 13])) := by
  unfold campaign_CoilLength
  rw [CheckSlab_ok hs, Option.bind_some, CheckOrder_ok ho, Option.bind_some, suits_ok, Option.bind_some, unless_ok, Option.bind_some, first_ok (by simp), Option.bind_some]
  generalize hc : firstE [slabE s, ordE o, if suitsB s o then 0 else 13] = c
  by_cases h0 : c = 0
  · rw [if_pos h0, show (c != 0) = false by rw [h0]; rfl, cond_false]
    subst h0
    have h1 : slabE s = 0 ∧ ordE o = 0 := by
      simp only [firstE] at hc
      by_cases a : slabE s = 0
      · rw [if_pos a] at hc
        by_cases b : ordE o = 0
        · exact ⟨a, b⟩
        · rw [if_neg b] at hc; exact absurd hc b
      · rw [if_neg a] at hc; exact absurd hc a
    have hsv := (slabV_of h1.1).2
    have hov := ordV_of h1.2
    have b1 := volI_bounds hsv
    have b2 := thinI_bounds hov
    have b3 := thickI_bounds hov
    simp only [wrap_vol hsv, wrap_thin hov, wrap_thick hov]
    rw [chk_true (show (thickI o != 0) = true by rw [bne_iff_ne]; omega), chk_true (show (thinI o != 0) = true by rw [bne_iff_ne]; omega)]
    have d1 := div_bounds (a := volI s) (b := thickI o) (by omega) (by omega)
    have d2 := div_bounds (a := volI s + thinI o - 1) (b := thinI o) (by omega) (by omega)
    rw [wi64_id (x := volI s + thinI o) (by omega) (by omega), wi64_id (x := volI s + thinI o - 1) (by omega) (by omega), Int.tdiv_eq_ediv_of_nonneg (by omega), Int.tdiv_eq_ediv_of_nonneg (by omega), wi64_id (by omega) (by omega), wi64_id (by omega) (by omega)]
    rfl
  · rw [if_neg h0, show (c != 0) = true by rw [bne_iff_ne]; exact h0, cond_true]
end Go.Lift
