/-
  Values of compositions, and of maps between strips.
-/
import Derived.Test.YteobfadhflofpaaGreatPlainT
import Derived.Test.YteobfadhflofpaaGreatLawMa
set_option linter.unusedSectionVars false
set_option linter.unusedVariables false
set_option linter.unusedSimpArgs false
namespace Go.Lift
open Go
theorem seg_lin {a b : Kn} {r s t D : Rat} (hD : 0 < D) (hr : 0 < r) (h1 : b.1 = a.1 + r * D) (h2 : b.2 = a.2 + s * D) : segK a b (a.1 + r * t) = a.2 + s * t := by
  unfold segK
  rw [h1, h2, Rat.div_def]
  obtain ⟨i1, i2⟩ := inv_pos hD
  obtain ⟨j1, j2⟩ := inv_pos hr
  have e : a.1 + r * D - a.1 = r * D := by grind
  rw [e, Rat.inv_mul_rev]
  grind
end Go.Lift
namespace Go.Lift
open Go
theorem bs_asc : ∀ {l : List Sec} {p q : Rat}, Secs p q l → Asc (p :: bs l)
  | [], _, _, _ => List.pairwise_singleton _ _
  | x :: l, p, q, hc => by
    rw [Asc, List.pairwise_cons]
    refine ⟨fun b hb => ?_, bs_asc hc.2.2.2⟩
    obtain ⟨y, hy, rfl⟩ := List.mem_map.1 hb
    exact b_gt hc y hy
theorem on_le_b : ∀ {l : List Sec} {p q P Q : Rat}, Secs p q l → On l P Q → P ≤ lastB p l
  | [], _, _, _, _, _, h => absurd h not_on_nil
  | x :: l, p, q, P, Q, ⟨h1, h2, hx, hc⟩, h => by
    rcases on_cons.1 h with h | h
    · have := lastB_ge hc
      have := h.2.1
      show P ≤ lastB x.b l
      grind
    · show P ≤ lastB x.b l
      exact on_le_b hc h
theorem sec_near : ∀ {l : List Sec} {p q P : Rat}, Secs p q l → p ≤ P → P < lastB p l → ∃ x, x ∈ l ∧ x.a ≤ P ∧ P < x.b
  | [], p, _, P, _, h1, h2 => by
    have : P < p := h2
    grind
  | x :: l, p, q, P, ⟨h1, h2, hx, hc⟩, h3, h4 => by
    by_cases h : P < x.b
    · exact ⟨x, by simp, by rw [h1]; exact h3, h⟩
    · obtain ⟨y, hy, h5, h6⟩ := sec_near hc (P := P) (by grind) h4
      exact ⟨y, List.mem_cons_of_mem _ hy, h5, h6⟩
theorem on_ex {l : List Sec} {p q P : Rat} (hc : Secs p q l) (hne : l ≠ []) (h1 : p ≤ P) (h2 : P ≤ lastB p l) : On l P (posS l P) := by
  have : ∃ Q, On l P Q := by
    by_cases h : P = lastB p l
    · rw [h]; exact ⟨_, on_end hc hne⟩
    · obtain ⟨x, hx, h3, h4⟩ := sec_near hc h1 (by grind)
      exact ⟨_, x, hx, onSec_of_p (chain_ok hc x hx) h3 (Rat.le_of_lt h4)⟩
  obtain ⟨Q, hQ⟩ := this
  rw [(posS_on hc hQ).2]
  exact hQ
theorem on_lt {l : List Sec} {p q P Q P' Q' : Rat} (hc : Secs p q l) (h : On l P Q) (h' : On l P' Q') : P < P' ↔ Q < Q' := by
  have := on_mono hc h' h
  constructor
  · intro hp
    apply Decidable.byContradiction
    intro hn
    have := this.2 (by grind)
    grind
  · intro hp
    apply Decidable.byContradiction
    intro hn
    have := this.1 (by grind)
    grind
theorem posS_sec {l : List Sec} {p q : Rat} (hc : Secs p q l) {x : Sec} (hx : x ∈ l) {P : Rat} (h1 : x.a ≤ P) (h2 : P ≤ x.b) : posS l P = x.u + (P - x.a) * ((x.old : Rat) / (x.area : Rat)) :=
  (posS_on hc ⟨x, hx, onSec_of_p (chain_ok hc x hx) h1 h2⟩).2
theorem knots_val {F T : List Sec} {pF p lo hi : Rat} (hF : Secs pF 0 F) (nF : F ≠ []) (hT : Secs p 0 T) (nT : T ≠ []) (inner : (bs T).dropLast = (bs F).filter (inB p (lastB p T))) (onlo : On F p lo) (onhi : On F (lastB p T) hi) :
    Chart (knots F T p) ∧ getK (knots F T p) 0 = (posS F p, posS T p) ∧ getK (knots F T p) ((knots F T p).length - 1) = (posS F (lastB p T), posS T (lastB p T)) ∧
      ∀ P, p ≤ P → P ≤ lastB p T → valK (knots F T p) (posS F P) = posS T P := by
  have b1 : pF ≤ p := (on_ge hF onlo).1
  have b2 : lastB p T ≤ lastB pF F := on_le_b hF onhi
  have exT : ∀ P, p ≤ P → P ≤ lastB p T → On T P (posS T P) := fun P h1 h2 => on_ex hT nT h1 h2
  have exF : ∀ P, p ≤ P → P ≤ lastB p T → On F P (posS F P) := fun P h1 h2 => on_ex hF nF (by grind) (by grind)
  have asc := bs_asc hT
  have hbs : bs T = (bs T).dropLast ++ [lastB p T] := bs_last nT
  have hlen : (bs T).length = T.length := List.length_map _
  have hTpos := List.length_pos_iff.2 nT
  have gL : ∀ i, i < (p :: bs T).length → getK (knots F T p) i = (posS F ((p :: bs T).getD i 0), posS T ((p :: bs T).getD i 0)) := fun i hi => by
    unfold getK knots
    rw [List.getD_eq_getElem?_getD, List.getElem?_map, List.getD_eq_getElem?_getD, List.getElem?_eq_getElem hi]
    rfl
  have kl : (knots F T p).length = (p :: bs T).length := List.length_map _
  have gA : ∀ i j, i < j → j < (p :: bs T).length → (p :: bs T).getD i 0 < (p :: bs T).getD j 0 := fun i j hij hj => by
    rw [List.getD_eq_getElem?_getD, List.getD_eq_getElem?_getD, List.getElem?_eq_getElem (show i < (p :: bs T).length by omega), List.getElem?_eq_getElem hj]
    exact List.pairwise_iff_getElem.1 asc i j (by omega) hj hij
  have ix : ∀ u, u ∈ p :: bs T → ∃ i, i < (p :: bs T).length ∧ (p :: bs T).getD i 0 = u := fun u hu => by
    obtain ⟨i, hi, e⟩ := List.getElem_of_mem hu
    exact ⟨i, hi, by rw [List.getD_eq_getElem?_getD, List.getElem?_eq_getElem hi]; exact e⟩
  have mem : ∀ i, i < (p :: bs T).length → (p :: bs T).getD i 0 ∈ p :: bs T := fun i hi => by
    rw [List.getD_eq_getElem?_getD, List.getElem?_eq_getElem hi]
    exact List.getElem_mem hi
  have e0 : (p :: bs T).getD 0 0 = p := rfl
  have e1 : (p :: bs T).getD ((p :: bs T).length - 1) 0 = lastB p T := by
    have : (p :: bs T).getLast? = some (lastB p T) := by
      rw [hbs, ← List.cons_append, List.getLast?_append]
      rfl
    rw [List.getLast?_eq_getElem?] at this
    rw [List.getD_eq_getElem?_getD, this]
    rfl
  have h2L : 2 ≤ (p :: bs T).length := by rw [List.length_cons, hlen]; omega
  have bnd : ∀ i, i < (p :: bs T).length → p ≤ (p :: bs T).getD i 0 ∧ (p :: bs T).getD i 0 ≤ lastB p T := fun i hi => by
    constructor
    · by_cases h : i = 0
      · rw [h, e0]; exact Rat.le_refl
      · have := gA 0 i (by omega) hi
        rw [e0] at this
        exact Rat.le_of_lt this
    · by_cases h : i = (p :: bs T).length - 1
      · rw [h, e1]; exact Rat.le_refl
      · have := gA i ((p :: bs T).length - 1) (by omega) (by omega)
        rw [e1] at this
        exact Rat.le_of_lt this
  have inc : Inc (knots F T p) := by
    have key : ∀ (l : List Rat), l.Pairwise (· < ·) → (∀ u, u ∈ l → p ≤ u ∧ u ≤ lastB p T) → Inc (l.map fun P => ((posS F P, posS T P) : Kn)) := by
      intro l
      induction l with
      | nil => intro _ _; trivial
      | cons a l ih =>
        intro hl hb
        cases l with
        | nil => trivial
        | cons b l =>
          obtain ⟨q1, q2⟩ := List.pairwise_cons.1 hl
          have ba := hb a (by simp)
          have bb := hb b (by simp)
          have hab := q1 b (by simp)
          exact ⟨⟨(on_lt hF (exF a ba.1 ba.2) (exF b bb.1 bb.2)).1 hab, (on_lt hT (exT a ba.1 ba.2) (exT b bb.1 bb.2)).1 hab⟩, ih q2 fun u hu => hb u (List.mem_cons_of_mem _ hu)⟩
    refine key _ asc fun u hu => ?_
    obtain ⟨i, hi, rfl⟩ := ix u hu
    exact bnd i hi
  have hch : Chart (knots F T p) := ⟨by rw [kl]; exact h2L, inc⟩
  have k0 : getK (knots F T p) 0 = (posS F p, posS T p) := by rw [gL 0 (by omega), e0]
  have k1 : getK (knots F T p) ((knots F T p).length - 1) = (posS F (lastB p T), posS T (lastB p T)) := by rw [kl, gL _ (by omega), e1]
  refine ⟨hch, k0, k1, fun P hP1 hP2 => ?_⟩
  by_cases hend : P = lastB p T
  · have := hch.knot (getK_mem (l := knots F T p) (i := (knots F T p).length - 1) (by omega))
    rw [k1] at this
    rw [hend]
    exact this
  · have oP := exF P hP1 hP2
    obtain ⟨i, hi, h5, h6⟩ := seg_of inc (x := posS F P) hch.1 (by rw [k0]; exact (on_mono hF (exF p Rat.le_refl (by grind)) oP).1 hP1)
      (by rw [k1]; exact (on_lt hF oP (exF _ (by grind) Rat.le_refl)).1 (by grind))
    rw [kl] at hi
    rw [val_at inc (by rw [kl]; exact hi) h5 (Rat.le_of_lt h6)]
    rw [gL i (by omega)] at h5 ⊢
    rw [gL (i + 1) hi] at h6 ⊢
    have hUV := gA i (i + 1) (by omega) hi
    have bU := bnd i (by omega)
    have bV := bnd (i + 1) hi
    have nomid : ∀ u, u ∈ p :: bs T → (p :: bs T).getD i 0 < u → u < (p :: bs T).getD (i + 1) 0 → False := fun u hu a1 a2 => by
      obtain ⟨j, hj, rfl⟩ := ix u hu
      by_cases hji : j ≤ i
      · by_cases e : j = i
        · rw [e] at a1; exact Rat.lt_irrefl a1
        · have := gA j i (by omega) (by omega); grind
      · by_cases e : j = i + 1
        · rw [e] at a2; exact Rat.lt_irrefl a2
        · have := gA (i + 1) j (by omega) hj; grind
    generalize (p :: bs T).getD i 0 = U at *
    generalize (p :: bs T).getD (i + 1) 0 = V at *
    have hU := (on_mono hF (exF U bU.1 bU.2) oP).2 h5
    have hV := (on_lt hF oP (exF V bV.1 bV.2)).2 h6
    obtain ⟨y, hy, y1, y2⟩ := sec_near hT bU.1 (show U < lastB p T by grind)
    have y3 : V ≤ y.b := by
      apply Decidable.byContradiction
      intro hn
      exact nomid y.b (List.mem_cons_of_mem _ (List.mem_map.2 ⟨y, hy, rfl⟩)) y2 (by grind)
    obtain ⟨x, hx, x1, x2⟩ := sec_near hF (show pF ≤ U by grind) (show U < lastB pF F by grind)
    have x3 : V ≤ x.b := by
      apply Decidable.byContradiction
      intro hn
      have hin : x.b ∈ (bs T).dropLast := by
        rw [inner, List.mem_filter]
        exact ⟨List.mem_map.2 ⟨x, hx, rfl⟩, inB_true (by grind) (by grind)⟩
      exact nomid x.b (List.mem_cons_of_mem _ (List.dropLast_subset _ hin)) x2 (by grind)
    have lF : ∀ Q, U ≤ Q → Q ≤ V → posS F Q = posS F U + ((x.old : Rat) / (x.area : Rat)) * (Q - U) := fun Q q1 q2 => by
      rw [posS_sec hF hx (P := Q) (by grind) (by grind), posS_sec hF hx (P := U) x1 (by grind)]
      grind
    have lT : ∀ Q, U ≤ Q → Q ≤ V → posS T Q = posS T U + ((y.old : Rat) / (y.area : Rat)) * (Q - U) := fun Q q1 q2 => by
      rw [posS_sec hT hy (P := Q) (by grind) (by grind), posS_sec hT hy (P := U) y1 (by grind)]
      grind
    have hr : 0 < (x.old : Rat) / (x.area : Rat) := by
      have hxo := chain_ok hF x hx
      rw [Rat.div_def]
      exact Rat.mul_pos (int_pos hxo.old1) (Rat.inv_pos.2 (int_pos hxo.area1))
    rw [lF P hU (Rat.le_of_lt hV), lT P hU (Rat.le_of_lt hV)]
    exact seg_lin (a := (posS F U, posS T U)) (b := (posS F V, posS T V)) (D := V - U) (by grind) hr (lF V (Rat.le_of_lt hUV) Rat.le_refl) (lT V (Rat.le_of_lt hUV) Rat.le_refl)
end Go.Lift
