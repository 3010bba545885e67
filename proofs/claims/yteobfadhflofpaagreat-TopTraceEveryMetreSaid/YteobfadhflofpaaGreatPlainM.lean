/-
  The ends of sections between two strips.
-/
import Derived.Test.YteobfadhflofpaaGreatPlainE
import Derived.Test.YteobfadhflofpaaGreatPlainF
set_option linter.unusedSectionVars false
set_option linter.unusedVariables false
set_option linter.unusedSimpArgs false
namespace Go.Lift
open Go
def bs (l : List Sec) : List Rat := l.map (·.b)
def lastB : Rat → List Sec → Rat
  | p, [] => p
  | _, x :: l => lastB x.b l
theorem on_end : ∀ {l : List Sec} {p q : Rat}, Secs p q l → l ≠ [] → On l (lastB p l) (lastV q l)
  | [], _, _, _, h => absurd rfl h
  | [x], _, _, ⟨_, _, hx, _⟩, _ => on_cons.2 (Or.inl (onSec_end hx))
  | x :: y :: l, _, _, ⟨_, _, _, hc⟩, _ => on_cons.2 (Or.inr (on_end hc (by simp)))
theorem lastB_ge : ∀ {l : List Sec} {p q : Rat}, Secs p q l → p ≤ lastB p l
  | [], _, _, _ => Rat.le_refl
  | x :: l, p, q, ⟨h1, _, hx, hc⟩ => by
    have := lastB_ge hc
    have := hx.ab
    show p ≤ lastB x.b l
    grind
theorem b_gt : ∀ {l : List Sec} {p q : Rat}, Secs p q l → ∀ x, x ∈ l → p < x.b
  | [], _, _, _, _, h => by cases h
  | x :: l, p, q, ⟨h1, _, hx, hc⟩, y, hy => by
    have := hx.ab
    rcases List.mem_cons.1 hy with rfl | hy
    · grind
    · have := b_gt hc y hy
      grind
def inB (p e : Rat) (b : Rat) : Bool := decide (p < b) && decide (b < e)
theorem inB_true {p e b : Rat} (h1 : p < b) (h2 : b < e) : inB p e b = true := by unfold inB; rw [dec_true h1, dec_true h2]; rfl
theorem inB_left {p e b : Rat} (h : ¬ p < b) : inB p e b = false := by unfold inB; rw [dec_false h]; rfl
theorem inB_right {p e b : Rat} (h : ¬ b < e) : inB p e b = false := by unfold inB; rw [dec_false h, Bool.and_false]
theorem inner_self : ∀ {l : List Sec} {p q : Rat}, Secs p q l → (bs l).dropLast = (bs l).filter (inB p (lastB p l))
  | [], _, _, _ => rfl
  | [x], p, q, ⟨_, _, _, _⟩ => by
    show [] = List.filter (inB p x.b) [x.b]
    rw [List.filter_cons, inB_right (by grind)]
    rfl
  | x :: y :: l, p, q, ⟨h1, h2, hx, hc⟩ => by
    have hab := hx.ab
    have hy := lastB_ge hc.2.2.2
    have hyab := hc.2.2.1.ab
    have hya := hc.1
    have hle : lastB p (x :: y :: l) = lastB x.b (y :: l) := rfl
    have hlt : x.b < lastB x.b (y :: l) := by
      show x.b < lastB y.b l
      grind
    rw [hle]
    show (x.b :: bs (y :: l)).dropLast = List.filter _ (x.b :: bs (y :: l))
    rw [List.dropLast_cons_of_ne_nil (by simp [bs]), inner_self hc, List.filter_cons, inB_true (by grind) hlt, if_pos rfl]
    congr 1
    refine List.filter_congr fun b hb => ?_
    obtain ⟨z, hz, rfl⟩ := List.mem_map.1 hb
    have := b_gt hc z hz
    unfold inB
    rw [dec_true this, dec_true (show p < z.b by grind)]
theorem cut_inner : ∀ {l : List Sec} {p q lo hi : Rat}, Secs p q l → lo < hi → hi ≤ lastV q l → (bs (cutS lo hi l)).dropLast = (l.filter fun x => inB lo hi x.v).map (·.b)
  | [], _, _, _, _, _, _, _ => rfl
  | x :: l, p, q, lo, hi, ⟨h1, h2, hx, hc⟩, hlt, hlast => by
    have hxv := hx.uv
    have hl : hi ≤ lastV x.v l := hlast
    rw [cutS_cons, List.filter_cons]
    by_cases hd : lo < x.v
    · by_cases hh : x.v < hi
      · rw [inB_true hd hh, if_pos rfl, if_neg (show ¬ hi < x.v by grind), if_pos (show (if x.u < lo then lo else x.u) < x.v by split <;> grind)]
        have hne : l ≠ [] := by
          rintro rfl
          have : lastV x.v [] = x.v := rfl
          grind
        obtain ⟨y, l', rfl⟩ : ∃ y l', l = y :: l' := by
          cases l with
          | nil => exact absurd rfl hne
          | cons y l' => exact ⟨y, l', rfl⟩
        have hyu : y.u = x.v := hc.2.1
        have hyv := hc.2.2.1.uv
        have hcne : cutS lo hi (y :: l') ≠ [] := by
          rw [cutS_cons, if_pos (show (if y.u < lo then lo else y.u) < (if hi < y.v then hi else y.v) by split <;> split <;> grind)]
          simp
        have ih := cut_inner hc hlt hl
        show (_ :: bs (cutS lo hi (y :: l'))).dropLast = _
        rw [List.dropLast_cons_of_ne_nil (by unfold bs; simpa using hcne), ih, List.map_cons, sec_b hx]
      · rw [inB_right hh]
        have hfil : (l.filter fun x => inB lo hi x.v) = [] := by
          rw [List.filter_eq_nil_iff]
          intro y hy
          rw [inB_right]
          · decide
          · have h1 : x.v ≤ y.v := by
              have := (on_ge hc ⟨y, hy, onSec_end (chain_ok hc y hy)⟩).2.1
              exact this
            grind
        have hcut : cutS lo hi l = [] := cut_nil hc hlt (by grind)
        rw [hfil, hcut]
        by_cases hk : (if x.u < lo then lo else x.u) < (if hi < x.v then hi else x.v)
        · rw [if_pos hk]; rfl
        · rw [if_neg hk]; rfl
    · rw [inB_left hd]
      have : ¬ (if x.u < lo then lo else x.u) < (if hi < x.v then hi else x.v) := by split <;> split <;> grind
      rw [if_neg this]
      exact cut_inner hc hlt hl
theorem filter_ends {l : List Sec} {p q A E lo hi : Rat} (hc : Secs p q l) (h1 : On l A lo) (h2 : On l E hi) : (l.filter fun x => inB lo hi x.v).map (·.b) = (bs l).filter (inB A E) := by
  unfold bs
  rw [List.filter_map]
  congr 1
  refine List.filter_congr fun x hx => ?_
  have ho : On l x.b x.v := ⟨x, hx, onSec_end (chain_ok hc x hx)⟩
  have m1 := on_mono hc ho h1
  have m2 := on_mono hc h2 ho
  unfold inB
  simp only [Function.comp]
  congr 1
  · rw [decide_eq_decide]; grind
  · rw [decide_eq_decide]; grind
theorem bs_last : ∀ {l : List Sec} {p : Rat}, l ≠ [] → bs l = (bs l).dropLast ++ [lastB p l]
  | [], _, h => absurd rfl h
  | [x], _, _ => rfl
  | x :: y :: l, p, _ => by
    show x.b :: bs (y :: l) = (x.b :: bs (y :: l)).dropLast ++ [lastB x.b (y :: l)]
    rw [List.dropLast_cons_of_ne_nil (by simp [bs]), List.cons_append, ← bs_last (by simp)]
theorem bs_rolled : ∀ {l : List Sec} {m : List Int} {t p : Rat}, l.length = m.length → bs (rolledS t l m) = bs l ∧ lastB p (rolledS t l m) = lastB p l
  | [], [], _, _, _ => ⟨rfl, rfl⟩
  | [], _ :: _, _, _, h => by cases h
  | _ :: _, [], _, _, h => by cases h
  | x :: l, n :: m, t, p, h => by
    obtain ⟨h1, h2⟩ := bs_rolled (l := l) (m := m) (t := t + (x.v - x.u) * ((x.area : Rat) / (n : Rat))) (p := x.b) (by simpa using h)
    constructor
    · show x.b :: bs (rolledS _ l m) = x.b :: bs l
      rw [h1]
    · exact h2
def Inner (F T : List Sec) : Prop := ∃ p, Secs p 0 T ∧ T ≠ [] ∧ (bs T).dropLast = (bs F).filter (inB p (lastB p T))
theorem cut_ends {l : List Sec} {p lo hi : Rat} (hp : Secs p 0 l) (hne : l ≠ []) (h0 : 0 ≤ lo) (hlt : lo < hi) (hl : hi ≤ lastV 0 l) : ∃ p', Secs p' 0 (cutS lo hi l) ∧ cutS lo hi l ≠ [] ∧ On l p' lo ∧ On l (lastB p' (cutS lo hi l)) hi := by
  obtain ⟨p', hp'⟩ := chain_cut hp hlt h0
  have hcne := cut_ne hp hlt h0 hl
  have a1 := (on_cut hp hlt (on_begin hp' hcne)).1
  rw [Rat.zero_add] at a1
  have a2 := on_cut hp hlt (on_end hp' hcne)
  have hE := slabAt_on hp hne (Q := hi) (by grind) hl
  have a3 := cut_on hp hlt (by grind) hl (by grind) Rat.le_refl hE
  have a4 := on_le_last hp' a3
  have a5 : lastV 0 (cutS lo hi l) + lo = hi := by grind
  have a6 := a2.1
  rw [a5] at a6
  exact ⟨p', hp', hcne, a1, a6⟩
theorem inner_step {F T T' : List Sec} {x : Dapi_TraceStep} (h : Inner F T) (hs : StepRel T x T') : Inner F T' := by
  obtain ⟨p, hp, hne, hi⟩ := h
  rcases hs with ⟨_, rfl, k3, k4⟩ | ⟨_, rfl, k3, k4, k5, k6⟩
  · obtain ⟨e1, e2⟩ := bs_rolled (t := 0) (p := p) k3
    refine ⟨p, rolled_ok hp k3 k4, ?_, by rw [e1, e2]; exact hi⟩
    intro e
    have := rolled_len (t := 0) k3
    rw [e] at this
    exact hne (List.length_eq_zero_iff.1 this.symm)
  · have hlt : (x.2.2.1 : Rat) < (x.2.2.2 : Rat) := by rw [Rat.intCast_lt_intCast]; exact k4
    have h0 : (0 : Rat) ≤ (x.2.2.1 : Rat) := by rw [← Rat.intCast_zero, Rat.intCast_le_intCast]; exact k3
    obtain ⟨p', hp', hcne, o1, o2⟩ := cut_ends hp hne h0 hlt k6
    refine ⟨p', hp', hcne, ?_⟩
    rw [cut_inner hp hlt k6, filter_ends hp o1 o2, bs_last (p := p) hne, List.filter_append, hi, List.filter_filter]
    have ob := on_begin hp hne
    have oe := on_end hp hne
    have m1 := (on_mono hp ob o1).2 h0
    have m2 := (on_mono hp o2 oe).2 k6
    have hz : List.filter (inB p' (lastB p' (cutS (x.2.2.1 : Rat) (x.2.2.2 : Rat) T))) [lastB p T] = [] := by
      rw [List.filter_cons, inB_right (by grind)]
      rfl
    rw [hz, List.append_nil]
    refine List.filter_congr fun b _ => ?_
    unfold inB
    by_cases g1 : p' < b
    · by_cases g2 : b < lastB p' (cutS (x.2.2.1 : Rat) (x.2.2.2 : Rat) T)
      · rw [dec_true g1, dec_true g2, dec_true (show p < b by grind), dec_true (show b < lastB p T by grind)]; rfl
      · rw [dec_false g2]; simp
    · rw [dec_false g1]; simp
theorem inner_ok {c : Dapi_TraceCourse} (hv : Valid c) {k : Nat} : ∀ (d : Nat), k + d ≤ c.2.2.2.length → Inner (stS c k) (stS c (k + d))
  | 0, h => by
    obtain ⟨p, hp⟩ := (hv.strip k (by omega)).secs
    exact ⟨p, hp, (hv.strip k (by omega)).ne, inner_self hp⟩
  | d + 1, h => inner_step (inner_ok hv d (by omega)) (hv.rel (k + d) (by omega))
end Go.Lift
