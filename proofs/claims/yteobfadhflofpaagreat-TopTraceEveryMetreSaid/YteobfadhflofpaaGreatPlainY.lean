/-
  Volumes of parts of the slab.
-/
import Derived.Test.YteobfadhflofpaaGreatPlainX
import Derived.Test.YteobfadhflofpaaGreatPlainG
set_option linter.unusedSectionVars false
set_option linter.unusedVariables false
set_option linter.unusedSimpArgs false
namespace Go.Lift
open Go
def ovl (A B : Rat) (x : Sec) : Rat := if laterQ x.a A < earlierQ x.b B then (earlierQ x.b B - laterQ x.a A) * (x.area : Rat) else 0
def slabV (A B : Rat) : List Sec → Rat
  | [] => 0
  | x :: l => ovl A B x + slabV A B l
theorem ovl_add {A B C : Rat} {x : Sec} (hx : x.a < x.b) (h1 : A ≤ B) (h2 : B ≤ C) : ovl A B x + ovl B C x = ovl A C x := by
  unfold ovl laterQ earlierQ
  (repeat' split) <;> grind
theorem slabV_add {A B C : Rat} (h1 : A ≤ B) (h2 : B ≤ C) : ∀ {l : List Sec}, (∀ x, x ∈ l → x.a < x.b) → slabV A B l + slabV B C l = slabV A C l
  | [], _ => by unfold slabV; grind
  | x :: l, h => by
    have ih := slabV_add h1 h2 (l := l) fun y hy => h y (List.mem_cons_of_mem _ hy)
    have := ovl_add (h x (by simp)) h1 h2
    unfold slabV
    grind
theorem slabV_self {A : Rat} : ∀ {l : List Sec}, slabV A A l = 0
  | [] => rfl
  | x :: l => by
    have : ovl A A x = 0 := by
      unfold ovl laterQ earlierQ
      (repeat' split) <;> grind
    show ovl A A x + slabV A A l = 0
    rw [this, slabV_self]
    grind
theorem slabV_out {A B : Rat} : ∀ {l : List Sec} {p q : Rat}, Secs p q l → A < B → B ≤ p → slabV A B l = 0
  | [], _, _, _, _, _ => rfl
  | x :: l, p, q, ⟨h1, h2, hx, hc⟩, h3, h4 => by
    have hab := hx.ab
    have : ovl A B x = 0 := by
      unfold ovl laterQ earlierQ
      (repeat' split) <;> grind
    show ovl A B x + slabV A B l = 0
    rw [this, slabV_out hc h3 (by grind)]
    grind
theorem slabV_in {A B : Rat} : ∀ {l : List Sec} {p q : Rat}, Secs p q l → ∀ {s : Sec}, s ∈ l → s.a ≤ A → A < B → B ≤ s.b → slabV A B l = (B - A) * (s.area : Rat)
  | [], _, _, _, _, h, _, _, _ => by cases h
  | x :: l, p, q, ⟨h1, h2, hx, hc⟩, s, hs, h3, h4, h5 => by
    have hab := hx.ab
    show ovl A B x + slabV A B l = _
    rcases List.mem_cons.1 hs with rfl | hs
    · rw [slabV_out hc h4 h5]
      have : ovl A B s = (B - A) * (s.area : Rat) := by
        unfold ovl laterQ earlierQ
        (repeat' split) <;> grind
      rw [this]
      grind
    · rw [slabV_in hc hs h3 h4 h5]
      have hsa : x.b ≤ s.a := by
        have : ∀ {l : List Sec} {p q : Rat}, Secs p q l → s ∈ l → p ≤ s.a := by
          intro l
          induction l with
          | nil => intro _ _ _ h; cases h
          | cons y l ih =>
            intro p q ⟨g1, g2, gy, gc⟩ h
            rcases List.mem_cons.1 h with rfl | h
            · rw [g1]; exact Rat.le_refl
            · have := ih gc h
              have := gy.ab
              grind
        exact this hc hs
      have : ovl A B x = 0 := by
        unfold ovl laterQ earlierQ
        (repeat' split) <;> grind
      rw [this]
      grind
def Within (F T : List Sec) : Prop := ∀ x, x ∈ T → ∃ s, s ∈ F ∧ s.a ≤ x.a ∧ x.b ≤ s.b ∧ s.old = x.old
theorem within_rolled {F : List Sec} : ∀ {l : List Sec} {m : List Int} {t : Rat}, Within F l → Within F (rolledS t l m)
  | [], m, t, _ => fun x hx => by cases m <;> cases hx
  | _ :: _, [], _, _ => fun x hx => by cases hx
  | y :: l, n :: m, t, h => fun x hx => by
    rcases List.mem_cons.1 hx with rfl | hx
    · exact h y (by simp)
    · exact within_rolled (fun z hz => h z (List.mem_cons_of_mem _ hz)) x hx
theorem within_cut {F : List Sec} {lo hi : Rat} : ∀ {l : List Sec}, (∀ x, x ∈ l → SecOk x) → Within F l → Within F (cutS lo hi l)
  | [], _, _ => fun x hx => by cases hx
  | y :: l, hok, h => fun x hx => by
    have ih := within_cut (lo := lo) (hi := hi) (fun z hz => hok z (List.mem_cons_of_mem _ hz)) (fun z hz => h z (List.mem_cons_of_mem _ hz))
    rw [cutS_cons] at hx
    by_cases hlt : (if y.u < lo then lo else y.u) < (if hi < y.v then hi else y.v)
    · rw [if_pos hlt] at hx
      rcases List.mem_cons.1 hx with rfl | hx
      · obtain ⟨s, hs, s1, s2, s3⟩ := h y (by simp)
        have hy := hok y (by simp)
        have e1 := onSec_of_q hy (q := if y.u < lo then lo else y.u) (by split <;> grind) (by
          have : (if hi < y.v then hi else y.v) ≤ y.v := by (repeat' split) <;> grind
          grind)
        have e2 := onSec_of_q hy (q := if hi < y.v then hi else y.v) (by
          have : y.u ≤ (if y.u < lo then lo else y.u) := by (repeat' split) <;> grind
          grind) (by split <;> grind)
        refine ⟨s, hs, ?_, ?_, s3⟩
        · have := e1.1; show s.a ≤ y.a + _; grind
        · have := e2.2.1; show y.a + _ ≤ s.b; grind
      · exact ih x hx
    · rw [if_neg hlt] at hx
      exact ih x hx
theorem within_step {F l out : List Sec} {x : Dapi_TraceStep} (h : StepRel l x out) (hok : ∀ y, y ∈ l → SecOk y) (hw : Within F l) : Within F out := by
  rcases h with ⟨_, rfl, _⟩ | ⟨_, rfl, _⟩
  · exact within_rolled hw
  · exact within_cut hok hw
theorem inSlab_ok {c : Dapi_TraceCourse} (hv : Valid c) : ∀ (k : Nat), k ≤ c.2.2.2.length → Within (stS c 0) (stS c k)
  | 0, _ => fun x hx => ⟨x, hx, Rat.le_refl, Rat.le_refl, rfl⟩
  | k + 1, h => within_step (hv.rel k (by omega)) (fun y hy => ((hv.strip k (by omega)).each y hy).1) (inSlab_ok hv k (by omega))
theorem vol_slab {F : List Sec} {pF qF : Rat} (hF : Secs pF qF F) (hold : ∀ s, s ∈ F → s.old = s.area) : ∀ {T : List Sec} {p q : Rat}, Secs p q T → Within F T → volS T = slabV p (lastB p T) F
  | [], p, _, _, _ => by show 0 = slabV p p F; rw [slabV_self]
  | x :: T, p, q, ⟨h1, h2, hx, hc⟩, hw => by
    obtain ⟨s, hs, s1, s2, s3⟩ := hw x (by simp)
    have ih := vol_slab hF hold hc fun y hy => hw y (List.mem_cons_of_mem _ hy)
    have hab := hx.ab
    have e1 := slabV_in hF hs s1 hab s2
    have e2 := hx.vol
    have hge := lastB_ge hc
    have e3 := slabV_add (A := x.a) (B := x.b) (C := lastB x.b T) (Rat.le_of_lt hab) hge (l := F) fun y hy => (chain_ok hF y hy).ab
    show (x.v - x.u) * (x.area : Rat) + volS T = slabV p (lastB x.b T) F
    rw [ih, ← h1, ← e3, e1, ← e2, ← s3, hold s hs]
end Go.Lift
