/-
  What the evaluator computes of code and of functions, these do.
-/
import Derived.Test.YtkoojmbkjgbdgaaGreatDoorLiftM
import Derived.LoopNIn
import Derived.Test.YtkoojmbkjgbdgaaGreatDoorLiftH
set_option linter.unusedSectionVars false
set_option linter.unusedVariables false
set_option linter.unusedSimpArgs false
namespace Go.Lift
open Go Go.RowKit
variable [Tab] [Mf]
variable {P : Program} {Γ : Ctx} {base : Nat} {κ κ' κ2 : Nat → Option Nat} {M M' : Mem} {σ σ0 τ σ' τ' : St} {a a' : Act} {w w' : World}
def exOf : Ex → Exit
  | .normal => .normal
  | .exit id => .exit id
  | .ret => .ret
theorem rel_dirt (hR : Rel P base κ M σ a w) (h1 : τ.env = σ.env) (h2 : τ.box = σ.box) (h3 : τ.tok = σ.tok) : Rel P base κ M τ a w := by
  refine ⟨?_, ?_, hR.good, hR.inj, hR.kap, ?_, hR.low⟩
  · rw [h1, h2, h3]; exact hR.env
  · rw [h2, h3]; exact hR.bx
  · rw [h2, h3]; exact hR.dis
theorem fr_dirt {W : List Nat} {σ1 σ2 : St} (h : Fr base W κ M σ0 a w κ' M' σ1 a' w') (h0 : σ0.box = σ.box) (h1 : σ2.box = σ1.box) (h2 : ∀ i, σ2.dirty i = false → σ.dirty i = false ∧ σ1.dirty i = false) :
    Fr base W κ M σ a w κ' M' σ2 a' w' :=
  ⟨h.below, h.le, h.mem, h.size, h.defers, h.tmps, fun i hi hd => ⟨(h2 i hd).1, (h.ids i hi (h2 i hd).2).2⟩, fun i hi B hB => by
    have := h.bx i hi B (by rw [← h1]; exact hB)
    rw [h0] at this; exact this, h.oth, h.same⟩
theorem fr_round {W V : List Nat} {L : Desc} {κ1 : Nat → Option Nat} {M1 : Mem} {a1 : Act} {w1 : World} (h0 : ∀ i, σ0.dirty i = false) (h : Fr base W κ M σ0 a w κ1 M1 (τ.back σ0 L) a1 w1) (hk : Fr base V κ1 M1 τ a1 w1 κ' M' σ' a' w') (hV : ∀ s, s ∈ V → s ∈ W) :
    Fr base W κ M σ0 a w κ' M' (σ'.soil L.gone) a' w' := by
  have hk2 : Fr base V κ1 M1 (τ.back σ0 L) a1 w1 κ' M' (σ'.soil L.gone) a' w' := by
    refine ⟨hk.below, hk.le, hk.mem, hk.size, hk.defers, hk.tmps, fun i hi hd => ?_, fun i hi B hB => hk.bx i hi B hB, hk.oth, hk.same⟩
    simp only [St.soil, Bool.or_eq_false_iff] at hd
    refine ⟨?_, (hk.ids i hi hd.2).2⟩
    have := hd.1
    unfold Desc.gone at this
    simp only [St.back, h0 i, this]; rfl
  exact h.trans hk2 (fun s hs => hs) hV
theorem ownOf_congr (h1 : σ.env = τ.env) (h2 : σ.box = τ.box) (i : It) : ownOf σ i = ownOf τ i := by unfold ownOf; rw [h1, h2]
theorem grab1_congr (h1 : σ.env = τ.env) (h2 : σ.box = τ.box) (i : It) : grab1 σ i = grab1 τ i := by unfold grab1; rw [h1, h2]
theorem gots_congr (h1 : σ.env = τ.env) (h2 : σ.box = τ.box) : ∀ l, gots σ l = gots τ l
  | [] => rfl
  | i :: r => by simp only [gots, ownOf_congr h1 h2, gots_congr h1 h2 r]
theorem grab_congr (h1 : σ.env = τ.env) (h2 : σ.box = τ.box) : ∀ l, Lift.grab σ l = Lift.grab τ l
  | [] => rfl
  | [i] => grab1_congr h1 h2 i
  | i :: j :: r => by simp only [Lift.grab, grab1_congr h1 h2, grab_congr h1 h2 (j :: r)]
theorem grab0_eq (σ τ : St) (h1 : σ.env = τ.env) (h2 : σ.box = τ.box) (L : Desc) : L.grab0 σ = L.grab0 τ := by
  unfold Desc.grab0 gotsOk; rw [gots_congr h1 h2, grab_congr h1 h2]
theorem grab_some {L : Desc} {s : L.den} (h : L.grab σ = some s) : (∀ b, b ∈ L.kb → σ.dirty b = false) ∧ L.grab0 σ = some s := by
  unfold Desc.grab at h
  split at h
  · rename_i hk
    refine ⟨fun b hb => ?_, h⟩
    have := List.all_eq_true.1 hk b hb
    simpa using this
  · cases h
theorem loopM_some {S R : Type} {f : S → Option (S ⊕ R)} {s : S} {r : R} (h : loopM f s = some r) : ∃ n, loopN f n s = some r := by
  unfold loopM at h
  split at h
  · rename_i hx
    simp only [Option.some.injEq] at h
    subst h
    exact ⟨_, Classical.choose_spec (Classical.choose_spec hx)⟩
  · cases h
structure Head (P : Program) (base : Nat) (L : Desc) (σ : St) (ws : List Nat) (κ : Nat → Option Nat) (M : Mem) (a : Act) (w : World) (s : L.den) (κ1 : Nat → Option Nat) (M1 : Mem) (a1 : Act) (w1 : World) : Prop where
  rel : Rel P base κ1 M1 (L.put σ ws s) a1 w1
  fr : Fr base ws κ M { σ with dirty := fun _ => false } a w κ1 M1 ((L.put σ ws s).back { σ with dirty := fun _ => false } L) a1 w1
theorem head_startF (hR : Rel P base κ M σ a w) {L : Desc} {ws : List Nat} (hok : L.ok σ ws = true) {s : L.den} (hg : L.grab0 σ = some s) : ∃ κ1, Head P base L σ ws κ M a w s κ1 M a w ∧ KFrom L σ.tok κ κ1 := by
  have hg' : L.grab0 { σ with dirty := fun _ => false } = some s := by rw [← hg]; exact grab0_eq { σ with dirty := fun _ => false } σ rfl rfl L
  obtain ⟨κ1, h1, h2, h3⟩ := join_rel (σ0 := { σ with dirty := fun _ => false }) hR (okD hok) (rel_dirt hR (τ := { σ with dirty := fun _ => false }) rfl rfl rfl) rfl (Fr.refl (W := ws)) (fun _ _ => rfl) hg'
  exact ⟨κ1, ⟨h1, h2⟩, h3⟩
theorem head_start (hR : Rel P base κ M σ a w) {L : Desc} {ws : List Nat} (hok : L.ok σ ws = true) {s : L.den} (hg : L.grab0 σ = some s) : ∃ κ1, Head P base L σ ws κ M a w s κ1 M a w := by
  obtain ⟨κ1, h, _⟩ := head_startF hR hok hg
  exact ⟨κ1, h⟩
theorem head_nextF (hR : Rel P base κ M σ a w) {L : Desc} {ws : List Nat} (hok : L.ok σ ws = true) {s s' : L.den} {κ1 : Nat → Option Nat} {M1 : Mem} {a1 : Act} {w1 : World}
    (hH : Head P base L σ ws κ M a w s κ1 M1 a1 w1) (hR' : Rel P base κ' M' σ' a' w') (hF : Fr base ws κ1 M1 (L.put σ ws s) a1 w1 κ' M' σ' a' w') (hg : L.grab σ' = some s') :
    ∃ κ2, Head P base L σ ws κ M a w s' κ2 M' a' w' ∧ KFrom L σ'.tok κ' κ2 := by
  obtain ⟨hd, hg0⟩ := grab_some hg
  have hF2 := fr_round (fun _ => rfl) hH.fr hF (fun _ h => h)
  have hg' : L.grab0 (σ'.soil L.gone) = some s' := by rw [← hg0]; exact grab0_eq (σ'.soil L.gone) σ' rfl rfl L
  obtain ⟨κ2, h1, h2, h3⟩ := join_rel (σ0 := { σ with dirty := fun _ => false }) hR (okD hok) (rel_dirt hR' (τ := σ'.soil L.gone) rfl rfl rfl) rfl hF2 (fun b hb => by
    simp only [St.soil, Desc.gone, keeps_iff.2 hb, hd b hb]; rfl) hg'
  exact ⟨κ2, ⟨h1, h2⟩, h3⟩
theorem head_next (hR : Rel P base κ M σ a w) {L : Desc} {ws : List Nat} (hok : L.ok σ ws = true) {s s' : L.den} {κ1 : Nat → Option Nat} {M1 : Mem} {a1 : Act} {w1 : World}
    (hH : Head P base L σ ws κ M a w s κ1 M1 a1 w1) (hR' : Rel P base κ' M' σ' a' w') (hF : Fr base ws κ1 M1 (L.put σ ws s) a1 w1 κ' M' σ' a' w') (hg : L.grab σ' = some s') :
    ∃ κ2, Head P base L σ ws κ M a w s' κ2 M' a' w' := by
  obtain ⟨κ2, h, _⟩ := head_nextF hR hok hH hR' hF hg
  exact ⟨κ2, h⟩
theorem head_exit (hR : Rel P base κ M σ a w) {L B : Desc} {ws : List Nat} (hok : B.ok σ ws = true) {s : L.den} {b : B.den} {κ1 : Nat → Option Nat} {M1 : Mem} {a1 : Act} {w1 : World}
    (hH : Head P base L σ ws κ M a w s κ1 M1 a1 w1) (hR' : Rel P base κ' M' σ' a' w') (hF : Fr base ws κ1 M1 (L.put σ ws s) a1 w1 κ' M' σ' a' w') (hg : B.grab (σ'.soil L.gone) = some b) :
    ∃ κ2, Rel P base κ2 M' ((B.put σ ws b).back σ B) a' w' ∧ Fr base ws κ M σ a w κ2 M' ((B.put σ ws b).back σ B) a' w' := by
  obtain ⟨hd, hg0⟩ := grab_some hg
  have hF2 := fr_round (fun _ => rfl) hH.fr hF (fun _ h => h)
  obtain ⟨κ2, h1, h2, _⟩ := join_rel (σ0 := { σ with dirty := fun _ => false }) hR (okD hok) (rel_dirt hR' (τ := σ'.soil L.gone) rfl rfl rfl) rfl hF2 hd hg0
  refine ⟨κ2, rel_dirt h1 rfl rfl rfl, fr_dirt h2 rfl rfl fun i hi => ?_⟩
  simp only [St.back, Bool.or_eq_false_iff] at hi ⊢
  exact ⟨hi.1, (by trivial), hi.2⟩
theorem head_out {L : Desc} {ws : List Nat} {s : L.den} {κ1 : Nat → Option Nat} {M1 : Mem} {a1 : Act} {w1 : World}
    (hH : Head P base L σ ws κ M a w s κ1 M1 a1 w1) (hR' : Rel P base κ' M' σ' a' w') (hF : Fr base ws κ1 M1 (L.put σ ws s) a1 w1 κ' M' σ' a' w') :
    Rel P base κ' M' (σ'.soil fun b => σ.dirty b || L.gone b) a' w' ∧ Fr base ws κ M σ a w κ' M' (σ'.soil fun b => σ.dirty b || L.gone b) a' w' := by
  have hF2 := fr_round (fun _ => rfl) hH.fr hF (fun _ h => h)
  refine ⟨rel_dirt hR' rfl rfl rfl, fr_dirt hF2 rfl rfl fun i hi => ?_⟩
  simp only [St.soil, Bool.or_eq_false_iff] at hi ⊢
  exact ⟨hi.1.1, hi.1.2, hi.2⟩
theorem fr_soil {V : List Nat} {g : Nat → Bool} (h : Fr base V κ M σ a w κ' M' σ' a' w') : Fr base V κ M (σ.soil g) a w κ' M' (σ'.soil g) a' w' := by
  refine ⟨h.below, h.le, h.mem, h.size, h.defers, h.tmps, fun i hi hd => ?_, h.bx, h.oth, h.same⟩
  simp only [St.soil, Bool.or_eq_false_iff] at hd ⊢
  obtain ⟨d1, d2⟩ := h.ids i hi hd.2
  exact ⟨⟨hd.1, d1⟩, d2⟩
theorem head_nextC (hR : Rel P base κ M σ a w) {L : Desc} {ws : List Nat} (hok : L.ok σ ws = true) {s' : L.den} (hR' : Rel P base κ' M' σ' a' w') (hF : Fr base ws κ M { σ with dirty := fun _ => false } a w κ' M' (σ'.soil L.gone) a' w') (hg : L.grab σ' = some s') :
    ∃ κ2, Head P base L σ ws κ M a w s' κ2 M' a' w' := by
  obtain ⟨hd, hg0⟩ := grab_some hg
  have hg' : L.grab0 (σ'.soil L.gone) = some s' := by rw [← hg0]; exact grab0_eq (σ'.soil L.gone) σ' rfl rfl L
  obtain ⟨κ2, h1, h2, _⟩ := join_rel (σ0 := { σ with dirty := fun _ => false }) hR (okD hok) (rel_dirt hR' (τ := σ'.soil L.gone) rfl rfl rfl) rfl hF (fun b hb => by
    simp only [St.soil, Desc.gone, keeps_iff.2 hb, hd b hb]; rfl) hg'
  exact ⟨κ2, h1, h2⟩
theorem head_outC {L : Desc} {ws : List Nat} (hR' : Rel P base κ' M' σ' a' w') (hF : Fr base ws κ M { σ with dirty := fun _ => false } a w κ' M' (σ'.soil L.gone) a' w') :
    Rel P base κ' M' (σ'.soil fun b => σ.dirty b || L.gone b) a' w' ∧ Fr base ws κ M σ a w κ' M' (σ'.soil fun b => σ.dirty b || L.gone b) a' w' := by
  refine ⟨rel_dirt hR' rfl rfl rfl, fr_dirt hF rfl rfl fun i hi => ?_⟩
  simp only [St.soil, Bool.or_eq_false_iff] at hi ⊢
  exact ⟨hi.1.1, hi.1.2, hi.2⟩
theorem rounds {L : Desc} {ws : List Nat} {c : Code} {F : Fence} {n : Nat} {Q : Exit → Act → World → Prop} {R : Type} {f : L.den → Option (L.den ⊕ R)} {r : R}
    (hbody : ∀ s x κ1 M1 a1 w1, Head P base L σ ws κ M a w s κ1 M1 a1 w1 → f s = some x → ∀ (K : Act → World → Prop),
      (∀ s' κ2 M2 a2 w2, x = .inl s' → Head P base L σ ws κ M a w s' κ2 M2 a2 w2 → K a2 w2) → (∀ r', x = .inr r' → r' = r) → c.wpIn F n P (Exit.then K Q) a1 w1) :
    ∀ m s κ1 M1 a1 w1, loopN f m s = some r → Head P base L σ ws κ M a w s κ1 M1 a1 w1 → Code.roundsIn F n P c Q m a1 w1
  | 0, _, _, _, _, _, h, _ => by simp [loopN] at h
  | m + 1, s, κ1, M1, a1, w1, h, hH => by
    simp only [loopN] at h
    rw [roundsIn_succ]
    split at h
    · rename_i s' hf
      refine hbody s _ κ1 M1 a1 w1 hH hf _ (fun s2 κ2 M2 a2 w2 he hH2 => ?_) (fun r' he => by cases he)
      cases he
      exact rounds hbody m s' κ2 M2 a2 w2 h hH2
    · rename_i r' hf
      simp only [Option.some.injEq] at h
      subst h
      exact hbody s _ κ1 M1 a1 w1 hH hf _ (fun s2 κ2 M2 a2 w2 he hH2 => by cases he) (fun r'' he => by cases he; rfl)
    · cases h
theorem loopL_append {X S R : Type} {f : X → S → Option (S ⊕ R)} : ∀ {l m : List X} {s : S}, loopL f (l ++ m) s = (loopL f l s).bind fun j => match j with
    | .inl s' => loopL f m s'
    | .inr r => some (.inr r)
  | [], _, _ => rfl
  | x :: l, m, s => by
    simp only [List.cons_append, loopL]
    cases f x s with
    | none => rfl
    | some j =>
      cases j with
      | inl s' => exact loopL_append
      | inr r => rfl
theorem rangeAt_some {g : Operand} {ps : Array Tmp} {e : Ty} {xs : List e.den} {p : Nat} (h : rangeAt σ g ps = some ⟨e, xs, p⟩) :
    ∃ (q : Nat) (own : Own), g = .tmp q ∧ ps.toList = [p] ∧ σ.env q = some (.data (.seq e) xs own) := by
  unfold rangeAt at h
  split at h
  · rename_i q p0 hps
    split at h
    · rename_i e0 xs0 own he
      simp only [Option.some.injEq, Sigma.mk.injEq] at h
      obtain ⟨rfl, h⟩ := h
      have h := eq_of_heq h
      simp only [Prod.mk.injEq] at h
      obtain ⟨rfl, rfl⟩ := h
      exact ⟨q, own, rfl, hps, he⟩
    · cases h
  · cases h
theorem relV_scal {e : Ty} (h : e.scal = true) {M : Mem} {x : e.den} : relV P e M x (encS e x) := by
  cases e <;> first | rfl | cases h
theorem rel_own {row : Option Nat} (hmo : ∀ k, row = some k → Mf.on = true → ∀ es c, w.heap[k]? ≠ some (.map es c)) (hR : Rel P base κ M σ a w) (hg : w.grownBy w' row) (hr : ∀ k, row = some k → ∃ o : Obj, w.heap[k]? = some o ∧ o.isCells = false) : Rel P base κ M σ a w' := by
  have hk : ∀ {g : Nat} {c : Array Value} {E : TypeId} {fr : Nat × Nat}, w.heap[g]? = some (.cells c E fr) → w'.heap[g]? = some (.cells c E fr) := fun {g c E fr} hc =>
    (grownBy_keeps_cells hg hr hc rfl).trans hc
  have hv : ∀ {tk : Nat → Bool} {size : Nat} {s : Option Nat} {v : Value}, OwnV κ M w tk size s v → OwnV κ M w' tk size s v := fun {tk size s v} h => by
    cases s with
    | none => exact h
    | some k =>
      obtain ⟨h0, h⟩ := h
      refine ⟨h0, h.imp id ?_⟩
      rintro ⟨g, n, cap, h1, h2, cur, E, b1, b2⟩
      exact ⟨g, n, cap, h1, h2, cur, E, hk b1, b2⟩
  have ho : ∀ {tk : Nat → Bool} {t : Ty} {cs : List Value} {own : Own}, OwnsC κ M w tk t cs own → OwnsC κ M w' tk t cs own := fun {tk t cs own} h p s hm => by
    obtain ⟨off, e, v, a, b, c, d⟩ := h p s hm
    exact ⟨off, e, v, a, b, c, hv d⟩
  refine ⟨fun s v hs => ?_, fun b B hB => ?_, ⟨Tab.keep (w := w) (Mem.le_refl M) (fun j c t fr hc => ⟨c, fr, hk hc, rfl⟩) hR.good.1, fun b o x hx => cell_kept (hR.good.2 b o x hx) hg hr⟩, hR.inj, fun i g hi => ⟨(hR.kap i g hi).1, Nat.lt_of_lt_of_le (hR.kap i g hi).2 hg.size⟩, hR.dis, Nat.le_trans hR.low hg.size⟩
  · have := hR.env s v hs
    cases v with
    | data t x own => exact ⟨this.1, ho this.2⟩
    | bptr b p => exact this
    | rowp b => exact this
    | mapp b => exact this
    | iter b e F => exact this
    | tup ts x => exact this
    | clo g caps => exact this
    | undef => exact this
    | raw _ => exact this
  · obtain ⟨g, h1, h5, ⟨cur, E, h2, h3, h4⟩ | ⟨tid, kt, vt, l, es, c, rfl, h2, h3⟩⟩ := hR.bx b B hB
    · exact .mk h1 (hk h2) h3 (ho h4) h5
    · exact ⟨g, h1, h5, .inr ⟨tid, kt, vt, l, es, c, rfl, (hg.block g (Array.getElem?_eq_some_iff.1 h2).1 fun e => hmo g e.symm h3.2 es c h2).trans h2, h3⟩⟩
theorem fr_own {W : List Nat} {row : Option Nat} {w'' : World} (hR : Rel P base κ M τ a w) (hF : Fr base W κ M σ a w κ' M' σ' a w') (hg : w'.grownBy w'' row) (hr : ∀ k, row = some k → w.heap.size ≤ k) : Fr base W κ M σ a w κ' M' σ' a w'' := by
  have hb : ∀ k, k < w.heap.size → w''.heap[k]? = w'.heap[k]? := fun k hk => hg.block k (Nat.lt_of_lt_of_le hk hF.below.size) (fun e => by have := hr k e.symm; omega)
  refine ⟨hF.below.grown hg (Nat.le_trans hR.low hF.below.size) (fun k e => Nat.le_trans hR.low (hr k e)), hF.le, hF.mem, rfl, .of_eq rfl, fun _ _ => rfl, fun i hi hd => ?_, hF.bx, fun j o hj ho => ?_, .of (fun j hj hn => (hb j hj).trans (hF.same.frame j hj hn)) hF.same.src hF.same.mem⟩
  · obtain ⟨d, e1, e2⟩ := hF.ids i hi hd
    exact ⟨d, e1, fun g hg' => ⟨(hb g (hR.kap i g hg').2).trans (e2 g hg').1, (e2 g hg').2⟩⟩
  · rw [hb j (Array.getElem?_eq_some_iff.1 hj).1]; exact hF.oth j o hj ho
theorem rel_act {b : Act} (hR : Rel P base κ M σ a w) (h : ∀ s v, σ.env s = some v → b.tmps.getD s undef = a.tmps.getD s undef) : Rel P base κ M σ b w :=
  ⟨fun s v hs => by rw [h s v hs]; exact hR.env s v hs, hR.bx, hR.good, hR.inj, hR.kap, hR.dis, hR.low⟩
theorem fr_act {W : List Nat} {b : Act} (h : Fr base W κ M σ a w κ' M' σ' a' w') : Fr base W κ M σ b w κ' M' σ' b w' :=
  ⟨h.below, h.le, h.mem, rfl, .of_eq rfl, fun _ _ => rfl, h.ids, h.bx, h.oth, h.same⟩
theorem rel_setD {b : Act} {s : Nat} {e : Ty} {x : e.den} (hs : e.scal = true) (hR : Rel P base κ M σ a w) (h : ∀ i v, i ≠ s → σ.env i = some v → b.tmps.getD i undef = a.tmps.getD i undef) (hb : b.tmps.getD s undef = encS e x) :
    Rel P base κ M (σ.setD s e x) b w := by
  refine ⟨fun i v hi => ?_, hR.bx, hR.good, hR.inj, hR.kap, hR.dis, hR.low⟩
  by_cases e : i = s
  · subst e
    simp only [St.setD, upd_same, Option.some.injEq] at hi
    subst hi
    rw [hb]
    exact ⟨relV_scal hs, OwnsC_nil⟩
  · simp only [St.setD] at hi
    rw [upd_other _ _ _ _ e] at hi
    rw [h i v e hi]
    exact hR.env i v hi
theorem rel_setV {b : Act} {s : Nat} {e : Ty} {x : e.den} {u : Value} (hu : relV P e M x u) (hR : Rel P base κ M σ a w) (h : ∀ i v, i ≠ s → σ.env i = some v → b.tmps.getD i undef = a.tmps.getD i undef) (hb : b.tmps.getD s undef = u) :
    Rel P base κ M (σ.setD s e x) b w := by
  refine ⟨fun i v hi => ?_, hR.bx, hR.good, hR.inj, hR.kap, hR.dis, hR.low⟩
  by_cases e : i = s
  · subst e
    simp only [St.setD, upd_same, Option.some.injEq] at hi
    subst hi
    rw [hb]
    exact ⟨hu, OwnsC_nil⟩
  · simp only [St.setD] at hi
    rw [upd_other _ _ _ _ e] at hi
    rw [h i v e hi]
    exact hR.env i v hi
theorem rel_clear {ws : List Nat} (hR : Rel P base κ M σ a w) : Rel P base κ M (σ.clear ws) a w := by
  refine ⟨fun s v hs => ?_, hR.bx, hR.good, hR.inj, hR.kap, hR.dis, hR.low⟩
  simp only [St.clear] at hs
  split at hs
  · cases hs
  · exact hR.env s v hs
theorem clear_out {ws : List Nat} {s : Nat} {v : AVal} (h : (σ.clear ws).env s = some v) : s ∉ ws := by
  simp only [St.clear] at h
  split at h
  · cases h
  · rename_i hn
    intro hm
    exact hn (List.any_eq_true.2 ⟨s, hm, Nat.beq_refl s⟩)
theorem put_boxy : ∀ (l : List It) (τ : St) (x : Args (l.map (·.t))), (l.all (·.isBox)) = true → (put τ l x).env = τ.env
  | [], _, _, _ => rfl
  | [i], τ, x, h => by
    simp only [List.all_cons, List.all_nil, Bool.and_true] at h
    simp only [put, put1, h]
  | i :: j :: r, τ, x, h => by
    rw [List.all_cons, Bool.and_eq_true] at h
    simp only [put]
    rw [put_boxy (j :: r) _ _ h.2]
    simp only [put1, h.1]
theorem put_out {L : Desc} {ws : List Nat} {s : L.den} (hb : L.boxy = true) {i : Nat} {v : AVal} (h : (L.put σ ws s).env i = some v) : i ∉ ws := by
  unfold Desc.put at h
  rw [put_boxy _ _ _ hb] at h
  simp only [St.base] at h
  split at h
  · cases h
  · rename_i hn
    intro hm
    exact hn (List.any_eq_true.2 ⟨i, hm, Nat.beq_refl i⟩)
def codeOf : Ex → Code
  | .normal => .skip
  | .exit i => .exit i
  | .ret => .ret
theorem getD_set_same {a : Array Value} {i : Nat} {v : Value} (h : i < a.size) : (a.setIfInBounds i v).getD i undef = v := by
  simp [h]
theorem getD_set_other {a : Array Value} {i j : Nat} {v : Value} (h : i ≠ j) : (a.setIfInBounds i v).getD j undef = a.getD j undef := by
  rw [Array.getD_eq_getD_getElem?, Array.getD_eq_getD_getElem?, Array.getElem?_setIfInBounds_ne h]
theorem range_sound (hmo : Mf.on = false) {F : Fence} (hF : Open F) (hro : F.round = none) {nn : Nat} (hnn : 1 ≤ nn) {g : Operand} {ps : Array Tmp} {as c : Code} {L : Desc} {e : Ty} {xs : List e.den} {p : Nat} {A : Type} {K : Ex → St → Option A} {s0 : L.den} {f : e.den → L.den → Option (L.den ⊕ A)} {G : St → Option (L.den ⊕ A)} {j : L.den ⊕ A} {Q : Exit → Act → World → Prop}
    (hra : rangeAt σ g ps = some ⟨e, xs, p⟩) (hok : L.ok σ (writes (.rangeFunc g ps as c)) = true) (hbx : L.boxy = true) (hs0 : L.grab0 σ = some s0) (hl : loopT f xs s0 = some j) (hps : (ps.toList.all fun d => Nat.blt d a.tmps.size) = true)
    (hR : Rel P base κ M σ a w)
    (hasg : ∀ (l : Nat) (x : e.den) (s : L.den) (y : L.den ⊕ A) κ1 M1 a1 w1 (K1 : Act → World → Prop), f x s = some y → a1.tmps.size = a.tmps.size → Rel P base κ1 M1 ((L.put σ (writes (.rangeFunc g ps as c)) s).setD p e x) a1 w1 →
      (∀ κ' M' σ' a' w', Rel P base κ' M' σ' a' w' → Fr base (writes as) κ1 M1 ((L.put σ (writes (.rangeFunc g ps as c)) s).setD p e x) a1 w1 κ' M' σ' a' w' → G σ' = some y → K1 a' w') →
      as.wpIn (F.inRound l) (nn - 1 - 1) P (Exit.then K1 (fun _ _ _ => False)) a1 w1)
    (hbody : ∀ (l : Nat) (y : L.den ⊕ A) σ1 κ1 M1 a1 w1 (Q1 : Exit → Act → World → Prop), G σ1 = some y → a1.tmps.size = a.tmps.size → Rel P base κ1 M1 σ1 a1 w1 →
      (∀ ex κ' M' σ' a' w', Rel P base κ' M' σ' a' w' → Fr base (writes c) κ1 M1 σ1 a1 w1 κ' M' σ' a' w' →
        (match ex with | .normal => (L.grab (σ'.clear (writes (.rangeFunc g ps as c)))).map .inl | ex => (K ex ((σ'.clear (writes (.rangeFunc g ps as c))).soil fun b => σ.dirty b || L.gone b)).map .inr) = some y → Q1 (exOf ex) a' w') →
      c.wpIn (F.inRound l) (nn - 1 - 1) P Q1 a1 w1)
    (hQ : ∀ ex κ' M' σ' a' w', Rel P base κ' M' σ' a' w' → Fr base (writes (.rangeFunc g ps as c)) κ M σ a w κ' M' σ' a' w' →
      ((∃ s, j = .inl s ∧ ex = .normal ∧ σ' = (L.put σ (writes (.rangeFunc g ps as c)) s).soil fun b => σ.dirty b || L.gone b) ∨ (∃ r, j = .inr r ∧ ex ≠ .normal ∧ K ex σ' = some r)) → Q (exOf ex) a' w') :
    (Code.rangeFunc g ps as c).wpIn F nn P Q a w := by
  obtain ⟨q, own, rfl, hps1, hq⟩ := rangeAt_some hra
  obtain ⟨ws, hws⟩ : ∃ ws, ws = writes (.rangeFunc (.tmp q) ps as c) := ⟨_, rfl⟩
  rw [← hws] at hok hasg hbody hQ
  have hpsA : ps = #[p] := Array.ext' hps1
  subst hpsA
  have hpw : p ∈ ws := by rw [hws]; simp [writes]
  have haw : ∀ i, i ∈ writes as → i ∈ ws := fun i hi => by rw [hws]; simp only [writes]; exact List.mem_append_left _ (List.mem_append_left _ (List.mem_append_right _ hi))
  have hcw : ∀ i, i ∈ writes c → i ∈ ws := fun i hi => by rw [hws]; simp only [writes]; exact List.mem_append_left _ (List.mem_append_right _ hi)
  have hp : p < a.tmps.size := by simpa using hps
  obtain ⟨hv, _⟩ := hR.env q _ hq
  obtain ⟨gf, lb, hu, hY⟩ : ∃ gf lb, a.tmps.getD q undef = .func (.func gf) #[] lb ∧ SeqAt P (fun M' x v => relV P e M' x v) M xs gf lb := by
    obtain ⟨gf, lb, h1, h2⟩ : relC P (.seq e) M xs [a.tmps.getD q undef] := hv
    simp only [List.cons.injEq, and_true] at h1
    exact ⟨gf, lb, h1, h2⟩
  unfold loopT at hl
  split at hl
  rotate_left
  · cases hl
  rename_i hT
  obtain ⟨κ0, hH0⟩ := head_start hR hok hs0
  have hfrs : ∀ {s κ1 M1 W}, Head P base L σ ws κ M a w s κ1 M1 a W → Rel P base κ1 M1 ((L.put σ ws s).soil fun b => σ.dirty b || L.gone b) a W ∧ Fr base ws κ M σ a w κ1 M1 ((L.put σ ws s).soil fun b => σ.dirty b || L.gone b) a W := fun hH => head_out hH hH.rel Fr.refl
  have hgrow : ∀ {s κ1 N A N' B}, Head P base L σ ws κ M a w s κ1 N a A → Good N' B → Grow N A N' B → Head P base L σ ws κ M a w s κ1 N' a B := fun {s κ1 N A N' B} hH hg hgr =>
    ⟨(rel_grow hH.rel hgr.below hg hgr.mem).2.2, by
      have h1 := fr_grow hH.rel hgr.below hgr.mem hg
      have h2 : Fr base [] κ1 N ((L.put σ ws s).back { σ with dirty := fun _ => false } L) a A κ1 N' ((L.put σ ws s).back { σ with dirty := fun _ => false } L) a B :=
        ⟨h1.below, h1.le, h1.mem, h1.size, h1.defers, h1.tmps, fun i hi hd => ⟨hd, (rel_grow hH.rel hgr.below hg hgr.mem).2.1 i⟩, fun i hi B' hB' => ⟨rfl, B', hB', Alike.refl B'⟩, h1.oth, h1.same⟩
      exact hH.fr.trans h2 (fun _ h => h) (by simp)⟩
  refine wpIn_rangeM hro hnn hF.depth hF.fn hF.alive hu hY (by simp)
    (fun pre N W => ∃ s κ1, loopL f pre s0 = some (.inl s) ∧ Head P base L σ ws κ M a w s κ1 N a W)
    (fun cd pre N W => ∃ ex r κ1 σ1, cd = codeOf ex ∧ ex ≠ .normal ∧ loopL f pre s0 = some (.inr r) ∧ K ex σ1 = some r ∧ Rel P base κ1 N σ1 a W ∧ Fr base ws κ M σ a w κ1 N σ1 a W)
    (fun pre N W ⟨_, _, _, hH⟩ => hH.rel.good) (fun cd pre N W ⟨_, _, _, _, _, _, _, _, h5, _⟩ => h5.good) ?gi ?gx ?own ?ownx ⟨s0, κ0, rfl, hH0⟩
    (fun pre x N a' W => ∃ s y κ2 σ1, loopL f pre s0 = some (.inl s) ∧ f x s = some y ∧ G σ1 = some y ∧ Rel P base κ2 N σ1 a' W ∧ Fr base ws κ M { σ with dirty := fun _ => false } a w κ2 N (σ1.soil L.gone) a W ∧ a'.tmps.size = a.tmps.size ∧ ∀ i, i ∉ ws → a'.tmps.getD i undef = a.tmps.getD i undef)
    ?ownA ?assign ?body ?done ?stop
  case gi =>
    rintro pre N A N' B ⟨s, κ1, h1, hH⟩ hg hgr
    exact ⟨s, κ1, h1, hgrow hH hg hgr⟩
  case gx =>
    rintro cd pre N A N' B ⟨ex, r, κ1, σ1, h1, h2, h3, h4, h5, h6⟩ hg hgr
    exact ⟨ex, r, κ1, σ1, h1, h2, h3, h4, (rel_grow h5 hgr.below hg hgr.mem).2.2, h6.trans (fr_grow h5 hgr.below hgr.mem hg) (fun _ h => h) (by simp)⟩
  case own =>
    rintro pre N _ W W' row ⟨s, κ1, h1, hH⟩ hg hrow
    exact ⟨s, κ1, h1, rel_own (fun _ _ h => by rw [hmo] at h; cases h) hH.rel hg fun k e => (hrow k e).2, fr_own hR hH.fr hg fun k e => (hrow k e).1⟩
  case ownx =>
    rintro cd pre N _ W W' row ⟨ex, r, κ1, σ1, h1, h2, h3, h4, h5, h6⟩ hg hrow
    exact ⟨ex, r, κ1, σ1, h1, h2, h3, h4, rel_own (fun _ _ h => by rw [hmo] at h; cases h) h5 hg fun k e => (hrow k e).2, fr_own hR h6 hg fun k e => (hrow k e).1⟩
  case ownA =>
    rintro pre x N a' _ W W' row ⟨s, y, κ2, σ1, h1, h2, h3, h4, h5, h6, h7⟩ hg hrow
    exact ⟨s, y, κ2, σ1, h1, h2, h3, rel_own (fun _ _ h => by rw [hmo] at h; cases h) h4 hg fun k e => (hrow k e).2, fr_own hR h5 hg fun k e => (hrow k e).1, h6, h7⟩
  case assign =>
    rintro l pre x N W v K' ⟨s, κ1, h1, hH⟩ hpre hv hK
    obtain ⟨rest, hrest⟩ := hpre
    have hmem : ∀ y, y ∈ pre ++ [x] → y ∈ xs := fun y hy => by rw [← hrest]; exact List.mem_append_left _ hy
    obtain ⟨y, hy⟩ := hT pre x s (by rw [← hrest]; simp) (fun y hy => hmem y (List.mem_append_left _ hy)) (hmem x (by simp)) h1
    have hB : Array.foldl (fun t x => t.setIfInBounds x.fst x.snd) a.tmps ((#[p] : Array Tmp).zip #[v]) = a.tmps.setIfInBounds p v := by simp
    have hR1 : Rel P base κ1 N ((L.put σ ws s).setD p e x) { tmps := a.tmps.setIfInBounds p v, defers := [] } W := by
      refine rel_setV hv hH.rel (fun i v hi he => ?_) ?_
      · simp only
        rw [getD_set_other (fun e => hi e.symm)]
      · simp only
        exact getD_set_same hp
    show as.wpIn (F.inRound l) (nn - 1 - 1) P (Exit.then K' (fun _ _ _ => False)) { tmps := Array.foldl (fun t x => t.setIfInBounds x.fst x.snd) a.tmps ((#[p] : Array Tmp).zip #[v]), defers := [] } W
    rw [hB]
    refine hasg l x s y κ1 N _ W K' hy (by simp) hR1 fun κ' M' σ' a' W' hR' hF' hk => ?_
    have hko : KeepsOthers W W' := ⟨hF'.below.size, fun k o h ho => hF'.oth k o h (keepO_off hmo (by cases o <;> first | rfl | cases ho))⟩
    have hFa : Fr base ws κ1 N (L.put σ ws s) a W κ' M' σ' a W' := by
      have := fr_act (b := a) (hF'.mono haw)
      exact ⟨this.below, this.le, this.mem, this.size, this.defers, this.tmps, this.ids, this.bx, this.oth, this.same⟩
    refine hK M' a' W' hF'.le hko ⟨s, y, κ', σ', h1, hy, hk, hR', fr_round (fun _ => rfl) hH.fr hFa (fun _ h => h), hF'.size.trans (by simp), fun i hi => ?_⟩
    rw [hF'.tmps i (fun h => hi (haw i h))]
    simp only
    rw [getD_set_other (fun e => hi (by rw [← e]; exact hpw))]
  case body =>
    rintro l pre x N a1 W ⟨s, y, κ1, σ1, h1, hy, hG, hR1, hF1, hsz, htm⟩ hpre
    have hstep : loopL f (pre ++ [x]) s0 = match y with | .inl s' => some (.inl s') | .inr r => some (.inr r) := by
      rw [loopL_append, h1]
      simp only [Option.bind_some, loopL, hy]
      cases y <;> rfl
    refine hbody l y σ1 κ1 N a1 W _ hG hsz hR1 fun ex κ' M' σ' a' W' hR' hF' hk => ?_
    have hko : KeepsOthers W W' := ⟨hF'.below.size, fun k o h ho => hF'.oth k o h (keepO_off hmo (by cases o <;> first | rfl | cases ho))⟩
    have hRc : Rel P base κ' M' (σ'.clear ws) a W' := by
      refine rel_act (rel_clear hR') fun i v hi => ?_
      have hiw := clear_out hi
      rw [hF'.tmps i (fun h => hiw (hcw i h)), htm i hiw]
    have hFc : Fr base ws κ M { σ with dirty := fun _ => false } a w κ' M' ((σ'.clear ws).soil L.gone) a W' := by
      have := hF1.trans (fr_soil (g := L.gone) (fr_act (b := a) (hF'.mono hcw))) (fun _ h => h) (fun _ h => h)
      exact ⟨this.below, this.le, this.mem, this.size, this.defers, this.tmps, this.ids, this.bx, this.oth, this.same⟩
    have hexit : ∀ ex', ex' ≠ .normal → ex = ex' → (K ex' ((σ'.clear ws).soil fun b => σ.dirty b || L.gone b)).map Sum.inr = some y → KeepsOthers W W' ∧ ∃ N', Mem.le N N' ∧ (∃ ex r κ1 σ1, codeOf ex' = codeOf ex ∧ ex ≠ .normal ∧ loopL f (pre ++ [x]) s0 = some (.inr r) ∧ K ex σ1 = some r ∧ Rel P base κ1 N' σ1 a W' ∧ Fr base ws κ M σ a w κ1 N' σ1 a W') := fun ex' hne _ hk => by
      obtain ⟨r', hk1, rfl⟩ := Option.map_eq_some_iff.1 hk
      obtain ⟨hR2, hF2⟩ := head_outC (L := L) hRc hFc
      exact ⟨hko, M', hF'.le, ex', r', κ', _, rfl, hne, hstep, hk1, hR2, hF2⟩
    cases ex with
    | normal =>
      simp only at hk
      obtain ⟨s', hk1, rfl⟩ := Option.map_eq_some_iff.1 hk
      obtain ⟨κ2, hH2⟩ := head_nextC hR hok hRc hFc hk1
      exact ⟨hko, M', hF'.le, s', κ2, hstep, hH2⟩
    | exit i => exact hexit (.exit i) (by intro h; cases h) rfl hk
    | ret => exact hexit .ret (by intro h; cases h) rfl hk
  case done =>
    rintro D N W hD ⟨s, κ1, h1, hH⟩ hK
    rw [hl] at h1
    simp only [Option.some.injEq] at h1
    obtain ⟨hR2, hF2⟩ := hfrs hH
    refine hQ .normal κ1 N _ _ W (rel_act hR2 fun _ _ _ => rfl) ?_ (.inl ⟨s, h1, rfl, rfl⟩)
    exact ⟨hF2.below, hF2.le, hF2.mem, rfl, ⟨[D], rfl, List.pairwise_singleton _ _, (fun D' hD' => by rw [List.mem_singleton.1 hD']; exact ⟨hD, hK⟩), fun _ => by rw [hws]; simp [writes]⟩, fun _ _ => rfl, hF2.ids, hF2.bx, hF2.oth, hF2.same⟩
  case stop =>
    rintro D cd pre N W hD ⟨rest, hS⟩ ⟨ex, r, κ1, σ1, rfl, hne, h3, h4, h5, h6⟩ hK
    have hj : j = .inr r := by
      have : loopL f xs s0 = some (.inr r) := by
        rw [← hS, loopL_append, h3]; rfl
      rw [hl] at this
      exact Option.some.inj this
    have hfin : Q (exOf ex) { a with defers := { target := .collected D, args := #[] } :: a.defers } W := by
      refine hQ ex κ1 N σ1 _ W (rel_act h5 fun _ _ _ => rfl) ?_ (.inr ⟨r, hj, hne, h4⟩)
      exact ⟨h6.below, h6.le, h6.mem, rfl, ⟨[D], rfl, List.pairwise_singleton _ _, (fun D' hD' => by rw [List.mem_singleton.1 hD']; exact ⟨hD, hK⟩), fun _ => by rw [hws]; simp [writes]⟩, fun _ _ => rfl, h6.ids, h6.bx, h6.oth, h6.same⟩
    cases ex with
    | normal => exact (hne rfl).elim
    | exit i => exact wpIn_exit hfin
    | ret => exact wpIn_ret hfin
theorem rangeIt_some {g : Operand} {ps : Array Tmp} {as : Code} {b : Nat} {e : Ty} {xs : Option (List e.den)} {p t : Nat} (h : rangeIt σ g ps as = some (b, ⟨e, xs, p, t⟩)) :
    ∃ (q id : Nat) (ops : Array Oper) (o : Oper) (F : ByteArray → Option (List e.den)) (tid : TypeId) (s : ByteArray) (own : Own), g = .tmp q ∧ ps.toList = [p] ∧ as = .region id ops false ∧ ops.toList = [o] ∧ o.dst = some t ∧ o.op = .assign (.tmp p) ∧ o.guard = none ∧ t ≠ p ∧
      σ.env q = some (.iter b e F) ∧ σ.box b = some ⟨tid, .str, s, own, false⟩ ∧ xs = F s ∧ e.scal = true := by
  unfold rangeIt at h
  split at h
  · rename_i q p0 rid ops hps
    split at h
    · rename_i o ho
      split at h
      · rename_i t0 p1 h1 h2 h3
        split at h
        · rename_i hpp
          split at h
          · rename_i b0 e0 F he
            split at h
            · rename_i tid s own hB
              split at h
              · rename_i hs
                simp only [Option.some.injEq, Prod.mk.injEq] at h
                obtain ⟨rfl, h⟩ := h
                simp only [Sigma.mk.injEq] at h
                obtain ⟨rfl, h⟩ := h
                have h := eq_of_heq h
                simp only [Prod.mk.injEq] at h
                obtain ⟨rfl, rfl, rfl⟩ := h
                rw [Bool.and_eq_true] at hpp
                have hpe := Nat.eq_of_beq_eq_true hpp.1
                refine ⟨q, rid, ops, o, F, tid, s, own, rfl, hps, rfl, ho, h1, by rw [h2, hpe], h3, fun e => ?_, he, hB, rfl, hs⟩
                have := hpp.2
                rw [e, Nat.beq_refl] at this
                cases this
              · cases h
            · cases h
          · cases h
        · cases h
      · cases h
    · cases h
  · cases h
theorem free_iff {L : Desc} {ws : List Nat} {b : Nat} (h : L.free ws b = true) : b ∉ ws ∧ b ∉ L.kb ∧ b ∉ toks L.its ∧ b ∉ bxs L.its := by
  unfold Desc.free at h
  simp only [Bool.and_eq_true, Bool.not_eq_true'] at h
  have key : ∀ l : List Nat, (l.any fun i => Nat.beq i b) = false → b ∉ l := fun l hl hb => by rw [any_beq.2 hb] at hl; cases hl
  exact ⟨key _ h.1.1.1, key _ h.1.1.2, key _ h.1.2, key _ h.2⟩
theorem range_once (hmo : Mf.on = false) {F : Fence} (hF : Open F) (hro : F.round = none) {nn : Nat} (hnn : 1 ≤ nn) {g : Operand} {ps : Array Tmp} {as c : Code} {L : Desc} {kb : Nat} {e : Ty} {ox : Option (List e.den)} {xs : List e.den} {p t : Nat} {A : Type} {K : Ex → St → Option A} {s0 : L.den} {f : e.den → L.den → Option (L.den ⊕ A)} {j : L.den ⊕ A} {Q : Exit → Act → World → Prop}
    (hra : rangeIt σ g ps as = some (kb, ⟨e, ox, p, t⟩)) (hxs : ox = some xs) (hok : L.ok σ (writes (.rangeFunc g ps as c)) = true) (hbx : L.boxy = true) (hfree : L.free (writes (.rangeFunc g ps as c)) kb = true) (hs0 : L.grab0 σ = some s0) (hl : loopT f xs s0 = some j) (hps : (ps.toList.all fun d => Nat.blt d a.tmps.size) = true) (hbt : okB a.tmps.size as = true)
    (hR : Rel P base κ M σ a w)
    (hbody : ∀ (l : Nat) (x : e.den) (s : L.den) (y : L.den ⊕ A) κ1 M1 a1 w1 (Q1 : Exit → Act → World → Prop), f x s = some y → a1.tmps.size = a.tmps.size → Rel P base κ1 M1 ((L.put σ (writes (.rangeFunc g ps as c)) s).setD t e x) a1 w1 →
      (∀ ex κ' M' σ' a' w', Rel P base κ' M' σ' a' w' → Fr base (writes c) κ1 M1 ((L.put σ (writes (.rangeFunc g ps as c)) s).setD t e x) a1 w1 κ' M' σ' a' w' →
        (if σ'.dirty kb || σ'.tok kb then none else match ex with | .normal => (L.grab (σ'.clear (writes (.rangeFunc g ps as c)))).map .inl | ex => (K ex ((σ'.clear (writes (.rangeFunc g ps as c))).soil fun b => σ.dirty b || L.gone b)).map .inr) = some y → Q1 (exOf ex) a' w') →
      c.wpIn (F.inRound l) (nn - 1 - 1) P Q1 a1 w1)
    (hQ : ∀ ex κ' M' σ' a' w', Rel P base κ' M' σ' a' w' → Fr base (writes (.rangeFunc g ps as c)) κ M σ a w κ' M' σ' a' w' →
      ((∃ s, j = .inl s ∧ ex = .normal ∧ σ' = (L.put σ (writes (.rangeFunc g ps as c)) s).soil fun b => σ.dirty b || L.gone b) ∨ (∃ r, j = .inr r ∧ ex ≠ .normal ∧ K ex σ' = some r)) → Q (exOf ex) a' w') :
    (Code.rangeFunc g ps as c).wpIn F nn P Q a w := by
  obtain ⟨q, rid, ops, o, Fs, tid, str, own, rfl, hps1, rfl, hops, ho1, ho2, ho3, htp, hq, hB, hFs, hsc⟩ := rangeIt_some hra
  rw [hxs] at hFs
  obtain ⟨ws, hws⟩ : ∃ ws, ws = writes (.rangeFunc (.tmp q) ps (.region rid ops false) c) := ⟨_, rfl⟩
  rw [← hws] at hok hbody hQ hfree
  obtain ⟨fw, fk, ft, fb⟩ := free_iff hfree
  have hpsA : ps = #[p] := Array.ext' hps1
  subst hpsA
  have hpw : p ∈ ws := by rw [hws]; simp [writes]
  have htw : t ∈ ws := by rw [hws]; simp [writes, hops, ho1]
  have hcw : ∀ i, i ∈ writes c → i ∈ ws := fun i hi => by rw [hws]; simp only [writes]; exact List.mem_append_left _ (List.mem_append_right _ hi)
  have hp : p < a.tmps.size := by simpa using hps
  have ht : t < a.tmps.size := by
    simp only [okB, regionOk, hops, dstsOf, Bool.and_eq_true, List.all_eq_true, Nat.blt_eq] at hbt
    exact hbt.2 t (by simp [ho1])
  obtain ⟨tid', s', own', G, gf, lb, hB', hκ, hu, hit⟩ := hR.env q _ hq
  rw [hB] at hB'
  cases hB'
  obtain ⟨G', cur, E, hG1, hG2, hG3, _, hG5⟩ := (hR.bx kb _ hB).cells (flat_of rfl)
  rw [hκ] at hG1
  cases hG1
  have hcur : cur = #[.string str] := by
    apply Array.ext'
    exact hG3
  subst hcur
  have hlow : base ≤ G := (hR.kap kb G hκ).1
  have htk0 : σ.tok kb = false := hR.dis kb _ hB
  unfold loopT at hl
  split at hl
  rotate_left
  · cases hl
  rename_i hT
  have free0 : ∀ {κ1 : Nat → Option Nat} {tk : Nat → Bool} {κ' : Nat → Option Nat}, KFrom L tk κ' κ1 → (∀ j, κ' j = some G → tk j = false ∧ (j = kb ∨ False)) → (∀ i, κ1 i ≠ some G) ∧ κ1 kb = none := fun {κ1 tk κ'} hK hj =>
    ⟨fun i hi => by
      obtain ⟨j, h1, h2⟩ := hK.1 i G hi
      obtain ⟨h3, h4⟩ := hj j h1
      rcases h4 with rfl | h4
      · rcases h2 with h2 | ⟨rfl, h2 | h2⟩
        · rw [h3] at h2; cases h2
        · exact fb h2
        · exact fk h2
      · exact h4, hK.2 kb ft fb fk⟩
  obtain ⟨κ0, hH0, hK0⟩ := head_startF hR hok hs0
  have hN0 := free0 hK0 fun j hj => by
    have := hR.inj j kb G hj hκ
    subst this
    exact ⟨htk0, .inl rfl⟩
  have hfrs : ∀ {s κ1 M1 W}, Head P base L σ ws κ M a w s κ1 M1 a W → Rel P base κ1 M1 ((L.put σ ws s).soil fun b => σ.dirty b || L.gone b) a W ∧ Fr base ws κ M σ a w κ1 M1 ((L.put σ ws s).soil fun b => σ.dirty b || L.gone b) a W := fun hH => head_out hH hH.rel Fr.refl
  have putBox : ∀ s : L.den, (L.put σ ws s).box kb = none := fun s => by
    cases hc : (L.put σ ws s).box kb with
    | none => rfl
    | some B =>
      rcases put_box hc with ⟨e, he, hb, h1, rfl⟩ | hb
      · exact absurd (mem_bxs.2 ⟨e.1, zip_fst he, hb, h1⟩) fb
      · simp only [St.base] at hb
        rw [if_neg (fun h => fk (keeps_iff.1 h))] at hb
        cases hb
  have putTok : ∀ s : L.den, (L.put σ ws s).tok kb = false := fun s => by
    show (put (σ.base L ws) L.its s).tok kb = false
    rw [put_tok]
    simp only [St.base]
    have h1 : L.keeps kb = false := by
      cases hk : L.keeps kb with
      | false => rfl
      | true => exact absurd (keeps_iff.1 hk) fk
    have h2 : ((toks L.its).any fun i => Nat.beq i kb) = false := by
      cases hk : (toks L.its).any fun i => Nat.beq i kb with
      | false => rfl
      | true => exact absurd (any_beq.1 hk) ft
    rw [h1, h2]
    rfl
  refine wpIn_rangeOnce hro hnn hF.depth hF.fn hF.alive (gf := gf) (lb := lb) hu hit hFs.symm hR.good.2 hG2 hG5 rfl
    (fun pre W => ∃ s κ1 M1, loopL f pre s0 = some (.inl s) ∧ Head P base L σ ws κ M a w s κ1 M1 a W ∧ (∀ i, κ1 i ≠ some G) ∧ κ1 kb = none ∧ ∀ o, M1 G o = none)
    (fun cd pre W => ∃ ex r κ1 M1 σ1, cd = codeOf ex ∧ ex ≠ .normal ∧ loopL f pre s0 = some (.inr r) ∧ K ex σ1 = some r ∧ Rel P base κ1 M1 σ1 a W ∧ Fr base ws κ M σ a w κ1 M1 σ1 a W)
    ?own ?ownx ?step ⟨s0, κ0, M, rfl, hH0, hN0.1, hN0.2, hG5⟩
    (fun x => { tmps := (a.tmps.setIfInBounds p (encS e x)).setIfInBounds t (encS e x), defers := [] })
    ?assign ?body ?done ?stop
  case own =>
    rintro pre W W' row ⟨s, κ1, M1, h1, hH, h2⟩ hg hrow
    exact ⟨s, κ1, M1, h1, ⟨rel_own (fun _ _ h => by rw [hmo] at h; cases h) hH.rel hg fun k e => (hrow k e).2, fr_own hR hH.fr hg fun k e => (hrow k e).1⟩, h2⟩
  case ownx =>
    rintro cd pre W W' row ⟨ex, r, κ1, M1, σ1, h1, h2, h3, h4, h5, h6⟩ hg hrow
    exact ⟨ex, r, κ1, M1, σ1, h1, h2, h3, h4, rel_own (fun _ _ h => by rw [hmo] at h; cases h) h5 hg fun k e => (hrow k e).2, fr_own hR h6 hg fun k e => (hrow k e).1⟩
  case step =>
    rintro pre A B ⟨s, κ1, M1, h1, hH, h2, h3, h4⟩ hs
    exact ⟨s, κ1, M1, h1, ⟨rel_ownStep hH.rel h2 h4 hs, fr_ownStep hH.fr hlow rfl h2 (.inl ⟨kb, hκ⟩) hs⟩, h2, h3, h4⟩
  case assign =>
    intro l x W K' hK
    have hsz : ops.size = 1 := by rw [← Array.length_toList, hops]; rfl
    have h0 : ops[0]? = some o := by rw [← Array.getElem?_toList, hops]; rfl
    refine wpIn_region ?_
    rw [hsz, show List.range 1 = [0] from rfl, wpOpsIn_cons]
    refine wpOp_some h0 ?_
    rw [show Region.wanted o (yielded ops (Act.tmps _)) = true by unfold Region.wanted; rw [ho3], if_pos rfl]
    refine ⟨fun f _ => hF.fn f, ?_⟩
    rw [Oper.semAt_eq _ _ _ (fun c hc => by rw [ho2] at hc; cases hc), show ∀ ρ : Operand → Value, (execOp ρ o).run P W = .ok (.value (ρ (.tmp p))) W from fun ρ => by simp [execOp, ho2], Oper.uponIn_value]
    simp only [wpOpsIn]
    refine Eq.mp (congrFun (congrArg K' ?_) W) hK
    rw [ho1]
    have hB : Array.foldl (fun t x => t.setIfInBounds x.fst x.snd) a.tmps ((#[p] : Array Tmp).zip #[encS e x]) = a.tmps.setIfInBounds p (encS e x) := by simp
    show ({ tmps := _, defers := [] } : Act) = { tmps := (Array.foldl (fun t x => t.setIfInBounds x.fst x.snd) a.tmps ((#[p] : Array Tmp).zip #[encS e x])).setIfInBounds t ((Array.foldl (fun t x => t.setIfInBounds x.fst x.snd) a.tmps ((#[p] : Array Tmp).zip #[encS e x])).getD p undef), defers := [] }
    rw [hB, getD_set_same hp]
  case body =>
    rintro l pre x W ⟨s, κ1, M1, h1, hH, hn1, hn2, hn3⟩ hpre hGs
    have hGl : G < W.heap.size := by
      cases hc : W.heap[G]? with
      | none => rw [hc] at hGs; cases hGs
      | some o => exact (Array.getElem?_eq_some_iff.1 hc).1
    obtain ⟨rst, hrst⟩ := hpre
    have hxm : x ∈ xs := by rw [← hrst]; simp
    obtain ⟨y, hy⟩ := hT pre x s (by rw [← hrst]; simp) (fun y hy => by rw [← hrst]; simp [hy]) hxm h1
    have hstep : loopL f (pre ++ [x]) s0 = match y with | .inl s' => some (.inl s') | .inr r => some (.inr r) := by
      rw [loopL_append, h1]
      simp only [Option.bind_some, loopL, hy]
      cases y <;> rfl
    have hRk := rel_id (k := kb) (g := some G) hH.rel (putBox s) (putTok s) fun G' e => by cases e; exact ⟨hlow, hGl, hn1⟩
    have hR1 : Rel P base (upd κ1 kb (some G)) M1 ((L.put σ ws s).setD t e x) { tmps := (a.tmps.setIfInBounds p (encS e x)).setIfInBounds t (encS e x), defers := [] } W := by
      refine rel_setD hsc hRk (fun i v hi he => ?_) ?_
      · have hiw := put_out hbx he
        simp only
        rw [getD_set_other (fun e => hi e.symm), getD_set_other (fun e => hiw (by rw [← e]; exact hpw))]
      · simp only
        exact getD_set_same (by simpa using ht)
    refine hbody l x s y _ M1 _ W _ hy (by simp) hR1 fun ex κ' M' σ' a' W' hR' hF' hk => ?_
    split at hk
    · cases hk
    rename_i hdt
    simp only [Bool.or_eq_true, not_or, Bool.not_eq_true] at hdt
    obtain ⟨_, hkk, hkb⟩ := hF'.ids kb (fun h => fw (hcw kb h)) hdt.1
    rw [upd_same] at hkk
    obtain ⟨hGW, hGM⟩ := hkb G (upd_same _ _ _)
    have hbox' : σ'.box kb = none := by
      cases hc : σ'.box kb with
      | none => rfl
      | some B =>
        obtain ⟨_, B0, h2, _⟩ := hF'.bx kb (fun h => fw (hcw kb h)) B hc
        have h2 : (L.put σ ws s).box kb = some B0 := h2
        rw [putBox] at h2; cases h2
    have hR2 := rel_id (k := kb) (g := none) hR' hbox' hdt.2 (fun G' e => by cases e)
    have hno2 : ∀ i, upd κ' kb none i ≠ some G := fun i hi => by
      by_cases e : i = kb
      · subst e; rw [upd_same] at hi; cases hi
      · rw [upd_other _ _ _ _ e] at hi
        exact e (hR'.inj i kb G hi hkk)
    have hko : KeepsOthers W W' := ⟨hF'.below.size, fun k o h ho => hF'.oth k o h (keepO_off hmo (by cases o <;> first | rfl | cases ho))⟩
    have hkm : KeepM M W W' := fun b off v hv _ => hR'.good.2 _ _ _ (hF'.le _ _ _ (hH.fr.le _ _ _ hv))
    have hRc : Rel P base (upd κ' kb none) M' (σ'.clear ws) a W' := by
      refine rel_act (rel_clear hR2) fun i v hi => ?_
      have hiw := clear_out hi
      rw [hF'.tmps i (fun h => hiw (hcw i h))]
      simp only
      rw [getD_set_other (fun e => hiw (by rw [← e]; exact htw)), getD_set_other (fun e => hiw (by rw [← e]; exact hpw))]
    have hFc : Fr base ws κ1 M1 (L.put σ ws s) a W (upd κ' kb none) M' (σ'.clear ws) a W' := by
      have := fr_act (b := a) (hF'.mono hcw)
      refine ⟨this.below, this.le, this.mem, this.size, this.defers, this.tmps, fun i hi hd => ?_, fun i hi B hB => ?_, this.oth, .of (fun j hj hn => ?_) (fun i j hij => ?_) fun j hj hn => ?_⟩
      rotate_left 2
      · by_cases e : j = G
        · subst e; exact hGW
        · refine this.same.frame j hj fun i hi => ?_
          by_cases e2 : i = kb
          · subst e2; rw [upd_same] at hi; cases hi; exact e rfl
          · rw [upd_other _ _ _ _ e2] at hi; exact hn i hi
      · by_cases e2 : i = kb
        · subst e2; rw [upd_same] at hij; cases hij
        · rw [upd_other _ _ _ _ e2] at hij
          rcases this.same.src i j hij with ⟨i', hi'⟩ | h
          · by_cases e3 : i' = kb
            · subst e3
              rw [upd_same] at hi'; cases hi'
              exact absurd (hR'.inj i i' _ hij hkk) e2
            · rw [upd_other _ _ _ _ e3] at hi'; exact .inl ⟨i', hi'⟩
          · exact .inr h
      · by_cases e : j = G
        · subst e; exact funext hGM
        · refine this.same.mem j hj fun i hi => ?_
          by_cases e2 : i = kb
          · subst e2; rw [upd_same] at hi; cases hi; exact e rfl
          · rw [upd_other _ _ _ _ e2] at hi; exact hn i hi
      · obtain ⟨d1, e1, e2⟩ := this.ids i hi hd
        refine ⟨d1, ?_⟩
        by_cases e : i = kb
        · subst e
          exact ⟨by rw [upd_same, hn2], fun g hg => by rw [hn2] at hg; cases hg⟩
        · rw [upd_other _ _ _ _ e] at e1
          exact ⟨by rw [upd_other _ _ _ _ e]; exact e1, fun g hg => e2 g (by rw [upd_other _ _ _ _ e]; exact hg)⟩
      · have hne : i ≠ kb := fun e => by
          have hB : σ'.box i = some B := hB
          rw [e, hbox'] at hB; cases hB
        obtain ⟨e1, e2⟩ := this.bx i hi B hB
        rw [upd_other _ _ _ _ hne] at e1
        exact ⟨by rw [upd_other _ _ _ _ hne]; exact e1, e2⟩
    have hexit : ∀ ex', ex' ≠ .normal → ex = ex' → (K ex' ((σ'.clear ws).soil fun b => σ.dirty b || L.gone b)).map Sum.inr = some y → KeepsOthers W W' ∧ (∃ ex r κ1 M1 σ1, codeOf ex' = codeOf ex ∧ ex ≠ .normal ∧ loopL f (pre ++ [x]) s0 = some (.inr r) ∧ K ex σ1 = some r ∧ Rel P base κ1 M1 σ1 a W' ∧ Fr base ws κ M σ a w κ1 M1 σ1 a W') := fun ex' hne _ hk => by
      obtain ⟨r', hk1, rfl⟩ := Option.map_eq_some_iff.1 hk
      obtain ⟨hR3, hF3⟩ := head_out hH hRc hFc
      exact ⟨hko, ex', r', _, M', _, rfl, hne, hstep, hk1, hR3, hF3⟩
    cases ex with
    | normal =>
      simp only at hk
      obtain ⟨s', hk1, rfl⟩ := Option.map_eq_some_iff.1 hk
      obtain ⟨κ2, hH2, hK2⟩ := head_nextF hR hok hH hRc hFc hk1
      have hN2 : (∀ i, κ2 i ≠ some G) ∧ κ2 kb = none := ⟨fun i hi => by
        obtain ⟨j, h2, _⟩ := hK2.1 i G hi
        exact hno2 j h2, hK2.2 kb ft fb fk⟩
      exact ⟨hko, hkm, hGW, s', κ2, M', hstep, hH2, hN2.1, hN2.2, fun o => (hGM o).trans (hn3 o)⟩
    | exit i => exact hexit (.exit i) (by intro h; cases h) rfl hk
    | ret => exact hexit .ret (by intro h; cases h) rfl hk
  case done =>
    rintro D W hD ⟨s, κ1, M1, h1, hH, _⟩ hK
    rw [hl] at h1
    simp only [Option.some.injEq] at h1
    obtain ⟨hR2, hF2⟩ := hfrs hH
    refine hQ .normal κ1 M1 _ _ W (rel_act hR2 fun _ _ _ => rfl) ?_ (.inl ⟨s, h1, rfl, rfl⟩)
    exact ⟨hF2.below, hF2.le, hF2.mem, rfl, ⟨[D], rfl, List.pairwise_singleton _ _, (fun D' hD' => by rw [List.mem_singleton.1 hD']; exact ⟨hD, hK⟩), fun _ => by rw [hws]; simp [writes]⟩, fun _ _ => rfl, hF2.ids, hF2.bx, hF2.oth, hF2.same⟩
  case stop =>
    rintro D cd pre W hD ⟨rest, hS⟩ ⟨ex, r, κ1, M1, σ1, rfl, hne, h3, h4, h5, h6⟩ hK
    have hj : j = .inr r := by
      have : loopL f xs s0 = some (.inr r) := by
        rw [← hS, loopL_append, h3]; rfl
      rw [hl] at this
      exact Option.some.inj this
    have hfin : Q (exOf ex) { a with defers := { target := .collected D, args := #[] } :: a.defers } W := by
      refine hQ ex κ1 M1 σ1 _ W (rel_act h5 fun _ _ _ => rfl) ?_ (.inr ⟨r, hj, hne, h4⟩)
      exact ⟨h6.below, h6.le, h6.mem, rfl, ⟨[D], rfl, List.pairwise_singleton _ _, (fun D' hD' => by rw [List.mem_singleton.1 hD']; exact ⟨hD, hK⟩), fun _ => by rw [hws]; simp [writes]⟩, fun _ _ => rfl, h6.ids, h6.bx, h6.oth, h6.same⟩
    cases ex with
    | normal => exact (hne rfl).elim
    | exit i => exact wpIn_exit hfin
    | ret => exact wpIn_ret hfin
theorem code_go (hm : P.follows .mixedOrders = true) (hC : COk P Γ) : ∀ (c : Code) {F : Fence} {nn : Nat} (_ : Open F) (_ : (F.round = none ∧ 1 ≤ nn) ∨ noRange c = true) {n : Ann} {A : Type} {K : Ex → St → Option A} {r : A} {κ : Nat → Option Nat} {M : Mem} {σ : St} {a : Act} {w : World} {Q : Exit → Act → World → Prop},
    codeK Γ c n σ K = some r → okB a.tmps.size c = true → Rel P base κ M σ a w →
    (∀ e κ' M' σ' a' w', Rel P base κ' M' σ' a' w' → Fr base (writes c) κ M σ a w κ' M' σ' a' w' → K e σ' = some r → Q (exOf e) a' w') → c.wpIn F nn P Q a w
  | .skip, F, nn, hF, hro, n, A, K, r, κ, M, σ, a, w, Q, h, _, hR, hQ => by
    simp only [codeK] at h
    exact wpIn_skip (hQ .normal κ M σ a w hR Fr.refl h)
  | .exit id, F, nn, hF, hro, n, A, K, r, κ, M, σ, a, w, Q, h, _, hR, hQ => by
    simp only [codeK] at h
    exact wpIn_exit (hQ (.exit id) κ M σ a w hR Fr.refl h)
  | .ret, F, nn, hF, hro, n, A, K, r, κ, M, σ, a, w, Q, h, _, hR, hQ => by
    simp only [codeK] at h
    exact wpIn_ret (hQ .ret κ M σ a w hR Fr.refl h)
  | .region id ops d, F, nn, hF, hro, n, A, K, r, κ, M, σ, a, w, Q, h, hb, hR, hQ => by
    simp only [codeK] at h
    split at h
    · rename_i σ1 h1
      obtain ⟨M1, hR1, hF1⟩ := rel_thaw hR h1
      simp only [okB] at hb
      cases hgw : Γ.gown with
      | true => rw [hgw] at h; cases h
      | false =>
      rw [hgw, cond_false] at h
      refine region_sound hgw hm hC h (fun τ lg hk hd => ?_) hb hR1 hF fun κ' M' τ lg a' w' hR' hF' hk => ?_
      · subst hd
        simp only [Bool.true_and] at hk
        split at hk
        · cases hk
        · rename_i ho; simpa using ho
      · split at hk
        · cases hk
        · exact hQ .normal κ' M' τ a' w' hR' (hF1.trans hF' (fun s hs => by cases hs) fun s hs => hs) hk
    · cases h
  | .seq x y, F, nn, hF, hro, n, A, K, r, κ, M, σ, a, w, Q, h, hb, hR, hQ => by
    simp only [codeK] at h
    simp only [okB, Bool.and_eq_true] at hb
    refine wpIn_seq (code_go hm hC x hF (hro.imp id fun h => by simp only [noRange, Bool.and_eq_true] at h; exact h.1) h hb.1 hR fun e κ' M' σ' a' w' hR' hF' hk => ?_)
    have hl : Fr base (writes (.seq x y)) κ M σ a w κ' M' σ' a' w' := hF'.mono fun s hs => List.mem_append_left _ hs
    cases e with
    | normal =>
      refine code_go hm hC y hF (hro.imp id fun h => by simp only [noRange, Bool.and_eq_true] at h; exact h.2) hk (by rw [hF'.size]; exact hb.2) hR' fun e κ2 M2 σ2 a2 w2 hR2 hF2 hk2 => ?_
      exact hQ e κ2 M2 σ2 a2 w2 hR2 (hF'.trans hF2 (fun s hs => List.mem_append_left _ hs) fun s hs => List.mem_append_right _ hs) hk2
    | exit i => exact hQ (.exit i) κ' M' σ' a' w' hR' hl hk
    | ret => exact hQ .ret κ' M' σ' a' w' hR' hl hk
  | .block id x, F, nn, hF, hro, n, A, K, r, κ, M, σ, a, w, Q, h, hb, hR, hQ => by
    simp only [codeK] at h
    simp only [okB] at hb
    refine wpIn_block (code_go hm hC x hF hro h hb hR fun e κ' M' σ' a' w' hR' hF' hk => ?_)
    cases e with
    | normal => exact hQ .normal κ' M' σ' a' w' hR' hF' hk
    | ret => exact hQ .ret κ' M' σ' a' w' hR' hF' hk
    | exit i =>
      simp only at hk
      simp only [exOf, Exit.inBlock]
      split at hk
      · rename_i hi
        rw [if_pos hi]
        exact hQ .normal κ' M' σ' a' w' hR' hF' hk
      · rename_i hi
        rw [if_neg hi]
        exact hQ (.exit i) κ' M' σ' a' w' hR' hF' hk
  | .cond cnd x y, F, nn, hF, hro, n, A, K, r, κ, M, σ, a, w, Q, h, hb, hR, hQ => by
    simp only [codeK] at h
    simp only [okB, Bool.and_eq_true] at hb
    have hl : ∀ {V}, (V = writes x ∨ V = writes y) → ∀ s, s ∈ V → s ∈ writes (.cond cnd x y) := fun hV s hs => by
      rcases hV with rfl | rfl
      · exact List.mem_append_left _ hs
      · exact List.mem_append_right _ hs
    have hR0 : Rel P base κ M { σ with dirty := fun _ => false } a w := rel_dirt hR rfl rfl rfl
    split at h
    · cases h
    · rename_i g hg
      have plain : ∀ n', (bif g then codeK Γ x (Ann.l n') σ K else codeK Γ y (Ann.r n') σ K) = some r → (Code.cond cnd x y).wpIn F nn P Q a w := fun n' h => by
        refine wpIn_cond_split (bool_rel hR hg) (fun ht => ?_) (fun ht => ?_)
        · subst ht
          exact code_go hm hC x hF (hro.imp id fun h => by simp only [noRange, Bool.and_eq_true] at h; exact h.1) h hb.1 hR fun e κ' M' σ' a' w' hR' hF' hk => hQ e κ' M' σ' a' w' hR' (hF'.mono (hl (.inl rfl))) hk
        · subst ht
          exact code_go hm hC y hF (hro.imp id fun h => by simp only [noRange, Bool.and_eq_true] at h; exact h.2) h hb.2 hR fun e κ' M' σ' a' w' hR' hF' hk => hQ e κ' M' σ' a' w' hR' (hF'.mono (hl (.inr rfl))) hk
      have joined : ∀ (L : Desc) (s : L.den) (V : List Nat) κ' M' σ' a' w', L.ok σ (writes x ++ writes y) = true → (V = writes x ∨ V = writes y) → Rel P base κ' M' σ' a' w' → Fr base V κ M { σ with dirty := fun _ => false } a w κ' M' σ' a' w' →
          L.grab σ' = some s → K .normal ((L.put σ (writes x ++ writes y) s).back σ L) = some r → Q .normal a' w' := fun L s V κ' M' σ' a' w' hok hV hR' hF' hgr hk => by
        obtain ⟨hd, hg0⟩ := grab_some hgr
        obtain ⟨κ2, h1, h2, _⟩ := join_rel (σ0 := { σ with dirty := fun _ => false }) hR (okD hok) hR' rfl (hF'.mono (hl hV)) hd hg0
        refine hQ .normal κ2 M' ((L.put σ (writes x ++ writes y) s).back σ L) a' w' (rel_dirt h1 rfl rfl rfl) (fr_dirt h2 rfl rfl fun i hi => ?_) hk
        simp only [St.back, Bool.or_eq_false_iff] at hi ⊢
        exact ⟨hi.1, (by trivial), hi.2⟩
      have out : ∀ e (V : List Nat) κ' M' σ' a' w', (V = writes x ∨ V = writes y) → Rel P base κ' M' σ' a' w' → Fr base V κ M { σ with dirty := fun _ => false } a w κ' M' σ' a' w' → K e (σ'.soil σ.dirty) = some r → Q (exOf e) a' w' := fun e V κ' M' σ' a' w' hV hR' hF' hk => by
        refine hQ e κ' M' (σ'.soil σ.dirty) a' w' (rel_dirt hR' rfl rfl rfl) (fr_dirt (hF'.mono (hl hV)) rfl rfl fun i hi => ?_) hk
        simp only [St.soil, Bool.or_eq_false_iff] at hi
        exact hi
      cases n with
      | join L m m' =>
        simp only at h
        split at h
        · rename_i hok
          obtain ⟨s, hs, hk⟩ := Option.bind_eq_some_iff.1 h
          refine wpIn_cond_split (bool_rel hR hg) (fun ht => ?_) (fun ht => ?_)
          · subst ht
            refine code_go hm hC x hF (hro.imp id fun h => by simp only [noRange, Bool.and_eq_true] at h; exact h.1) hs hb.1 hR0 fun e κ' M' σ' a' w' hR' hF' hk' => ?_
            cases e with
            | normal => exact joined L s _ κ' M' σ' a' w' hok (.inl rfl) hR' hF' hk' hk
            | exit i => cases hk'
            | ret => cases hk'
          · subst ht
            refine code_go hm hC y hF (hro.imp id fun h => by simp only [noRange, Bool.and_eq_true] at h; exact h.2) hs hb.2 hR0 fun e κ' M' σ' a' w' hR' hF' hk' => ?_
            cases e with
            | normal => exact joined L s _ κ' M' σ' a' w' hok (.inr rfl) hR' hF' hk' hk
            | exit i => cases hk'
            | ret => cases hk'
        · cases h
      | joinD L m m' =>
        simp only at h
        split at h
        · rename_i hok
          obtain ⟨s, hs, hk⟩ := Option.bind_eq_some_iff.1 h
          have fin : ∀ e (V : List Nat) κ' M' σ' a' w', (V = writes x ∨ V = writes y) → Rel P base κ' M' σ' a' w' → Fr base V κ M { σ with dirty := fun _ => false } a w κ' M' σ' a' w' →
              (match e with | .normal => (L.grab σ').map .inl | e => (K e (σ'.soil σ.dirty)).map .inr) = some s → Q (exOf e) a' w' := fun e V κ' M' σ' a' w' hV hR' hF' hk' => by
            cases e with
            | normal =>
              simp only [Option.map_eq_some_iff] at hk'
              obtain ⟨s', h1, rfl⟩ := hk'
              exact joined L s' V κ' M' σ' a' w' hok hV hR' hF' h1 hk
            | exit i =>
              simp only [Option.map_eq_some_iff] at hk'
              obtain ⟨r', h1, rfl⟩ := hk'
              simp only [Option.some.injEq] at hk
              subst hk
              exact out _ V κ' M' σ' a' w' hV hR' hF' h1
            | ret =>
              simp only [Option.map_eq_some_iff] at hk'
              obtain ⟨r', h1, rfl⟩ := hk'
              simp only [Option.some.injEq] at hk
              subst hk
              exact out _ V κ' M' σ' a' w' hV hR' hF' h1
          refine wpIn_cond_split (bool_rel hR hg) (fun ht => ?_) (fun ht => ?_)
          · subst ht
            exact code_go hm hC x hF (hro.imp id fun h => by simp only [noRange, Bool.and_eq_true] at h; exact h.1) hs hb.1 hR0 fun e κ' M' σ' a' w' hR' hF' hk' => fin e _ κ' M' σ' a' w' (.inl rfl) hR' hF' hk'
          · subst ht
            exact code_go hm hC y hF (hro.imp id fun h => by simp only [noRange, Bool.and_eq_true] at h; exact h.2) hs hb.2 hR0 fun e κ' M' σ' a' w' hR' hF' hk' => fin e _ κ' M' σ' a' w' (.inr rfl) hR' hF' hk'
        · cases h
      | nil => exact plain .nil h
      | seq a' b' => exact plain (.seq a' b') h
      | cond a' b' => exact plain (.cond a' b') h
      | blk a' => exact plain (.blk a') h
      | loopB L B id a' => exact plain (.loopB L B id a') h
      | loopBD L B id a' => exact plain (.loopBD L B id a') h
      | loopD L a' => exact plain (.loopD L a') h
      | frz b' a' => exact plain (.frz b' a') h
  | .loop c, F, nn, hF, hro, n, A, K, r, κ, M, σ, a, w, Q, h, hb, hR, hQ => by
    simp only [codeK] at h
    simp only [okB] at hb
    cases n with
    | loopB L B id m =>
      simp only at h
      split at h
      · rename_i hok
        simp only [Bool.and_eq_true] at hok
        split at h
        · cases h
        · rename_i s0 hs0
          obtain ⟨b, hl, hk⟩ := Option.bind_eq_some_iff.1 h
          obtain ⟨mm, hl⟩ := loopM_some hl
          obtain ⟨κ0, hH0⟩ := head_start hR hok.1 hs0
          refine wpIn_loop_rounds mm (rounds (L := L) (σ := σ) (κ := κ) (M := M) (a := a) (w := w) (ws := writes c) ?_ mm s0 κ0 M a w hl hH0)
          intro s x κ1 M1 a1 w1 hH hf K' hK1 hK2
          refine code_go hm hC c hF hro hf (by rw [hH.fr.size]; exact hb) hH.rel fun e κ' M' σ' a' w' hR' hF' hk' => ?_
          cases e with
          | normal =>
            simp only [Option.map_eq_some_iff] at hk'
            obtain ⟨s', h1, rfl⟩ := hk'
            obtain ⟨κ2, hH2⟩ := head_next hR hok.1 hH hR' hF' h1
            exact hK1 s' κ2 M' a' w' rfl hH2
          | exit i =>
            simp only at hk'
            split at hk'
            · rename_i hi
              subst hi
              simp only [Option.map_eq_some_iff] at hk'
              obtain ⟨b', h1, rfl⟩ := hk'
              have := hK2 b' rfl
              subst this
              obtain ⟨κ2, hR2, hF2⟩ := head_exit hR hok.2 hH hR' hF' h1
              exact hQ (.exit i) κ2 M' _ a' w' hR2 hF2 hk
            · cases hk'
          | ret => cases hk'
      · cases h
    | loopBD L B id m =>
      simp only at h
      split at h
      · rename_i hok
        simp only [Bool.and_eq_true] at hok
        split at h
        · cases h
        · rename_i s0 hs0
          obtain ⟨b, hl, hk⟩ := Option.bind_eq_some_iff.1 h
          obtain ⟨mm, hl⟩ := loopM_some hl
          obtain ⟨κ0, hH0⟩ := head_start hR hok.1 hs0
          refine wpIn_loop_rounds mm (rounds (L := L) (σ := σ) (κ := κ) (M := M) (a := a) (w := w) (ws := writes c) ?_ mm s0 κ0 M a w hl hH0)
          intro s x κ1 M1 a1 w1 hH hf K' hK1 hK2
          refine code_go hm hC c hF hro hf (by rw [hH.fr.size]; exact hb) hH.rel fun e κ' M' σ' a' w' hR' hF' hk' => ?_
          cases e with
          | normal =>
            simp only [Option.map_eq_some_iff] at hk'
            obtain ⟨s', h1, rfl⟩ := hk'
            obtain ⟨κ2, hH2⟩ := head_next hR hok.1 hH hR' hF' h1
            exact hK1 s' κ2 M' a' w' rfl hH2
          | exit i =>
            simp only at hk'
            split at hk'
            · rename_i hi
              subst hi
              simp only [Option.map_eq_some_iff] at hk'
              obtain ⟨b', h1, rfl⟩ := hk'
              have := hK2 _ rfl
              subst this
              obtain ⟨κ2, hR2, hF2⟩ := head_exit hR hok.2 hH hR' hF' h1
              exact hQ (.exit i) κ2 M' _ a' w' hR2 hF2 hk
            · simp only [Option.map_eq_some_iff] at hk'
              obtain ⟨r', h1, rfl⟩ := hk'
              have := hK2 _ rfl
              subst this
              simp only [Option.some.injEq] at hk
              subst hk
              obtain ⟨hR2, hF2⟩ := head_out hH hR' hF'
              exact hQ (.exit i) κ' M' _ a' w' hR2 hF2 h1
          | ret =>
            simp only [Option.map_eq_some_iff] at hk'
            obtain ⟨r', h1, rfl⟩ := hk'
            have := hK2 _ rfl
            subst this
            simp only [Option.some.injEq] at hk
            subst hk
            obtain ⟨hR2, hF2⟩ := head_out hH hR' hF'
            exact hQ .ret κ' M' _ a' w' hR2 hF2 h1
      · cases h
    | loopD L m =>
      simp only at h
      split at h
      · rename_i hok
        split at h
        · cases h
        · rename_i s0 hs0
          obtain ⟨mm, hl⟩ := loopM_some h
          obtain ⟨κ0, hH0⟩ := head_start hR hok hs0
          refine wpIn_loop_rounds mm (rounds (L := L) (σ := σ) (κ := κ) (M := M) (a := a) (w := w) (ws := writes c) ?_ mm s0 κ0 M a w hl hH0)
          intro s x κ1 M1 a1 w1 hH hf K' hK1 hK2
          refine code_go hm hC c hF hro hf (by rw [hH.fr.size]; exact hb) hH.rel fun e κ' M' σ' a' w' hR' hF' hk' => ?_
          cases e with
          | normal =>
            simp only [Option.map_eq_some_iff] at hk'
            obtain ⟨s', h1, rfl⟩ := hk'
            obtain ⟨κ2, hH2⟩ := head_next hR hok hH hR' hF' h1
            exact hK1 s' κ2 M' a' w' rfl hH2
          | exit i =>
            simp only [Option.map_eq_some_iff] at hk'
            obtain ⟨r', h1, rfl⟩ := hk'
            have := hK2 _ rfl
            subst this
            obtain ⟨hR2, hF2⟩ := head_out hH hR' hF'
            exact hQ (.exit i) κ' M' _ a' w' hR2 hF2 h1
          | ret =>
            simp only [Option.map_eq_some_iff] at hk'
            obtain ⟨r', h1, rfl⟩ := hk'
            have := hK2 _ rfl
            subst this
            obtain ⟨hR2, hF2⟩ := head_out hH hR' hF'
            exact hQ .ret κ' M' _ a' w' hR2 hF2 h1
      · cases h
    | nil => cases h
    | seq _ _ => cases h
    | cond _ _ => cases h
    | join _ _ _ => cases h
    | joinD _ _ _ => cases h
    | blk _ => cases h
    | frz _ _ => cases h
  | .rangeFunc g ps as c, F, nn, hF, hro, n, A, K, r, κ, M, σ, a, w, Q, h, hb, hR, hQ => by
    rcases hro with ⟨hro, hnn⟩ | hro
    rotate_left
    · cases hro
    simp only [codeK] at h
    simp only [okB, Bool.and_eq_true] at hb
    cases n with
    | loopD L m =>
      simp only at h
      split at h
      · split at h
        · cases h
        · rename_i b e ox p t hra
          split at h
          · rename_i hok
            simp only [Bool.and_eq_true, Bool.not_eq_true'] at hok
            split at h
            · cases h
            · rename_i s0 hs0
              obtain ⟨xs, hxs, h⟩ := Option.bind_eq_some_iff.1 h
              obtain ⟨j, hl, hk⟩ := Option.bind_eq_some_iff.1 h
              refine range_once (hC.mf.symm.trans hok.1.2.2.2) hF hro hnn (K := K) hra hxs hok.1.1 hok.1.2.1 hok.2 hs0 hl hb.2 hb.1.1 hR (fun l x s y κ1 M1 a1 w1 Q1 hy hsz hR1 hQ1 => ?_) fun ex κ' M' σ' a' w' hR' hF' hcase => ?_
              · exact code_go hm hC c (F := F.inRound l) ⟨hF.fn, hF.depth, hF.alive⟩ (.inr hok.1.2.2.1) hy (by rw [hsz]; exact hb.1.2) hR1 fun ex κ' M' σ' a' w' hR' hF' hk' => hQ1 ex κ' M' σ' a' w' hR' hF' hk'
              · refine hQ ex κ' M' σ' a' w' hR' hF' ?_
                rcases hcase with ⟨s, rfl, rfl, rfl⟩ | ⟨r', rfl, _, hk'⟩
                · exact hk
                · simp only [Option.some.injEq] at hk
                  rw [← hk]; exact hk'
          · cases h
      · rename_i e xs p hra
        split at h
        · rename_i hok
          simp only [Bool.and_eq_true, Bool.not_eq_true'] at hok
          split at h
          · cases h
          · rename_i s0 hs0
            obtain ⟨j, hl, hk⟩ := Option.bind_eq_some_iff.1 h
            refine range_sound (hC.mf.symm.trans hok.2.2.2) hF hro hnn (K := K) (G := fun σ1 => codeK Γ c m σ1 (A := L.den ⊕ A) (fun ex σ' => match ex with
              | .normal => (L.grab (σ'.clear (writes (.rangeFunc g ps as c)))).map .inl
              | ex => (K ex ((σ'.clear (writes (.rangeFunc g ps as c))).soil fun b => σ.dirty b || L.gone b)).map .inr)) hra hok.1 hok.2.1 hs0 hl hb.2 hR (fun l x s y κ1 M1 a1 w1 K1 hy hsz hR1 hK1 => ?_) (fun l y σ1 κ1 M1 a1 w1 Q1 hy hsz hR1 hQ1 => ?_) fun ex κ' M' σ' a' w' hR' hF' hcase => ?_
            · refine code_go hm hC as (F := F.inRound l) ⟨hF.fn, hF.depth, hF.alive⟩ (.inr hok.2.2.1.2) hy (by rw [hsz]; exact hb.1.1) hR1 fun ex κ' M' σ' a' w' hR' hF' hk' => ?_
              cases ex with
              | normal => exact hK1 κ' M' σ' a' w' hR' hF' hk'
              | exit i => cases hk'
              | ret => cases hk'
            · exact code_go hm hC c (F := F.inRound l) ⟨hF.fn, hF.depth, hF.alive⟩ (.inr hok.2.2.1.1) hy (by rw [hsz]; exact hb.1.2) hR1 fun ex κ' M' σ' a' w' hR' hF' hk' => hQ1 ex κ' M' σ' a' w' hR' hF' hk'
            · refine hQ ex κ' M' σ' a' w' hR' hF' ?_
              rcases hcase with ⟨s, rfl, rfl, rfl⟩ | ⟨r', rfl, _, hk'⟩
              · exact hk
              · simp only [Option.some.injEq] at hk
                rw [← hk]; exact hk'
        · cases h
    | nil => cases h
    | seq _ _ => cases h
    | cond _ _ => cases h
    | join _ _ _ => cases h
    | joinD _ _ _ => cases h
    | blk _ => cases h
    | loopB _ _ _ _ => cases h
    | loopBD _ _ _ _ => cases h
    | frz _ _ => cases h
  | .scope _, _, _, _, _, _, _, _, _, _, _, _, _, _, _, h, _, _, _ => by simp only [codeK] at h; cases h
  | .label _, _, _, _, _, _, _, _, _, _, _, _, _, _, _, h, _, _, _ => by simp only [codeK] at h; cases h
  | .goto _, _, _, _, _, _, _, _, _, _, _, _, _, _, _, h, _, _, _ => by simp only [codeK] at h; cases h
  | .refuse _, _, _, _, _, _, _, _, _, _, _, _, _, _, _, h, _, _, _ => by simp only [codeK] at h; cases h
theorem code_sound (hm : P.follows .mixedOrders = true) (hC : COk P Γ) {F : Fence} (hF : Open F) {nn : Nat} (c : Code) (hro : (F.round = none ∧ 1 ≤ nn) ∨ noRange c = true) {n : Ann} {A : Type} {K : Ex → St → Option A} {r : A} {κ : Nat → Option Nat} {M : Mem} {σ : St} {a : Act} {w : World} {Q : Exit → Act → World → Prop}
    (h : codeK Γ c n σ K = some r) (hb : okB a.tmps.size c = true) (hR : Rel P base κ M σ a w)
    (hQ : ∀ e κ' M' σ' a' w', Rel P base κ' M' σ' a' w' → Fr base (writes c) κ M σ a w κ' M' σ' a' w' → K e σ' = some r → Q (exOf e) a' w') : c.wpIn F nn P Q a w := code_go hm hC c hF hro h hb hR hQ
end Go.Lift
namespace Go.Lift
open Go Go.RowKit
variable [Tab] [Mf]
variable {P : Program} {Γ : Ctx} {base : Nat} {κ κ' κ2 : Nat → Option Nat} {M M' : Mem} {σ σ0 τ σ' τ' : St} {a a' : Act} {w w' : World}
theorem start_env : ∀ {ts : List Ty} {i : Nat} {x : Args ts} {vs : List Value} {s : Nat} {v : AVal}, relVs P M ts x vs → startEnv ts i x s = some v → ∃ j u, s = i + j ∧ vs[j]? = some u ∧ ∃ (t : Ty) (y : t.den), v = .data t y [] ∧ relV P t M y u
  | [], _, _, _, _, _, _, h => by cases h
  | [t], i, x, vs, s, v, ⟨u, h1, h2⟩, h => by
    subst h1
    simp only [startEnv] at h
    by_cases hs : s = i
    · subst hs
      simp only [upd_same, Option.some.injEq] at h
      exact ⟨0, u, rfl, rfl, t, x, h.symm, h2⟩
    · rw [upd_other _ _ _ _ hs] at h; cases h
  | t :: t' :: r, i, x, vs, s, v, ⟨u, rest, h1, h2, h3⟩, h => by
    subst h1
    simp only [startEnv] at h
    by_cases hs : s = i
    · subst hs
      simp only [upd_same, Option.some.injEq] at h
      exact ⟨0, u, rfl, rfl, t, x.1, h.symm, h2⟩
    · rw [upd_other _ _ _ _ hs] at h
      obtain ⟨j, u', e1, e2, e3⟩ := start_env h3 h
      exact ⟨j + 1, u', by omega, e2, e3⟩
theorem relVs_length : ∀ {ts : List Ty} {x : Args ts} {vs : List Value}, relVs P M ts x vs → vs.length = ts.length
  | [], _, _, h => by cases h; rfl
  | [t], x, vs, ⟨u, h1, h2⟩ => by subst h1; rfl
  | t :: t' :: r, x, vs, ⟨u, rest, h1, h2, h3⟩ => by subst h1; simp [relVs_length h3]
theorem rel_start {ts : List Ty} {x : Args ts} {vs : List Value} (hg : Good M w) (h : relVs P M ts x vs) (n : Nat) :
    Rel P w.heap.size (fun _ => none) M { env := startEnv ts 0 x, box := fun _ => none, tok := fun _ => false, dirty := fun _ => false } { tmps := vs.toArray ++ Array.replicate n undef, defers := [] } w := by
  refine ⟨fun s v hs => ?_, fun b B hB => (by cases hB), hg, fun i j g hi => (by cases hi), fun i g hi => (by cases hi), fun i B hB => (by cases hB), Nat.le_refl _⟩
  obtain ⟨j, u, e1, e2, t, y, rfl, e4⟩ := start_env h hs
  have hj : j < vs.length := (List.getElem?_eq_some_iff.1 e2).1
  have : (vs.toArray ++ Array.replicate n undef).getD s undef = u := by
    rw [Array.getD_eq_getD_getElem?, Array.getElem?_append]
    have : s = j := by omega
    subst this
    rw [if_pos (by simpa using hj)]
    simp [e2]
  rw [this]
  exact ⟨e4, OwnsC_nil⟩
def readRes (tmps : Array Value) : ResultVar → Sem Value
  | .tmp t => pure (tmps.getD t undef)
  | .cell a t => do loadVar t (← asAddr (tmps.getD a undef))
theorem res_one (hC : COk P Γ) (hR : Rel P base κ M σ a w) {t : Ty} {r : ResultVar} {y : t.den} (h : resultOf Γ σ t r = some y) : ∃ v, (readRes a.tmps r).run P w = .ok v w ∧ relV P t M y v := by
  cases r with
  | tmp s =>
    simp only [resultOf] at h
    exact ⟨a.eval (.tmp s), by simp only [readRes, Sem.run_pure]; rfl, get_rel (x := .tmp s) hR h⟩
  | cell s T =>
    simp only [resultOf] at h
    split at h
    · rename_i hT
      split at h
      · rename_i b hb
        split at h
        · rename_i B hB
          split at h
          · cases h
          · rename_i hrw
            obtain ⟨B', g, off, h1, h2, h3, h4⟩ := hR.env s _ hb
            rw [hB] at h1; cases h1
            obtain ⟨g', cur, E, h5, h6, h7, h8, _⟩ := (hR.bx b B hB).cells (flat_off h3)
            rw [h2] at h5; cases h5
            obtain ⟨i, d, hi⟩ := fits_info (hC.ty T t hT)
            obtain ⟨e1, e2⟩ := castTy_some h
            have hget : getP B.t B.x [] t = some y := by unfold getP; exact h
            obtain ⟨r1, r2⟩ := relBx_get h7 h3 hget
            have hrun := run_loadVar hi r1 (w := w) (hasCells_blk h6 off t.size)
            refine ⟨_, ?_, relV_ofCells r1⟩
            simp only [readRes, h4, asAddr, Sem.run_bind, Sem.run_pure, Result.andThen_ok, hrun]
        · cases h
      · cases h
    · cases h
theorem res_all (hC : COk P Γ) (hR : Rel P base κ M σ a w) : ∀ {ts : List Ty} {rs : List ResultVar} {y : Args ts}, results Γ σ ts rs = some y → ∃ vs : List Value, (rs.mapM (readRes a.tmps)).run P w = .ok vs w ∧ relVs P M ts y vs
  | [], [], y, h => ⟨[], rfl, rfl⟩
  | [], _ :: _, y, h => by cases h
  | [t], [], y, h => by cases h
  | [t], [r], y, h => by
    obtain ⟨v, h1, h2⟩ := res_one hC hR (t := t) h
    exact ⟨[v], by simp only [List.mapM_cons, List.mapM_nil, Sem.run_bind, h1, Result.andThen_ok, Sem.run_pure], v, rfl, h2⟩
  | [t], r :: r' :: rs, y, h => by cases h
  | t :: u :: ts, [], y, h => by cases h
  | t :: u :: ts, r :: rs, y, h => by
    simp only [results] at h
    split at h
    · rename_i v v' h1 h2
      simp only [Option.some.injEq] at h
      subst h
      obtain ⟨x, a1, a2⟩ := res_one hC hR h1
      obtain ⟨xs, b1, b2⟩ := res_all hC hR h2
      exact ⟨x :: xs, by simp only [List.mapM_cons, Sem.run_bind, a1, b1, Result.andThen_ok, Sem.run_pure], x, xs, rfl, a2, b2⟩
    · cases h
theorem res_fun (hC : COk P Γ) (hR : Rel P base κ M σ a w) {fn : Func} {ts : List Ty} {y : Args ts} (h : results Γ σ ts fn.results.toList = some y) : ∃ v, (Go.results fn a.tmps).run P w = .ok v w ∧ relR P M ts y v := by
  obtain ⟨vs, h1, h2⟩ := res_all hC hR h
  have hfun : Go.results fn a.tmps = (do let vs ← fn.results.mapM (readRes a.tmps); pure (if h : vs.size = 1 then vs[0] else .tuple vs) : Sem Value) := by
    unfold Go.results
    congr 1
  have hl := relVs_length h2
  refine ⟨if h : vs.toArray.size = 1 then vs.toArray[0] else .tuple vs.toArray, ?_, ?_⟩
  · rw [hfun, Array.mapM_eq_mapM_toList]
    simp only [Sem.run_bind, Sem.run_map, h1, Result.andThen_ok, Sem.run_pure]
  · match ts, y, h2, hl with
    | [], _, h2, hl =>
      have hz : vs = [] := List.length_eq_zero_iff.1 hl
      subst hz
      exact ⟨#[], rfl, rfl⟩
    | [t], y, ⟨v, h3, h4⟩, hl =>
      subst h3
      exact h4
    | t :: u :: r, y, h2, hl =>
      rw [dif_neg (by simp at hl ⊢; omega)]
      exact ⟨_, rfl, h2⟩
theorem leaves_marks {F : Fence} {n : Nat} {fn : Func} {tmps : Array Value} {R : Ending → World → Prop} : ∀ (ms : List Nat) (w : World), ms.Nodup → (∀ D, D ∈ ms → w.heap[D]? = some (.deferred (some []))) →
    (∀ w', w.heap.size = w'.heap.size → (∀ (κ : Nat → Option Nat) (M : Mem) (σ : St) (base : Nat) (a : Act), Rel P base κ M σ a w → Rel P base κ M σ a w') → (∀ B, (∀ D, D ∈ ms → B ≤ D) → B ≤ w.heap.size → Below B w w') → LeavesIn F n P fn tmps R [] .returning w') →
    LeavesInM F n P fn tmps R (ms.map fun D => { target := .collected D, args := #[] }) .returning w
  | [], w, _, _, h => h w rfl (fun _ _ _ _ _ hR => hR) (fun B _ _ => Below.refl _ _)
  | D :: ms, w, hn, hm, h => by
    rw [List.nodup_cons] at hn
    have hD := hm D (by simp)
    have hlt : D < w.heap.size := (Array.getElem?_eq_some_iff.1 hD).1
    refine ⟨by simp, .inl ⟨D, _, rfl, run_takeDeferred hD, ?_⟩⟩
    refine leaves_marks ms _ hn.2 (fun D' hD' => (World.putObj_heap_other (fun e => hn.1 (by first | (rw [e]; exact hD') | (rw [← e]; exact hD')))).trans (hm D' (List.mem_cons_of_mem _ hD'))) fun w' hs hrel hbel => ?_
    have hg := grownBy_putObj' w D (.deferred none)
    refine h w' (by rw [← hs]; simp) (fun κ M σ base a hR => hrel κ M σ base a (rel_own (fun k e _ es c h => by cases e; rw [hD] at h; cases h) hR hg fun k e => by cases e; exact ⟨_, hD, rfl⟩)) (fun B hB hBs => ?_)
    refine Below.trans ((Below.refl B w).grown hg hBs fun k e => by cases e; exact hB D (by simp)) (hbel B (fun D' hD' => hB D' (List.mem_cons_of_mem _ hD')) (by simpa using hBs))
theorem fun_sound (hm : P.follows .mixedOrders = true) (hC : COk P Γ) {f : FuncId} {fn : Func} {n : Ann} {s : Sig} (hf : P.funcs[f]? = some fn) (hs : s.f = f)
    (hrun : ∀ x, funK Γ fn n s.ats s.rts x = s.run x) : FC P s := by
  intro x r hr M w vs hg hvs
  rw [← hrun] at hr
  unfold funK at hr
  split at hr
  · rename_i c hc
    split at hr
    · rename_i hok
      simp only [Bool.and_eq_true, Nat.ble_eq] at hok
      have hlen := relVs_length hvs
      subst hs
      unfold CallsTo
      have hsize : ({ tmps := vs.toArray ++ Array.replicate (fn.ntmps - vs.toArray.size) undef, defers := [] } : Act).tmps.size = fn.ntmps := by
        simp only [Array.size_append, List.size_toArray, Array.size_replicate]
        omega
      refine (callsIn_wide (n := 3)).1 (callsIn_of_wp_marks hf hc True.intro ?_ rfl)
      refine code_sound hm hC open_wide c (.inl ⟨rfl, by decide⟩) hr (by rw [hsize]; exact hok.1) (rel_start hg hvs _) fun e κ' M' σ' a' w' hR' hF' hk => ?_
      have fin : results Γ σ' s.rts fn.results.toList = some r → LeavesInM Fence.wide 3 P fn a'.tmps (fun e w' => ∃ M' v, e = .returned v ∧ relR P M' s.rts r v ∧ Good M' w' ∧ Grow M w M' w') a'.defers .returning w' := fun hk => by
        obtain ⟨ms, h1, h2, h3, _⟩ := hF'.defers
        rw [h1, List.append_nil]
        refine leaves_marks ms w' h2 (fun D hD => (h3 D hD).2) fun w2 hs hrel hbel => ?_
        have hR2 := hrel _ _ _ _ _ hR'
        obtain ⟨v, h4, h5⟩ := res_fun hC hR2 hk
        exact ⟨v, h4, M', v, rfl, h5, hR2.good, hF'.below.trans (hbel w.heap.size (fun D hD => (h3 D hD).1) hF'.below.size), hF'.mem⟩
      cases e with
      | normal => exact fin hk
      | ret => exact fin hk
      | exit i => cases hk
    · cases hr
  · cases hr
end Go.Lift
set_option linter.unusedSectionVars false
namespace Go.Lift
open Go Go.RowKit
variable [Tab] [Mf]
variable {P : Program} {Γ : Ctx} {base : Nat} {κ κ' : Nat → Option Nat} {M M' : Mem} {σ τ : St} {a a' : Act} {w w' : World}
end Go.Lift
set_option linter.unusedSectionVars false
namespace Go.Lift
open Go Go.RowKit
variable [Tab] [Mf]
variable {P : Program} {Γ : Ctx} {base : Nat} {κ κ' : Nat → Option Nat} {M M' : Mem} {σ τ : St} {a a' : Act} {w w' : World}
abbrev Slots := List (Nat × AVal)
def relT (P : Program) (M : Mem) : AVal → Value → Prop
  | .data t x own, u => relV P t M x u ∧ own = []
  | .raw v, u => u = v
  | _, _ => False
def Thin (P : Program) (M : Mem) (l : Slots) (a : Act) (w : World) : Prop := Good M w ∧ ∀ e ∈ l, relT P M e.2 (a.tmps.getD e.1 undef)
theorem relT_mono (hM : Mem.le M M') {v : AVal} {u : Value} (h : relT P M v u) : relT P M' v u := by
  cases v with
  | data t x own => exact ⟨relV_mono hM h.1, h.2⟩
  | raw v => exact h
  | bptr _ _ => exact h
  | rowp _ => exact h
  | mapp _ => exact h
  | tup _ _ => exact h
  | clo _ _ => exact h
  | undef => exact h
  | iter _ _ _ => exact h
theorem Thin.turn {l : Slots} (h : Thin P M l a w) (hg : Good M' w') (hM : Mem.le M M') : Thin P M' l a w' := ⟨hg, fun e he => relT_mono hM (h.2 e he)⟩
theorem Thin.put {l : Slots} (h : Thin P M l a w) {d : Nat} {v : Value} {x : AVal} (hd : d < a.tmps.size) (hv : relT P M x v) (hl : l.all (fun e => !(Nat.beq e.1 d)) = true) : Thin P M ((d, x) :: l) (a.put (some d) v) w := by
  refine ⟨h.1, fun e he => ?_⟩
  rcases List.mem_cons.1 he with rfl | he
  · rw [put_same a d v hd]; exact hv
  · have := List.all_eq_true.1 hl e he
    rw [put_other a (some d) v e.1 (fun k => by
      simp only [Option.some.injEq] at k
      rw [← k, Nat.beq_refl] at this; cases this)]
    exact h.2 e he
theorem Thin.sub {l m : Slots} (h : Thin P M l a w) (hs : ∀ e ∈ m, e ∈ l) : Thin P M m a w := ⟨h.1, fun e he => h.2 e (hs e he)⟩
theorem Thin.data {l : Slots} (h : Thin P M l a w) {s : Nat} {t : Ty} {x : t.den} (hs : (s, AVal.data t x []) ∈ l) : relV P t M x (a.eval (.tmp s)) := (h.2 _ hs).1
theorem Thin.raw {l : Slots} (h : Thin P M l a w) {s : Nat} {v : Value} (hs : (s, AVal.raw v) ∈ l) : a.eval (.tmp s) = v := h.2 _ hs
theorem dsts_ok {ops : List Oper} {n : Nat} (h : (dstsOf ops).all (fun d => Nat.blt d n) = true) : ∀ d, d ∈ dstsOf ops → d < n := fun d hd => by
  have := List.all_eq_true.1 h d hd
  rwa [Nat.blt_eq] at this
def Code.fst : Code → Code
  | .seq x _ => x
  | .cond _ x _ => x
  | .block _ x => x
  | .loop x => x
  | c => c
def Code.snd : Code → Code
  | .seq _ y => y
  | .cond _ _ y => y
  | c => c
end Go.Lift
set_option linter.unusedSectionVars false
namespace Go.Lift
open Go Go.RowKit
variable [Tab] [Mf]
variable {P : Program} {Γ : Ctx} {base : Nat} {κ κ' : Nat → Option Nat} {M M' : Mem} {σ τ : St} {a a' : Act} {w w' : World}
structure KeepB (base : Nat) (M : Mem) (a : Act) (w : World) (M' : Mem) (a' : Act) (w' : World) : Prop where
  le : Mem.le M M'
  below : Below base w w'
  mem : ∀ b, b < base → M' b = M b
  size : a'.tmps.size = a.tmps.size
theorem KeepB.refl : KeepB base M a w M a w := ⟨Mem.le_refl _, Below.refl _ _, fun _ _ => rfl, rfl⟩
theorem KeepB.trans {M2 : Mem} {a2 : Act} {w2 : World} (h : KeepB base M a w M' a' w') (k : KeepB base M' a' w' M2 a2 w2) : KeepB base M a w M2 a2 w2 :=
  ⟨Mem.le_trans h.le k.le, h.below.trans k.below, fun b hb => (k.mem b hb).trans (h.mem b hb), k.size.trans h.size⟩
end Go.Lift
