/-
  What the evaluator computes of code and of functions, these do.
-/
import Derived.Test.YtfihcmhknhbndaaGreatDoorLiftH
import Derived.LoopNIn
set_option linter.unusedSectionVars false
set_option linter.unusedVariables false
set_option linter.unusedSimpArgs false
namespace Go.Lift
open Go Go.RowKit
variable [Tab]
variable {P : Program} {Γ : Ctx} {base : Nat} {κ κ' κ2 : Nat → Option Nat} {M M' : Mem} {σ σ0 τ σ' τ' : St} {a a' : Act} {w w' : World}

def exOf : Ex → Exit
  | .normal => .normal
  | .exit id => .exit id
  | .ret => .ret

theorem rel_dirt (hR : Rel P base κ M σ a w) (h1 : τ.env = σ.env) (h2 : τ.box = σ.box) (h3 : τ.tok = σ.tok) : Rel P base κ M τ a w := by
  refine ⟨?_, ?_, hR.good, hR.inj, hR.kap, ?_, hR.low⟩
  · rw [h1, h2, h3]; exact hR.env
  · rw [h2, h3]; exact hR.bx
  · rw [h2, h3]; exact hR.dis

theorem fr_dirt {W : List Nat} {σ1 σ2 : St} (h : Fr base W κ M σ0 a w κ' M' σ1 a' w') (h0 : σ0.box = σ.box) (h1 : σ2.box = σ1.box) (h2 : ∀ i, σ2.dirty i = false → σ.dirty i = false ∧ σ1.dirty i = false) :
    Fr base W κ M σ a w κ' M' σ2 a' w' :=
  ⟨h.below, h.le, h.mem, h.size, h.defers, h.tmps, fun i hi hd => ⟨(h2 i hd).1, (h.ids i hi (h2 i hd).2).2⟩, fun i hi B hB => by
    have := h.bx i hi B (by rw [← h1]; exact hB)
    rw [h0] at this; exact this, h.oth⟩

/-- A round's frame behind those before it. -/
theorem fr_round {W V : List Nat} {L : Desc} {κ1 : Nat → Option Nat} {M1 : Mem} {a1 : Act} {w1 : World} (h0 : ∀ i, σ0.dirty i = false) (h : Fr base W κ M σ0 a w κ1 M1 (τ.back σ0 L) a1 w1) (hk : Fr base V κ1 M1 τ a1 w1 κ' M' σ' a' w') (hV : ∀ s, s ∈ V → s ∈ W) :
    Fr base W κ M σ0 a w κ' M' (σ'.soil L.gone) a' w' := by
  have hk2 : Fr base V κ1 M1 (τ.back σ0 L) a1 w1 κ' M' (σ'.soil L.gone) a' w' := by
    refine ⟨hk.below, hk.le, hk.mem, hk.size, hk.defers, hk.tmps, fun i hi hd => ?_, fun i hi B hB => hk.bx i hi B hB, hk.oth⟩
    simp only [St.soil, Bool.or_eq_false_iff] at hd
    refine ⟨?_, (hk.ids i hi hd.2).2⟩
    have := hd.1
    unfold Desc.gone at this
    simp only [St.back, h0 i, this]; rfl
  exact h.trans hk2 (fun s hs => hs) hV

theorem ownOf_congr (h1 : σ.env = τ.env) (h2 : σ.box = τ.box) (i : It) : ownOf σ i = ownOf τ i := by unfold ownOf; rw [h1, h2]
theorem grab1_congr (h1 : σ.env = τ.env) (h2 : σ.box = τ.box) (i : It) : grab1 σ i = grab1 τ i := by unfold grab1; rw [h1, h2]
theorem gots_congr (h1 : σ.env = τ.env) (h2 : σ.box = τ.box) : ∀ l, gots σ l = gots τ l
  | [] => rfl
  | i :: r => by simp only [gots, ownOf_congr h1 h2, gots_congr h1 h2 r]
theorem grab_congr (h1 : σ.env = τ.env) (h2 : σ.box = τ.box) : ∀ l, Lift.grab σ l = Lift.grab τ l
  | [] => rfl
  | [i] => grab1_congr h1 h2 i
  | i :: j :: r => by simp only [Lift.grab, grab1_congr h1 h2, grab_congr h1 h2 (j :: r)]
theorem grab0_eq (σ τ : St) (h1 : σ.env = τ.env) (h2 : σ.box = τ.box) (L : Desc) : L.grab0 σ = L.grab0 τ := by
  unfold Desc.grab0 gotsOk; rw [gots_congr h1 h2, grab_congr h1 h2]

theorem grab_some {L : Desc} {s : L.den} (h : L.grab σ = some s) : (∀ b, b ∈ L.kb → σ.dirty b = false) ∧ L.grab0 σ = some s := by
  unfold Desc.grab at h
  split at h
  · rename_i hk
    refine ⟨fun b hb => ?_, h⟩
    have := List.all_eq_true.1 hk b hb
    simpa using this
  · cases h

theorem loopM_some {S R : Type} {f : S → Option (S ⊕ R)} {s : S} {r : R} (h : loopM f s = some r) : ∃ n, loopN f n s = some r := by
  unfold loopM at h
  split at h
  · rename_i hx
    simp only [Option.some.injEq] at h
    subst h
    exact ⟨_, Classical.choose_spec (Classical.choose_spec hx)⟩
  · cases h

/-- What holds at the head of a loop. -/
structure Head (P : Program) (base : Nat) (L : Desc) (σ : St) (ws : List Nat) (κ : Nat → Option Nat) (M : Mem) (a : Act) (w : World) (s : L.den) (κ1 : Nat → Option Nat) (M1 : Mem) (a1 : Act) (w1 : World) : Prop where
  rel : Rel P base κ1 M1 (L.put σ ws s) a1 w1
  fr : Fr base ws κ M { σ with dirty := fun _ => false } a w κ1 M1 ((L.put σ ws s).back { σ with dirty := fun _ => false } L) a1 w1

theorem head_start (hR : Rel P base κ M σ a w) {L : Desc} {ws : List Nat} (hok : L.ok σ ws = true) {s : L.den} (hg : L.grab0 σ = some s) : ∃ κ1, Head P base L σ ws κ M a w s κ1 M a w := by
  have hg' : L.grab0 { σ with dirty := fun _ => false } = some s := by rw [← hg]; exact grab0_eq { σ with dirty := fun _ => false } σ rfl rfl L
  obtain ⟨κ1, h1, h2⟩ := join_rel (σ0 := { σ with dirty := fun _ => false }) hR (okD hok) (rel_dirt hR (τ := { σ with dirty := fun _ => false }) rfl rfl rfl) rfl (Fr.refl (W := ws)) (fun _ _ => rfl) hg'
  exact ⟨κ1, h1, h2⟩

theorem head_next (hR : Rel P base κ M σ a w) {L : Desc} {ws : List Nat} (hok : L.ok σ ws = true) {s s' : L.den} {κ1 : Nat → Option Nat} {M1 : Mem} {a1 : Act} {w1 : World}
    (hH : Head P base L σ ws κ M a w s κ1 M1 a1 w1) (hR' : Rel P base κ' M' σ' a' w') (hF : Fr base ws κ1 M1 (L.put σ ws s) a1 w1 κ' M' σ' a' w') (hg : L.grab σ' = some s') :
    ∃ κ2, Head P base L σ ws κ M a w s' κ2 M' a' w' := by
  obtain ⟨hd, hg0⟩ := grab_some hg
  have hF2 := fr_round (fun _ => rfl) hH.fr hF (fun _ h => h)
  have hg' : L.grab0 (σ'.soil L.gone) = some s' := by rw [← hg0]; exact grab0_eq (σ'.soil L.gone) σ' rfl rfl L
  obtain ⟨κ2, h1, h2⟩ := join_rel (σ0 := { σ with dirty := fun _ => false }) hR (okD hok) (rel_dirt hR' (τ := σ'.soil L.gone) rfl rfl rfl) rfl hF2 (fun b hb => by
    simp only [St.soil, Desc.gone, keeps_iff.2 hb, hd b hb]; rfl) hg'
  exact ⟨κ2, h1, h2⟩

/-- Out of a loop. -/
theorem head_exit (hR : Rel P base κ M σ a w) {L B : Desc} {ws : List Nat} (hok : B.ok σ ws = true) {s : L.den} {b : B.den} {κ1 : Nat → Option Nat} {M1 : Mem} {a1 : Act} {w1 : World}
    (hH : Head P base L σ ws κ M a w s κ1 M1 a1 w1) (hR' : Rel P base κ' M' σ' a' w') (hF : Fr base ws κ1 M1 (L.put σ ws s) a1 w1 κ' M' σ' a' w') (hg : B.grab (σ'.soil L.gone) = some b) :
    ∃ κ2, Rel P base κ2 M' ((B.put σ ws b).back σ B) a' w' ∧ Fr base ws κ M σ a w κ2 M' ((B.put σ ws b).back σ B) a' w' := by
  obtain ⟨hd, hg0⟩ := grab_some hg
  have hF2 := fr_round (fun _ => rfl) hH.fr hF (fun _ h => h)
  obtain ⟨κ2, h1, h2⟩ := join_rel (σ0 := { σ with dirty := fun _ => false }) hR (okD hok) (rel_dirt hR' (τ := σ'.soil L.gone) rfl rfl rfl) rfl hF2 hd hg0
  refine ⟨κ2, rel_dirt h1 rfl rfl rfl, fr_dirt h2 rfl rfl fun i hi => ?_⟩
  simp only [St.back, Bool.or_eq_false_iff] at hi ⊢
  exact ⟨hi.1, (by trivial), hi.2⟩

theorem head_out {L : Desc} {ws : List Nat} {s : L.den} {κ1 : Nat → Option Nat} {M1 : Mem} {a1 : Act} {w1 : World}
    (hH : Head P base L σ ws κ M a w s κ1 M1 a1 w1) (hR' : Rel P base κ' M' σ' a' w') (hF : Fr base ws κ1 M1 (L.put σ ws s) a1 w1 κ' M' σ' a' w') :
    Rel P base κ' M' (σ'.soil fun b => σ.dirty b || L.gone b) a' w' ∧ Fr base ws κ M σ a w κ' M' (σ'.soil fun b => σ.dirty b || L.gone b) a' w' := by
  have hF2 := fr_round (fun _ => rfl) hH.fr hF (fun _ h => h)
  refine ⟨rel_dirt hR' rfl rfl rfl, fr_dirt hF2 rfl rfl fun i hi => ?_⟩
  simp only [St.soil, Bool.or_eq_false_iff] at hi ⊢
  exact ⟨hi.1.1, hi.1.2, hi.2⟩

/-- One round after the other. -/
theorem rounds {L : Desc} {ws : List Nat} {c : Code} {F : Fence} {n : Nat} {Q : Exit → Act → World → Prop} {R : Type} {f : L.den → Option (L.den ⊕ R)} {r : R}
    (hbody : ∀ s x κ1 M1 a1 w1, Head P base L σ ws κ M a w s κ1 M1 a1 w1 → f s = some x → ∀ (K : Act → World → Prop),
      (∀ s' κ2 M2 a2 w2, x = .inl s' → Head P base L σ ws κ M a w s' κ2 M2 a2 w2 → K a2 w2) → (∀ r', x = .inr r' → r' = r) → c.wpIn F n P (Exit.then K Q) a1 w1) :
    ∀ m s κ1 M1 a1 w1, loopN f m s = some r → Head P base L σ ws κ M a w s κ1 M1 a1 w1 → Code.roundsIn F n P c Q m a1 w1
  | 0, _, _, _, _, _, h, _ => by simp [loopN] at h
  | m + 1, s, κ1, M1, a1, w1, h, hH => by
    simp only [loopN] at h
    rw [roundsIn_succ]
    split at h
    · rename_i s' hf
      refine hbody s _ κ1 M1 a1 w1 hH hf _ (fun s2 κ2 M2 a2 w2 he hH2 => ?_) (fun r' he => by cases he)
      cases he
      exact rounds hbody m s' κ2 M2 a2 w2 h hH2
    · rename_i r' hf
      simp only [Option.some.injEq] at h
      subst h
      exact hbody s _ κ1 M1 a1 w1 hH hf _ (fun s2 κ2 M2 a2 w2 he hH2 => by cases he) (fun r'' he => by cases he; rfl)
    · cases h

/-- What the evaluator computes of code, the code does. -/
theorem code_sound (hm : P.follows .mixedOrders = true) (hC : COk P Γ) {F : Fence} (hF : Open F) {nn : Nat} : ∀ (c : Code) {n : Ann} {A : Type} {K : Ex → St → Option A} {r : A} {κ : Nat → Option Nat} {M : Mem} {σ : St} {a : Act} {w : World} {Q : Exit → Act → World → Prop},
    codeK Γ c n σ K = some r → okB a.tmps.size c = true → Rel P base κ M σ a w →
    (∀ e κ' M' σ' a' w', Rel P base κ' M' σ' a' w' → Fr base (writes c) κ M σ a w κ' M' σ' a' w' → K e σ' = some r → Q (exOf e) a' w') → c.wpIn F nn P Q a w
  | .skip, n, A, K, r, κ, M, σ, a, w, Q, h, _, hR, hQ => by
    simp only [codeK] at h
    exact wpIn_skip (hQ .normal κ M σ a w hR Fr.refl h)
  | .exit id, n, A, K, r, κ, M, σ, a, w, Q, h, _, hR, hQ => by
    simp only [codeK] at h
    exact wpIn_exit (hQ (.exit id) κ M σ a w hR Fr.refl h)
  | .ret, n, A, K, r, κ, M, σ, a, w, Q, h, _, hR, hQ => by
    simp only [codeK] at h
    exact wpIn_ret (hQ .ret κ M σ a w hR Fr.refl h)
  | .region id ops d, n, A, K, r, κ, M, σ, a, w, Q, h, hb, hR, hQ => by
    simp only [codeK] at h
    split at h
    · rename_i σ1 h1
      obtain ⟨M1, hR1, hF1⟩ := rel_thaw hR h1
      simp only [okB] at hb
      refine region_sound hm hC h (fun τ lg hk hd => ?_) hb hR1 hF fun κ' M' τ lg a' w' hR' hF' hk => ?_
      · subst hd
        simp only [Bool.true_and] at hk
        split at hk
        · cases hk
        · rename_i ho; simpa using ho
      · split at hk
        · cases hk
        · exact hQ .normal κ' M' τ a' w' hR' (hF1.trans hF' (fun s hs => by cases hs) fun s hs => hs) hk
    · cases h
  | .seq x y, n, A, K, r, κ, M, σ, a, w, Q, h, hb, hR, hQ => by
    simp only [codeK] at h
    simp only [okB, Bool.and_eq_true] at hb
    refine wpIn_seq (code_sound hm hC hF x h hb.1 hR fun e κ' M' σ' a' w' hR' hF' hk => ?_)
    have hl : Fr base (writes (.seq x y)) κ M σ a w κ' M' σ' a' w' := hF'.mono fun s hs => List.mem_append_left _ hs
    cases e with
    | normal =>
      refine code_sound hm hC hF y hk (by rw [hF'.size]; exact hb.2) hR' fun e κ2 M2 σ2 a2 w2 hR2 hF2 hk2 => ?_
      exact hQ e κ2 M2 σ2 a2 w2 hR2 (hF'.trans hF2 (fun s hs => List.mem_append_left _ hs) fun s hs => List.mem_append_right _ hs) hk2
    | exit i => exact hQ (.exit i) κ' M' σ' a' w' hR' hl hk
    | ret => exact hQ .ret κ' M' σ' a' w' hR' hl hk
  | .block id x, n, A, K, r, κ, M, σ, a, w, Q, h, hb, hR, hQ => by
    simp only [codeK] at h
    simp only [okB] at hb
    refine wpIn_block (code_sound hm hC hF x h hb hR fun e κ' M' σ' a' w' hR' hF' hk => ?_)
    cases e with
    | normal => exact hQ .normal κ' M' σ' a' w' hR' hF' hk
    | ret => exact hQ .ret κ' M' σ' a' w' hR' hF' hk
    | exit i =>
      simp only at hk
      simp only [exOf, Exit.inBlock]
      split at hk
      · rename_i hi
        rw [if_pos hi]
        exact hQ .normal κ' M' σ' a' w' hR' hF' hk
      · rename_i hi
        rw [if_neg hi]
        exact hQ (.exit i) κ' M' σ' a' w' hR' hF' hk
  | .cond cnd x y, n, A, K, r, κ, M, σ, a, w, Q, h, hb, hR, hQ => by
    simp only [codeK] at h
    simp only [okB, Bool.and_eq_true] at hb
    have hl : ∀ {V}, (V = writes x ∨ V = writes y) → ∀ s, s ∈ V → s ∈ writes (.cond cnd x y) := fun hV s hs => by
      rcases hV with rfl | rfl
      · exact List.mem_append_left _ hs
      · exact List.mem_append_right _ hs
    have hR0 : Rel P base κ M { σ with dirty := fun _ => false } a w := rel_dirt hR rfl rfl rfl
    split at h
    · cases h
    · rename_i g hg
      have plain : ∀ n', (bif g then codeK Γ x (Ann.l n') σ K else codeK Γ y (Ann.r n') σ K) = some r → (Code.cond cnd x y).wpIn F nn P Q a w := fun n' h => by
        refine wpIn_cond_split (bool_rel hR hg) (fun ht => ?_) (fun ht => ?_)
        · subst ht
          exact code_sound hm hC hF x h hb.1 hR fun e κ' M' σ' a' w' hR' hF' hk => hQ e κ' M' σ' a' w' hR' (hF'.mono (hl (.inl rfl))) hk
        · subst ht
          exact code_sound hm hC hF y h hb.2 hR fun e κ' M' σ' a' w' hR' hF' hk => hQ e κ' M' σ' a' w' hR' (hF'.mono (hl (.inr rfl))) hk
      have joined : ∀ (L : Desc) (s : L.den) (V : List Nat) κ' M' σ' a' w', L.ok σ (writes x ++ writes y) = true → (V = writes x ∨ V = writes y) → Rel P base κ' M' σ' a' w' → Fr base V κ M { σ with dirty := fun _ => false } a w κ' M' σ' a' w' →
          L.grab σ' = some s → K .normal ((L.put σ (writes x ++ writes y) s).back σ L) = some r → Q .normal a' w' := fun L s V κ' M' σ' a' w' hok hV hR' hF' hgr hk => by
        obtain ⟨hd, hg0⟩ := grab_some hgr
        obtain ⟨κ2, h1, h2⟩ := join_rel (σ0 := { σ with dirty := fun _ => false }) hR (okD hok) hR' rfl (hF'.mono (hl hV)) hd hg0
        refine hQ .normal κ2 M' ((L.put σ (writes x ++ writes y) s).back σ L) a' w' (rel_dirt h1 rfl rfl rfl) (fr_dirt h2 rfl rfl fun i hi => ?_) hk
        simp only [St.back, Bool.or_eq_false_iff] at hi ⊢
        exact ⟨hi.1, (by trivial), hi.2⟩
      have out : ∀ e (V : List Nat) κ' M' σ' a' w', (V = writes x ∨ V = writes y) → Rel P base κ' M' σ' a' w' → Fr base V κ M { σ with dirty := fun _ => false } a w κ' M' σ' a' w' → K e (σ'.soil σ.dirty) = some r → Q (exOf e) a' w' := fun e V κ' M' σ' a' w' hV hR' hF' hk => by
        refine hQ e κ' M' (σ'.soil σ.dirty) a' w' (rel_dirt hR' rfl rfl rfl) (fr_dirt (hF'.mono (hl hV)) rfl rfl fun i hi => ?_) hk
        simp only [St.soil, Bool.or_eq_false_iff] at hi
        exact hi
      cases n with
      | join L m m' =>
        simp only at h
        split at h
        · rename_i hok
          obtain ⟨s, hs, hk⟩ := Option.bind_eq_some_iff.1 h
          refine wpIn_cond_split (bool_rel hR hg) (fun ht => ?_) (fun ht => ?_)
          · subst ht
            refine code_sound hm hC hF x hs hb.1 hR0 fun e κ' M' σ' a' w' hR' hF' hk' => ?_
            cases e with
            | normal => exact joined L s _ κ' M' σ' a' w' hok (.inl rfl) hR' hF' hk' hk
            | exit i => cases hk'
            | ret => cases hk'
          · subst ht
            refine code_sound hm hC hF y hs hb.2 hR0 fun e κ' M' σ' a' w' hR' hF' hk' => ?_
            cases e with
            | normal => exact joined L s _ κ' M' σ' a' w' hok (.inr rfl) hR' hF' hk' hk
            | exit i => cases hk'
            | ret => cases hk'
        · cases h
      | joinD L m m' =>
        simp only at h
        split at h
        · rename_i hok
          obtain ⟨s, hs, hk⟩ := Option.bind_eq_some_iff.1 h
          have fin : ∀ e (V : List Nat) κ' M' σ' a' w', (V = writes x ∨ V = writes y) → Rel P base κ' M' σ' a' w' → Fr base V κ M { σ with dirty := fun _ => false } a w κ' M' σ' a' w' →
              (match e with | .normal => (L.grab σ').map .inl | e => (K e (σ'.soil σ.dirty)).map .inr) = some s → Q (exOf e) a' w' := fun e V κ' M' σ' a' w' hV hR' hF' hk' => by
            cases e with
            | normal =>
              simp only [Option.map_eq_some_iff] at hk'
              obtain ⟨s', h1, rfl⟩ := hk'
              exact joined L s' V κ' M' σ' a' w' hok hV hR' hF' h1 hk
            | exit i =>
              simp only [Option.map_eq_some_iff] at hk'
              obtain ⟨r', h1, rfl⟩ := hk'
              simp only [Option.some.injEq] at hk
              subst hk
              exact out _ V κ' M' σ' a' w' hV hR' hF' h1
            | ret =>
              simp only [Option.map_eq_some_iff] at hk'
              obtain ⟨r', h1, rfl⟩ := hk'
              simp only [Option.some.injEq] at hk
              subst hk
              exact out _ V κ' M' σ' a' w' hV hR' hF' h1
          refine wpIn_cond_split (bool_rel hR hg) (fun ht => ?_) (fun ht => ?_)
          · subst ht
            exact code_sound hm hC hF x hs hb.1 hR0 fun e κ' M' σ' a' w' hR' hF' hk' => fin e _ κ' M' σ' a' w' (.inl rfl) hR' hF' hk'
          · subst ht
            exact code_sound hm hC hF y hs hb.2 hR0 fun e κ' M' σ' a' w' hR' hF' hk' => fin e _ κ' M' σ' a' w' (.inr rfl) hR' hF' hk'
        · cases h
      | nil => exact plain .nil h
      | seq a' b' => exact plain (.seq a' b') h
      | cond a' b' => exact plain (.cond a' b') h
      | blk a' => exact plain (.blk a') h
      | loopB L B id a' => exact plain (.loopB L B id a') h
      | loopBD L B id a' => exact plain (.loopBD L B id a') h
      | loopD L a' => exact plain (.loopD L a') h
      | frz b' a' => exact plain (.frz b' a') h
  | .loop c, n, A, K, r, κ, M, σ, a, w, Q, h, hb, hR, hQ => by
    simp only [codeK] at h
    simp only [okB] at hb
    cases n with
    | loopB L B id m =>
      simp only at h
      split at h
      · rename_i hok
        simp only [Bool.and_eq_true] at hok
        split at h
        · cases h
        · rename_i s0 hs0
          obtain ⟨b, hl, hk⟩ := Option.bind_eq_some_iff.1 h
          obtain ⟨mm, hl⟩ := loopM_some hl
          obtain ⟨κ0, hH0⟩ := head_start hR hok.1 hs0
          refine wpIn_loop_rounds mm (rounds (L := L) (σ := σ) (κ := κ) (M := M) (a := a) (w := w) (ws := writes c) ?_ mm s0 κ0 M a w hl hH0)
          intro s x κ1 M1 a1 w1 hH hf K' hK1 hK2
          refine code_sound hm hC hF c hf (by rw [hH.fr.size]; exact hb) hH.rel fun e κ' M' σ' a' w' hR' hF' hk' => ?_
          cases e with
          | normal =>
            simp only [Option.map_eq_some_iff] at hk'
            obtain ⟨s', h1, rfl⟩ := hk'
            obtain ⟨κ2, hH2⟩ := head_next hR hok.1 hH hR' hF' h1
            exact hK1 s' κ2 M' a' w' rfl hH2
          | exit i =>
            simp only at hk'
            split at hk'
            · rename_i hi
              subst hi
              simp only [Option.map_eq_some_iff] at hk'
              obtain ⟨b', h1, rfl⟩ := hk'
              have := hK2 b' rfl
              subst this
              obtain ⟨κ2, hR2, hF2⟩ := head_exit hR hok.2 hH hR' hF' h1
              exact hQ (.exit i) κ2 M' _ a' w' hR2 hF2 hk
            · cases hk'
          | ret => cases hk'
      · cases h
    | loopBD L B id m =>
      simp only at h
      split at h
      · rename_i hok
        simp only [Bool.and_eq_true] at hok
        split at h
        · cases h
        · rename_i s0 hs0
          obtain ⟨b, hl, hk⟩ := Option.bind_eq_some_iff.1 h
          obtain ⟨mm, hl⟩ := loopM_some hl
          obtain ⟨κ0, hH0⟩ := head_start hR hok.1 hs0
          refine wpIn_loop_rounds mm (rounds (L := L) (σ := σ) (κ := κ) (M := M) (a := a) (w := w) (ws := writes c) ?_ mm s0 κ0 M a w hl hH0)
          intro s x κ1 M1 a1 w1 hH hf K' hK1 hK2
          refine code_sound hm hC hF c hf (by rw [hH.fr.size]; exact hb) hH.rel fun e κ' M' σ' a' w' hR' hF' hk' => ?_
          cases e with
          | normal =>
            simp only [Option.map_eq_some_iff] at hk'
            obtain ⟨s', h1, rfl⟩ := hk'
            obtain ⟨κ2, hH2⟩ := head_next hR hok.1 hH hR' hF' h1
            exact hK1 s' κ2 M' a' w' rfl hH2
          | exit i =>
            simp only at hk'
            split at hk'
            · rename_i hi
              subst hi
              simp only [Option.map_eq_some_iff] at hk'
              obtain ⟨b', h1, rfl⟩ := hk'
              have := hK2 _ rfl
              subst this
              obtain ⟨κ2, hR2, hF2⟩ := head_exit hR hok.2 hH hR' hF' h1
              exact hQ (.exit i) κ2 M' _ a' w' hR2 hF2 hk
            · simp only [Option.map_eq_some_iff] at hk'
              obtain ⟨r', h1, rfl⟩ := hk'
              have := hK2 _ rfl
              subst this
              simp only [Option.some.injEq] at hk
              subst hk
              obtain ⟨hR2, hF2⟩ := head_out hH hR' hF'
              exact hQ (.exit i) κ' M' _ a' w' hR2 hF2 h1
          | ret =>
            simp only [Option.map_eq_some_iff] at hk'
            obtain ⟨r', h1, rfl⟩ := hk'
            have := hK2 _ rfl
            subst this
            simp only [Option.some.injEq] at hk
            subst hk
            obtain ⟨hR2, hF2⟩ := head_out hH hR' hF'
            exact hQ .ret κ' M' _ a' w' hR2 hF2 h1
      · cases h
    | loopD L m =>
      simp only at h
      split at h
      · rename_i hok
        split at h
        · cases h
        · rename_i s0 hs0
          obtain ⟨mm, hl⟩ := loopM_some h
          obtain ⟨κ0, hH0⟩ := head_start hR hok hs0
          refine wpIn_loop_rounds mm (rounds (L := L) (σ := σ) (κ := κ) (M := M) (a := a) (w := w) (ws := writes c) ?_ mm s0 κ0 M a w hl hH0)
          intro s x κ1 M1 a1 w1 hH hf K' hK1 hK2
          refine code_sound hm hC hF c hf (by rw [hH.fr.size]; exact hb) hH.rel fun e κ' M' σ' a' w' hR' hF' hk' => ?_
          cases e with
          | normal =>
            simp only [Option.map_eq_some_iff] at hk'
            obtain ⟨s', h1, rfl⟩ := hk'
            obtain ⟨κ2, hH2⟩ := head_next hR hok hH hR' hF' h1
            exact hK1 s' κ2 M' a' w' rfl hH2
          | exit i =>
            simp only [Option.map_eq_some_iff] at hk'
            obtain ⟨r', h1, rfl⟩ := hk'
            have := hK2 _ rfl
            subst this
            obtain ⟨hR2, hF2⟩ := head_out hH hR' hF'
            exact hQ (.exit i) κ' M' _ a' w' hR2 hF2 h1
          | ret =>
            simp only [Option.map_eq_some_iff] at hk'
            obtain ⟨r', h1, rfl⟩ := hk'
            have := hK2 _ rfl
            subst this
            obtain ⟨hR2, hF2⟩ := head_out hH hR' hF'
            exact hQ .ret κ' M' _ a' w' hR2 hF2 h1
      · cases h
    | nil => cases h
    | seq _ _ => cases h
    | cond _ _ => cases h
    | join _ _ _ => cases h
    | joinD _ _ _ => cases h
    | blk _ => cases h
    | frz _ _ => cases h
  | .rangeFunc .., _, _, _, _, _, _, _, _, _, _, h, _, _, _ => by simp only [codeK] at h; cases h
  | .scope _, _, _, _, _, _, _, _, _, _, _, h, _, _, _ => by simp only [codeK] at h; cases h
  | .label _, _, _, _, _, _, _, _, _, _, _, h, _, _, _ => by simp only [codeK] at h; cases h
  | .goto _, _, _, _, _, _, _, _, _, _, _, h, _, _, _ => by simp only [codeK] at h; cases h
  | .refuse _, _, _, _, _, _, _, _, _, _, _, h, _, _, _ => by simp only [codeK] at h; cases h

end Go.Lift

namespace Go.Lift
open Go Go.RowKit
variable [Tab]
variable {P : Program} {Γ : Ctx} {base : Nat} {κ κ' κ2 : Nat → Option Nat} {M M' : Mem} {σ σ0 τ σ' τ' : St} {a a' : Act} {w w' : World}

theorem start_env : ∀ {ts : List Ty} {i : Nat} {x : Args ts} {vs : List Value} {s : Nat} {v : AVal}, relVs P M ts x vs → startEnv ts i x s = some v → ∃ j u, s = i + j ∧ vs[j]? = some u ∧ ∃ (t : Ty) (y : t.den), v = .data t y [] ∧ relV P t M y u
  | [], _, _, _, _, _, _, h => by cases h
  | [t], i, x, vs, s, v, ⟨u, h1, h2⟩, h => by
    subst h1
    simp only [startEnv] at h
    by_cases hs : s = i
    · subst hs
      simp only [upd_same, Option.some.injEq] at h
      exact ⟨0, u, rfl, rfl, t, x, h.symm, h2⟩
    · rw [upd_other _ _ _ _ hs] at h; cases h
  | t :: t' :: r, i, x, vs, s, v, ⟨u, rest, h1, h2, h3⟩, h => by
    subst h1
    simp only [startEnv] at h
    by_cases hs : s = i
    · subst hs
      simp only [upd_same, Option.some.injEq] at h
      exact ⟨0, u, rfl, rfl, t, x.1, h.symm, h2⟩
    · rw [upd_other _ _ _ _ hs] at h
      obtain ⟨j, u', e1, e2, e3⟩ := start_env h3 h
      exact ⟨j + 1, u', by omega, e2, e3⟩

theorem relVs_length : ∀ {ts : List Ty} {x : Args ts} {vs : List Value}, relVs P M ts x vs → vs.length = ts.length
  | [], _, _, h => by cases h; rfl
  | [t], x, vs, ⟨u, h1, h2⟩ => by subst h1; rfl
  | t :: t' :: r, x, vs, ⟨u, rest, h1, h2, h3⟩ => by subst h1; simp [relVs_length h3]

theorem rel_start {ts : List Ty} {x : Args ts} {vs : List Value} (hg : Good M w) (h : relVs P M ts x vs) (n : Nat) :
    Rel P w.heap.size (fun _ => none) M { env := startEnv ts 0 x, box := fun _ => none, tok := fun _ => false, dirty := fun _ => false } { tmps := vs.toArray ++ Array.replicate n undef, defers := [] } w := by
  refine ⟨fun s v hs => ?_, fun b B hB => (by cases hB), hg, fun i j g hi => (by cases hi), fun i g hi => (by cases hi), fun i B hB => (by cases hB), Nat.le_refl _⟩
  obtain ⟨j, u, e1, e2, t, y, rfl, e4⟩ := start_env h hs
  have hj : j < vs.length := (List.getElem?_eq_some_iff.1 e2).1
  have : (vs.toArray ++ Array.replicate n undef).getD s undef = u := by
    rw [Array.getD_eq_getD_getElem?, Array.getElem?_append]
    have : s = j := by omega
    subst this
    rw [if_pos (by simpa using hj)]
    simp [e2]
  rw [this]
  exact ⟨e4, OwnsC_nil⟩

/-- One result of the model's. -/
def readRes (tmps : Array Value) : ResultVar → Sem Value
  | .tmp t => pure (tmps.getD t undef)
  | .cell a t => do loadVar t (← asAddr (tmps.getD a undef))

theorem res_one (hC : COk P Γ) (hR : Rel P base κ M σ a w) {t : Ty} {r : ResultVar} {y : t.den} (h : resultOf Γ σ t r = some y) : ∃ v, (readRes a.tmps r).run P w = .ok v w ∧ relV P t M y v := by
  cases r with
  | tmp s =>
    simp only [resultOf] at h
    exact ⟨a.eval (.tmp s), by simp only [readRes, Sem.run_pure]; rfl, get_rel (x := .tmp s) hR h⟩
  | cell s T =>
    simp only [resultOf] at h
    split at h
    · rename_i hT
      split at h
      · rename_i b hb
        split at h
        · rename_i B hB
          split at h
          · cases h
          · rename_i hrw
            obtain ⟨B', g, off, h1, h2, h3, h4⟩ := hR.env s _ hb
            rw [hB] at h1; cases h1
            obtain ⟨g', cur, E, h5, h6, h7, h8, _⟩ := hR.bx b B hB
            rw [h2] at h5; cases h5
            obtain ⟨i, d, hi⟩ := fits_info (hC.ty T t hT)
            obtain ⟨e1, e2⟩ := castTy_some h
            have hget : getP B.t B.x [] t = some y := by unfold getP; exact h
            obtain ⟨r1, r2⟩ := relBx_get h7 h3 hget
            have hrun := run_loadVar hi r1 (w := w) (hasCells_blk h6 off t.size)
            refine ⟨_, ?_, relV_ofCells r1⟩
            simp only [readRes, h4, asAddr, Sem.run_bind, Sem.run_pure, Result.andThen_ok, hrun]
        · cases h
      · cases h
    · cases h

theorem res_all (hC : COk P Γ) (hR : Rel P base κ M σ a w) : ∀ {ts : List Ty} {rs : List ResultVar} {y : Args ts}, results Γ σ ts rs = some y → ∃ vs : List Value, (rs.mapM (readRes a.tmps)).run P w = .ok vs w ∧ relVs P M ts y vs
  | [], [], y, h => ⟨[], rfl, rfl⟩
  | [], _ :: _, y, h => by cases h
  | [t], [], y, h => by cases h
  | [t], [r], y, h => by
    obtain ⟨v, h1, h2⟩ := res_one hC hR (t := t) h
    exact ⟨[v], by simp only [List.mapM_cons, List.mapM_nil, Sem.run_bind, h1, Result.andThen_ok, Sem.run_pure], v, rfl, h2⟩
  | [t], r :: r' :: rs, y, h => by cases h
  | t :: u :: ts, [], y, h => by cases h
  | t :: u :: ts, r :: rs, y, h => by
    simp only [results] at h
    split at h
    · rename_i v v' h1 h2
      simp only [Option.some.injEq] at h
      subst h
      obtain ⟨x, a1, a2⟩ := res_one hC hR h1
      obtain ⟨xs, b1, b2⟩ := res_all hC hR h2
      exact ⟨x :: xs, by simp only [List.mapM_cons, Sem.run_bind, a1, b1, Result.andThen_ok, Sem.run_pure], x, xs, rfl, a2, b2⟩
    · cases h

theorem res_fun (hC : COk P Γ) (hR : Rel P base κ M σ a w) {fn : Func} {ts : List Ty} {y : Args ts} (h : results Γ σ ts fn.results.toList = some y) : ∃ v, (Go.results fn a.tmps).run P w = .ok v w ∧ relR P M ts y v := by
  obtain ⟨vs, h1, h2⟩ := res_all hC hR h
  have hfun : Go.results fn a.tmps = (do let vs ← fn.results.mapM (readRes a.tmps); pure (if h : vs.size = 1 then vs[0] else .tuple vs) : Sem Value) := by
    unfold Go.results
    congr 1
  have hl := relVs_length h2
  refine ⟨if h : vs.toArray.size = 1 then vs.toArray[0] else .tuple vs.toArray, ?_, ?_⟩
  · rw [hfun, Array.mapM_eq_mapM_toList]
    simp only [Sem.run_bind, Sem.run_map, h1, Result.andThen_ok, Sem.run_pure]
  · match ts, y, h2, hl with
    | [], _, h2, hl =>
      have hz : vs = [] := List.length_eq_zero_iff.1 hl
      subst hz
      exact ⟨#[], rfl, rfl⟩
    | [t], y, ⟨v, h3, h4⟩, hl =>
      subst h3
      exact h4
    | t :: u :: r, y, h2, hl =>
      rw [dif_neg (by simp at hl ⊢; omega)]
      exact ⟨_, rfl, h2⟩

/-- THE CONTRACT of a function whose body is evaluated. -/
theorem fun_sound (hm : P.follows .mixedOrders = true) (hC : COk P Γ) {f : FuncId} {fn : Func} {n : Ann} {s : Sig} (hf : P.funcs[f]? = some fn) (hs : s.f = f)
    (hrun : ∀ x, funK Γ fn n s.ats s.rts x = s.run x) : FC P s := by
  intro x r hr M w vs hg hvs
  rw [← hrun] at hr
  unfold funK at hr
  split at hr
  · rename_i c hc
    split at hr
    · rename_i hok
      simp only [Bool.and_eq_true, Nat.ble_eq] at hok
      have hlen := relVs_length hvs
      subst hs
      unfold CallsTo
      have hsize : ({ tmps := vs.toArray ++ Array.replicate (fn.ntmps - vs.toArray.size) undef, defers := [] } : Act).tmps.size = fn.ntmps := by
        simp only [Array.size_append, List.size_toArray, Array.size_replicate]
        omega
      refine CallsIn.calls (F := Fence.wide) (n := 0) (callsIn_of_wp hf hc True.intro ?_) room_wide
      refine code_sound hm hC open_wide c hr (by rw [hsize]; exact hok.1) (rel_start hg hvs _) fun e κ' M' σ' a' w' hR' hF' hk => ?_
      have fin : results Γ σ' s.rts fn.results.toList = some r → a'.defers = [] ∧ ∃ v, (Go.results fn a'.tmps).run P w' = .ok v w' ∧ ∃ M'' v', Ending.returned v = .returned v' ∧ relR P M'' s.rts r v' ∧ Good M'' w' ∧ Grow M w M'' w' := fun hk => by
        obtain ⟨v, h1, h2⟩ := res_fun hC hR' hk
        exact ⟨hF'.defers, v, h1, M', v, rfl, h2, hR'.good, hF'.below, hF'.mem⟩
      cases e with
      | normal => exact fin hk
      | ret => exact fin hk
      | exit i => cases hk
    · cases hr
  · cases hr

end Go.Lift
