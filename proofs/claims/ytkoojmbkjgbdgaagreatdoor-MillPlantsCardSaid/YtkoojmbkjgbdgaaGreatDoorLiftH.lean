/-
  Regions in whatever order; joins.
-/
import Derived.Test.YtkoojmbkjgbdgaaGreatDoorLiftG
set_option linter.unusedSectionVars false
set_option linter.unusedVariables false
set_option linter.unusedSimpArgs false
namespace Go.Lift
open Go Go.RowKit
variable [Tab] [Mf]
variable {P : Program} {Γ : Ctx} {σ τ σ' τ' : St} {all : List Oper}
def Opens (all : List Oper) (g : Option (Nat × Bool)) (i : Nat) (σ : St) : Prop :=
  match g with
  | none => True
  | some (j, w) => j < i ∧ ∃ d o, slotAt all j = some d ∧ σ.env d = some (.data .bool w o)
theorem Chain.log {l1 l2 : Log} : ∀ {l : List Nat} {σ τ : St}, (∀ i f, i ∈ l → (i, f) ∈ l2 → (i, f) ∈ l1) → Chain Γ all l1 l σ τ → Chain Γ all l2 l σ τ
  | [], _, _, _, h => h
  | i :: l, _, _, hl, ⟨o, σ2, h1, h2, h3, h4⟩ =>
    ⟨o, σ2, h1, fun f hf => h2 f (hl i f (by simp) hf), h3, h4.log fun j f hj => hl j f (List.mem_cons_of_mem _ hj)⟩
theorem wanted_open {o : Oper} {i : Nat} (h : Opens all o.guard i σ) : wantedA all o σ = some true := by
  unfold Opens at h
  unfold wantedA
  cases hg : o.guard with
  | none => rfl
  | some jw =>
    obtain ⟨j, w⟩ := jw
    rw [hg] at h
    obtain ⟨_, d, ow, hd, he⟩ := h
    simp only [hd, he, beq_self_eq_true]
theorem stepG_open {o : Oper} {i : Nat} (h : Opens all o.guard i σ) : stepG Γ all o σ = stepO Γ o σ := by
  unfold stepG; rw [wanted_open h]
theorem forget1_env (o : Oper) (s : Nat) (h : o.dst ≠ some s) : (σ.forget1 o).env s = σ.env s := by
  unfold St.forget1
  split
  · rename_i d hd
    simp only
    exact unset_env_other _ _ _ (by rw [← hd]; exact h)
  · exact unset_env_other _ _ _ h
theorem forget1_env_none (o : Oper) (s : Nat) (h : o.dst = some s) : (σ.forget1 o).env s = none := by
  unfold St.forget1
  split
  · rename_i d hd
    rw [h] at hd; cases hd
    exact upd_same _ _ _
  · rw [h]; exact upd_same _ _ _
theorem forget1_box (o : Oper) : (σ.forget1 o).box = σ.box := by
  unfold St.forget1
  split
  · rfl
  · exact unset_box _ _
theorem forget1_dirty (o : Oper) : (σ.forget1 o).dirty = σ.dirty := by
  unfold St.forget1
  split
  · rfl
  · exact unset_dirty _ _
theorem forget1_tok (o : Oper) (k : Nat) : (σ.forget1 o).tok k = true ↔ σ.tok k = true ∨ (o.dst = some k ∧ ∃ T n ps, o.op = .buildSlice T n ps) := by
  unfold St.forget1
  split
  · rename_i T n ps d hop hd
    by_cases hk : k = d
    · subst hk
      simp only [upd_same, true_iff]
      exact .inr ⟨hd, T, n, ps, hop⟩
    · simp only [upd_other _ _ _ _ hk]
      constructor
      · exact .inl
      · rintro (h | ⟨h, _⟩)
        · exact h
        · rw [hd] at h; cases h; exact absurd rfl hk
  · rename_i hx
    rw [unset_tok]
    constructor
    · exact .inl
    · rintro (h | ⟨h, T, n, ps, hop⟩)
      · exact h
      · exact absurd h (hx T n ps k hop)
theorem forget_env : ∀ {l : List Oper} {σ : St} {s : Nat} {v : AVal}, (σ.forget l).env s = some v → σ.env s = some v ∧ ∀ o ∈ l, o.dst ≠ some s
  | [], _, _, _, h => ⟨h, fun _ hm => by simp at hm⟩
  | o :: l, σ, s, v, h => by
    have h' : ((σ.forget1 o).forget l).env s = some v := h
    obtain ⟨h1, h2⟩ := forget_env h'
    have ho : o.dst ≠ some s := fun e => by rw [forget1_env_none o s e] at h1; cases h1
    rw [forget1_env o s ho] at h1
    refine ⟨h1, fun x hx => ?_⟩
    rcases List.mem_cons.1 hx with rfl | hx
    · exact ho
    · exact h2 x hx
theorem forget_box : ∀ {l : List Oper} {σ : St}, (σ.forget l).box = σ.box
  | [], _ => rfl
  | o :: l, σ => (forget_box (l := l) (σ := σ.forget1 o)).trans (forget1_box o)
theorem forget_dirty : ∀ {l : List Oper} {σ : St}, (σ.forget l).dirty = σ.dirty
  | [], _ => rfl
  | o :: l, σ => (forget_dirty (l := l) (σ := σ.forget1 o)).trans (forget1_dirty o)
theorem forget_tok : ∀ {l : List Oper} {σ : St} {k : Nat}, (σ.forget l).tok k = true ↔ σ.tok k = true ∨ ∃ o ∈ l, o.dst = some k ∧ ∃ T n ps, o.op = .buildSlice T n ps
  | [], _, _ => ⟨.inl, fun h => h.elim id fun ⟨_, h, _⟩ => by simp at h⟩
  | o :: l, σ, k => by
    have ih := forget_tok (l := l) (σ := σ.forget1 o) (k := k)
    have e : (σ.forget (o :: l)).tok k = ((σ.forget1 o).forget l).tok k := rfl
    rw [e, ih, forget1_tok]
    constructor
    · rintro ((h | h) | ⟨o', hm, h⟩)
      · exact .inl h
      · exact .inr ⟨o, List.mem_cons_self, h⟩
      · exact .inr ⟨o', List.mem_cons_of_mem _ hm, h⟩
    · rintro (h | ⟨o', hm, h⟩)
      · exact .inl (.inl h)
      · rcases List.mem_cons.1 hm with rfl | hm
        · exact .inl (.inr h)
        · exact .inr ⟨o', hm, h⟩
theorem skip_chain {lg : Log} {j : Nat} {w : Bool} : ∀ {l : List Oper} {i p : Nat} {σ : St}, innerOk (some (j, w)) i p l = true → Seg all p l →
    (∃ d o, slotAt all j = some d ∧ σ.env d = some (.data .bool (!w) o) ∧ ∀ q, p ≤ q → q < p + l.length → slotAt all q ≠ some d) →
    (∀ q, i ≤ q → q < p → ∃ d, slotAt all q = some d ∧ σ.env d = some .undef ∧ ∀ q', p ≤ q' → q' < p + l.length → slotAt all q' ≠ some d) →
    (dstsOf all).Nodup → (∀ q f, p ≤ q → q < p + l.length → (q, f) ∉ lg) →
    ∃ σ', Chain Γ all lg (List.range' p l.length) σ σ'
  | [], _, _, σ, _, _, _, _, _, _ => ⟨σ, rfl⟩
  | o :: l, i, p, σ, hin, hseg, hj, hq, hnd, hlg => by
    simp only [innerOk, Bool.and_eq_true, Bool.or_eq_true, decide_eq_true_eq] at hin
    obtain ⟨⟨hg, hsome⟩, hin⟩ := hin
    have hat := hseg.head
    obtain ⟨d0, hd0⟩ := Option.isSome_iff_exists.1 hsome
    have hw : wantedA all o σ = some false := by
      unfold wantedA
      rcases hg with hg | hg
      · obtain ⟨d, ow, hd, he, _⟩ := hj
        rw [hg]; simp only [hd, he]
        cases w <;> rfl
      · cases hgd : o.guard with
        | none => rw [hgd] at hg; cases hg
        | some jw =>
          obtain ⟨j', w'⟩ := jw
          rw [hgd] at hg
          simp only [Bool.and_eq_true, Nat.ble_eq, Nat.blt_eq] at hg
          obtain ⟨d, hd, he, _⟩ := hq j' hg.1 hg.2
          simp only [hd, he]
    have hl : (o :: l).length = l.length + 1 := rfl
    have hslot : slotAt all p = some d0 := by rw [slotAt_of hat]; exact hd0
    have hkeep : ∀ d v, σ.env d = some v → slotAt all p ≠ some d → (σ.set o.dst .undef).env d = some v := fun d v he hne => by
      rw [set_env_other _ _ _ _ (by rw [← slotAt_of hat]; exact hne)]; exact he
    obtain ⟨σ', hc⟩ := skip_chain (lg := lg) (j := j) (w := w) (l := l) (i := i) (p := p + 1) (σ := σ.set o.dst .undef) hin hseg.tail
      (by
        obtain ⟨d, ow, hd, he, hne⟩ := hj
        exact ⟨d, ow, hd, hkeep d _ he (hne p (by omega) (by omega)), fun q h1 h2 => hne q (by omega) (by omega)⟩)
      (by
        intro q h1 h2
        by_cases hqp : q = p
        · subst hqp
          refine ⟨d0, hslot, by rw [hd0]; exact upd_same _ _ _, fun q' h3 h4 he => ?_⟩
          obtain ⟨o', ho', hd'⟩ := slotAt_some he
          have := dst_ne hnd hat ho' hd0 hd'
          omega
        · obtain ⟨d, hd, he, hne⟩ := hq q h1 (by omega)
          exact ⟨d, hd, hkeep d _ he (hne p (by omega) (by omega)), fun q' h3 h4 => hne q' (by omega) (by omega)⟩)
      hnd (fun q f h1 h2 => hlg q f (by omega) (by omega))
    refine ⟨σ', ?_⟩
    rw [hl, List.range'_succ]
    exact ⟨o, _, hat, fun f hf => absurd hf (hlg p f (by omega) (by omega)), by unfold stepG; rw [hw], hc⟩
theorem seg_mem {i q : Nat} {l : List Oper} {o : Oper} (hseg : Seg all i l) (h1 : i ≤ q) (h2 : q < i + l.length) (ho : all[q]? = some o) : o ∈ l := by
  have hlt : q - i < l.length := by omega
  have := hseg (q - i) l[q - i] (List.getElem?_eq_getElem hlt)
  rw [show i + (q - i) = q by omega, ho] at this
  cases this
  exact List.getElem_mem hlt
theorem group_done (hown : Γ.gown = false) {lg : Log} {grp : List Oper} {i : Nat} {σs σs1 : St} (hw : Wk σ σs) (hseg : Seg all i grp) (hgo : ∀ o ∈ grp, guardOp o = true) (hfo : σ.forgetOk grp = true)
    (hc : Chain Γ all lg (List.range' i grp.length) σs σs1) :
    Wk (σ.forget grp) σs1 ∧ ∀ s, (∀ q, i ≤ q → q < i + grp.length → slotAt all q ≠ some s) → σs1.env s = σs.env s := by
  obtain ⟨e1, e2, e3, e4⟩ := chain_quiet hown (fun q o hq ho => by
    rw [List.mem_range'_1] at hq
    exact hgo o (seg_mem hseg hq.1 hq.2 ho)) hc
  have e1' : ∀ s, (∀ q, i ≤ q → q < i + grp.length → slotAt all q ≠ some s) → σs1.env s = σs.env s := fun s hs => e1 s fun q hq => by
    rw [List.mem_range'_1] at hq; exact hs q hq.1 hq.2
  refine ⟨⟨fun s v hv => ?_, by rw [e2, forget_box]; exact hw.box, by rw [e3, forget_dirty]; exact hw.dirty, fun k hk => ?_, fun b B hB => ?_⟩, e1'⟩
  · obtain ⟨h1, h2⟩ := forget_env hv
    rw [e1' s fun q hq1 hq2 he => ?_]
    · exact hw.env s v h1
    · obtain ⟨o, ho, hd⟩ := slotAt_some he
      exact h2 o (seg_mem hseg hq1 hq2 ho) hd
  · rw [forget_tok]
    rcases e4 k hk with h | ⟨q, o, hq, ho, hd, hb⟩
    · exact .inl (hw.tok k h)
    · rw [List.mem_range'_1] at hq
      exact .inr ⟨o, seg_mem hseg hq.1 hq.2 ho, hd, hb⟩
  · rw [forget_box] at hB
    cases ht : (σ.forget grp).tok b with
    | false => rfl
    | true =>
      rcases forget_tok.1 ht with h | ⟨o, ho, hd, T, n, ps, hop⟩
      · rw [hw.dis b B hB] at h; cases h
      · unfold St.forgetOk at hfo
        have := List.all_eq_true.1 hfo o ho
        simp only [hop, hd, hB, Option.isNone_some] at this
        cases this
theorem castTy_self (t : Ty) (x : t.den) : castTy t t x = some x := by
  unfold castTy; simp
theorem bool_tmp {s : Nat} {b : Bool} (h : σ.bool (.tmp s) = some b) : ∃ o, σ.env s = some (.data .bool b o) := by
  unfold St.bool AVal.get at h
  change (match σ.env s with | some (.data t x _) => castTy t .bool x | _ => none) = some b at h
  split at h
  · rename_i t x o he
    obtain ⟨ht, hx⟩ := castTy_some h
    subst ht
    have hx : b = x := hx
    subst hx
    exact ⟨o, he⟩
  · cases h
theorem bool_of {s : Nat} {b : Bool} {o : Own} (h : σ.env s = some (.data .bool b o)) : σ.bool (.tmp s) = some b := by
  unfold St.bool AVal.get
  change (match σ.env s with | some (.data t x _) => castTy t .bool x | _ => none) = some b
  rw [h]; exact castTy_self _ _
theorem pick_step {pk : Oper} {c a b : Operand} {gv v : Bool} {i : Nat} (hop : pk.op = .pick c a b) (ho : Opens all pk.guard i σ) (hc : σ.bool c = some gv)
    (hv : (if gv then σ.bool a else σ.bool b) = some v) : stepG Γ all pk σ = some (σ.set pk.dst (.data .bool v [])) := by
  rw [stepG_open ho]
  unfold stepO
  simp only [eff, hop, hc, hv]
  rfl
theorem isConstB_bool {x : Operand} {c : Bool} (h : isConstB x c = true) : σ.bool x = some c := by
  unfold isConstB at h
  split at h
  · rename_i b
    have : b = c := by simpa using h
    subst this
    have h2 : σ.opd (.const (.bool b)) = some (.data .bool b []) := rfl
    unfold St.bool; rw [h2]; exact castTy_self _ _
  · cases h
theorem range'_glue (i m r : Nat) : List.range' i (m + (r + 1)) = List.range' i m ++ ((i + m) :: List.range' (i + m + 1) r) := by
  rw [← List.range'_append_1, List.range'_succ]
theorem opens_quiet {g : Option (Nat × Bool)} {i : Nat} (h : Opens all g i σ) (he : ∀ j d, j < i → slotAt all j = some d → σ'.env d = σ.env d) {i' : Nat} (hi : i ≤ i') : Opens all g i' σ' := by
  cases g with
  | none => exact True.intro
  | some jw =>
    obtain ⟨hj, d, o, hd, hv⟩ := h
    exact ⟨Nat.lt_of_lt_of_le hj hi, d, o, hd, by rw [he _ _ hj hd]; exact hv⟩
theorem grp_facts {g : Option (Nat × Bool)} {i : Nat} {o pk : Oper} {grp : List Oper} {w : Bool} {j : Nat} {w0 : Bool} {c x : Operand} (hg : o.guard = some (j, w0)) (h : grpOk all g i o pk grp w = some (c, x)) :
    ∃ a b s, pk.op = .pick c a b ∧ x = (if w then a else b) ∧ c = .tmp s ∧ slotAt all j = some s ∧ j < i ∧ (∀ o ∈ grp, guardOp o = true) ∧ isConstB (if w then b else a) (!w) = true ∧ pk.guard = g ∧ innerOk o.guard i i grp = true := by
  unfold grpOk at h
  split at h
  · rename_i c' a b j' w' hop hgd
    rw [hg] at hgd; cases hgd
    rw [Option.ite_none_right_eq_some] at h
    · obtain ⟨hcond, h⟩ := h
      simp only [Option.some.injEq, Prod.mk.injEq] at h
      obtain ⟨rfl, rfl⟩ := h
      simp only [Bool.and_eq_true, Nat.blt_eq, decide_eq_true_eq, List.all_eq_true] at hcond
      obtain ⟨⟨⟨⟨⟨h1, h2⟩, h3⟩, h4⟩, h5⟩, h6⟩ := hcond
      cases hc : c' with
      | tmp s =>
        rw [hc] at h5
        exact ⟨a, b, s, by rw [hop, hc], rfl, rfl, by simpa using h5, h1, h2, h3, h4, h6⟩
      | _ => rw [hc] at h5; simp at h5
  · cases h
theorem pickv_run {gv w e : Bool} {a b x : Operand} (hgw : gv = w) (hx : x = (if w then a else b)) (hv : σ.bool x = some e) :
    (if gv then σ.bool a else σ.bool b) = some (if w then gv && e else gv || e) := by
  subst hgw hx
  cases gv <;> simpa using hv
theorem pickv_skip {gv w e : Bool} {a b : Operand} (hgw : gv ≠ w) (hv : σ.bool (if w then b else a) = some (!w)) :
    (if gv then σ.bool a else σ.bool b) = some (if w then gv && e else gv || e) := by
  cases gv <;> cases w <;> first | exact absurd rfl hgw | simpa using hv
theorem pickv_run' {gv w v : Bool} {a b x : Operand} (hgw : gv = w) (hx : x = (if w then a else b)) (hv : σ.bool x = some v) :
    (if gv then σ.bool a else σ.bool b) = some v := by
  subst hgw hx
  cases gv <;> simpa using hv
theorem bif_run {gv w v : Bool} {e : Option Bool} (hgw : gv = w) (h : (bif gv then (if w then e else some true) else (if w then some false else e)) = some v) : e = some v := by
  subst hgw
  cases gv <;> simpa using h
theorem bif_skip {gv w v : Bool} {e : Option Bool} {a b : Operand} (hgw : gv ≠ w) (hv : σ.bool (if w then b else a) = some (!w))
    (h : (bif gv then (if w then e else some true) else (if w then some false else e)) = some v) : (if gv then σ.bool a else σ.bool b) = some v := by
  cases gv <;> cases w <;> first | exact absurd rfl hgw | (simp only [cond_true, cond_false, if_true, if_false, Bool.false_eq_true, Option.some.injEq, Bool.not_true, Bool.not_false] at h hv ⊢; subst h; exact hv)
theorem not_eq_of {gv w : Bool} (h : gv ≠ w) : gv = !w := by cases gv <;> cases w <;> first | rfl | exact absurd rfl h
theorem opsK_chain (hown : Γ.gown = false) (hnd : (dstsOf all).Nodup) : ∀ (n : Nat) (g : Option (Nat × Bool)) (i : Nat) (l : List Oper) (σ : St) (lg : Log) {A : Type} (k : St → Log → Option A) (r : A),
    opsK Γ all n g i l σ lg k = some r → Seg all i l → (∀ e ∈ lg, e.1 < i) → ∀ σs, Wk σ σs → Opens all g i σs → (g.isSome = true → ∀ o ∈ l, guardOp o = true) →
    ∃ σd τ lg', Chain Γ all lg' (List.range' i l.length) σs σd ∧ Wk τ σd ∧ k τ lg' = some r ∧ (∀ j f, (j, f) ∈ lg' → j < i → (j, f) ∈ lg) ∧ ∀ e ∈ lg', e.1 < i + l.length
  | 0, _, _, _, _, _, _, _, _, h, _, _, _, _, _, _ => by simp only [opsK] at h; cases h
  | n + 1, _, i, [], σ, lg, _, k, r, h, _, hlg, σs, hw, _, _ => by
    simp only [opsK] at h
    exact ⟨σs, σ, lg, rfl, hw, h, fun _ _ h _ => h, fun e he => by have := hlg e he; simpa using this⟩
  | n + 1, g, i, o :: rest, σ, lg, A, k, r, h, hseg, hlg, σs, hw, hop, hgo => by
    have hat := hseg.head
    simp only [opsK] at h
    split at h
    · 
      rename_i hg
      subst hg
      obtain ⟨σ1, h1, h2⟩ := opK_some h
      obtain ⟨σs1, hs1, hw1⟩ := stepO_wk hw h1
      have hop1 : Opens all o.guard (i + 1) σs1 := by
        cases hgd : o.guard with
        | none => exact True.intro
        | some jw =>
          rw [← hgd]
          have hq := stepO_quiet hown (hgo (by rw [hgd]; rfl) o (by simp)) hs1
          refine opens_quiet hop (fun j d hj hd => hq.env d fun he => ?_) (Nat.le_succ i)
          obtain ⟨o', ho', hd'⟩ := slotAt_some hd
          have := dst_ne hnd ho' hat hd' he
          omega
      obtain ⟨σd, τ, lg', hc, hwk, hk, hl1, hl2⟩ := opsK_chain hown hnd n o.guard (i + 1) rest σ1 ((i, foot o σ) :: lg) k r h2 hseg.tail
        (fun e he => by
          rcases List.mem_cons.1 he with rfl | he
          · exact Nat.lt_succ_self i
          · exact Nat.lt_succ_of_lt (hlg e he)) σs1 hw1 hop1 (fun hs o' ho' => hgo hs o' (List.mem_cons_of_mem _ ho'))
      refine ⟨σd, τ, lg', ?_, hwk, hk, fun j f hm hj => ?_, fun e he => ?_⟩
      · rw [List.length_cons, List.range'_succ]
        refine ⟨o, σs1, hat, fun f hf => ?_, by rw [stepG_open hop]; exact hs1, hc⟩
        rcases List.mem_cons.1 (hl1 i f hf (Nat.lt_succ_self i)) with e | hm
        · cases e
          exact (foot_le (fun x _ => ole_of fun s _ v hv => hw.env s v hv) (stepO_ne h1)).symm
        · exact absurd (hlg _ hm) (Nat.lt_irrefl i)
      · rcases List.mem_cons.1 (hl1 j f hm (Nat.lt_succ_of_lt hj)) with e | hm
        · cases e; exact absurd hj (Nat.lt_irrefl i)
        · exact hm
      · have := hl2 e he
        rw [List.length_cons]; omega
    · 
      rename_i hg
      split at h
      · rename_i pk rest' j0 w haft hgd
        split at h
        · rename_i c x hgrp
          have hsplit : o :: rest = grpOf g (o :: rest) ++ pk :: rest' := by
            rw [← haft]; exact List.takeWhile_append_dropWhile.symm
          generalize grpOf g (o :: rest) = grp at h hgrp hsplit
          obtain ⟨a, b, s, hpk, hx, hcs, hsl, hji, hgops, hcb, hpg, hin⟩ := grp_facts hgd hgrp
          have hsg : Seg all i grp := by rw [hsplit] at hseg; exact hseg.left
          have hsr : Seg all (i + grp.length) (pk :: rest') := by rw [hsplit] at hseg; exact hseg.right
          have hlen : (o :: rest).length = grp.length + (rest'.length + 1) := by rw [hsplit]; simp
          have hgo' : g.isSome = true → ∀ o' ∈ rest', guardOp o' = true := fun hs o' ho' => hgo hs o' (by rw [hsplit]; simp [ho'])
          split at h
          · rename_i gv hcg
            subst hcs
            split at h
            · cases h
            · rename_i hfo
              have hfo : σ.forgetOk grp = true := by simpa using hfo
              obtain ⟨ow, hes⟩ := bool_tmp hcg
              have hess : σs.env s = some (.data .bool gv ow) := hw.env s _ hes
              have hsne : ∀ q, i ≤ q → q < i + grp.length → slotAt all q ≠ some s := fun q h1 _ he => by
                obtain ⟨o1, ho1, hd1⟩ := slotAt_some hsl
                obtain ⟨o2, ho2, hd2⟩ := slotAt_some he
                have := dst_ne hnd ho1 ho2 hd1 hd2
                omega
              have run : ∀ e, gv = w → opsK Γ all n o.guard i grp σ [] (fun σ' _ => σ'.bool x) = some e →
                  ∃ σs1, Chain Γ all [] (List.range' i grp.length) σs σs1 ∧ σs1.bool x = some e := fun e hgw he => by
                obtain ⟨σd, τ, lg', hc, hwk, hk, _, _⟩ := opsK_chain hown hnd n o.guard i grp σ [] (fun σ' _ => σ'.bool x) e he hsg (fun e he => by simp at he) σs hw
                  (by rw [hgd]; exact ⟨hji, s, ow, hsl, by rw [hess, hgw]⟩) (fun _ => hgops)
                exact ⟨σd, hc.log fun _ _ _ hf => by simp at hf, hwk.bool hk⟩
              have skip : gv ≠ w → ∃ σs1, Chain Γ all [] (List.range' i grp.length) σs σs1 := fun hgw =>
                skip_chain (j := j0) (w := w) (l := grp) (i := i) (p := i) (by rw [← hgd]; exact hin) hsg
                  ⟨s, ow, hsl, by rw [hess, not_eq_of hgw], hsne⟩
                  (fun q h1 h2 => absurd h2 (by omega)) hnd (fun _ _ _ _ hf => by simp at hf)
              have done : ∀ v σs1, Chain Γ all [] (List.range' i grp.length) σs σs1 → (if gv then σs1.bool a else σs1.bool b) = some v →
                  opsK Γ all n g (i + grp.length + 1) rest' ((σ.forget grp).set pk.dst (.data .bool v [])) lg k = some r →
                  ∃ σd τ lg', Chain Γ all lg' (List.range' i (o :: rest).length) σs σd ∧ Wk τ σd ∧ k τ lg' = some r ∧ (∀ j f, (j, f) ∈ lg' → j < i → (j, f) ∈ lg) ∧ ∀ e ∈ lg', e.1 < i + (o :: rest).length := fun v σs1 hc1 hv hrest => by
                obtain ⟨hwg, henv⟩ := group_done hown hw hsg hgops hfo hc1
                have hopg : Opens all g (i + grp.length) σs1 := opens_quiet hop (fun j d hj hd => henv d fun q h1 _ he => by
                  obtain ⟨o1, ho1, hd1⟩ := slotAt_some hd
                  obtain ⟨o2, ho2, hd2⟩ := slotAt_some he
                  have := dst_ne hnd ho1 ho2 hd1 hd2
                  omega) (by omega)
                have hstep : stepG Γ all pk σs1 = some (σs1.set pk.dst (.data .bool v [])) :=
                  pick_step hpk (by rw [hpg]; exact hopg) (bool_of (by rw [henv s hsne]; exact hess)) hv
                have hopg' : Opens all g (i + grp.length + 1) (σs1.set pk.dst (.data .bool v [])) := opens_quiet hopg (fun j d hj hd => set_env_other _ _ _ _ fun he => by
                  obtain ⟨o1, ho1, hd1⟩ := slotAt_some hd
                  have := dst_ne hnd ho1 hsr.head hd1 he
                  omega) (Nat.le_succ _)
                obtain ⟨σd, τ, lg', hc2, hwk, hk, hl1, hl2⟩ := opsK_chain hown hnd n g (i + grp.length + 1) rest' _ lg k r hrest hsr.tail
                  (fun e he => by have := hlg e he; omega) _ (hwg.set pk.dst (.data .bool v [])) hopg' hgo'
                have hno : ∀ q f, i ≤ q → (q, f) ∈ lg' → q < i + grp.length + 1 → False := fun q f h1 h2 h3 => by
                  have := hlg _ (hl1 q f h2 h3)
                  exact absurd this (by show ¬ q < i; omega)
                refine ⟨σd, τ, lg', ?_, hwk, hk, fun j f hm hj => hl1 j f hm (by omega), fun e he => ?_⟩
                · rw [hlen, range'_glue]
                  refine Chain.append (hc1.log fun q f hq hf => ?_) ⟨pk, _, hsr.head, fun f hf => ?_, hstep, hc2⟩
                  · rw [List.mem_range'_1] at hq
                    exact (hno q f hq.1 hf (by omega)).elim
                  · exact (hno _ f (by omega) hf (by omega)).elim
                · have := hl2 e he
                  omega
              split at h
              · 
                split at h
                · rename_i e hinner
                  by_cases hgw : gv = w
                  · obtain ⟨σs1, hc1, hv⟩ := run e hgw hinner
                    exact done _ σs1 hc1 (pickv_run hgw hx hv) h
                  · obtain ⟨σs1, hc1⟩ := skip hgw
                    exact done _ σs1 hc1 (pickv_skip hgw (isConstB_bool hcb)) h
                · cases h
              · obtain ⟨v, hv, h⟩ := Option.bind_eq_some_iff.1 h
                by_cases hgw : gv = w
                · have hv' : opsK Γ all n o.guard i grp σ [] (fun σ' _ => σ'.bool x) = some v := bif_run hgw hv
                  obtain ⟨σs1, hc1, hv1⟩ := run v hgw hv'
                  exact done _ σs1 hc1 (pickv_run' hgw hx hv1) h
                · obtain ⟨σs1, hc1⟩ := skip hgw
                  exact done _ σs1 hc1 (bif_skip hgw (isConstB_bool hcb) hv) h
          · cases h
        · cases h
      · cases h
end Go.Lift
namespace Go.Lift
open Go Go.RowKit
variable [Tab] [Mf]
variable {P : Program} {Γ : Ctx} {σ τ σ' τ' : St} {all : List Oper}
structure Up where
  e : Option (Nat × Option AVal)
  b : Option (Nat × Option Box)
  k : Option (Nat × Bool)
  y : Option (Nat × Bool)
  need : Option Nat
def updO {α : Type} (f : Nat → α) : Option (Nat × α) → Nat → α
  | none => f
  | some (k, v) => upd f k v
theorem updO_other {α : Type} {f : Nat → α} {u : Option (Nat × α)} {s : Nat} (h : ∀ v, u ≠ some (s, v)) : updO f u s = f s := by
  cases u with
  | none => rfl
  | some kv => exact upd_other _ _ _ _ fun e => h kv.2 (by rw [e])
theorem updO_cases {α : Type} (f : Nat → α) (u : Option (Nat × α)) (s : Nat) : (∃ v, u = some (s, v) ∧ updO f u s = v) ∨ ((∀ v, u ≠ some (s, v)) ∧ updO f u s = f s) := by
  cases u with
  | none => exact .inr ⟨(fun _ h => by cases h), rfl⟩
  | some kv =>
    obtain ⟨k, v⟩ := kv
    by_cases h : s = k
    · subst h; exact .inl ⟨v, rfl, upd_same _ _ _⟩
    · exact .inr ⟨(fun _ e => by cases e; exact h rfl), upd_other _ _ _ _ h⟩
theorem updO_comm {α : Type} {f : Nat → α} {u v : Option (Nat × α)} (h : ∀ s a b, u = some (s, a) → v = some (s, b) → a = b) : updO (updO f u) v = updO (updO f v) u := by
  funext s
  rcases updO_cases (updO f u) v s with ⟨b, hb, e⟩ | ⟨hb, e⟩
  · rw [e]
    rcases updO_cases (updO f v) u s with ⟨a, ha, e'⟩ | ⟨_, e'⟩
    · rw [e', h s a b ha hb]
    · rw [e', hb]; exact (upd_same _ _ _).symm
  · rw [e]
    rcases updO_cases (updO f v) u s with ⟨a, ha, e'⟩ | ⟨ha, e'⟩
    · rw [e', ha]; exact upd_same _ _ _
    · rw [e', updO_other ha, updO_other hb]
def Up.ok (u : Up) (σ : St) : Prop := ∀ d, u.need = some d → σ.box d = none ∧ σ.tok d = false
def Up.app (u : Up) (σ : St) : St := { env := updO σ.env u.e, box := updO σ.box u.b, tok := updO σ.tok u.k, dirty := updO σ.dirty u.y }
structure Fits (u : Up) (o : Oper) (σ : St) : Prop where
  e : ∀ s v, u.e = some (s, v) → o.dst = some s
  b : ∀ s B, u.b = some (s, B) → (∃ B', B = some B') ∧ ((o.dst = some s ∧ u.need = some s) ∨ (foot o σ = .wr s ∧ calm o = false ∧ (∃ x ∈ o.op.operands.toList, ((∃ p, σ.opd x = some (.bptr s p)) ∨ σ.opd x = some (.rowp s) ∨ σ.opd x = some (.mapp s))) ∧ ∃ B0, σ.box s = some B0 ∧ ∀ B', B = some B' → B'.t = B0.t))
  k : ∀ s v, u.k = some (s, v) → o.dst = some s ∧ v = true
  y : ∀ s v, u.y = some (s, v) → v = true
  need : ∀ s, u.need = some s → o.dst = some s
def loose (o : Oper) : Prop := calm o = true ∨ (∃ T x y, o.op = .store T x y) ∨ ∃ T x i y, o.op = .mapUpdate T x i y
def setUp (d : Option Nat) (v : Option AVal) : Up := ⟨d.map (·, v), none, none, none, none⟩
theorem setUp_app (d : Option Nat) (v : AVal) : (setUp d (some v)).app σ = σ.set d v := by cases d <;> rfl
theorem setUp_fits (d : Option Nat) (v : Option AVal) (o : Oper) (h : o.dst = d) : Fits (setUp d v) o σ := by
  refine ⟨fun s v hs => ?_, fun _ _ h => (by cases h), fun _ _ h => (by cases h), fun _ _ h => (by cases h), fun _ h => (by cases h)⟩
  cases d with
  | none => cases hs
  | some d => cases hs; exact h
theorem setUp_ok (d : Option Nat) (v : Option AVal) : (setUp d v).ok σ := fun _ h => (by cases h)
theorem stepO_up {o : Oper} (hl : loose o) (h : stepO Γ o σ = some σ') : ∃ u : Up, Fits u o σ ∧ u.ok σ ∧ σ' = u.app σ ∧ ∀ ρ, eff Γ o ρ = eff Γ o σ → u.ok ρ → stepO Γ o ρ = some (u.app ρ) := by
  have hk := eff_kind (Γ := Γ) o σ
  have hset : ∀ v, (∀ ρ, eff Γ o ρ = eff Γ o σ → stepO Γ o ρ = some (ρ.set o.dst v)) → σ' = σ.set o.dst v → ∃ u : Up, Fits u o σ ∧ u.ok σ ∧ σ' = u.app σ ∧ ∀ ρ, eff Γ o ρ = eff Γ o σ → u.ok ρ → stepO Γ o ρ = some (u.app ρ) := fun v hv hs =>
    ⟨setUp o.dst (some v), setUp_fits _ _ _ rfl, setUp_ok _ _, by rw [setUp_app]; exact hs, fun ρ hρ _ => by rw [setUp_app]; exact hv ρ hρ⟩
  have key : ∀ ρ, eff Γ o ρ = eff Γ o σ → stepO Γ o ρ = (eff Γ o σ).runK o.dst ρ some := fun ρ hρ => by unfold stepO; rw [hρ]
  unfold stepO at h
  generalize eff Γ o σ = e at h hk key hset
  cases e with
  | fail => cases h
  | val v =>
    simp only [Eff.runK, Option.some.injEq] at h
    exact hset v (fun ρ hρ => key ρ hρ) h.symm
  | chk c v =>
    cases c with
    | false => simp [Eff.runK, Lift.chk] at h
    | true =>
      simp only [Eff.runK, Lift.chk, cond_true, Option.some.injEq] at h
      exact hset v (fun ρ hρ => key ρ hρ) h.symm
  | cat x y =>
    simp only [Eff.runK] at h key
    obtain ⟨r, hr, h⟩ := Option.bind_eq_some_iff.1 h
    simp only [Option.some.injEq] at h
    exact hset _ (fun ρ hρ => by rw [key ρ hρ, hr]; rfl) h.symm
  | bytes x =>
    simp only [Eff.runK, Option.some.injEq] at h
    exact hset _ (fun ρ hρ => key ρ hρ) h.symm
  | call s x =>
    simp only [Eff.runK] at h key
    obtain ⟨r, hr, h⟩ := Option.bind_eq_some_iff.1 h
    simp only [Option.some.injEq] at h
    exact hset _ (fun ρ hρ => by rw [key ρ hρ, hr]; rfl) h.symm
  | newRow tid e y =>
    simp only [Eff.runK] at h key
    cases hd : o.dst with
    | none => rw [hd] at h; cases h
    | some d =>
      rw [hd] at h key
      simp only at h key
      split at h
      · rename_i hb ht
        obtain ⟨l, hl', h⟩ := Option.bind_eq_some_iff.1 h
        simp only [Option.some.injEq] at h
        refine ⟨⟨some (d, some (.rowp d)), some (d, some ⟨tid, .slice e, l, [], true⟩), none, none, some d⟩, ⟨fun s v hs => (by cases hs; exact hd), fun s B' hs => ?_, fun _ _ h => (by cases h), fun _ _ h => (by cases h), fun s hs => (by cases hs; exact hd)⟩, fun d' hd' => (by cases hd'; exact ⟨hb, ht⟩), h.symm, fun ρ hρ hok => ?_⟩
        · cases hs; exact ⟨⟨_, rfl⟩, .inl ⟨hd, rfl⟩⟩
        · obtain ⟨h1, h2⟩ := hok d rfl
          rw [key ρ hρ, h1, h2, hl']; rfl
      · cases h
  | newOwn e y =>
    simp only [Eff.runK] at h key
    cases hd : o.dst with
    | none => rw [hd] at h; cases h
    | some d =>
      rw [hd] at h key
      simp only at h key
      split at h
      · rename_i hb ht
        obtain ⟨l, hl', h⟩ := Option.bind_eq_some_iff.1 h
        simp only [Option.some.injEq] at h
        refine ⟨⟨some (d, some (.data (.slice e) l [([], some d)])), none, some (d, true), none, some d⟩, ⟨fun s v hs => (by cases hs; exact hd), fun s B' hs => (by cases hs), fun _ _ h => (by cases h; exact ⟨hd, rfl⟩), fun _ _ h => (by cases h), fun s hs => (by cases hs; exact hd)⟩, fun d' hd' => (by cases hd'; exact ⟨hb, ht⟩), h.symm, fun ρ hρ hok => ?_⟩
        obtain ⟨h1, h2⟩ := hok d rfl
        rw [key ρ hρ, h1, h2, hl']; rfl
      · cases h
  | newIter e F x =>
    simp only [Eff.runK] at h key
    cases hd : o.dst with
    | none => rw [hd] at h; cases h
    | some d =>
      rw [hd] at h key
      simp only at h key
      split at h
      · rename_i hb ht
        simp only [Option.some.injEq] at h
        refine ⟨⟨some (d, some (.iter d e F)), some (d, some ⟨0, .str, x, [], false⟩), none, none, some d⟩, ⟨fun s v hs => (by cases hs; exact hd), fun s B' hs => ?_, fun _ _ h => (by cases h), fun _ _ h => (by cases h), fun s hs => (by cases hs; exact hd)⟩, fun d' hd' => (by cases hd'; exact ⟨hb, ht⟩), h.symm, fun ρ hρ hok => ?_⟩
        · cases hs; exact ⟨⟨_, rfl⟩, .inl ⟨hd, rfl⟩⟩
        · obtain ⟨h1, h2⟩ := hok d rfl
          rw [key ρ hρ, h1, h2]; rfl
      · cases h
  | dyn a r φ x =>
    simp only [Eff.runK] at h key
    obtain ⟨r, hr, h⟩ := Option.bind_eq_some_iff.1 h
    simp only [Option.some.injEq] at h
    exact hset _ (fun ρ hρ => by rw [key ρ hρ, hr]; rfl) h.symm
  | alloc B =>
    simp only [Eff.runK] at h key
    cases hd : o.dst with
    | none => rw [hd] at h; cases h
    | some d =>
      rw [hd] at h key
      simp only at h key
      split at h
      · rename_i hb ht
        simp only [Option.some.injEq] at h
        refine ⟨⟨some (d, some (B.ptr d)), some (d, some B), none, none, some d⟩, ⟨fun s v hs => (by cases hs; exact hd), fun s B' hs => ?_, fun _ _ h => (by cases h), fun _ _ h => (by cases h), fun s hs => (by cases hs; exact hd)⟩, fun d' hd' => (by cases hd'; exact ⟨hb, ht⟩), h.symm, fun ρ hρ hok => ?_⟩
        · cases hs; exact ⟨⟨B, rfl⟩, .inl ⟨hd, rfl⟩⟩
        · obtain ⟨h1, h2⟩ := hok d rfl
          rw [key ρ hρ, h1, h2]; rfl
      · cases h
  | store b B =>
    simp only [Eff.runK, Option.some.injEq] at h key
    have hk' : foot o σ = .wr b ∧ calm o = false ∧ (∃ x ∈ o.op.operands.toList, ((∃ p, σ.opd x = some (.bptr b p)) ∨ σ.opd x = some (.rowp b) ∨ σ.opd x = some (.mapp b))) ∧ ∃ B0, σ.box b = some B0 ∧ B.t = B0.t := by
      rcases hk with ⟨T, x, y, p, B0, hop, hx, hB, hBt⟩ | ⟨T, x, y, z, B0, hop, hx, hB, hBt⟩
      · exact ⟨by simp only [foot, hop, hx], by simp only [calm, hop], ⟨x, by rw [hop]; simp [Op.operands], .inl ⟨p, hx⟩⟩, B0, hB, hBt⟩
      · exact ⟨by simp only [foot, hop, hx], by simp only [calm, hop], ⟨x, by rw [hop]; simp [Op.operands], .inr (.inr hx)⟩, B0, hB, hBt⟩
    obtain ⟨hf, hca, hxs, B0, hB, hBt⟩ := hk'
    refine ⟨⟨o.dst.map (·, none), some (b, some B), none, some (b, true), none⟩, ⟨fun s v hs => ?_, fun s B' hs => ?_, fun _ _ h => (by cases h), fun _ _ h => (by cases h; rfl), fun s hs => (by cases hs)⟩, fun d' hd' => (by cases hd'), ?_, fun ρ hρ hok => ?_⟩
    · cases hd : o.dst with
      | none => rw [hd] at hs; cases hs
      | some d => rw [hd] at hs; cases hs; rfl
    · cases hs
      exact ⟨⟨B, rfl⟩, .inr ⟨hf, hca, hxs, B0, hB, fun B' hB' => by cases hB'; exact hBt⟩⟩
    · rw [← h]
      cases o.dst <;> rfl
    · rw [key ρ hρ]
      cases o.dst <;> rfl
  | fresh c e l =>
    simp only [Eff.runK] at h key
    cases hd : o.dst with
    | none => rw [hd] at h; cases h
    | some d =>
      rw [hd] at h key
      simp only at h key
      split at h
      · rename_i hb ht
        cases c with
        | false => simp [Lift.chk] at h
        | true =>
        simp only [Lift.chk, cond_true, Option.some.injEq] at h key
        refine ⟨⟨some (d, some (.data (.slice e) l [([], some d)])), none, some (d, true), none, some d⟩, ⟨fun s v hs => (by cases hs; exact hd), fun s B' hs => (by cases hs), fun _ _ h => (by cases h; exact ⟨hd, rfl⟩), fun _ _ h => (by cases h), fun s hs => (by cases hs; exact hd)⟩, fun d' hd' => (by cases hd'; exact ⟨hb, ht⟩), h.symm, fun ρ hρ hok => ?_⟩
        obtain ⟨h1, h2⟩ := hok d rfl
        rw [key ρ hρ, h1, h2]; rfl
      · cases h
  | row c tid e l =>
    simp only [Eff.runK] at h key
    cases hd : o.dst with
    | none => rw [hd] at h; cases h
    | some d =>
      rw [hd] at h key
      simp only at h key
      split at h
      · rename_i hb ht
        cases c with
        | false => simp [Lift.chk] at h
        | true =>
          simp only [Lift.chk, cond_true, Option.some.injEq] at h key
          refine ⟨⟨some (d, some (.rowp d)), some (d, some ⟨tid, .slice e, l, [], true⟩), none, none, some d⟩, ⟨fun s v hs => (by cases hs; exact hd), fun s B' hs => ?_, fun _ _ h => (by cases h), fun _ _ h => (by cases h), fun s hs => (by cases hs; exact hd)⟩, fun d' hd' => (by cases hd'; exact ⟨hb, ht⟩), h.symm, fun ρ hρ hok => ?_⟩
          · cases hs; exact ⟨⟨_, rfl⟩, .inl ⟨hd, rfl⟩⟩
          · obtain ⟨h1, h2⟩ := hok d rfl
            rw [key ρ hρ, h1, h2]; rfl
      · cases h
  | app e l m src =>
    obtain ⟨c, hop, hcal⟩ := hk
    rcases hl with hl | ⟨_, _, _, hl⟩ | ⟨_, _, _, _, hl⟩
    · simp [calm, hop, hcal] at hl
    · rw [hop] at hl; cases hl
    · rw [hop] at hl; cases hl
theorem stepG_up {o : Oper} (hl : loose o) (h : stepG Γ all o σ = some σ') : ∃ u : Up, Fits u o σ ∧ u.ok σ ∧ σ' = u.app σ ∧
    ∀ ρ, wantedA all o ρ = wantedA all o σ → (eff Γ o σ ≠ .fail → eff Γ o ρ = eff Γ o σ) → u.ok ρ → stepG Γ all o ρ = some (u.app ρ) := by
  unfold stepG at h
  split at h
  · rename_i hw
    obtain ⟨u, h1, h2, h3, h4⟩ := stepO_up hl h
    exact ⟨u, h1, h2, h3, fun ρ hρ he hok => by unfold stepG; rw [hρ, hw]; exact h4 ρ (he (stepO_ne h)) hok⟩
  · rename_i hw
    simp only [Option.some.injEq] at h
    exact ⟨setUp o.dst (some .undef), setUp_fits _ _ _ rfl, setUp_ok _ _, by rw [setUp_app]; exact h.symm, fun ρ hρ _ _ => by unfold stepG; rw [hρ, hw, setUp_app]⟩
  · cases h
theorem disjointB_iff {a b : List Nat} : disjointB a b = true ↔ ∀ i, i ∈ a → i ∈ b → False := by
  unfold disjointB
  simp only [Bool.not_eq_true', List.any_eq_false]
  constructor
  · intro h i ha hb
    exact h i ha (List.any_eq_true.2 ⟨i, hb, Nat.beq_refl i⟩)
  · intro h i ha hb
    obtain ⟨j, hj, e⟩ := List.any_eq_true.1 hb
    rw [Nat.eq_of_beq_eq_true e] at ha
    exact h j ha hj
theorem logAt_mem {lg : Log} {i : Nat} (h : logAt lg i ≠ .other) : (i, logAt lg i) ∈ lg := by
  induction lg with
  | nil => exact absurd rfl h
  | cons e r ih =>
    obtain ⟨j, f⟩ := e
    unfold logAt at h ⊢
    cases hb : Nat.beq j i with
    | true =>
      rw [hb] at h
      have := Nat.eq_of_beq_eq_true hb
      subst this
      simp
    | false =>
      rw [hb] at h
      simp only [cond_false] at h ⊢
      exact List.mem_cons_of_mem _ (ih h)
theorem opd_same {x : Operand} (h : ∀ s, x = .tmp s → σ.env s = τ.env s) : σ.opd x = τ.opd x := by
  cases x with
  | tmp s => exact h s rfl
  | const v => exact opd_const _ (fun s h => by cases h)
  | _ => exact opd_const _ (fun s h => by cases h)
theorem foot_same {o : Oper} (h : ∀ x ∈ o.op.operands.toList, σ.opd x = τ.opd x) : foot o σ = foot o τ := by
  cases hop : o.op
  case load T x => rw [hop] at h; simp only [foot, hop, h x (by simp [Op.operands])]
  case store T x y => rw [hop] at h; simp only [foot, hop, h x (by simp [Op.operands])]
  case indexAddr T x i => rw [hop] at h; simp only [foot, hop, h x (by simp [Op.operands])]
  case lookup T x i c => rw [hop] at h; simp only [foot, hop, h x (by simp [Op.operands])]
  case mapUpdate T x i y => rw [hop] at h; simp only [foot, hop, h x (by simp [Op.operands])]
  case call c =>
    rw [hop] at h
    cases hcal : c.callee with
    | value x => simp only [foot, hop, hcal]
    | invoke r n => simp only [foot, hop, hcal]
    | builtin b =>
      cases b
      case len =>
        simp only [foot, hop, hcal]
        cases hl : c.args.toList with
        | nil => rfl
        | cons x xs =>
          cases xs with
          | cons _ _ => rfl
          | nil => simp only [h x (by simp only [Op.operands, Call.operands, hcal]; simpa using (show x ∈ c.args.toList by rw [hl]; simp))]
      case append =>
        simp only [foot, hop, hcal]
        cases hl : c.args.toList with
        | nil => rfl
        | cons x xs =>
          cases xs with
          | nil => rfl
          | cons y ys =>
            cases ys with
            | cons _ _ => rfl
            | nil => simp only [h x (by simp only [Op.operands, Call.operands, hcal]; simpa using (show x ∈ c.args.toList by rw [hl]; simp))]
      all_goals simp only [foot, hop, hcal]
  all_goals simp only [foot, hop]
theorem wanted_same {o : Oper} (h : ∀ s, s ∈ reads all o → σ.env s = τ.env s) : wantedA all o σ = wantedA all o τ := by
  unfold wantedA
  cases hg : o.guard with
  | none => rfl
  | some jw =>
    obtain ⟨j, w⟩ := jw
    simp only
    cases hs : slotAt all j with
    | none => rfl
    | some d =>
      simp only
      rw [h d]
      unfold reads
      rw [hg]
      simp only [List.mem_append]
      refine .inr ?_
      change d ∈ (slotAt all j).toList
      rw [hs]; simp
theorem mem_reads {o : Oper} {s : Nat} (h : .tmp s ∈ o.op.operands.toList) : s ∈ reads all o := by
  unfold reads
  exact List.mem_append_left _ (List.mem_filterMap.2 ⟨_, h, rfl⟩)
theorem foot_calm {o : Oper} (h : foot o σ ≠ .other) (h' : ∀ s, foot o σ ≠ .app s) (h'' : foot o σ ≠ .idle) : loose o := by
  unfold loose
  cases hop : o.op
  case store T x y => exact .inr (.inl ⟨T, x, y, rfl⟩)
  case mapUpdate T x i y => exact .inr (.inr ⟨T, x, i, y, rfl⟩)
  case makeSlice T n c => simp [foot, hop] at h
  case call c =>
    left
    simp only [calm, hop]
    cases hcal : c.callee with
    | value x => rfl
    | invoke r n => rfl
    | builtin b =>
      cases b
      case append =>
        exfalso
        simp only [foot, hop, hcal] at h h' h''
        revert h h' h''
        (repeat' split) <;> simp
      all_goals first | rfl | simp [foot, hop, hcal] at h
  all_goals exact .inl (by simp only [calm, hop])
def PT (o : Oper) (σ : St) : Prop := ∀ x ∈ o.op.operands.toList, ∀ t, ((∃ p, σ.opd x = some (.bptr t p)) ∨ σ.opd x = some (.rowp t) ∨ σ.opd x = some (.mapp t)) → ∃ B, σ.box t = some B
theorem compat_wr {b : Nat} {f : Foot} (h : f = .rd b ∨ f = .wr b) : compat (.wr b) f = false ∧ compat f (.wr b) = false := by
  rcases h with rfl | rfl <;> simp [compat]
theorem swap0 {a b : Oper} {i j : Nat} {lg : Log} {σ1 σ2 : St} (hap : apart0 all lg i j a b = true) (ha : stepG Γ all a σ = some σ1) (hb : stepG Γ all b σ1 = some σ2)
    (hfa : ∀ f, (i, f) ∈ lg → f = foot a σ) (hfb : ∀ f, (j, f) ∈ lg → f = foot b σ1) (hpt : PT b σ) :
    ∃ σ1', stepG Γ all b σ = some σ1' ∧ stepG Γ all a σ1' = some σ2 ∧ foot b σ = foot b σ1 ∧ foot a σ1' = foot a σ := by
  unfold apart0 at hap
  simp only [Bool.and_eq_true, Bool.or_eq_true] at hap
  obtain ⟨⟨hd1, hd2⟩, hfoot⟩ := hap
  rw [disjointB_iff] at hd1 hd2
  have hd1 : ∀ s, a.dst = some s → s ∉ reads all b ∧ b.dst ≠ some s := fun s hs =>
    ⟨fun hm => hd1 s (by rw [hs]; simp) (List.mem_append_left _ hm), fun e => hd1 s (by rw [hs]; simp) (List.mem_append_right _ (by rw [e]; simp))⟩
  have hd2 : ∀ s, b.dst = some s → s ∉ reads all a := fun s hs hm => hd2 s (by rw [hs]; simp) hm
  have hcomp : calm a = false ∨ calm b = false → compat (foot a σ) (foot b σ1) = true := fun hc => by
    rcases hfoot with ⟨h1, h2⟩ | h
    · rcases hc with hc | hc
      · rw [h1] at hc; cases hc
      · rw [h2] at hc; cases hc
    · have e1 : logAt lg i ≠ .other := fun e => by rw [e] at h; simp [compat] at h
      have e2 : logAt lg j ≠ .other := fun e => by rw [e] at h; cases hh : logAt lg i <;> rw [hh] at h <;> simp [compat] at h
      rw [← hfa _ (logAt_mem e1), ← hfb _ (logAt_mem e2)]; exact h
  have hla : loose a := by
    rcases hfoot with ⟨h1, _⟩ | h
    · exact .inl h1
    · have e1 : logAt lg i ≠ .other := fun e => by rw [e] at h; simp [compat] at h
      exact foot_calm (σ := σ) (by rw [← hfa _ (logAt_mem e1)]; exact e1) (fun s => by rw [← hfa _ (logAt_mem e1)]; intro e; rw [e] at h; cases hh : logAt lg j <;> rw [hh] at h <;> simp [compat] at h) (by rw [← hfa _ (logAt_mem e1)]; intro e; rw [e] at h; cases hh : logAt lg j <;> rw [hh] at h <;> simp [compat] at h)
  have hlb : loose b := by
    rcases hfoot with ⟨_, h1⟩ | h
    · exact .inl h1
    · have e1 : logAt lg j ≠ .other := fun e => by rw [e] at h; cases hh : logAt lg i <;> rw [hh] at h <;> simp [compat] at h
      exact foot_calm (σ := σ1) (by rw [← hfb _ (logAt_mem e1)]; exact e1) (fun s => by rw [← hfb _ (logAt_mem e1)]; intro e; rw [e] at h; cases hh : logAt lg i <;> rw [hh] at h <;> simp [compat] at h) (by rw [← hfb _ (logAt_mem e1)]; intro e; rw [e] at h; cases hh : logAt lg i <;> rw [hh] at h <;> simp [compat] at h)
  obtain ⟨u, fu, uok, hu, hU⟩ := stepG_up hla ha
  obtain ⟨v, fv, vok, hv, hV⟩ := stepG_up hlb hb
  have er : ∀ s, s ∈ reads all b → σ.env s = σ1.env s := fun s hs => by
    rw [hu]
    exact (updO_other fun w hw => (hd1 s (fu.e s w hw)).1 hs).symm
  have ero : ∀ x ∈ b.op.operands.toList, σ.opd x = σ1.opd x := fun x hx => opd_same fun s hs => er s (mem_reads (by rw [← hs]; exact hx))
  have ar : ∀ s, s ∈ reads all a → (v.app σ).env s = σ.env s := fun s hs => updO_other fun w hw => hd2 s (fv.e s w hw) hs
  have aro : ∀ x ∈ a.op.operands.toList, (v.app σ).opd x = σ.opd x := fun x hx => opd_same fun s hs => ar s (mem_reads (by rw [← hs]; exact hx))
  have efb : foot b σ = foot b σ1 := foot_same ero
  have efa : foot a (v.app σ) = foot a σ := foot_same aro
  have bx1 : ∀ x ∈ b.op.operands.toList, ∀ t, ((∃ p, σ1.opd x = some (.bptr t p)) ∨ σ1.opd x = some (.rowp t) ∨ σ1.opd x = some (.mapp t)) → ∃ B0, σ.box t = some B0 ∧ ∃ B1, σ1.box t = some B1 ∧ B1.t = B0.t ∧ (B1 = B0 ∨ foot a σ = .wr t ∧ calm a = false) := fun x hx t ht => by
    rw [← ero x hx] at ht
    obtain ⟨B0, hB0⟩ := hpt x hx t ht
    refine ⟨B0, hB0, ?_⟩
    rw [hu]
    rcases updO_cases σ.box u.b t with ⟨w, hw, e⟩ | ⟨_, e⟩
    · obtain ⟨⟨B', rfl⟩, hc⟩ := fu.b t w hw
      refine ⟨B', e, ?_⟩
      rcases hc with ⟨_, hn⟩ | ⟨h1, h2, _, B00, h3, h4⟩
      · rw [(uok t hn).1] at hB0; cases hB0
      · rw [hB0] at h3; cases h3
        exact ⟨h4 B' rfl, .inr ⟨h1, h2⟩⟩
    · exact ⟨B0, e.trans hB0, rfl, .inl rfl⟩
  have eb : eff Γ b σ1 ≠ .fail → eff Γ b σ = eff Γ b σ1 := fun hne => eff_le ⟨fun x hx => .inr (ero x hx), fun x hx t p ht B hB => by
      obtain ⟨B0, h0, B1, h1, h2, _⟩ := bx1 x hx t (.inl ⟨p, ht⟩)
      rw [h1] at hB; cases hB
      rw [h0, h2]; rfl, fun x hx t ht hf B hB => by
      obtain ⟨B0, h0, B1, h1, _, h3⟩ := bx1 x hx t ht
      rw [h1] at hB; cases hB
      rcases h3 with rfl | ⟨h3, h4⟩
      · exact h0
      · have := hcomp (.inl h4)
        rw [h3, (compat_wr hf).1] at this; cases this⟩ hne
  have vok' : v.ok σ := fun d hd => by
    obtain ⟨h1, h2⟩ := vok d hd
    rw [hu] at h1 h2
    constructor
    · rcases updO_cases σ.box u.b d with ⟨w, hw, e⟩ | ⟨_, e⟩
      · obtain ⟨⟨B', rfl⟩, _⟩ := fu.b d w hw
        exact absurd (e.symm.trans h1) (by simp)
      · exact e.symm.trans h1
    · rcases updO_cases σ.tok u.k d with ⟨w, hw, e⟩ | ⟨_, e⟩
      · obtain ⟨_, rfl⟩ := fu.k d w hw
        exact absurd (e.symm.trans h2) (by simp)
      · exact e.symm.trans h2
  have nob : ∀ d B, v.b = some (d, B) → u.need ≠ some d := fun d B hvb hn => by
    have hda := fu.need d hn
    rcases (fv.b d B hvb).2 with ⟨h1, _⟩ | ⟨_, _, ⟨x, hx, hp⟩, _⟩
    · exact (hd1 d hda).2 h1
    · obtain ⟨B0, h0, _⟩ := bx1 x hx d hp
      rw [(uok d hn).1] at h0; cases h0
  have bx2 : ∀ t B, σ.box t = some B → ∃ B1, (v.app σ).box t = some B1 ∧ B1.t = B.t ∧ (B1 = B ∨ foot b σ1 = .wr t ∧ calm b = false) := fun t B hB => by
    rcases updO_cases σ.box v.b t with ⟨w, hw, e⟩ | ⟨_, e⟩
    · obtain ⟨⟨B', rfl⟩, hc⟩ := fv.b t w hw
      refine ⟨B', e, ?_⟩
      rcases hc with ⟨_, hn⟩ | ⟨h1, h2, ⟨x, hx, hp⟩, B00, h3, h4⟩
      · rw [(vok' t hn).1] at hB; cases hB
      · obtain ⟨B0, h0, B1, h5, h6, _⟩ := bx1 x hx t hp
        rw [hB] at h0; cases h0
        rw [h3] at h5; cases h5
        exact ⟨(h4 B' rfl).trans h6, .inr ⟨h1, h2⟩⟩
    · exact ⟨B, e.trans hB, rfl, .inl rfl⟩
  have ea : eff Γ a σ ≠ .fail → eff Γ a (v.app σ) = eff Γ a σ := fun hne => eff_le ⟨fun x hx => .inr (aro x hx), fun x hx t p ht B hB => by
      obtain ⟨B1, h1, h2, _⟩ := bx2 t B hB
      rw [h1, ← h2]; rfl, fun x hx t ht hf B hB => by
      obtain ⟨B1, h1, _, h3⟩ := bx2 t B hB
      rcases h3 with rfl | ⟨h3, h4⟩
      · exact h1
      · have := hcomp (.inr h4)
        rw [h3, (compat_wr hf).2] at this; cases this⟩ hne
  have uok' : u.ok (v.app σ) := fun d hd => by
    obtain ⟨h1, h2⟩ := uok d hd
    constructor
    · rcases updO_cases σ.box v.b d with ⟨w, hw, _⟩ | ⟨_, e⟩
      · exact (nob d w hw hd).elim
      · exact e.trans h1
    · rcases updO_cases σ.tok v.k d with ⟨w, hw, _⟩ | ⟨_, e⟩
      · exact ((hd1 d (fu.need d hd)).2 (fv.k d w hw).1).elim
      · exact e.trans h2
  have s1 := hV σ (wanted_same er) eb vok'
  have s2 := hU (v.app σ) (wanted_same ar) ea uok'
  refine ⟨_, s1, ?_, efb, efa⟩
  rw [s2, hv, hu]
  have c1 : updO (updO σ.env v.e) u.e = updO (updO σ.env u.e) v.e := updO_comm fun s x y hx hy => ((hd1 s (fu.e s y hy)).2 (fv.e s x hx)).elim
  have c2 : updO (updO σ.box v.b) u.b = updO (updO σ.box u.b) v.b := updO_comm fun s x y hx hy => by
    exfalso
    rcases (fu.b s y hy).2 with ⟨h1, h2⟩ | ⟨h1, h2, _⟩
    · exact nob s x hx h2
    · rcases (fv.b s x hx).2 with ⟨_, h3⟩ | ⟨h3, _⟩
      · have := (vok s h3).1
        rw [hu] at this
        obtain ⟨⟨B', rfl⟩, _⟩ := fu.b s y hy
        change updO σ.box u.b s = none at this
        rw [hy] at this
        exact absurd ((upd_same _ _ _).symm.trans this) (by simp)
      · have := hcomp (.inl h2)
        rw [h1, h3, (compat_wr (.inr rfl)).1] at this; cases this
  have c3 : updO (updO σ.tok v.k) u.k = updO (updO σ.tok u.k) v.k := updO_comm fun s x y hx hy => (fv.k s x hx).2.trans (fu.k s y hy).2.symm
  have c4 : updO (updO σ.dirty v.y) u.y = updO (updO σ.dirty u.y) v.y := updO_comm fun s x y hx hy => (fv.y s x hx).trans (fu.y s y hy).symm
  simp only [Up.app, c1, c2, c3, c4]
end Go.Lift
namespace Go.Lift
open Go Go.RowKit
variable [Tab] [Mf]
variable {P : Program} {Γ : Ctx} {σ τ σ' τ' : St} {all : List Oper}
def AVal.loseO : Option Nat → AVal → AVal
  | none, v => v
  | some k, v => v.lose k
theorem lose_env (k : Option Nat) (s : Nat) : (σ.lose k).env s = (σ.env s).map (AVal.loseO k) := by
  cases k with
  | none => show σ.env s = _; cases σ.env s <;> rfl
  | some k => rfl
theorem lose_box (k : Option Nat) (b : Nat) : ((σ.lose k).box b = none ↔ σ.box b = none) := by
  cases k with
  | none => exact Iff.rfl
  | some k =>
    show (σ.box b).map _ = none ↔ _
    rw [Option.map_eq_none_iff]
theorem lose_tok (k : Option Nat) (d : Nat) (h : k ≠ some d) : (σ.lose k).tok d = σ.tok d := by
  cases k with
  | none => rfl
  | some k =>
    show (bif Nat.beq d k then false else σ.tok d) = _
    cases hb : Nat.beq d k with
    | false => rfl
    | true => exact absurd (by rw [Nat.eq_of_beq_eq_true hb]) h
theorem loseO_data (k : Option Nat) {t : Ty} {x : t.den} {o : Own} : ∃ o', AVal.loseO k (.data t x o) = .data t x o' := by
  cases k with
  | none => exact ⟨o, rfl⟩
  | some k => exact ⟨_, rfl⟩
theorem loseO_nil (k : Option Nat) {t : Ty} {x : t.den} : AVal.loseO k (.data t x []) = .data t x [] := by
  cases k <;> rfl
theorem lose_opd (k : Option Nat) (x : Operand) : (σ.lose k).opd x = (σ.opd x).map (AVal.loseO k) := by
  cases x with
  | tmp s => exact lose_env k s
  | const v => cases v <;> first | rfl | (cases k <;> rfl) | (rename_i a; cases a <;> cases k <;> rfl)
  | global g =>
    simp only [St.opd]
    cases gvar g with
    | none => rfl
    | some v => exact congrArg some (loseO_nil k).symm
  | func f => cases k <;> rfl
theorem lose_get (k : Option Nat) (x : Operand) (t : Ty) : AVal.get ((σ.lose k).opd x) t = AVal.get (σ.opd x) t := by
  rw [lose_opd]
  cases σ.opd x with
  | none => rfl
  | some v =>
    cases v with
    | data u y o =>
      obtain ⟨o', e⟩ := loseO_data k (t := u) (x := y) (o := o)
      show AVal.get (some _) t = _
      rw [e]
      rfl
    | _ => cases k <;> rfl
theorem lose_getN (k : Option Nat) (T : Option Ty) (x : Operand) (t : Ty) : AVal.get ((σ.lose k).opdN T x) t = AVal.get (σ.opdN T x) t := by
  unfold St.opdN
  split
  · rfl
  · exact lose_get k x t
theorem lose_data {k : Option Nat} {x : Operand} {t : Ty} {y : t.den} {o : Own} (h : (σ.lose k).opd x = some (.data t y o)) : ∃ o', σ.opd x = some (.data t y o') := by
  rw [lose_opd] at h
  cases hx : σ.opd x with
  | none => rw [hx] at h; cases h
  | some v =>
    rw [hx] at h
    simp only [Option.map_some, Option.some.injEq] at h
    cases v with
    | data u z p =>
      obtain ⟨p', e⟩ := loseO_data k (t := u) (x := z) (o := p)
      rw [e] at h
      cases h
      exact ⟨p, rfl⟩
    | _ => cases k <;> cases h
theorem lose_build (k : Option Nat) (e : Ty) : ∀ (l : List (Nat × Operand)) (i : Nat), evBuildSlice e (σ.lose k) i l = evBuildSlice e σ i l
  | [], _ => rfl
  | (j, o) :: l, i => by
    unfold evBuildSlice
    rw [lose_getN, lose_build k e l]
def loseB : Option Nat → Box → Box
  | none, B => B
  | some k, B => B.lose k
theorem lose_boxv (k : Option Nat) (b : Nat) : (σ.lose k).box b = (σ.box b).map (loseB k) := by
  cases k with
  | none => show σ.box b = _; cases σ.box b <;> rfl
  | some k => rfl
theorem loseB_parts (k : Option Nat) (B : Box) : (loseB k B).t = B.t ∧ HEq (loseB k B).x B.x := by cases k <;> exact ⟨rfl, HEq.rfl⟩
theorem filterMap_lose (k : Nat) (p : Path) (o : Own) : ownUnder (Own.lose k o) p = Own.lose k (ownUnder o p) := by
  unfold ownUnder Own.lose
  rw [List.filterMap_filter, List.filter_filterMap]
  congr 1
  funext x
  obtain ⟨q, s⟩ := x
  simp only
  cases stripP p q with
  | none => simp
  | some r =>
    simp only [Option.map_some, Option.filter]
theorem lose_bptr {k : Option Nat} {x : Operand} {b : Nat} {p : Path} (h : (σ.lose k).opd x = some (.bptr b p)) : σ.opd x = some (.bptr b p) := by
  rw [lose_opd] at h
  cases hx : σ.opd x with
  | none => rw [hx] at h; cases h
  | some v =>
    rw [hx] at h
    simp only [Option.map_some, Option.some.injEq] at h
    cases v with
    | data u z q =>
      obtain ⟨p', e⟩ := loseO_data k (t := u) (x := z) (o := q)
      rw [e] at h
      cases h
    | bptr b' p' =>
      have : AVal.loseO k (.bptr b' p') = .bptr b' p' := by cases k <;> rfl
      rw [this] at h
      rw [h]
    | _ => cases k <;> cases h
theorem loseO_bptr (k : Option Nat) {b : Nat} {p : Path} : AVal.loseO k (.bptr b p) = .bptr b p := by cases k <;> rfl
theorem eff_lose {o : Oper} {k : Option Nat} (hs : softOp o (foot o (σ.lose k)) = true) (hne : eff Γ o (σ.lose k) ≠ .fail) :
    (∃ v, eff Γ o σ = .val v ∧ eff Γ o (σ.lose k) = .val (v.loseO k)) ∨ (eff Γ o (σ.lose k) = eff Γ o σ ∧ ((∃ c v, eff Γ o σ = .chk c v ∧ v.loseO k = v) ∨ (∃ e l, eff Γ o σ = .fresh true e l) ∨ (∃ T e l, eff Γ o σ = .row true T e l) ∨ ∃ a b, eff Γ o σ = .cat a b)) := by
  cases hop : o.op
  case move x =>
    cases x with
    | tmp s =>
      left
      simp only [eff, hop] at hne ⊢
      rw [lose_opd] at hne ⊢
      cases hx : σ.opd (.tmp s) with
      | none => rw [hx] at hne; exact absurd rfl hne
      | some v => exact ⟨v, rfl, rfl⟩
    | _ => simp [softOp, hop] at hs
  case buildSlice t n ps =>
    right
    have e : eff Γ o (σ.lose k) = eff Γ o σ := by
      simp only [eff, hop]
      cases Γ.ty t with
      | none => rfl
      | some u => cases u <;> simp only [lose_build]
    refine ⟨e, .inr ?_⟩
    rw [e] at hne
    simp only [eff, hop] at hne ⊢
    revert hne
    split
    · split
      · split
        · split
          · intro _
            cases o.guard.isNone && o.dst.any Γ.own with
            | true => exact .inr (.inl ⟨_, _, _, rfl⟩)
            | false => exact .inl ⟨_, _, rfl⟩
          · exact fun hne => absurd rfl hne
        · exact fun hne => absurd rfl hne
      · exact fun hne => absurd rfl hne
    · exact fun hne => absurd rfl hne
  case fieldAddr s x f =>
    left
    simp only [eff, hop] at hne ⊢
    split at hne
    rotate_left
    · exact absurd rfl hne
    rename_i hf
    rw [if_pos hf, if_pos hf]
    cases hT : Γ.ty s with
    | none => rw [hT] at hne; exact absurd rfl hne
    | some t =>
      rw [hT] at hne
      cases hx : (σ.lose k).opd x with
      | none => rw [hx] at hne; exact absurd rfl hne
      | some v =>
        rw [hx] at hne
        cases v with
        | data u y q =>
          obtain ⟨q', hx'⟩ := lose_data hx
          rw [hx']
          cases u with
          | ptr t' =>
            simp only at hne ⊢
            revert hne
            (repeat' split) <;> intro hne <;> first | exact absurd rfl hne | exact ⟨_, rfl, by rw [loseO_nil]⟩ | (exfalso; simp_all)
          | _ => exact absurd rfl hne
        | bptr b p =>
          have hx' := lose_bptr hx
          rw [hx']
          simp only at hne ⊢
          rw [lose_boxv] at hne ⊢
          cases hB : σ.box b with
          | none => rw [hB] at hne; exact absurd rfl hne
          | some B =>
            rw [hB] at hne
            simp only [Option.map_some] at hne ⊢
            cases hA : t.atP (fieldPath (Γ.nf s) f) with
            | none => rw [hA] at hne; exact absurd rfl hne
            | some u =>
              rw [hA] at hne
              simp only [(loseB_parts k B).1] at hne ⊢
              by_cases hc : B.t.atP p = some t ∧ 0 < u.size
              · rw [if_pos hc]
                exact ⟨_, rfl, by rw [loseO_bptr]⟩
              · rw [if_neg hc] at hne
                exact absurd rfl hne
        | _ => exact absurd rfl hne
  case load t x =>
    have hd : (∃ u y p, (σ.lose k).opd x = some (.data u y p)) ∨ ∃ b p, (σ.lose k).opd x = some (.bptr b p) := by
      simp only [softOp, hop, foot] at hs
      revert hs
      cases hx : (σ.lose k).opd x with
      | none => intro hs; cases hs
      | some v => cases v <;> intro hs <;> first | exact .inl ⟨_, _, _, rfl⟩ | exact .inr ⟨_, _, rfl⟩ | cases hs
    rcases hd with ⟨u, y, p, hx⟩ | ⟨b, p, hx⟩
    rotate_left
    · have hx' := lose_bptr hx
      left
      simp only [eff, hop, hx, hx'] at hne ⊢
      cases hT : Γ.ty t with
      | none => rw [hT] at hne; exact absurd rfl hne
      | some u =>
        rw [hT] at hne
        simp only at hne ⊢
        rw [lose_boxv] at hne ⊢
        cases hB : σ.box b with
        | none => rw [hB] at hne; exact absurd rfl hne
        | some B =>
          rw [hB] at hne
          cases k with
          | none =>
            simp only [Option.map_some, loseB] at hne ⊢
            cases hg : getP B.t B.x p u with
            | none => rw [hg] at hne; exact absurd rfl hne
            | some y => exact ⟨_, rfl, rfl⟩
          | some k =>
            simp only [Option.map_some, loseB, Box.lose] at hne ⊢
            cases hg : getP B.t B.x p u with
            | none => rw [hg] at hne; exact absurd rfl hne
            | some y => exact ⟨_, rfl, by simp only [AVal.loseO, AVal.lose, filterMap_lose]⟩
    obtain ⟨p', hx'⟩ := lose_data hx
    left
    simp only [eff, hop, hx, hx'] at hne ⊢
    revert hne
    cases Γ.ty t with
    | none => intro hne; exact absurd rfl hne
    | some w =>
      cases u with
      | ptr t' =>
        simp only
        cases hc : castTy t' w y with
        | none => intro hne; exact absurd rfl hne
        | some v => intro _; exact ⟨_, rfl, by rw [loseO_nil]⟩
      | _ => intro hne; exact absurd rfl hne
  case indexAddr T x i =>
    have hd : ∃ u y p, (σ.lose k).opd x = some (.data u y p) := by
      simp only [softOp, hop, foot] at hs
      revert hs
      cases hx : (σ.lose k).opd x with
      | none => intro hs; cases hs
      | some v => cases v <;> intro hs <;> first | exact ⟨_, _, _, rfl⟩ | cases hs
    obtain ⟨u, y, p, hx⟩ := hd
    obtain ⟨p', hx'⟩ := lose_data hx
    right
    have e : eff Γ o (σ.lose k) = eff Γ o σ := by
      simp only [eff, hop, hx, hx', lose_get]
      cases AVal.get (σ.opd i) (.int .i64) with
      | none => rfl
      | some j =>
        cases Γ.ty T with
        | none => cases u <;> rfl
        | some w =>
          cases w <;> cases u <;> first | rfl | (rename_i a; cases a <;> rfl)
    refine ⟨e, .inl ?_⟩
    rw [e] at hne
    simp only [eff, hop, hx'] at hne ⊢
    revert hne
    (repeat' split) <;> intro hne <;> first | exact absurd rfl hne | exact ⟨_, _, rfl, loseO_nil k⟩ | (exfalso; simp_all)
  case slice T x lo hi mx =>
    cases mx with
    | some m => exact absurd (by simp only [eff, hop]) hne
    | none =>
    cases hx : (σ.lose k).opd x with
    | none =>
      refine absurd ?_ hne
      simp only [eff, hop, hx]
      split
      · rfl
      · cases Γ.ty T with
        | none => rfl
        | some w => cases w <;> rfl
    | some v =>
    cases v with
    | data u y p =>
      obtain ⟨p', hx'⟩ := lose_data hx
      have e : eff Γ o (σ.lose k) = eff Γ o σ := by
        simp only [eff, hop, hx, hx', lose_get]
        split
        · rfl
        · cases Γ.ty T with
          | none => cases u <;> rfl
          | some w => cases w <;> cases u <;> first | rfl | (rename_i a; cases a <;> rfl)
      have key : eff Γ o σ = .fail ∨ (∃ c v, eff Γ o σ = .chk c v ∧ v.loseO k = v) ∨ ∃ v, eff Γ o σ = .val v ∧ v.loseO k = v := by
        simp only [eff, hop, hx']
        (repeat' split) <;> first | exact .inl rfl | exact .inr (.inl ⟨_, _, rfl, loseO_nil k⟩) | exact .inr (.inr ⟨_, rfl, loseO_nil k⟩) | (exfalso; simp_all)
      rcases key with h | ⟨c, v, h1, h2⟩ | ⟨v, h1, h2⟩
      · rw [e] at hne; exact absurd h hne
      · exact .inr ⟨e, .inl ⟨c, v, h1, h2⟩⟩
      · exact .inl ⟨v, h1, by rw [e, h1, h2]⟩
    | _ =>
      refine absurd ?_ hne
      simp only [eff, hop, hx]
      split
      · rfl
      · cases Γ.ty T with
        | none => rfl
        | some w => cases w <;> rfl
  case binOp op T x y U =>
    have hop2 : op = .add := by cases op <;> first | rfl | (simp [softOp, hop] at hs; done)
    subst hop2
    have hd : (∃ i a p j b q, (σ.lose k).opd x = some (.data (.int i) a p) ∧ (σ.lose k).opd y = some (.data (.int j) b q)) ∨ (∃ a p b q, (σ.lose k).opd x = some (.data .str a p) ∧ (σ.lose k).opd y = some (.data .str b q)) := by
      simp only [eff, hop] at hne
      revert hne
      split <;> intro hne
      · exact .inl ⟨_, _, _, _, _, _, by assumption, by assumption⟩
      · exact .inr ⟨_, _, _, _, by assumption, by assumption⟩
      all_goals
        exfalso
        revert hne
        (repeat' split) <;> intro hne <;> first | exact hne rfl | (simp_all; done)
    rcases hd with ⟨i, a, p, j, b, q, h1, h2⟩ | ⟨a, p, b, q, h1, h2⟩
    · obtain ⟨p', h1'⟩ := lose_data h1
      obtain ⟨q', h2'⟩ := lose_data h2
      left
      simp only [eff, hop, h1, h2, h1', h2'] at hne ⊢
      by_cases hij : i = j
      · rw [if_pos hij]
        exact ⟨_, rfl, by simp only [intBin]; rw [loseO_nil]⟩
      · rw [if_neg hij] at hne
        exact absurd rfl hne
    · obtain ⟨p', h1'⟩ := lose_data h1
      obtain ⟨q', h2'⟩ := lose_data h2
      right
      refine ⟨by simp only [eff, hop, h1, h2, h1', h2'], .inr (.inr (.inr ⟨a, b, ?_⟩))⟩
      simp only [eff, hop, h1', h2']
  all_goals simp [softOp, hop] at hs
def putA (d : Nat) (v : AVal) (S : St) : St := { S with env := upd S.env d (some v), tok := upd S.tok d true }
theorem lose_set (k : Option Nat) (d : Option Nat) (v : AVal) : (σ.set d v).lose k = (σ.lose k).set d (v.loseO k) := by
  cases k with
  | none => rfl
  | some k =>
    cases d with
    | none => rfl
    | some d =>
      unfold St.set St.lose
      simp only [St.mk.injEq, and_true]
      funext s
      unfold upd
      cases Nat.beq s d <;> rfl
theorem lose_put (k : Option Nat) (d : Nat) (v : AVal) (h : k ≠ some d) : (putA d v σ).lose k = putA d (v.loseO k) (σ.lose k) := by
  cases k with
  | none => rfl
  | some k =>
    unfold putA St.lose
    simp only [St.mk.injEq, and_true, true_and]
    constructor
    · funext s
      unfold upd
      cases Nat.beq s d <;> rfl
    · funext s
      unfold upd
      cases hb : Nat.beq s d with
      | false => rfl
      | true =>
        cases hc : Nat.beq s k with
        | false => rfl
        | true => exact absurd (by rw [← Nat.eq_of_beq_eq_true hb, ← Nat.eq_of_beq_eq_true hc]) h
theorem own_lose (k : Option Nat) {t : Ty} {x : t.den} {d : Nat} (h : k ≠ some d) : AVal.loseO k (.data t x [([], some d)]) = .data t x [([], some d)] := by
  cases k with
  | none => rfl
  | some k =>
    show AVal.data t x (Own.lose k _) = _
    have : Own.lose k [([], some d)] = [([], some d)] := by
      unfold Own.lose
      rw [List.filter_cons, if_pos (by simp only [bne_iff_ne]; exact fun e => h e.symm)]
      rfl
    rw [this]
theorem lose_row (k : Option Nat) (d T : Nat) (t : Ty) (l : List t.den) :
    ({ σ with env := upd σ.env d (some (.rowp d)), box := upd σ.box d (some ⟨T, .slice t, l, [], true⟩) } : St).lose k = { σ.lose k with env := upd (σ.lose k).env d (some (.rowp d)), box := upd (σ.lose k).box d (some ⟨T, .slice t, l, [], true⟩) } := by
  cases k with
  | none => rfl
  | some k =>
    simp only [St.lose, St.mk.injEq, and_true]
    refine ⟨?_, ?_⟩
    · funext s
      by_cases h : s = d
      · subst h; simp only [upd_same]; rfl
      · simp only [upd_other _ _ _ _ h]
    · funext s
      by_cases h : s = d
      · subst h; simp only [upd_same]; rfl
      · simp only [upd_other _ _ _ _ h]
theorem soft_step {o : Oper} {k : Option Nat} {S : St} (hs : softOp o (foot o (σ.lose k)) = true) (hk : ∀ d, o.dst = some d → k ≠ some d) (h : stepO Γ o (σ.lose k) = some S) : ∃ σ', stepO Γ o σ = some σ' ∧ σ'.lose k = S := by
  have hne := stepO_ne h
  unfold stepO at h ⊢
  rcases eff_lose hs hne with ⟨v, e1, e2⟩ | ⟨e, ⟨c, v, e1, e2⟩ | ⟨t, l, e1⟩ | ⟨T, t, l, e1⟩ | ⟨sa, sb, e1⟩⟩
  · rw [e1]
    rw [e2] at h
    simp only [Eff.runK, Option.some.injEq] at h ⊢
    exact ⟨_, rfl, by rw [lose_set]; exact h⟩
  · rw [e, e1] at h
    rw [e1]
    cases c with
    | false => simp [Eff.runK, Lift.chk] at h
    | true =>
      simp only [Eff.runK, Lift.chk, cond_true, Option.some.injEq] at h ⊢
      exact ⟨_, rfl, by rw [lose_set, e2]; exact h⟩
  · rw [e, e1] at h
    rw [e1]
    simp only [Eff.runK] at h ⊢
    cases hd : o.dst with
    | none => rw [hd] at h; cases h
    | some d =>
      rw [hd] at h
      have hkd := hk d hd
      simp only at h ⊢
      split at h
      · rename_i hb ht
        rw [(lose_box k d).1 hb, show σ.tok d = false by rw [← lose_tok k d hkd]; exact ht]
        simp only [Lift.chk, cond_true, Option.some.injEq] at h ⊢
        refine ⟨_, rfl, ?_⟩
        rw [← h]
        have := lose_put (σ := σ) k d (.data (.slice t) l [([], some d)]) hkd
        rw [own_lose k hkd] at this
        exact this
      · cases h
  · rw [e, e1] at h
    rw [e1]
    simp only [Eff.runK] at h ⊢
    cases hd : o.dst with
    | none => rw [hd] at h; cases h
    | some d =>
      rw [hd] at h
      have hkd := hk d hd
      simp only at h ⊢
      split at h
      · rename_i hb ht
        rw [(lose_box k d).1 hb, show σ.tok d = false by rw [← lose_tok k d hkd]; exact ht]
        simp only [Lift.chk, cond_true, Option.some.injEq] at h ⊢
        refine ⟨_, rfl, ?_⟩
        rw [← h]
        exact lose_row k d T t l
      · cases h
  · rw [e, e1] at h
    rw [e1]
    simp only [Eff.runK] at h ⊢
    obtain ⟨r, hr, h⟩ := Option.bind_eq_some_iff.1 h
    simp only [Option.some.injEq] at h
    refine ⟨_, by rw [hr]; rfl, ?_⟩
    rw [lose_set, loseO_nil]
    exact h
theorem app_eff {o : Oper} (ha : appOp o = true) (hne : eff Γ o σ ≠ .fail) : ∃ e l m s, eff Γ o σ = .app e l m s ∧ foot o σ = .app s ∧ ∀ ρ : St, (∀ x ∈ o.op.operands.toList, ρ.opd x = σ.opd x) → eff Γ o ρ = eff Γ o σ ∧ foot o ρ = foot o σ := by
  cases hop : o.op
  case call c =>
    cases hcal : c.callee with
    | builtin b =>
      cases b
      case append =>
        have hf : ∀ ρ : St, (∀ x ∈ o.op.operands.toList, ρ.opd x = σ.opd x) → foot o ρ = foot o σ := fun ρ hρ => foot_same hρ
        rw [hop] at hf
        cases hl : c.args.toList with
        | nil => simp only [eff, hop, hcal, hl] at hne; exact absurd rfl hne
        | cons x xs =>
          cases xs with
          | nil => simp only [eff, hop, hcal, hl] at hne; exact absurd rfl hne
          | cons y ys =>
            cases ys with
            | cons _ _ => simp only [eff, hop, hcal, hl] at hne; exact absurd rfl hne
            | nil =>
              cases hat : c.argTypes.toList with
              | nil => simp only [eff, hop, hcal, hl, hat] at hne; exact absurd rfl hne
              | cons T Ts =>
                cases Ts with
                | nil => simp only [eff, hop, hcal, hl, hat] at hne; exact absurd rfl hne
                | cons U Us =>
                  cases Us with
                  | cons _ _ => simp only [eff, hop, hcal, hl, hat] at hne; exact absurd rfl hne
                  | nil =>
                    have mx : x ∈ (Op.call c).operands.toList := by simp only [Op.operands, Call.operands, hcal]; simpa using (show x ∈ c.args.toList by rw [hl]; simp)
                    have my : y ∈ (Op.call c).operands.toList := by simp only [Op.operands, Call.operands, hcal]; simpa using (show y ∈ c.args.toList by rw [hl]; simp)
                    have hsame : ∀ ρ : St, (∀ z ∈ (Op.call c).operands.toList, ρ.opd z = σ.opd z) → eff Γ o ρ = eff Γ o σ ∧ foot o ρ = foot o σ := fun ρ hρ =>
                      ⟨by simp only [eff, hop, hcal, hl, hat, hρ x mx, hρ y my], hf ρ hρ⟩
                    have hkey : ∃ e l m s t z ow, eff Γ o σ = .app e l m s ∧ σ.opd x = some (.data t z ow) ∧ ownTop ow = some s := by
                      simp only [eff, hop, hcal, hl, hat] at hne ⊢
                      revert hne
                      cases hx : σ.opd x with
                      | none => intro hne; exact absurd rfl hne
                      | some v =>
                        cases v with
                        | data t z ow =>
                          cases t with
                          | slice e =>
                            cases hy : σ.opd y with
                            | none => intro hne; exact absurd rfl hne
                            | some w =>
                              cases w with
                              | data t' z' ow' =>
                                cases t' with
                                | slice e' =>
                                  simp only
                                  split
                                  · cases hm : castTy (.slice e') (.slice e) z' with
                                    | none => intro hne; exact absurd rfl hne
                                    | some m =>
                                      cases ht : ownTop ow with
                                      | none => intro hne; exact absurd rfl hne
                                      | some s => intro _; exact ⟨e, z, m, s, _, _, ow, rfl, rfl, ht⟩
                                  · intro hne; exact absurd rfl hne
                                | _ => intro hne; exact absurd rfl hne
                              | _ => intro hne; exact absurd rfl hne
                          | _ => intro hne; exact absurd rfl hne
                        | _ => intro hne; exact absurd rfl hne
                    obtain ⟨e, l, m, s, t, z, ow, h1, hx, h2⟩ := hkey
                    refine ⟨e, l, m, s, h1, ?_, hsame⟩
                    simp only [foot, hop, hcal, hl, hx, h2]
      all_goals simp [appOp, hop, hcal] at ha
    | _ => simp [appOp, hop, hcal] at ha
  all_goals simp [appOp, hop] at ha
theorem app_step {o : Oper} {σ1 : St} (ha : appOp o = true) (h : stepO Γ o σ = some σ1) : ∃ d v s, o.dst = some d ∧ σ1 = putA d v (σ.lose s) ∧ foot o σ = .app s ∧ (σ.lose s).box d = none ∧ (σ.lose s).tok d = false ∧
    ∀ ρ : St, (∀ x ∈ o.op.operands.toList, ρ.opd x = σ.opd x) → (ρ.lose s).box d = none → (ρ.lose s).tok d = false → stepO Γ o ρ = some (putA d v (ρ.lose s)) ∧ foot o ρ = foot o σ := by
  obtain ⟨e, l, m, s, h1, h2, h3⟩ := app_eff ha (stepO_ne h)
  unfold stepO at h
  rw [h1] at h
  simp only [Eff.runK] at h
  cases hd : o.dst with
  | none => rw [hd] at h; cases h
  | some d =>
    rw [hd] at h
    simp only at h
    split at h
    · rename_i hb ht
      obtain ⟨r, hr, h⟩ := Option.bind_eq_some_iff.1 h
      simp only [Option.some.injEq] at h
      refine ⟨d, .data (.slice e) r [([], some d)], s, rfl, h.symm, h2, hb, ht, fun ρ hρ hb' ht' => ?_⟩
      obtain ⟨e1, e2⟩ := h3 ρ hρ
      refine ⟨?_, e2⟩
      unfold stepO
      rw [e1, h1, hd]
      simp only [Eff.runK]
      rw [hb', ht']
      simp only
      rw [hr]
      rfl
    · cases h
theorem soft_calm {o : Oper} {f : Foot} (h : softOp o f = true) : calm o = true := by
  cases hop : o.op <;> first | (simp [softOp, hop] at h; done) | (simp only [calm, hop])
theorem soft_other {o : Oper} {f : Foot} (h : softOp o .other = true) : softOp o f = true := by
  unfold softOp at h ⊢
  revert h
  cases o.op with
  | move x => cases x <;> intro h <;> first | exact h | cases h
  | binOp op => cases op <;> intro h <;> first | exact h | cases h
  | _ => intro h; first | exact h | cases h
theorem put_opd {d : Nat} {v : AVal} {x : Operand} (h : x ≠ .tmp d) : (putA d v σ).opd x = σ.opd x := by
  cases x with
  | tmp s => exact upd_other _ _ _ _ fun e => h (by rw [e])
  | const c => exact opd_const _ (fun s h => by cases h)
  | _ => exact opd_const _ (fun s h => by cases h)
theorem foot_lose {o : Oper} {k : Option Nat} (hs : softOp o (foot o (σ.lose k)) = true) : foot o σ = foot o (σ.lose k) := by
  cases hop : o.op
  case move x => simp only [foot, hop]
  case buildSlice t n ps => simp only [foot, hop]
  case fieldAddr s x f => simp only [foot, hop]
  case slice T x lo hi mx => simp only [foot, hop]
  case binOp op T x y U => simp only [foot, hop]
  case load t x =>
    simp only [softOp, hop, foot] at hs ⊢
    revert hs
    cases hx : (σ.lose k).opd x with
    | none => intro hs; cases hs
    | some v =>
      cases v with
      | data u y p =>
        obtain ⟨p', hx'⟩ := lose_data hx
        intro _
        rw [hx']
      | bptr b p =>
        intro _
        rw [lose_bptr hx]
      | _ => intro hs; cases hs
  case indexAddr T x i =>
    simp only [softOp, hop, foot] at hs ⊢
    revert hs
    cases hx : (σ.lose k).opd x with
    | none => intro hs; cases hs
    | some v =>
      cases v with
      | data u y p =>
        obtain ⟨p', hx'⟩ := lose_data hx
        intro _
        rw [hx']
      | _ => intro hs; cases hs
  all_goals simp [softOp, hop] at hs
theorem gEq_iff {a b : Oper} (h : gEq a b = true) : a.guard = b.guard := by
  unfold gEq at h
  split at h
  · rename_i h1 h2; rw [h1, h2]
  · rename_i i x j y h1 h2
    simp only [Bool.and_eq_true, beq_iff_eq] at h
    rw [h1, h2, Nat.eq_of_beq_eq_true h.1, h.2]
  · cases h
theorem wanted_guard {a b : Oper} (h : a.guard = b.guard) : wantedA all a σ = wantedA all b σ := by
  unfold wantedA; rw [h]
theorem wanted_lose (o : Oper) (k : Option Nat) : wantedA all o (σ.lose k) = wantedA all o σ := by
  unfold wantedA
  cases o.guard with
  | none => rfl
  | some g =>
    obtain ⟨j, w⟩ := g
    simp only
    cases slotAt all j with
    | none => rfl
    | some d =>
      simp only
      rw [lose_env]
      cases σ.env d with
      | none => rfl
      | some v =>
        cases v with
        | data t x own =>
          obtain ⟨o', e⟩ := loseO_data k (t := t) (x := x) (o := own)
          simp only [Option.map_some, e]
          cases t <;> rfl
        | _ => cases k <;> rfl
theorem wanted_put {o : Oper} {d : Nat} {v : AVal} (h : d ∉ reads all o) : wantedA all o (putA d v σ) = wantedA all o σ := by
  refine wanted_same fun s hs => ?_
  show upd σ.env d (some v) s = _
  exact upd_other _ _ _ _ fun e => h (by rw [← e]; exact hs)
theorem wanted_set {o : Oper} {d : Option Nat} {v : AVal} (h : ∀ s, d = some s → s ∉ reads all o) : wantedA all o (σ.set d v) = wantedA all o σ :=
  wanted_same fun s hs => set_env_other σ d v s fun e => h s e hs
theorem set_comm {d e : Option Nat} {v u : AVal} (h : ∀ s, d = some s → e ≠ some s) : (σ.set d v).set e u = (σ.set e u).set d v := by
  cases d with
  | none => rfl
  | some d =>
    cases e with
    | none => rfl
    | some e =>
      unfold St.set
      simp only [St.mk.injEq, and_true]
      funext s
      by_cases h1 : s = d
      · subst h1
        rw [upd_other _ _ _ _ (fun k => h s rfl (by rw [k]) : s ≠ e), upd_same, upd_same]
      · by_cases h2 : s = e
        · subst h2; rw [upd_same, upd_other _ _ _ _ h1, upd_same]
        · rw [upd_other _ _ _ _ h2, upd_other _ _ _ _ h1, upd_other _ _ _ _ h1, upd_other _ _ _ _ h2]
theorem foot_set {o : Oper} {d : Option Nat} {v : AVal} (h : ∀ s, d = some s → s ∉ reads all o) : foot o (σ.set d v) = foot o σ :=
  foot_same fun x hx => opd_same fun s hs => set_env_other σ d v s fun e => h s e (mem_reads (by rw [← hs]; exact hx))
theorem swap_guard {a b : Oper} {σ1 σ2 : St} (hg : a.guard = b.guard) (hd1 : ∀ s, a.dst = some s → s ∉ reads all b ∧ b.dst ≠ some s) (hd2 : ∀ s, b.dst = some s → s ∉ reads all a)
    (ha : stepG Γ all a σ = some σ1) (hb : stepG Γ all b σ1 = some σ2)
    (core : stepO Γ a σ = some σ1 → (∀ o : Oper, a.guard = o.guard → (∀ s, a.dst = some s → s ∉ reads all o) → wantedA all o σ1 = wantedA all o σ) ∧
      (stepO Γ b σ1 = some σ2 → ∃ σ1', stepO Γ b σ = some σ1' ∧ stepO Γ a σ1' = some σ2 ∧ foot b σ = foot b σ1 ∧ foot a σ1' = foot a σ ∧ wantedA all a σ1' = wantedA all a σ)) :
    ∃ σ1', stepG Γ all b σ = some σ1' ∧ stepG Γ all a σ1' = some σ2 ∧ foot b σ = foot b σ1 ∧ foot a σ1' = foot a σ := by
  unfold stepG at ha
  cases hw : wantedA all a σ with
  | none => rw [hw] at ha; cases ha
  | some c =>
    rw [hw] at ha
    have hwb : wantedA all b σ = some c := by rw [← wanted_guard hg]; exact hw
    cases c with
    | true =>
      simp only at ha
      obtain ⟨hc1, hc2⟩ := core ha
      have hwb1 : wantedA all b σ1 = some true := by rw [hc1 b hg fun s hs => (hd1 s hs).1]; exact hwb
      unfold stepG at hb
      rw [hwb1] at hb
      obtain ⟨σ1', k1, k2, k3, k4, k5⟩ := hc2 hb
      refine ⟨σ1', ?_, ?_, k3, k4⟩
      · unfold stepG; rw [hwb]; exact k1
      · unfold stepG; rw [k5, hw]; exact k2
    | false =>
      simp only [Option.some.injEq] at ha
      subst ha
      have hwb1 : wantedA all b (σ.set a.dst .undef) = some false := by rw [wanted_set fun s hs => (hd1 s hs).1]; exact hwb
      unfold stepG at hb
      rw [hwb1] at hb
      simp only [Option.some.injEq] at hb
      subst hb
      refine ⟨σ.set b.dst .undef, by unfold stepG; rw [hwb], ?_, (foot_set (all := all) fun s hs => (hd1 s hs).1).symm, foot_set (all := all) hd2⟩
      unfold stepG
      rw [wanted_set hd2, hw]
      simp only [Option.some.injEq]
      exact (set_comm fun s hs => (hd1 s hs).2).symm
theorem swapA {a b : Oper} {i j : Nat} {lg : Log} {σ1 σ2 : St} (hap : apartA all lg i j a b = true) (ha : stepG Γ all a σ = some σ1) (hb : stepG Γ all b σ1 = some σ2)
    (hfa : ∀ f, (i, f) ∈ lg → f = foot a σ) (hfb : ∀ f, (j, f) ∈ lg → f = foot b σ1) :
    ∃ σ1', stepG Γ all b σ = some σ1' ∧ stepG Γ all a σ1' = some σ2 ∧ foot b σ = foot b σ1 ∧ foot a σ1' = foot a σ := by
  unfold apartA at hap
  simp only [Bool.and_eq_true] at hap
  obtain ⟨⟨⟨⟨⟨hop, hge⟩, hso⟩, hd1⟩, hd2⟩, hlog⟩ := hap
  rw [disjointB_iff] at hd1 hd2
  have hd1 : ∀ s, a.dst = some s → s ∉ reads all b ∧ b.dst ≠ some s := fun s hs =>
    ⟨fun hm => hd1 s (by rw [hs]; simp) (List.mem_append_left _ hm), fun e => hd1 s (by rw [hs]; simp) (List.mem_append_right _ (by rw [e]; simp))⟩
  have hd2 : ∀ s, b.dst = some s → s ∉ reads all a := fun s hs hm => hd2 s (by rw [hs]; simp) hm
  refine swap_guard (gEq_iff hge) hd1 hd2 ha hb fun ha => ?_
  obtain ⟨d, v, s, had, rfl, hfa', hbx, htk, hA⟩ := app_step hop ha
  refine ⟨fun o _ ho => by rw [wanted_put (ho d had), wanted_lose], fun hb => ?_⟩
  have hks : ∀ d2, b.dst = some d2 → s ≠ some d2 := fun d2 hd2' e => by
    have e1 : logAt lg i ≠ .other := fun e => by rw [e] at hlog; cases hlog
    have e2 := hfa _ (logAt_mem e1)
    rw [e2, hfa', hd2'] at hlog
    simp only [Option.toList, List.any_cons, List.any_nil, Bool.or_false, Bool.not_eq_true'] at hlog
    rw [e] at hlog
    simp at hlog
  have hso1 : softOp b (foot b (putA d v (σ.lose s))) = true := by
    cases hlj : logAt lg j with
    | other =>
      rw [hlj] at hso
      exact soft_other hso
    | _ =>
      have e1 : logAt lg j ≠ .other := fun e => by rw [hlj] at e; cases e
      have e2 := hfb _ (logAt_mem e1)
      rw [← e2]; exact hso
  have ero : ∀ x ∈ b.op.operands.toList, (putA d v (σ.lose s)).opd x = (σ.lose s).opd x := fun x hx => put_opd fun e => (hd1 d had).1 (mem_reads (by rw [← e]; exact hx))
  have efb : foot b (putA d v (σ.lose s)) = foot b (σ.lose s) := foot_same ero
  have hso2 : softOp b (foot b (σ.lose s)) = true := by rw [← efb]; exact hso1
  have hcal := soft_calm hso1
  obtain ⟨u, fu, uok, hu, hU⟩ := stepO_up (.inl hcal) hb
  have hbt : stepO Γ b (σ.lose s) = some (u.app (σ.lose s)) := by
    refine hU _ ?_ fun e he => ?_
    · refine eff_le ⟨fun x hx => .inr (ero x hx).symm, fun x hx t p ht B hB => ?_, fun x hx t ht hf B hB => hB⟩ (stepO_ne hb)
      have hB' : (σ.lose s).box t = some B := hB
      rw [hB']; rfl
    · obtain ⟨k1, k2⟩ := uok e he
      refine ⟨k1, ?_⟩
      have hne : e ≠ d := fun h => (hd1 d had).2 (by rw [← h]; exact fu.need e he)
      have : (putA d v (σ.lose s)).tok e = (σ.lose s).tok e := upd_other _ _ _ _ hne
      rw [← this]; exact k2
  obtain ⟨σ', hb', hl'⟩ := soft_step hso2 hks hbt
  refine ⟨σ', hb', ?_, ?_, ?_, ?_⟩
  · obtain ⟨w, fw, wok, hw, _⟩ := stepO_up (.inl hcal) hb'
    have aro : ∀ x ∈ a.op.operands.toList, σ'.opd x = σ.opd x := fun x hx => opd_same fun t ht => by
      rw [hw]
      exact updO_other fun z hz => hd2 t (fw.e t z hz) (mem_reads (by rw [← ht]; exact hx))
    have h1 : (σ'.lose s).box d = none := by
      rw [hl']
      show updO (σ.lose s).box u.b d = none
      rcases updO_cases (σ.lose s).box u.b d with ⟨z, hz, e⟩ | ⟨_, e⟩
      · obtain ⟨_, hc⟩ := fu.b d z hz
        rcases hc with ⟨q1, _⟩ | ⟨_, q2, _⟩
        · exact absurd q1 (hd1 d had).2
        · rw [hcal] at q2; cases q2
      · rw [e]; exact hbx
    have h2 : (σ'.lose s).tok d = false := by
      rw [hl']
      show updO (σ.lose s).tok u.k d = false
      rcases updO_cases (σ.lose s).tok u.k d with ⟨z, hz, e⟩ | ⟨_, e⟩
      · exact absurd (fu.k d z hz).1 (hd1 d had).2
      · rw [e]; exact htk
    rw [(hA σ' aro h1 h2).1, hl', hu]
    unfold Up.app putA
    simp only [Option.some.injEq, St.mk.injEq, and_true, true_and]
    have c1 : upd (updO (σ.lose s).env u.e) d (some v) = updO (upd (σ.lose s).env d (some v)) u.e :=
      (updO_comm (f := (σ.lose s).env) (u := u.e) (v := some (d, some v)) fun t x y hx hy => by
        cases hy
        exact absurd (fu.e d x hx) (hd1 d had).2)
    have c3 : upd (updO (σ.lose s).tok u.k) d true = updO (upd (σ.lose s).tok d true) u.k :=
      (updO_comm (f := (σ.lose s).tok) (u := u.k) (v := some (d, true)) fun t x y hx hy => by
        cases hy
        exact absurd (fu.k d x hx).1 (hd1 d had).2)
    exact ⟨c1, c3⟩
  · rw [foot_lose hso2, efb]
  · obtain ⟨w, fw, wok, hw, _⟩ := stepO_up (.inl hcal) hb'
    exact foot_same fun x hx => opd_same fun t ht => by
      rw [hw]
      exact updO_other fun z hz => hd2 t (fw.e t z hz) (mem_reads (by rw [← ht]; exact hx))
  · obtain ⟨w, fw, wok, hw, _⟩ := stepO_up (.inl hcal) hb'
    exact wanted_same fun t ht => by
      rw [hw]
      exact updO_other fun z hz => hd2 t (fw.e t z hz) ht
theorem soft_val {o : Oper} {k : Option Nat} {σ1 : St} (hs : softB o (foot o σ) = true) (h : stepO Γ o σ = some σ1) : ∃ v, σ1 = σ.set o.dst v ∧ ∀ ρ : St, (∀ x ∈ o.op.operands.toList, ρ.opd x = (σ.lose k).opd x) → stepO Γ o ρ = some (ρ.set o.dst (v.loseO k)) ∧ foot o ρ = foot o σ := by
  unfold stepO at h ⊢
  cases hop : o.op
  case move x =>
    cases x with
    | tmp s =>
      simp only [eff, hop] at h
      cases hx : σ.opd (.tmp s) with
      | none => rw [hx] at h; cases h
      | some v =>
        rw [hx] at h
        simp only [ofOpt, Eff.runK, Option.some.injEq] at h
        refine ⟨v, h.symm, fun ρ hρ => ?_⟩
        have e := hρ (.tmp s) (by simp [hop, Op.operands])
        rw [lose_opd, hx] at e
        simp only [eff, hop, e, foot]
        exact ⟨rfl, trivial⟩
    | _ => simp [softB, hop] at hs
  case load t x =>
    have hd : ∃ u y p, σ.opd x = some (.data u y p) := by
      simp only [softB, hop, foot] at hs
      revert hs
      cases hx : σ.opd x with
      | none => intro hs; cases hs
      | some v => cases v <;> intro hs <;> first | exact ⟨_, _, _, rfl⟩ | cases hs
    obtain ⟨u, y, p, hx⟩ := hd
    obtain ⟨p', he⟩ := loseO_data k (t := u) (x := y) (o := p)
    have hmem : x ∈ (Op.load t x).operands.toList := by simp [Op.operands]
    simp only [eff, hop, hx] at h
    revert h
    cases hT : Γ.ty t with
    | none => intro h; cases u <;> cases h
    | some w =>
      cases u with
      | ptr t' =>
        simp only
        cases hc : castTy t' w y with
        | none => intro h; cases h
        | some v =>
          intro h
          simp only [ofOpt, Option.map_some, Eff.runK, Option.some.injEq] at h
          refine ⟨_, h.symm, fun ρ hρ => ?_⟩
          have e := hρ x (by simp [hop, Op.operands])
          rw [lose_opd, hx, Option.map_some, he] at e
          simp only [eff, hop, e, foot, hx, hT, hc, loseO_nil]
          exact ⟨rfl, trivial⟩
      | _ => intro h; cases h
  all_goals simp [softB, hop] at hs
theorem softB_other {o : Oper} {f : Foot} (h : softB o .other = true) : softB o f = true := by
  unfold softB at h ⊢
  split
  · rfl
  · rename_i hop
    rw [hop] at h
    cases h
  · rename_i hn1 hn2
    split at h
    · rename_i hop; exact absurd hop (hn1 _)
    · cases h
    · cases h
theorem swapB {a b : Oper} {i : Nat} {lg : Log} {σ1 σ2 : St} (hap : apartB all lg i a b = true) (ha : stepG Γ all a σ = some σ1) (hb : stepG Γ all b σ1 = some σ2)
    (hfa : ∀ f, (i, f) ∈ lg → f = foot a σ) :
    ∃ σ1', stepG Γ all b σ = some σ1' ∧ stepG Γ all a σ1' = some σ2 ∧ foot b σ = foot b σ1 ∧ foot a σ1' = foot a σ := by
  unfold apartB at hap
  simp only [Bool.and_eq_true] at hap
  obtain ⟨⟨⟨⟨hop, hge⟩, hso⟩, hd1⟩, hd2⟩ := hap
  rw [disjointB_iff] at hd1 hd2
  have hd1 : ∀ s, a.dst = some s → s ∉ reads all b ∧ b.dst ≠ some s := fun s hs =>
    ⟨fun hm => hd1 s (by rw [hs]; simp) (List.mem_append_left _ hm), fun e => hd1 s (by rw [hs]; simp) (List.mem_append_right _ (by rw [e]; simp))⟩
  have hd2 : ∀ s, b.dst = some s → s ∉ reads all a := fun s hs hm => hd2 s (by rw [hs]; simp) hm
  have hso1 : softB a (foot a σ) = true := by
    cases hlj : logAt lg i with
    | other =>
      rw [hlj] at hso
      exact softB_other hso
    | _ =>
      have e1 : logAt lg i ≠ .other := fun e => by rw [hlj] at e; cases e
      have e2 := hfa _ (logAt_mem e1)
      rw [← e2]; exact hso
  refine swap_guard (gEq_iff hge) hd1 hd2 ha hb fun ha => ?_
  obtain ⟨v0, rfl, _⟩ := soft_val (k := none) hso1 ha
  refine ⟨fun o _ ho => wanted_set ho, fun hb => ?_⟩
  obtain ⟨d, v, s, hbd, rfl, hfb, hbx, htk, hB⟩ := app_step hop hb
  obtain ⟨v1, e1, hv⟩ := soft_val (k := s) hso1 ha
  have opb : ∀ x ∈ b.op.operands.toList, σ.opd x = (σ.set a.dst v0).opd x := fun x hx => opd_same fun t ht => (set_env_other σ a.dst v0 t fun e => (hd1 t e).1 (mem_reads (by rw [← ht]; exact hx))).symm
  have hbx' : (σ.lose s).box d = none := by
    rw [lose_box] at hbx ⊢
    rwa [set_box] at hbx
  have htk' : (σ.lose s).tok d = false := by
    rw [lose_set, set_tok] at htk
    exact htk
  obtain ⟨k1, k2⟩ := hB σ opb hbx' htk'
  have opa : ∀ x ∈ a.op.operands.toList, (putA d v (σ.lose s)).opd x = (σ.lose s).opd x := fun x hx => put_opd fun e => hd2 d hbd (mem_reads (by rw [← e]; exact hx))
  obtain ⟨m1, m2⟩ := hv _ opa
  refine ⟨_, k1, ?_, k2, m2, by rw [wanted_put (hd2 d hbd), wanted_lose]⟩
  rw [m1, e1, lose_set]
  congr 1
  unfold putA St.set
  cases hda : a.dst with
  | none => rfl
  | some e =>
    have hne : e ≠ d := fun h => (hd1 e hda).2 (by rw [h]; exact hbd)
    simp only [St.mk.injEq, and_true]
    funext t
    by_cases h1 : t = d
    · subst h1
      rw [upd_same, upd_other _ _ _ _ (Ne.symm hne), upd_same]
    · rw [upd_other _ _ _ _ h1]
      by_cases h2 : t = e
      · subst h2; rw [upd_same, upd_same]
      · rw [upd_other _ _ _ _ h2, upd_other _ _ _ _ h2, upd_other _ _ _ _ h1]
theorem swap {a b : Oper} {i j : Nat} {lg : Log} {σ1 σ2 : St} (hap : apart all lg i j a b = true) (ha : stepG Γ all a σ = some σ1) (hb : stepG Γ all b σ1 = some σ2)
    (hfa : ∀ f, (i, f) ∈ lg → f = foot a σ) (hfb : ∀ f, (j, f) ∈ lg → f = foot b σ1) (hpt : PT b σ) :
    ∃ σ1', stepG Γ all b σ = some σ1' ∧ stepG Γ all a σ1' = some σ2 ∧ foot b σ = foot b σ1 ∧ foot a σ1' = foot a σ := by
  unfold apart at hap
  rw [Bool.or_eq_true, Bool.or_eq_true] at hap
  rcases hap with (h | h) | h
  · exact swap0 h ha hb hfa hfb hpt
  · exact swapA h ha hb hfa hfb
  · exact swapB h ha hb hfa
end Go.Lift
namespace Go.Lift
open Go Go.RowKit
variable [Tab] [Mf]
variable {P : Program} {Γ : Ctx} {base : Nat} {κ κ' : Nat → Option Nat} {M M' : Mem} {σ τ σ' τ' : St} {a a' : Act} {w w' : World} {all : List Oper}
theorem holds_refl (i : Nat) : Holds κ M w κ M w i := ⟨rfl, fun _ _ => ⟨rfl, fun _ => rfl⟩⟩
theorem rel_wk (hR : Rel P base κ M σ a w) (h : Wk τ σ) : Rel P base κ M τ a w := by
  refine ⟨fun s v hs => ?_, fun b B hb => ?_, hR.good, hR.inj, hR.kap, h.dis, hR.low⟩
  · have := hR.env s v (h.env s v hs)
    rw [h.box] at this
    exact this.turn (Mem.le_refl M) (fun _ _ => rfl) (fun i _ hi => ⟨h.tok i hi, holds_refl i⟩) (fun i B _ hB => ⟨B, hB, Alike.refl B⟩)
  · exact (hR.bx b B (by rw [h.box]; exact hb)).turn (Mem.le_refl M) (holds_refl b) (fun _ k _ hk => ⟨h.tok k hk, holds_refl k⟩)
theorem fr_wk {W : List Nat} (h : Fr base W κ M σ a w κ' M' σ' a' w') (hw : Wk τ' σ') : Fr base W κ M σ a w κ' M' τ' a' w' :=
  ⟨h.below, h.le, h.mem, h.size, h.defers, h.tmps, fun i hi hd => h.ids i hi (by rw [hw.dirty]; exact hd), fun i hi B' hB' => h.bx i hi B' (by rw [hw.box]; exact hB'), h.oth, h.same⟩
theorem rel_drew (hR : Rel P base κ M σ a w) : Rel P base κ M σ a { w with drawn := w.drawn + 1 } :=
  ⟨hR.env, hR.bx, ⟨Tab.keep (w := w) (Mem.le_refl M) (fun _ c _ fr h => ⟨c, fr, h, rfl⟩) hR.good.1, hR.good.2⟩, hR.inj, hR.kap, hR.dis, hR.low⟩
theorem fr_drew {W : List Nat} : Fr base W κ M σ a w κ M σ a { w with drawn := w.drawn + 1 } :=
  ⟨⟨rfl, rfl, rfl, Nat.le_refl _, fun _ _ => rfl⟩, Mem.le_refl _, fun _ _ => rfl, rfl, .of_eq rfl, fun _ _ => rfl, fun _ _ h => ⟨h, rfl, fun _ _ => ⟨rfl, fun _ => rfl⟩⟩, fun _ _ B h => ⟨rfl, B, h, Alike.refl B⟩, fun _ _ h _ => h, .of (fun _ _ _ => rfl) (fun i _ h => .inl ⟨i, h⟩) fun _ _ _ => rfl⟩
theorem wanted_of {ops : Array Oper} {o : Oper} {b : Bool} (hR : Rel P base κ M σ a w) (h : wantedA ops.toList o σ = some b) : Region.wanted o (yielded ops a.tmps) = b := by
  unfold wantedA at h
  unfold Region.wanted
  cases hg : o.guard with
  | none => rw [hg] at h; simpa using h
  | some jw =>
    obtain ⟨j, want⟩ := jw
    rw [hg] at h
    simp only at h ⊢
    split at h
    · rename_i d hd
      have hd' : (ops[j]?).bind (·.dst) = some d := by
        unfold slotAt at hd
        rwa [Array.getElem?_toList] at hd
      have key : ∀ v, a.tmps.getD d undef = v → v ≠ undef → a.tmps[d]? = some v := fun v hv hne => by
        rw [Array.getD_eq_getD_getElem?] at hv
        cases he : a.tmps[d]? with
        | none => rw [he] at hv; exact absurd hv.symm hne
        | some u => rw [he] at hv; simp only [Option.getD_some] at hv; rw [hv]
      split at h
      · rename_i c ow he
        have hv := hR.env d _ he
        have hv := relV_bool.1 hv.1
        have ht := key _ hv (by unfold undef; simp)
        unfold yielded
        rw [hd', Option.bind_some, ht]
        simp only [Option.some.injEq] at h
        rw [← h]
        cases c <;> cases want <;> rfl
      · rename_i he
        have hv : a.tmps.getD d undef = undef := hR.env d _ he
        simp only [Option.some.injEq] at h
        subst h
        unfold yielded
        rw [hd', Option.bind_some]
        rw [Array.getD_eq_getD_getElem?] at hv
        cases he : a.tmps[d]? with
        | none => rfl
        | some u =>
          rw [he] at hv
          simp only [Option.getD_some] at hv
          subst hv
          rfl
      · cases h
    · cases h
theorem wpOp_some {F : Fence} {n : Nat} {ops : Array Oper} {Q : Exit → Act → World → Prop} {i : Nat} {o : Oper} {K : Act → World → Prop} (hi : ops[i]? = some o)
    (h : if Region.wanted o (yielded ops a.tmps) then o.wpIn F n P a w K Q else (∀ f, o.about P w a.eval = some f → F.fn f) ∧ K (a.put o.dst undef) w) : wpOpIn F n P ops Q i K a w := by
  unfold wpOpIn
  simp only [hi]
  exact h
theorem step_guard (hC : COk P Γ) (hR : Rel P base κ M σ a w) {ops : Array Oper} {i : Nat} {o : Oper} (hi : ops.toList[i]? = some o) (hd : ∀ d, o.dst = some d → d < a.tmps.size)
    (h : stepG Γ ops.toList o σ = some σ') {F : Fence} (hF : Open F) {n : Nat} {K : Act → World → Prop} {Q : Exit → Act → World → Prop}
    (hK : ∀ κ' M' a' w', Rel P base κ' M' σ' a' w' → Fr base o.dst.toList κ M σ a w κ' M' σ' a' w' → K a' w') : wpOpIn F n P ops Q i K a w := by
  refine wpOp_some (o := o) (by rwa [Array.getElem?_toList] at hi) ?_
  unfold stepG at h
  split at h
  · rename_i hw
    rw [wanted_of hR hw, if_pos rfl]
    exact step_op hC hR hd h hF hK
  · rename_i hw
    rw [wanted_of hR hw, if_neg (by simp)]
    refine ⟨fun f _ => hF.fn f, ?_⟩
    simp only [Option.some.injEq] at h
    subst h
    exact hK κ M _ w (rel_set hR hd (v := .undef) rfl) fr_put
  · cases h
theorem dst_mem {i : Nat} {o : Oper} (hi : all[i]? = some o) : ∀ d, o.dst = some d → d ∈ dstsOf all := fun d hd =>
  List.mem_filterMap.2 ⟨o, List.mem_of_getElem? hi, hd⟩
theorem chain_text (hC : COk P Γ) {ops : Array Oper} {F : Fence} (hF : Open F) {n : Nat} {Q : Exit → Act → World → Prop} {lg : Log} :
    ∀ {l : List Nat} {κ : Nat → Option Nat} {M : Mem} {σ : St} {a : Act} {w : World}, Chain Γ ops.toList lg l σ τ → Rel P base κ M σ a w → (∀ d, d ∈ dstsOf ops.toList → d < a.tmps.size) →
    (∀ κ' M' a' w', Rel P base κ' M' τ a' w' → Fr base (dstsOf ops.toList) κ M σ a w κ' M' τ a' w' → Q .normal a' w') → wpOpsIn F n P ops Q l a w
  | [], κ, M, σ, a, w, hc, hR, _, hQ => by
    simp only [Chain] at hc
    subst hc
    simp only [wpOpsIn]
    exact hQ κ M a w hR Fr.refl
  | i :: l, κ, M, σ, a, w, ⟨o, σ1, h1, _, h3, h4⟩, hR, hsz, hQ => by
    rw [wpOpsIn_cons]
    refine step_guard hC hR h1 (fun d hd => hsz d (dst_mem h1 d hd)) h3 hF fun κ1 M1 a1 w1 hR1 hF1 => ?_
    refine chain_text hC hF h4 hR1 (fun d hd => by rw [hF1.size]; exact hsz d hd) fun κ2 M2 a2 w2 hR2 hF2 => ?_
    refine hQ κ2 M2 a2 w2 hR2 (hF1.trans hF2 (fun s hs => ?_) fun s hs => hs)
    exact dst_mem h1 s (by simpa using hs)
theorem apart_loose {x y : Oper} {i j : Nat} {lg : Log} (hap : apart0 all lg i j x y = true) (hf : ∀ f, (i, f) ∈ lg → f = foot x σ) : loose x := by
  unfold apart0 at hap
  simp only [Bool.and_eq_true, Bool.or_eq_true] at hap
  rcases hap.2 with ⟨h1, _⟩ | h
  · exact .inl h1
  · have e1 : logAt lg i ≠ .other := fun e => by rw [e] at h; simp [compat] at h
    exact foot_calm (σ := σ) (by rw [← hf _ (logAt_mem e1)]; exact e1) (fun s => by rw [← hf _ (logAt_mem e1)]; intro e; rw [e] at h; cases hh : logAt lg j <;> rw [hh] at h <;> simp [compat] at h) (by rw [← hf _ (logAt_mem e1)]; intro e; rw [e] at h; cases hh : logAt lg j <;> rw [hh] at h <;> simp [compat] at h)
theorem apart_dst {x y : Oper} {i j : Nat} {lg : Log} (hap : apart all lg i j x y = true) {s : Nat} (hs : x.dst = some s) : s ∉ reads all y := by
  have h : disjointB (x.dst.toList) (reads all y ++ y.dst.toList) = true := by
    unfold apart apart0 apartA apartB at hap
    simp only [Bool.and_eq_true, Bool.or_eq_true] at hap
    rcases hap with (h | h) | h
    · exact h.1.1
    · exact h.1.1.2
    · exact h.1.2
  have h := disjointB_iff.1 h
  exact fun hm => h s (by rw [hs]; simp) (List.mem_append_left _ hm)
theorem apart_pt {x y : Oper} {i j : Nat} {lg : Log} {σ1 : St} (hap : apart all lg i j x y = true) (hf : ∀ f, (i, f) ∈ lg → f = foot x σ) (h : stepG Γ all x σ = some σ1) (hpt : PT y σ) : PT y σ1 := by
  have hd := fun s hs => apart_dst hap (s := s) hs
  unfold apart at hap
  rw [Bool.or_eq_true, Bool.or_eq_true] at hap
  have skip : ∀ σ1 : St, (∃ v, σ1 = σ.set x.dst v) → PT y σ1 := by
    rintro _ ⟨v, rfl⟩ z hz t ht
    have e : (σ.set x.dst v).opd z = σ.opd z := opd_same fun s hs => set_env_other σ x.dst v s fun e => hd s e (mem_reads (by rw [← hs]; exact hz))
    rw [e] at ht
    rw [set_box]
    exact hpt z hz t ht
  rcases hap with (hap | hap) | hap
  rotate_left 2
  · unfold apartB at hap
    simp only [Bool.and_eq_true] at hap
    obtain ⟨⟨⟨⟨_, _⟩, hso⟩, _⟩, _⟩ := hap
    have hso1 : softB x (foot x σ) = true := by
      cases hlj : logAt lg i with
      | other => rw [hlj] at hso; exact softB_other hso
      | _ =>
        have e1 : logAt lg i ≠ .other := fun e => by rw [hlj] at e; cases e
        have e2 := hf _ (logAt_mem e1)
        rw [← e2]; exact hso
    unfold stepG at h
    split at h
    · obtain ⟨v, rfl, _⟩ := soft_val (k := none) hso1 h
      exact skip _ ⟨v, rfl⟩
    · simp only [Option.some.injEq] at h
      exact skip _ ⟨_, h.symm⟩
    · cases h
  · obtain ⟨u, fu, uok, hu, _⟩ := stepG_up (apart_loose hap hf) h
    intro z hz t ht
    have e : σ1.opd z = σ.opd z := opd_same fun s hs => by
      rw [hu]
      exact updO_other fun v hv => hd s (fu.e s v hv) (mem_reads (by rw [← hs]; exact hz))
    rw [e] at ht
    obtain ⟨B, hB⟩ := hpt z hz t ht
    rw [hu]
    rcases updO_cases σ.box u.b t with ⟨v, hv, e⟩ | ⟨_, e⟩
    · obtain ⟨⟨B', rfl⟩, _⟩ := fu.b t v hv
      exact ⟨B', e⟩
    · exact ⟨B, e.trans hB⟩
  · unfold apartA at hap
    simp only [Bool.and_eq_true] at hap
    obtain ⟨⟨⟨⟨⟨hop, _⟩, _⟩, _⟩, _⟩, _⟩ := hap
    unfold stepG at h
    split at h
    rotate_left
    · simp only [Option.some.injEq] at h
      exact skip _ ⟨_, h.symm⟩
    · cases h
    obtain ⟨d, v, s, hxd, rfl, _⟩ := app_step hop h
    intro z hz t ht
    have e : (putA d v (σ.lose s)).opd z = (σ.opd z).map (AVal.loseO s) := by
      rw [put_opd fun e => hd d hxd (mem_reads (by rw [← e]; exact hz)), lose_opd]
    rw [e] at ht
    have ht' : (∃ p, σ.opd z = some (.bptr t p)) ∨ σ.opd z = some (.rowp t) ∨ σ.opd z = some (.mapp t) := by
      cases hz' : σ.opd z with
      | none => rw [hz'] at ht; rcases ht with ⟨p, ht⟩ | ht | ht <;> cases ht
      | some w =>
        rw [hz'] at ht
        cases w with
        | data u q o =>
          obtain ⟨o', e⟩ := loseO_data s (t := u) (x := q) (o := o)
          simp only [Option.map_some, e] at ht
          rcases ht with ⟨p, ht⟩ | ht | ht <;> cases ht
        | _ => cases s <;> exact ht
    obtain ⟨B, hB⟩ := hpt z hz t ht'
    cases hb : (putA d v (σ.lose s)).box t with
    | some B' => exact ⟨B', rfl⟩
    | none =>
      have : σ.box t = none := (lose_box s t).1 hb
      rw [this] at hB; cases hB
theorem bubble {lg : Log} {i : Nat} {oi : Oper} (hi : all[i]? = some oi) {L2 : List Nat} : ∀ {L1 : List Nat} {σ : St}, (∀ k ∈ L1, ∀ ok, all[k]? = some ok → apart all lg k i ok oi = true) → PT oi σ →
    Chain Γ all lg (L1 ++ i :: L2) σ τ → Chain Γ all lg (i :: (L1 ++ L2)) σ τ
  | [], _, _, _, h => h
  | k :: L1, σ, hap, hpt, ⟨ok, σ1, h1, h2, h3, h4⟩ => by
    have hap1 := hap k (by simp) ok h1
    have hpt1 : PT oi σ1 := apart_pt hap1 h2 h3 hpt
    obtain ⟨oi', σ2, g1, g2, g3, g4⟩ := bubble hi (fun k hk => hap k (List.mem_cons_of_mem _ hk)) hpt1 h4
    rw [hi] at g1
    cases g1
    obtain ⟨σ1', s1, s2, s3, s4⟩ := swap hap1 h3 g3 h2 g2 hpt
    exact ⟨oi, σ1', hi, fun f hf => (g2 f hf).trans s3.symm, s1, ok, σ2, h1, fun f hf => (h2 f hf).trans s4.symm, s2, g4⟩
theorem pt_of (hR : Rel P base κ M σ a w) (o : Oper) : PT o σ := fun x _ t ht => by
  have key : ∀ s, x = .tmp s → ∃ B, σ.box t = some B := fun s hs => by
    subst hs
    rcases ht with ⟨p, ht⟩ | ht | ht
    · obtain ⟨B, _, _, hB, _⟩ := hR.env s _ ht
      exact ⟨B, hB⟩
    · obtain ⟨tid, e, l, own, g, cap, hB, _⟩ := hR.env s _ ht
      exact ⟨_, hB⟩
    · obtain ⟨tid, k, v, l, own, g, hB, _⟩ := hR.env s _ ht
      exact ⟨_, hB⟩
  cases x with
  | tmp s => exact key s rfl
  | const v =>
    exfalso
    unfold St.opd at ht
    split at ht <;> first | (rcases ht with ⟨_, ht⟩ | ht | ht <;> cases ht) | cases ‹Operand.const v = .tmp _› | cases ‹Operand.const v = .global _›
  | global g =>
    exfalso
    simp only [St.opd] at ht
    cases hv : gvar g with
    | none => rw [hv] at ht; rcases ht with ⟨_, ht⟩ | ht | ht <;> cases ht
    | some v => rw [hv] at ht; rcases ht with ⟨_, ht⟩ | ht | ht <;> cases ht
  | func g => rcases ht with ⟨_, ht⟩ | ht | ht <;> cases ht
theorem binds_any (e : Edge) : Region.binds .any e = bindsAll e := by
  unfold Region.binds bindsAll
  cases e.ground <;> rfl
theorem edgesOk_at : ∀ {l : List Oper} {i p : Nat} {o : Oper}, edgesOk i l = true → l[p]? = some o → ∀ e ∈ o.after, bindsAll e = true → e.on < i + p
  | [], _, _, _, _, h, _, _, _ => by simp at h
  | x :: l, i, p, o, h, hp, e, he, hb => by
    simp only [edgesOk, Bool.and_eq_true, List.all_eq_true, Bool.or_eq_true, Bool.not_eq_true', Nat.blt_eq] at h
    cases p with
    | zero =>
      simp only [List.getElem?_cons_zero, Option.some.injEq] at hp
      subst hp
      rcases h.1 e (by simpa using he) with h | h
      · rw [hb] at h; cases h
      · exact h
    | succ p =>
      simp only [List.getElem?_cons_succ] at hp
      have := edgesOk_at h.2 hp e he hb
      omega
theorem orderOkAt_at {lg : Log} {i : Nat} {x : Oper} : ∀ {r : List Oper} {ms : List Nat} {j q m : Nat} {y : Oper}, orderOkAt all lg i x j ms r = true → ms[q]? = some m → r[q]? = some y →
    m.testBit i = true ∨ apart all lg i (j + q) x y = true
  | [], _, _, _, _, _, _, _, h => by simp at h
  | _ :: _, [], _, _, _, _, _, h, _ => by simp at h
  | z :: r, m0 :: ms, j, q, m, y, h, hm, hy => by
    simp only [orderOkAt, Bool.and_eq_true, Bool.or_eq_true] at h
    cases q with
    | zero =>
      simp only [List.getElem?_cons_zero, Option.some.injEq] at hm hy
      subst hm hy
      exact h.1
    | succ q =>
      simp only [List.getElem?_cons_succ] at hm hy
      have := orderOkAt_at h.2 hm hy
      rwa [show j + 1 + q = j + (q + 1) by omega] at this
theorem orderOkFrom_at {lg : Log} : ∀ {r : List Oper} {ms : List Nat} {i p q m : Nat} {x y : Oper}, orderOkFrom all lg i ms r = true → p < q → ms[q]? = some m → r[p]? = some x → r[q]? = some y →
    m.testBit (i + p) = true ∨ apart all lg (i + p) (i + q) x y = true
  | [], _, _, _, _, _, _, _, _, _, _, h, _ => by simp at h
  | _ :: _, [], _, _, _, _, _, _, _, _, h, _, _ => by simp at h
  | z :: r, m0 :: ms, i, p, q, m, x, y, h, hpq, hm, hx, hy => by
    simp only [orderOkFrom, Bool.and_eq_true] at h
    obtain ⟨q, rfl⟩ : ∃ q', q = q' + 1 := ⟨q - 1, by omega⟩
    simp only [List.getElem?_cons_succ] at hm hy
    cases p with
    | zero =>
      simp only [List.getElem?_cons_zero, Option.some.injEq] at hx
      subst hx
      have := orderOkAt_at h.1 hm hy
      rwa [show i + 1 + q = i + (q + 1) by omega] at this
    | succ p =>
      simp only [List.getElem?_cons_succ] at hx
      have := orderOkFrom_at h.2 (by omega) hm hx hy
      rwa [show i + 1 + p = i + (p + 1) by omega, show i + 1 + q = i + (q + 1) by omega] at this
def Closed (all : List Oper) (S : Nat → Prop) : Prop := ∀ j o, all[j]? = some o → S j → ∀ e ∈ o.after, bindsAll e = true → S e.on
def MaskOK (all : List Oper) (j m : Nat) : Prop := ∀ k, m.testBit k = true → ∀ S, Closed all S → (∀ o, all[j]? = some o → ∀ e ∈ o.after, bindsAll e = true → S e.on) → S k
theorem fold_bit (f : Edge → Nat) : ∀ (l : List Edge) (s k : Nat), (l.foldl (fun s e => if bindsAll e then s ||| 2 ^ e.on ||| f e else s) s).testBit k = true →
    s.testBit k = true ∨ ∃ e ∈ l, bindsAll e = true ∧ (k = e.on ∨ (f e).testBit k = true)
  | [], _, _, h => .inl h
  | e :: l, s, k, h => by
    simp only [List.foldl_cons] at h
    rcases fold_bit f l _ k h with h | ⟨e', he', r⟩
    · by_cases hb : bindsAll e = true
      · rw [if_pos hb] at h
        simp only [Nat.testBit_or, Bool.or_eq_true, Nat.testBit_two_pow, decide_eq_true_eq] at h
        rcases h with (h | h) | h
        · exact .inl h
        · exact .inr ⟨e, by simp, hb, .inl h.symm⟩
        · exact .inr ⟨e, by simp, hb, .inr h⟩
      · rw [if_neg hb] at h; exact .inl h
    · exact .inr ⟨e', List.mem_cons_of_mem _ he', r⟩
theorem masks_ok : ∀ {l : List Oper} {acc : List Nat}, Seg all acc.length l → (∀ j m, acc[j]? = some m → MaskOK all j m) →
    (∀ j m, (masks l acc)[j]? = some m → MaskOK all j m) ∧ (masks l acc).length = acc.length + l.length
  | [], acc, _, h => ⟨h, rfl⟩
  | o :: l, acc, hs, h => by
    simp only [masks]
    have hlen : ∀ x : Nat, (acc ++ [x]).length = acc.length + 1 := fun x => by simp
    obtain ⟨h1, h2⟩ := masks_ok (l := l) (acc := acc ++ [o.after.toList.foldl (fun s e => if bindsAll e then s ||| 2 ^ e.on ||| acc.getD e.on 0 else s) 0]) (by rw [hlen]; exact hs.tail) (fun j m hj => by
      rcases Nat.lt_or_ge j acc.length with hlt | hge
      · rw [List.getElem?_append_left hlt] at hj; exact h j m hj
      · rw [List.getElem?_append_right hge] at hj
        cases hj0 : j - acc.length with
        | succ k => rw [hj0] at hj; simp at hj
        | zero =>
          rw [hj0] at hj
          simp only [List.getElem?_cons_zero, Option.some.injEq] at hj
          subst hj
          have hje : j = acc.length := by omega
          subst hje
          intro k hk S hS hpre
          have hat := hs.head
          rcases fold_bit (fun e => acc.getD e.on 0) o.after.toList 0 k hk with h0 | ⟨e, he, hb, hke⟩
          · simp at h0
          · have hSe := hpre o hat e (by simpa using he) hb
            rcases hke with rfl | hke
            · exact hSe
            · cases ha : acc[e.on]? with
              | none => simp [ha] at hke
              | some m' =>
                have : acc.getD e.on 0 = m' := by simp [ha]
                rw [this] at hke
                exact h e.on m' ha k hke S hS fun o' ho' e' he' hb' => hS e.on o' ho' hSe e' he' hb')
    exact ⟨h1, by rw [h2, hlen, List.length_cons]; omega⟩
theorem seg_all : Seg all 0 all := fun j o h => by simpa using h
theorem any_order (hC : COk P Γ) {ops : Array Oper} {F : Fence} (hF : Open F) {n : Nat} {Q : Exit → Act → World → Prop} {lg : Log} (hok : orderOk ops.toList lg = true) :
    ∀ {fuel : Nat} {listed : Array Bool} {l : List Nat} {κ : Nat → Option Nat} {M : Mem} {σ : St} {a : Act} {w : World}, listed.size = ops.size → l.length ≤ fuel → l.Pairwise (· < ·) →
    (∀ k, k ∈ l ↔ k < ops.size ∧ listed.getD k true = false) → Closed ops.toList (fun k => listed.getD k false = true) → Chain Γ ops.toList lg l σ τ → Rel P base κ M σ a w → (∀ d, d ∈ dstsOf ops.toList → d < a.tmps.size) →
    (∀ κ' M' a' w', Rel P base κ' M' τ a' w' → Fr base (dstsOf ops.toList) κ M σ a w κ' M' τ a' w' → Q .normal a' w') → wpAnyIn F n P .any ops Q fuel listed a w := by
  have hedge : edgesOk 0 ops.toList = true := by unfold orderOk at hok; simp only [Bool.and_eq_true] at hok; exact hok.1
  have hord : orderOkFrom ops.toList lg 0 (masks ops.toList []) ops.toList = true := by unfold orderOk at hok; simp only [Bool.and_eq_true] at hok; exact hok.2
  obtain ⟨hmask, hmlen⟩ := masks_ok (all := ops.toList) (l := ops.toList) (acc := []) seg_all (fun j m h => by simp at h)
  have done : ∀ {listed : Array Bool} {l : List Nat}, listed.size = ops.size → l.Pairwise (· < ·) → (∀ k, k ∈ l ↔ k < ops.size ∧ listed.getD k true = false) → Region.ready .any ops listed = [] → l = [] := by
    intro listed l hsz hpw hmem hr
    cases l with
    | nil => rfl
    | cons i l =>
      exfalso
      obtain ⟨hi1, hi2⟩ := (hmem i).1 (by simp)
      have : i ∈ Region.ready .any ops listed := mem_ready.2 ⟨hi2, ops[i], Array.getElem?_eq_getElem hi1, fun e he hb => by
        rw [binds_any] at hb
        have hlt := edgesOk_at hedge (show ops.toList[i]? = some ops[i] by rw [Array.getElem?_toList]; exact Array.getElem?_eq_getElem hi1) e he hb
        cases hg : listed.getD e.on true with
        | true =>
          have hs : e.on < listed.size := by omega
          simp only [Array.getD_eq_getD_getElem?, Array.getElem?_eq_getElem hs, Option.getD_some] at hg ⊢
          exact hg
        | false =>
          have hm := (hmem e.on).2 ⟨by omega, hg⟩
          rcases List.mem_cons.1 hm with h | h
          · omega
          · have := List.rel_of_pairwise_cons hpw h; omega⟩
      rw [hr] at this
      simp at this
  intro fuel
  induction fuel with
  | zero =>
    intro listed l κ M σ a w hsz hlen hpw hmem hcl hch hR hts hQ
    have hl : l = [] := List.length_eq_zero_iff.1 (by omega)
    subst hl
    simp only [Chain] at hch
    subst hch
    refine ⟨?_, hQ κ M a w hR Fr.refl⟩
    cases hr : Region.ready .any ops listed with
    | nil => rfl
    | cons i r =>
      have hi := mem_ready.1 (show i ∈ Region.ready .any ops listed by rw [hr]; simp)
      obtain ⟨h1, o, ho, _⟩ := hi
      have := (hmem i).2 ⟨(Array.getElem?_eq_some_iff.1 ho).1, h1⟩
      simp at this
  | succ fuel ih =>
    intro listed l κ M σ a w hsz hlen hpw hmem hcl hch hR hts hQ
    refine ⟨fun hr => ?_, fun i hi => ?_⟩
    · have := done hsz hpw hmem hr
      subst this
      simp only [Chain] at hch
      subst hch
      exact hQ κ M a w hR Fr.refl
    · obtain ⟨hi1, oi, hoi, hpre⟩ := mem_ready.1 hi
      have hoi' : ops.toList[i]? = some oi := by rw [Array.getElem?_toList]; exact hoi
      have hilt := (Array.getElem?_eq_some_iff.1 hoi).1
      have him := (hmem i).2 ⟨hilt, hi1⟩
      obtain ⟨L1, L2, hL⟩ := List.append_of_mem him
      subst hL
      have hpw' := hpw
      rw [List.pairwise_append] at hpw'
      obtain ⟨hp1, hp2, hp3⟩ := hpw'
      have hb := bubble (Γ := Γ) (lg := lg) hoi' (L1 := L1) (L2 := L2) (σ := σ) (τ := τ) (fun k hk ok hok' => by
        have hki : k < i := hp3 k hk i (by simp)
        have hkl := ((hmem k).1 (by simp [hk])).2
        have hm : (masks ops.toList [])[i]? = some ((masks ops.toList [])[i]'(by rw [hmlen]; simpa using hilt)) := List.getElem?_eq_getElem _
        have := orderOkFrom_at hord hki hm hok' hoi'
        rw [Nat.zero_add, Nat.zero_add] at this
        rcases this with h | h
        · exfalso
          have := hmask i _ hm k h _ hcl (fun o' ho' e he hbe => by
            rw [hoi'] at ho'
            cases ho'
            exact hpre e he (by rw [binds_any]; exact hbe))
          have hs : k < listed.size := by omega
          simp only [Array.getD_eq_getD_getElem?, Array.getElem?_eq_getElem hs, Option.getD_some] at hkl this
          rw [hkl] at this; cases this
        · exact h) (pt_of hR oi) hch
      obtain ⟨o', σ1, g1, _, g3, g4⟩ := hb
      rw [hoi'] at g1
      cases g1
      refine step_guard hC hR hoi' (fun d hd => hts d (dst_mem hoi' d hd)) g3 hF fun κ1 M1 a1 w1 hR1 hF1 => ?_
      have hnot1 : i ∉ L1 := fun h => Nat.lt_irrefl _ (hp3 i h i (by simp))
      have hnot2 : i ∉ L2 := fun h => Nat.lt_irrefl _ (List.rel_of_pairwise_cons hp2 h)
      refine ih (l := L1 ++ L2) (by simp [hsz]) (by simp only [List.length_append, List.length_cons] at hlen ⊢; omega) ?_ (fun k => ?_) ?_ g4 hR1 (fun d hd => by rw [hF1.size]; exact hts d hd) fun κ2 M2 a2 w2 hR2 hF2 => ?_
      · rw [List.pairwise_append]
        exact ⟨hp1, (List.pairwise_cons.1 hp2).2, fun x hx y hy => hp3 x hx y (List.mem_cons_of_mem _ hy)⟩
      · by_cases hki : k = i
        · subst hki
          have : (listed.setIfInBounds k true).getD k true = true := by
            simp [Array.getD_eq_getD_getElem?, Array.getElem?_setIfInBounds_self_of_lt (show k < listed.size by omega)]
          rw [this]
          simp [hnot1, hnot2]
        · rw [getD_set_ne true (fun e => hki e.symm)]
          rw [← hmem k]
          simp [hki]
      · intro j o ho hj e he hbe
        by_cases hji : j = i
        · subst hji
          rw [hoi'] at ho
          cases ho
          exact getD_set_true (hpre e he (by rw [binds_any]; exact hbe))
        · rw [getD_set_ne false (fun e => hji e.symm)] at hj
          exact getD_set_true (hcl j o ho hj e he hbe)
      · refine hQ κ2 M2 a2 w2 hR2 (hF1.trans hF2 (fun s hs => ?_) fun s hs => hs)
        exact dst_mem hoi' s (by simpa using hs)
theorem region_sound (hgw : Γ.gown = false) (hm : P.follows .mixedOrders = true) (hC : COk P Γ) {id : Nat} {ops : Array Oper} {d : Bool} {A : Type} {k : St → Log → Option A} {r : A}
    (h : opsK Γ ops.toList (ops.size + 1) none 0 ops.toList σ [] k = some r) (hd : ∀ τ lg, k τ lg = some r → d = true → orderOk ops.toList lg = true)
    (hok : regionOk a.tmps.size ops.toList = true) (hR : Rel P base κ M σ a w) {F : Fence} (hF : Open F) {n : Nat} {Q : Exit → Act → World → Prop}
    (hQ : ∀ κ' M' τ lg a' w', Rel P base κ' M' τ a' w' → Fr base (dstsOf ops.toList) κ M σ a w κ' M' τ a' w' → k τ lg = some r → Q .normal a' w') : (Code.region id ops d).wpIn F n P Q a w := by
  unfold regionOk at hok
  simp only [Bool.and_eq_true, List.all_eq_true, Nat.blt_eq] at hok
  obtain ⟨h1, h2⟩ := hok
  obtain ⟨σd, τ, lg, hc, hwk, hk, _, _⟩ := opsK_chain hgw (nodupB_iff h1) _ none 0 _ σ [] k r h seg_all (fun e he => by simp at he) σ (Wk.refl hR.dis) True.intro (fun h => by cases h)
  have hrange : List.range' 0 ops.toList.length = List.range ops.size := by rw [List.range_eq_range']; simp
  rw [hrange] at hc
  cases d with
  | false =>
    refine wpIn_region (chain_text hC hF hc hR h2 fun κ' M' a' w' hR' hF' => ?_)
    exact hQ κ' M' τ lg a' w' (rel_wk hR' hwk) (fr_wk hF' hwk) hk
  | true =>
    refine wpIn_region_any hm (any_order hC hF (hd τ lg hk rfl) (l := List.range ops.size) (by simp) (by simp) List.pairwise_lt_range (fun k => ?_) (fun j o ho hj => ?_) hc (rel_drew hR) h2 fun κ' M' a' w' hR' hF' => ?_)
    · rw [List.mem_range]
      constructor
      · intro hk
        exact ⟨hk, by simp [Array.getD_eq_getD_getElem?, hk]⟩
      · exact fun h => h.1
    · exfalso
      rcases Nat.lt_or_ge j ops.size with hlt | hge
      · simp [Array.getD_eq_getD_getElem?, hlt] at hj
      · simp [Array.getD_eq_getD_getElem?, hge] at hj
    · exact hQ κ' M' τ lg a' w' (rel_wk hR' hwk) (fr_wk (fr_drew.trans hF' (fun s hs => hs) fun s hs => hs) hwk) hk
end Go.Lift
namespace Go.Lift
open Go Go.RowKit
variable [Tab] [Mf]
variable {P : Program} {Γ : Ctx} {base : Nat} {κ κ' : Nat → Option Nat} {M M' : Mem} {σ τ σ' τ' : St} {a a' : Act} {w w' : World}
theorem relV_ptr_mk {t : Ty} {y : t.den} {g off : Nat} {cells : List Value} (hr : relC P t M y cells) (hm : M.has g off cells) : relV P (.ptr t) M y (.pointer (some ⟨g, off, none⟩)) := by
  unfold relV viaCells
  exact ⟨g, off, cells, rfl, hr, hm⟩
theorem rel_freeze (hR : Rel P base κ M σ a w) {b : Nat} (h : σ.freeze b = some τ) : ∃ M', Rel P base κ M' τ a w ∧ Fr base [] κ M σ a w κ M' τ a w := by
  unfold St.freeze at h
  split at h
  · rename_i B hB
    cases hfl : B.isMap with
    | true => rw [hfl] at h; cases h
    | false =>
    rw [hfl] at h
    simp only [cond_false, Option.some.injEq] at h
    subst h
    obtain ⟨g, cur, E, hk, hc, hbx, _, hMg⟩ := (hR.bx b B hB).cells (flat_of hfl)
    let M' : Mem := fun i o => if i = g then cur.toList[o]? else M i o
    have hne : ∀ j, j ≠ g → M' j = M j := fun j hj => by funext o; exact if_neg hj
    have hM'g : ∀ o, M' g o = cur.toList[o]? := fun o => if_pos rfl
    have hle : Mem.le M M' := by
      intro i o v hv
      by_cases hi : i = g
      · subst hi; rw [hMg] at hv; cases hv
      · rw [hne i hi]; exact hv
    have hg : Good M' w := by
      refine ⟨Tab.keep hle (SameSizes.refl w) hR.good.1, ?_⟩
      intro i o v hv
      by_cases hi : i = g
      · subst hi; rw [hM'g] at hv; rw [cell_block hc]; simpa using hv
      · rw [hne i hi] at hv; exact hR.good.2 i o v hv
    have hhas : ∀ off n, off + n ≤ cur.toList.length → M'.has g off ((cur.toList.drop off).take n) := fun off n _ j u hj => by
      rw [hM'g]
      rw [List.getElem?_take] at hj
      split at hj
      · rw [List.getElem?_drop] at hj; exact hj
      · cases hj
    have hbx' := relBx_mono hle hbx
    have hh : ∀ i, i ≠ b → Holds κ M w κ M' w i := fun i hi => ⟨rfl, fun k hk' => by
      have : k ≠ g := fun e => hi (hR.inj i b g (e ▸ hk') hk)
      exact ⟨rfl, fun o => by rw [hne k this]⟩⟩
    have htb := hR.dis b B hB
    have htok : ∀ i, σ.tok i = true → σ.tok i = true ∧ Holds κ M w κ M' w i := fun i ht => ⟨ht, hh i fun e => by rw [e, htb] at ht; cases ht⟩
    have turn : ∀ v u, ¬ v.leans b → RelA P κ M w σ.box σ.tok v u → RelA P κ M' w (upd σ.box b none) σ.tok v u := fun v u hl hv =>
      hv.turn hle (fun _ _ => rfl) (fun i _ ht => htok i ht) fun i Bi hi hBi => ⟨Bi, by rw [upd_other _ _ _ _ (fun e => hl (by rw [← e]; exact hi))]; exact hBi, Alike.refl Bi⟩
    refine ⟨M', ⟨fun s v hs => ?_, fun i Bi hBi => ?_, hg, hR.inj, hR.kap, fun i Bi hBi => ?_, hR.low⟩, ⟨Below.refl _ _, hle, fun i hi => hne i fun e => ?_, rfl, .of_eq rfl, fun _ _ => rfl, fun i _ hd => ?_, fun i _ Bi hBi => ?_, fun _ _ h _ => h, .of (fun _ _ _ => rfl) (fun i _ h => .inl ⟨i, h⟩) fun j _ hn => hne j fun e => hn b (by rw [e]; exact hk)⟩⟩
    · simp only at hs
      split at hs
      · rename_i v0 hv0
        have hA := hR.env s v0 hv0
        generalize a.tmps.getD s undef = u at hA
        cases v0 with
        | data t x o =>
          simp only [frzV, Option.some.injEq] at hs
          subst hs
          refine ⟨relV_mono hle hA.1, hA.2.turn fun p s hm => ⟨hm, fun k _ ht => htok k ht⟩⟩
        | bptr c p =>
          simp only [frzV] at hs
          split at hs
          · rename_i hcb
            subst hcb
            obtain ⟨B2, g2, off, h1, h2, h3, h4⟩ := hA
            rw [hB] at h1; cases h1
            rw [hk] at h2; cases h2
            split at hs
            · rename_i t ht
              split at hs
              · rename_i y hy
                simp only [Option.some.injEq] at hs
                subst hs
                obtain ⟨r1, r2⟩ := relBx_get hbx' h3 hy
                subst h4
                exact ⟨relV_ptr_mk r1 (hhas _ _ r2), OwnsC_nil⟩
              · cases hs
            · cases hs
          · rename_i hcb
            simp only [Option.some.injEq] at hs
            subst hs
            exact turn _ _ (fun e => hcb e.symm) hA
        | rowp c =>
          simp only [frzV] at hs
          split at hs
          · rename_i hcb
            subst hcb
            obtain ⟨tid, e, l, own, g2, cap, h1, h2, h0, h3⟩ := hA
            rw [hB] at h1; cases h1
            rw [hk] at h2; cases h2
            simp only [Option.some.injEq] at hs
            subst hs h3
            refine ⟨relV_slice_mk h0 (cells := cur.toList.take (l.length * e.size)) (fun j u hj => ?_) (relRowsL_take hbx'), OwnsC_nil⟩
            rw [Nat.zero_add, hM'g]
            rw [List.getElem?_take] at hj
            split at hj
            · exact hj
            · cases hj
          · rename_i hcb
            simp only [Option.some.injEq] at hs
            subst hs
            exact turn _ _ (fun e => hcb e.symm) hA
        | mapp c =>
          simp only [frzV, Option.some.injEq] at hs
          subst hs
          refine turn _ _ (fun e => ?_) hA
          obtain ⟨tid, kt, vt, l, own, g2, h1, _⟩ := hA
          rw [show c = b from e.symm, hB] at h1; cases h1
          cases hfl
        | iter c e F =>
          simp only [frzV] at hs
          split at hs
          · cases hs
          · rename_i hcb
            simp only [Option.some.injEq] at hs
            subst hs
            exact turn _ _ (fun e => hcb e.symm) hA
        | tup ts x =>
          simp only [frzV, Option.some.injEq] at hs
          subst hs
          exact turn _ _ (fun e => e) hA
        | undef =>
          simp only [frzV, Option.some.injEq] at hs
          subst hs
          exact hA
        | raw _ =>
          simp only [frzV, Option.some.injEq] at hs
          subst hs
          exact hA
        | clo f caps =>
          simp only [frzV, Option.some.injEq] at hs
          subst hs
          obtain ⟨vs, h1, h2⟩ := hA
          refine ⟨vs, h1, ?_⟩
          generalize vs.toList = us at h2
          clear h1 hv0
          induction caps generalizing us with
          | nil => exact h2
          | cons c r ih =>
            obtain ⟨v, rest, e1, e2, e3⟩ := h2
            refine ⟨v, rest, e1, ?_, ih rest e3⟩
            cases c with
            | inr d => exact relV_mono (t := .ptr d.1) hle e2
            | inl i =>
              obtain ⟨B2, g2, q1, q2, q3, q4⟩ := e2
              simp only
              split
              · rename_i hib
                subst hib
                rw [hB] at q1; cases q1
                rw [hk] at q3; cases q3
                subst q4
                rw [q2] at hbx'
                have hbx2 : relC P B.t M' B.x cur.toList := by
                  revert hbx'
                  generalize B.x = x
                  generalize B.t = t at x
                  intro hbx'
                  cases t <;> exact hbx'
                exact relV_ptr_mk hbx2 fun j u hj => by rw [Nat.zero_add, hM'g]; exact hj
              · rename_i hib
                exact ⟨B2, g2, by rw [upd_other _ _ _ _ hib]; exact q1, q2, q3, q4⟩
      · cases hs
    · by_cases hib : i = b
      · subst hib; simp only [upd_same] at hBi; cases hBi
      · simp only [upd_other _ _ _ _ hib] at hBi
        exact (hR.bx i Bi hBi).turn hle (hh i hib) fun _ k _ ht => htok k ht
    · by_cases hib : i = b
      · subst hib; simp only [upd_same] at hBi; cases hBi
      · simp only [upd_other _ _ _ _ hib] at hBi
        exact hR.dis i Bi hBi
    · have := (hR.kap b g hk).1
      omega
    · by_cases hib : i = b
      · subst hib; simp only [upd_same] at hd; cases hd
      · simp only [upd_other _ _ _ _ hib] at hd
        exact ⟨hd, hh i hib⟩
    · by_cases hib : i = b
      · subst hib; simp only [upd_same] at hBi; cases hBi
      · simp only [upd_other _ _ _ _ hib] at hBi
        exact ⟨rfl, Bi, hBi, Alike.refl Bi⟩
  · cases h
theorem rel_thaw : ∀ {n : Ann} {M : Mem} {σ : St}, Rel P base κ M σ a w → n.thaw σ = some τ → ∃ M', Rel P base κ M' τ a w ∧ Fr base [] κ M σ a w κ M' τ a w
  | .frz b n, M, σ, hR, h => by
    simp only [Ann.thaw] at h
    split at h
    · rename_i σ1 h1
      obtain ⟨M1, hR1, hF1⟩ := rel_freeze hR h1
      obtain ⟨M2, hR2, hF2⟩ := rel_thaw hR1 h
      exact ⟨M2, hR2, hF1.trans hF2 (fun _ h => h) (fun _ h => h)⟩
    · cases h
  | .nil, M, σ, hR, h | .seq .., M, σ, hR, h | .cond .., M, σ, hR, h | .join .., M, σ, hR, h | .joinD .., M, σ, hR, h | .blk .., M, σ, hR, h | .loopB .., M, σ, hR, h | .loopBD .., M, σ, hR, h | .loopD .., M, σ, hR, h => by
    simp only [Ann.thaw, Option.some.injEq] at h
    subst h
    exact ⟨M, hR, Fr.refl⟩
def zipIt : (l : List It) → Args (l.map (·.t)) → List ((i : It) × i.t.den)
  | [], _ => []
  | [i], x => [⟨i, x⟩]
  | i :: j :: r, x => ⟨i, x.1⟩ :: zipIt (j :: r) x.2
theorem zip_mem : ∀ {l : List It} {x : Args (l.map (·.t))} {i : It}, i ∈ l → ∃ v, (⟨i, v⟩ : (i : It) × i.t.den) ∈ zipIt l x
  | [], _, _, h => by cases h
  | [i], x, j, h => by
    rw [List.mem_singleton] at h
    subst h
    exact ⟨x, List.mem_singleton.2 rfl⟩
  | i :: j :: r, x, k, h => by
    rcases List.mem_cons.1 h with rfl | h
    · exact ⟨x.1, List.mem_cons_self⟩
    · obtain ⟨v, hv⟩ := zip_mem (x := x.2) h
      exact ⟨v, List.mem_cons_of_mem _ hv⟩
theorem zip_fst : ∀ {l : List It} {x : Args (l.map (·.t))} {e : (i : It) × i.t.den}, e ∈ zipIt l x → e.1 ∈ l
  | [], _, _, h => by cases h
  | [i], x, e, h => by
    simp only [zipIt, List.mem_singleton] at h
    subst h
    exact List.mem_singleton.2 rfl
  | i :: j :: r, x, e, h => by
    simp only [zipIt] at h
    rcases List.mem_cons.1 h with rfl | h
    · exact List.mem_cons_self
    · exact List.mem_cons_of_mem _ (zip_fst (l := j :: r) h)
theorem grab_zip : ∀ {l : List It} {x : Args (l.map (·.t))}, grab σ l = some x → ∀ e ∈ zipIt l x, grab1 σ e.1 = some e.2
  | [], _, _, _, h => by cases h
  | [i], x, h, e, he => by
    simp only [zipIt, List.mem_singleton] at he
    subst he
    exact h
  | i :: j :: r, x, h, e, he => by
    simp only [grab] at h
    split at h
    · rename_i v v' h1 h2
      simp only [Option.some.injEq] at h
      subst h
      simp only [zipIt] at he
      rcases List.mem_cons.1 he with rfl | he
      · exact h1
      · exact grab_zip (l := j :: r) h2 e he
    · cases h
def slotV (e : (i : It) × i.t.den) : AVal := .data e.1.t e.2 e.1.own
def boxV (e : (i : It) × i.t.den) : Box := ⟨e.1.tid, e.1.t, e.2, e.1.own, e.1.rows⟩
theorem put1_env (i : It) (x : i.t.den) (s : Nat) (v : AVal) (h : (put1 σ i x).env s = some v) : (i.isBox = false ∧ i.id = s ∧ v = slotV ⟨i, x⟩) ∨ σ.env s = some v := by
  unfold put1 at h
  split at h
  · rename_i hb
    by_cases hs : s = i.id
    · subst hs
      simp only [upd_same, Option.some.injEq] at h
      exact .inl ⟨hb, rfl, h.symm⟩
    · simp only [upd_other _ _ _ _ hs] at h
      exact .inr h
  · exact .inr h
theorem put1_box (i : It) (x : i.t.den) (s : Nat) (v : Box) (h : (put1 σ i x).box s = some v) : (i.isBox = true ∧ i.id = s ∧ v = boxV ⟨i, x⟩) ∨ σ.box s = some v := by
  unfold put1 at h
  split at h
  · exact .inr h
  · rename_i hb
    by_cases hs : s = i.id
    · subst hs
      simp only [upd_same, Option.some.injEq] at h
      exact .inl ⟨hb, rfl, h.symm⟩
    · simp only [upd_other _ _ _ _ hs] at h
      exact .inr h
theorem put1_keeps (i : It) (x : i.t.den) (s : Nat) (v : Box) (h : σ.box s = some v) : ∃ v, (put1 σ i x).box s = some v := by
  unfold put1
  split
  · exact ⟨v, h⟩
  · by_cases hs : s = i.id
    · subst hs; exact ⟨_, upd_same _ _ _⟩
    · exact ⟨v, by simp only [upd_other _ _ _ _ hs]; exact h⟩
theorem put1_lays (i : It) (x : i.t.den) (hb : i.isBox = true) : ∃ v, (put1 σ i x).box i.id = some v := by
  unfold put1
  split
  · rename_i h; rw [hb] at h; cases h
  · exact ⟨_, upd_same _ _ _⟩
theorem put1_tok (i : It) (x : i.t.den) : (put1 σ i x).tok = σ.tok := by unfold put1; split <;> rfl
theorem put_env : ∀ {l : List It} {σ : St} {x : Args (l.map (·.t))} {s : Nat} {v : AVal}, (put σ l x).env s = some v → (∃ e ∈ zipIt l x, e.1.isBox = false ∧ e.1.id = s ∧ v = slotV e) ∨ σ.env s = some v
  | [], _, _, _, _, h => .inr h
  | [i], σ, x, s, v, h => (put1_env i x s v h).imp (fun ⟨h1, h2, h3⟩ => ⟨⟨i, x⟩, List.mem_singleton.2 rfl, h1, h2, h3⟩) id
  | i :: j :: r, σ, x, s, v, h => by
    rcases put_env (l := j :: r) (x := x.2) h with ⟨e, he, h1⟩ | h
    · exact .inl ⟨e, List.mem_cons_of_mem _ he, h1⟩
    · exact (put1_env i x.1 s v h).imp (fun ⟨h1, h2, h3⟩ => ⟨⟨i, x.1⟩, List.mem_cons_self, h1, h2, h3⟩) id
theorem put_box : ∀ {l : List It} {σ : St} {x : Args (l.map (·.t))} {s : Nat} {v : Box}, (put σ l x).box s = some v → (∃ e ∈ zipIt l x, e.1.isBox = true ∧ e.1.id = s ∧ v = boxV e) ∨ σ.box s = some v
  | [], _, _, _, _, h => .inr h
  | [i], σ, x, s, v, h => (put1_box i x s v h).imp (fun ⟨h1, h2, h3⟩ => ⟨⟨i, x⟩, List.mem_singleton.2 rfl, h1, h2, h3⟩) id
  | i :: j :: r, σ, x, s, v, h => by
    rcases put_box (l := j :: r) (x := x.2) h with ⟨e, he, h1⟩ | h
    · exact .inl ⟨e, List.mem_cons_of_mem _ he, h1⟩
    · exact (put1_box i x.1 s v h).imp (fun ⟨h1, h2, h3⟩ => ⟨⟨i, x.1⟩, List.mem_cons_self, h1, h2, h3⟩) id
theorem put_keeps : ∀ {l : List It} {σ : St} {x : Args (l.map (·.t))} {s : Nat} {v : Box}, σ.box s = some v → ∃ v, (put σ l x).box s = some v
  | [], _, _, _, v, h => ⟨v, h⟩
  | [i], σ, x, s, v, h => put1_keeps i x s v h
  | i :: j :: r, σ, x, s, v, h => by
    obtain ⟨v', h'⟩ := put1_keeps i x.1 s v h
    exact put_keeps (l := j :: r) (x := x.2) h'
theorem put_lays : ∀ {l : List It} {σ : St} {x : Args (l.map (·.t))} {i : It}, i ∈ l → i.isBox = true → ∃ v, (put σ l x).box i.id = some v
  | [], _, _, _, h, _ => by cases h
  | [i], σ, x, j, h, hb => by
    rw [List.mem_singleton] at h
    subst h
    exact put1_lays j x hb
  | i :: j :: r, σ, x, k, h, hb => by
    rcases List.mem_cons.1 h with rfl | h
    · obtain ⟨v, hv⟩ := put1_lays (σ := σ) k x.1 hb
      exact put_keeps (l := j :: r) (x := x.2) hv
    · exact put_lays (l := j :: r) (x := x.2) h hb
theorem put_tok : ∀ {l : List It} {σ : St} {x : Args (l.map (·.t))}, (put σ l x).tok = σ.tok
  | [], _, _ => rfl
  | [i], _, x => put1_tok i x
  | i :: j :: r, _, x => (put_tok (l := j :: r) (x := x.2)).trans (put1_tok i x.1)
end Go.Lift
namespace Go.Lift
open Go Go.RowKit
variable [Tab] [Mf]
variable {P : Program} {Γ : Ctx} {base : Nat} {κ κ' κ2 : Nat → Option Nat} {M M' : Mem} {σ σ0 τ σ' τ' : St} {a a' : Act} {w w' : World}
theorem ownGot_spec {h : Own} : ∀ {o : Own} {l : List Nat}, ownGot h o = some l → ∃ pr : List (Nat × Nat), pr.map (·.2) = l ∧ (pr.map (·.1)).Sublist (o.filterMap (·.2)) ∧
    (∀ p s, (p, s) ∈ o → ∃ s', (p, s') ∈ h ∧ ∀ j, s' = some j → ∃ k, s = some k ∧ (k, j) ∈ pr) ∧ ∀ e ∈ pr, ∃ p, (p, some e.2) ∈ h
  | [], l, h0 => by
    simp only [ownGot, Option.some.injEq] at h0
    subst h0
    exact ⟨[], rfl, List.Sublist.slnil, (fun p s hm => by cases hm), (fun e he => by cases he)⟩
  | (p, s) :: r, l, h0 => by
    simp only [ownGot] at h0
    have hfind : ∀ q s', h.find? (fun (q, _) => match stripP p q with | some [] => true | _ => false) = some (q, s') → (p, s') ∈ h := fun q s' hf => by
      have hm := List.mem_of_find?_eq_some hf
      have hp := List.find?_some hf
      simp only at hp
      split at hp
      · rename_i hs
        obtain ⟨rfl, _⟩ := stripP_some _ _ _ hs
        simpa using hm
      · cases hp
    split at h0
    · rename_i q l' hf hr
      simp only [Option.some.injEq] at h0
      subst h0
      obtain ⟨pr, h1, h2, h3, h4⟩ := ownGot_spec hr
      refine ⟨pr, h1, ?_, fun p' s' hm => ?_, h4⟩
      · cases s with
        | none => exact h2
        | some k => exact h2.cons k
      · rcases List.mem_cons.1 hm with e | hm
        · cases e
          exact ⟨none, hfind _ _ hf, fun j hj => by cases hj⟩
        · exact h3 p' s' hm
    · rename_i q j l' hf hr
      cases s with
      | none => simp at h0
      | some k =>
        simp only [Option.isSome_some, if_true, Option.some.injEq] at h0
        subst h0
        obtain ⟨pr, h1, h2, h3, h4⟩ := ownGot_spec hr
        refine ⟨(k, j) :: pr, by simp [h1], ?_, fun p' s' hm => ?_, fun e he => ?_⟩
        · exact h2.cons_cons k
        · rcases List.mem_cons.1 hm with e | hm
          · cases e
            exact ⟨some j, hfind _ _ hf, fun j' hj => by cases hj; exact ⟨k, rfl, List.mem_cons_self⟩⟩
          · obtain ⟨s2, a1, a2⟩ := h3 p' s' hm
            exact ⟨s2, a1, fun j' hj => by
              obtain ⟨k', b1, b2⟩ := a2 j' hj
              exact ⟨k', b1, List.mem_cons_of_mem _ b2⟩⟩
        · rcases List.mem_cons.1 he with rfl | he
          · exact ⟨p, hfind _ _ hf⟩
          · exact h4 e he
    · cases h0
theorem gots_spec : ∀ {l : List It} {m : List Nat}, gots σ l = some m → ∃ pr : List (Nat × Nat), pr.map (·.2) = m ∧ (pr.map (·.1)).Sublist (toks l) ∧
    (∀ i ∈ l, ∀ p s, (p, s) ∈ i.own → ∃ s', (p, s') ∈ ownOf σ i ∧ ∀ j, s' = some j → ∃ k, s = some k ∧ (k, j) ∈ pr) ∧ ∀ e ∈ pr, ∃ i ∈ l, ∃ p, (p, some e.2) ∈ ownOf σ i
  | [], m, h => by
    simp only [gots, Option.some.injEq] at h
    subst h
    exact ⟨[], rfl, List.Sublist.slnil, (fun i hi => by cases hi), (fun e he => by cases he)⟩
  | i :: r, m, h => by
    simp only [gots] at h
    split at h
    · rename_i l m' h1 h2
      simp only [Option.some.injEq] at h
      subst h
      obtain ⟨pr1, a1, a2, a3, a4⟩ := ownGot_spec h1
      obtain ⟨pr2, b1, b2, b3, b4⟩ := gots_spec h2
      refine ⟨pr1 ++ pr2, by rw [List.map_append, a1, b1], ?_, fun i' hi p s hm => ?_, fun e he => ?_⟩
      · rw [List.map_append]
        exact a2.append b2
      · rcases List.mem_cons.1 hi with rfl | hi
        · obtain ⟨s', c1, c2⟩ := a3 p s hm
          exact ⟨s', c1, fun j hj => by
            obtain ⟨k, d1, d2⟩ := c2 j hj
            exact ⟨k, d1, List.mem_append_left _ d2⟩⟩
        · obtain ⟨s', c1, c2⟩ := b3 i' hi p s hm
          exact ⟨s', c1, fun j hj => by
            obtain ⟨k, d1, d2⟩ := c2 j hj
            exact ⟨k, d1, List.mem_append_right _ d2⟩⟩
      · rcases List.mem_append.1 he with he | he
        · obtain ⟨p, hp⟩ := a4 e he
          exact ⟨i, List.mem_cons_self, p, hp⟩
        · obtain ⟨i', hi, p, hp⟩ := b4 e he
          exact ⟨i', List.mem_cons_of_mem _ hi, p, hp⟩
    · cases h
theorem lookup_mem : ∀ {pr : List (Nat × Nat)} {k j : Nat}, pr.lookup k = some j → (k, j) ∈ pr
  | [], _, _, h => by simp at h
  | (k', j') :: r, k, j, h => by
    rw [List.lookup_cons] at h
    split at h
    · rename_i e
      simp only [Option.some.injEq] at h
      have : k = k' := by simpa using e
      subst this h
      exact List.mem_cons_self
    · exact List.mem_cons_of_mem _ (lookup_mem h)
theorem lookup_of : ∀ {pr : List (Nat × Nat)} {k j : Nat}, (pr.map (·.1)).Nodup → (k, j) ∈ pr → pr.lookup k = some j
  | [], _, _, _, h => by cases h
  | (k', j') :: r, k, j, hn, h => by
    rw [List.lookup_cons]
    simp only [List.map_cons, List.nodup_cons] at hn
    rcases List.mem_cons.1 h with e | h2
    · cases e; simp
    · have : (k == k') = false := by
        cases hb : k == k' with
        | false => rfl
        | true =>
          have : k = k' := by simpa using hb
          subst this
          exact absurd (List.mem_map_of_mem (f := (·.1)) h2) hn.1
      rw [this]
      exact lookup_of hn.2 h2
theorem pair_inj : ∀ {pr : List (Nat × Nat)} {k k' j : Nat}, (pr.map (·.2)).Nodup → (k, j) ∈ pr → (k', j) ∈ pr → k = k'
  | [], _, _, _, _, h, _ => by cases h
  | (k0, j0) :: r, k, k', j, hn, h, h' => by
    simp only [List.map_cons, List.nodup_cons] at hn
    rcases List.mem_cons.1 h with e | h <;> rcases List.mem_cons.1 h' with e' | h'
    · cases e; cases e'; rfl
    · cases e; exact absurd (List.mem_map_of_mem (f := (·.2)) h') hn.1
    · cases e'; exact absurd (List.mem_map_of_mem (f := (·.2)) h) hn.1
    · exact pair_inj hn.2 h h'
def joinK (κ : Nat → Option Nat) (pr : List (Nat × Nat)) (ids : List Nat) (i : Nat) : Option Nat :=
  match pr.lookup i with
  | some j => κ j
  | none => if i ∈ ids then κ i else none
theorem joinK_src {κ : Nat → Option Nat} {pr : List (Nat × Nat)} {ids : List Nat} {i j : Nat} (h : joinK κ pr ids i = some j) : ∃ i', κ i' = some j := by
  unfold joinK at h
  split at h
  · exact ⟨_, h⟩
  · split at h
    · exact ⟨_, h⟩
    · cases h
theorem own_over {tk tk' : Nat → Bool} {pr : List (Nat × Nat)} {t : Ty} {cs : List Value} {o o' : Own} (h : OwnsC κ M w tk t cs o)
    (h1 : ∀ p s, (p, s) ∈ o' → ∃ s', (p, s') ∈ o ∧ ∀ j, s' = some j → ∃ k, s = some k ∧ (k, j) ∈ pr) (h2 : ∀ p k, (p, some k) ∈ o' → tk' k = true) (h3 : ∀ k j, (k, j) ∈ pr → κ2 k = κ j) :
    OwnsC κ2 M w tk' t cs o' := by
  intro p s hm
  obtain ⟨s', a1, a2⟩ := h1 p s hm
  obtain ⟨off, e, v, b1, b2, b3, b4⟩ := h p s' a1
  refine ⟨off, e, v, b1, b2, b3, ?_⟩
  cases s' with
  | none =>
    have hv : v = .slice none 0 0 := b4
    cases s with
    | none => exact hv
    | some k => exact ⟨h2 p k hm, .inl hv⟩
  | some j =>
    obtain ⟨k, rfl, hk⟩ := a2 j rfl
    refine ⟨h2 p k hm, b4.2.imp id ?_⟩
    rintro ⟨g, n, cap, c1, c2, c3⟩
    exact ⟨g, n, cap, (h3 k j hk).trans c1, c2, c3⟩
theorem any_beq {l : List Nat} {b : Nat} : (l.any fun i => Nat.beq i b) = true ↔ b ∈ l := by
  rw [List.any_eq_true]
  constructor
  · rintro ⟨i, hi, e⟩
    rw [← Nat.eq_of_beq_eq_true e]; exact hi
  · exact fun h => ⟨b, h, Nat.beq_refl b⟩
theorem keeps_iff {L : Desc} {b : Nat} : L.keeps b = true ↔ b ∈ L.kb := any_beq
def bxs (l : List It) : List Nat := (l.filter (·.isBox)).map (·.id)
theorem mem_bxs {l : List It} {b : Nat} : b ∈ bxs l ↔ ∃ i ∈ l, i.isBox = true ∧ i.id = b := by
  unfold bxs
  rw [List.mem_map]
  constructor
  · rintro ⟨i, hi, e⟩
    rw [List.mem_filter] at hi
    exact ⟨i, hi.1, hi.2, e⟩
  · rintro ⟨i, hi, hb, e⟩
    exact ⟨i, List.mem_filter.2 ⟨hi, hb⟩, e⟩
theorem hasBox_iff {L : Desc} {b : Nat} : L.hasBox b = true ↔ b ∈ L.kb ∨ b ∈ bxs L.its := by
  unfold Desc.hasBox
  rw [Bool.or_eq_true, any_beq, mem_bxs, List.any_eq_true]
  constructor
  · rintro (h | ⟨i, hi, e⟩)
    · exact .inl h
    · simp only [Bool.and_eq_true] at e
      exact .inr ⟨i, hi, e.1, Nat.eq_of_beq_eq_true e.2⟩
  · rintro (h | ⟨i, hi, hb, rfl⟩)
    · exact .inl h
    · exact .inr ⟨i, hi, by simp [hb]⟩
structure OkD (L : Desc) (σ : St) (ws : List Nat) : Prop where
  kb : ∀ b, b ∈ L.kb → b ∉ ws
  bx : ∀ i ∈ L.its, i.isBox = true → i.id ∉ ws
  nd : (toks L.its ++ bxs L.its ++ L.kb).Nodup
theorem okD {L : Desc} {ws : List Nat} (h : L.ok σ ws = true) : OkD L σ ws := by
  unfold Desc.ok at h
  simp only [Bool.and_eq_true] at h
  obtain ⟨⟨⟨h1, h2⟩, h3⟩, _⟩ := h
  have hany : ∀ {b : Nat}, (!(ws.any fun i => Nat.beq i b)) = true → b ∉ ws := fun {b} hb hm => by
    rw [any_beq.2 hm] at hb; cases hb
  refine ⟨fun b hb => hany (List.all_eq_true.1 h1 b hb), fun i hi hb => ?_, nodupB_iff h3⟩
  have := List.all_eq_true.1 h2 i hi
  rw [hb] at this
  simp only [cond_true, Bool.and_eq_true] at this
  exact hany this.1
theorem data_of_grab1 {i : It} {v : i.t.den} (h : grab1 σ i = some v) (hb : i.isBox = false) : ∃ o, σ.env i.id = some (.data i.t v o) ∧ ownOf σ i = o := by
  unfold grab1 at h
  simp only [hb] at h
  split at h
  · rename_i u x o he
    obtain ⟨rfl, hx⟩ := castTy_some h
    have hx : v = x := hx
    subst hx
    exact ⟨o, he, by unfold ownOf; simp only [hb, he]⟩
  · cases h
theorem box_of_grab1 {i : It} {v : i.t.den} (h : grab1 σ i = some v) (hb : i.isBox = true) : ∃ o, σ.box i.id = some ⟨i.tid, i.t, v, o, i.rows⟩ ∧ ownOf σ i = o := by
  unfold grab1 at h
  simp only [hb] at h
  split at h
  · rename_i B he
    split at h
    · rename_i hc
      obtain ⟨tid, t, x, own, rows⟩ := B
      obtain ⟨ht, hx⟩ := castTy_some h
      simp only at ht hx hc
      obtain ⟨h1, h2⟩ := hc
      subst h1 h2
      cases i with
      | mk ib iid itid it iown irows =>
        simp only at ht hx hb he ⊢
        subst ht
        have hx : v = x := hx
        subst hx
        exact ⟨own, he, by unfold ownOf; simp only [hb, he]⟩
    · cases h
  · cases h
theorem rel_tokOf (hR : Rel P base κ M σ a w) {i : It} {p : Path} {j : Nat} (h : (p, some j) ∈ ownOf σ i) : σ.tok j = true := by
  unfold ownOf at h
  split at h
  · split at h
    · rename_i t x o he
      obtain ⟨_, _, _, _, _, _, hv⟩ := (hR.env _ _ he).2 p (some j) h
      exact hv.1
    · cases h
  · split at h
    · rename_i B he
      obtain ⟨_, _, _, ⟨_, _, _, _, ho⟩ | ⟨_, _, _, _, _, _, rfl, _⟩⟩ := hR.bx _ _ he
      rotate_left
      · cases h
      obtain ⟨_, _, _, _, _, _, hv⟩ := ho p (some j) h
      exact hv.1
    · cases h
theorem alike_own (B : Box) (o : Own) : Alike B { B with own := o } := ⟨B.x, o, rfl, fun _ => rfl⟩
def KFrom (L : Desc) (tk : Nat → Bool) (κ' κ2 : Nat → Option Nat) : Prop :=
  (∀ i g, κ2 i = some g → ∃ j, κ' j = some g ∧ (tk j = true ∨ (j = i ∧ (i ∈ bxs L.its ∨ i ∈ L.kb)))) ∧ ∀ i, i ∉ toks L.its → i ∉ bxs L.its → i ∉ L.kb → κ2 i = none
theorem join_rel (hR : Rel P base κ M σ a w) {L : Desc} {ws : List Nat} (hok : OkD L σ ws) (hR' : Rel P base κ' M' σ' a' w') (h0 : σ0.box = σ.box)
    (hF : Fr base ws κ M σ0 a w κ' M' σ' a' w') (hkb : ∀ b, b ∈ L.kb → σ'.dirty b = false) {s : L.den} (hg : L.grab0 σ' = some s) :
    ∃ κ2, Rel P base κ2 M' (L.put σ ws s) a' w' ∧ Fr base ws κ M σ0 a w κ2 M' ((L.put σ ws s).back σ0 L) a' w' ∧ KFrom L σ'.tok κ' κ2 := by
  unfold Desc.grab0 at hg
  split at hg
  · rename_i hgo
    unfold gotsOk at hgo
    split at hgo
    · rename_i m hm
      have hnm := nodupB_iff hgo
      obtain ⟨pr, p1, p2, p3, p4⟩ := gots_spec hm
      have hz := grab_zip hg
      have hnd := hok.nd
      rw [List.nodup_append] at hnd
      obtain ⟨hnd1, _, hnd2⟩ := hnd
      rw [List.nodup_append] at hnd1
      obtain ⟨hnt, _, hnd3⟩ := hnd1
      have hkeys : (pr.map (·.1)).Nodup := p2.nodup hnt
      have hvals : (pr.map (·.2)).Nodup := by rw [p1]; exact (List.nodup_append.1 hnm).1
      have hkT : ∀ k j, (k, j) ∈ pr → k ∈ toks L.its := fun k j h => p2.subset (List.mem_map.2 ⟨(k, j), h, rfl⟩)
      have hTB : ∀ k, k ∈ toks L.its → k ∉ bxs L.its := fun k h h' => hnd3 k h k h' rfl
      have hTK : ∀ k, k ∈ toks L.its → k ∉ L.kb := fun k h h' => hnd2 k (List.mem_append_left _ h) k h' rfl
      have hjK : ∀ k j, (k, j) ∈ pr → j ∉ L.kb := fun k j h h' => (List.nodup_append.1 hnm).2.2 j (by rw [← p1]; exact List.mem_map.2 ⟨(k, j), h, rfl⟩) j h' rfl
      have hjt : ∀ k j, (k, j) ∈ pr → σ'.tok j = true := fun k j h => by
        obtain ⟨i, _, p, hp⟩ := p4 (k, j) h
        exact rel_tokOf hR' hp
      let ids := bxs L.its ++ L.kb
      have kTok : ∀ k j, (k, j) ∈ pr → joinK κ' pr ids k = κ' j := fun k j h => by unfold joinK; rw [lookup_of hkeys h]
      have kId : ∀ i, i ∈ ids → joinK κ' pr ids i = κ' i := fun i hi => by
        unfold joinK
        split
        · rename_i j hj
          have := hkT i j (lookup_mem hj)
          rcases List.mem_append.1 hi with h | h
          · exact absurd h (hTB i this)
          · exact absurd h (hTK i this)
        · rw [if_pos hi]
      have kInv : ∀ i g, joinK κ' pr ids i = some g → (∃ j, (i, j) ∈ pr ∧ κ' j = some g) ∨ (i ∈ ids ∧ κ' i = some g) := fun i g h => by
        unfold joinK at h
        split at h
        · rename_i j hj
          exact .inl ⟨j, lookup_mem hj, h⟩
        · split at h
          · rename_i hi; exact .inr ⟨hi, h⟩
          · cases h
      have kKb : ∀ b, b ∈ L.kb → joinK κ' pr ids b = κ' b := fun b hb => kId b (List.mem_append_right _ hb)
      have kBx : ∀ b, b ∈ bxs L.its → joinK κ' pr ids b = κ' b := fun b hb => kId b (List.mem_append_left _ hb)
      have hHold : ∀ b, b ∈ L.kb → Holds κ M w (joinK κ' pr ids) M' w' b := fun b hb => by
        obtain ⟨_, e1, e2⟩ := hF.ids b (hok.kb b hb) (hkb b hb)
        exact ⟨(kKb b hb).trans e1, e2⟩
      let τ := L.put σ ws s
      have htok : ∀ k, τ.tok k = ((L.keeps k && σ.tok k) || (toks L.its).any (fun i => Nat.beq i k)) := fun k => by
        show (put (σ.base L ws) L.its s).tok k = _
        rw [put_tok]; rfl
      have tokT : ∀ k, k ∈ toks L.its → τ.tok k = true := fun k hk => by rw [htok, any_beq.2 hk, Bool.or_true]
      have tokK : ∀ k, k ∈ L.kb → σ.tok k = true → τ.tok k = true := fun k hk ht => by rw [htok, keeps_iff.2 hk, ht]; rfl
      have hownT : ∀ i ∈ L.its, ∀ p k, (p, some k) ∈ i.own → k ∈ toks L.its := fun i hi p k hp => List.mem_flatMap.2 ⟨i, hi, List.mem_filterMap.2 ⟨(p, some k), hp, rfl⟩⟩
      have itBox : ∀ e ∈ zipIt L.its s, e.1.isBox = true → ∃ o, σ'.box e.1.id = some ⟨e.1.tid, e.1.t, e.2, o, e.1.rows⟩ ∧ ownOf σ' e.1 = o ∧ joinK κ' pr ids e.1.id = κ e.1.id ∧ ∃ B, σ.box e.1.id = some B ∧ Alike B (boxV e) := fun e he hb => by
        obtain ⟨o, h1, h2⟩ := box_of_grab1 (hz e he) hb
        have hi := zip_fst he
        obtain ⟨e1, B, hB, hal⟩ := hF.bx _ (hok.bx e.1 hi hb) _ h1
        rw [h0] at hB
        exact ⟨o, h1, h2, (kBx _ (mem_bxs.2 ⟨e.1, hi, hb, rfl⟩)).trans e1, B, hB, hal.trans (alike_own _ e.1.own)⟩
      have baseBox : ∀ b B, (σ.base L ws).box b = some B → b ∈ L.kb ∧ ∃ B0, σ.box b = some B0 ∧ B = { B0 with own := Own.keep L B0.own } := fun b B hB => by
        simp only [St.base] at hB
        split at hB
        · rename_i hk
          rw [Option.map_eq_some_iff] at hB
          obtain ⟨B0, h1, h2⟩ := hB
          exact ⟨keeps_iff.1 hk, B0, h1, h2.symm⟩
        · cases hB
      have boxOf : ∀ b B, τ.box b = some B → joinK κ' pr ids b = κ b ∧ ∃ B0, σ.box b = some B0 ∧ Alike B0 B := fun b B hB => by
        rcases put_box hB with ⟨e, he, hb, rfl, rfl⟩ | hB
        · obtain ⟨_, _, _, h1, h2⟩ := itBox e he hb
          exact ⟨h1, h2⟩
        · obtain ⟨hk, B0, h1, rfl⟩ := baseBox b B hB
          exact ⟨(hHold b hk).1, B0, h1, alike_own _ _⟩
      have boxHas : ∀ b B, L.hasBox b = true → σ.box b = some B → ∃ B', τ.box b = some B' := fun b B hh hB => by
        rcases hasBox_iff.1 hh with hk | hb
        · have : (σ.base L ws).box b = some { B with own := Own.keep L B.own } := by
            simp only [St.base]
            rw [if_pos (keeps_iff.2 hk), hB]; rfl
          exact put_keeps this
        · obtain ⟨i, hi, hib, rfl⟩ := mem_bxs.1 hb
          exact put_lays hi hib
      have boxTurn : ∀ b B, L.hasBox b = true → σ.box b = some B → joinK κ' pr ids b = κ b ∧ ∃ B', τ.box b = some B' ∧ Alike B B' := fun b B hh hB => by
        obtain ⟨B', hB'⟩ := boxHas b B hh hB
        obtain ⟨h1, B0, h2, h3⟩ := boxOf b B' hB'
        rw [hB] at h2; cases h2
        exact ⟨h1, B', hB', h3⟩
      have keepOwn : ∀ {t : Ty} {cs : List Value} {o : Own}, OwnsC κ M w σ.tok t cs o → OwnsC (joinK κ' pr ids) M' w' τ.tok t cs (Own.keep L o) := fun {t cs o} h => h.turn fun p q hm' => by
        simp only [Own.keep, List.mem_filter] at hm'
        refine ⟨hm'.1, fun k hk ht => ?_⟩
        subst hk
        have hkk := keeps_iff.1 hm'.2
        exact ⟨tokK k hkk ht, hHold k hkk⟩
      refine ⟨joinK κ' pr ids, ⟨fun sl v hv => ?_, fun b B hB => ?_, hR'.good, fun i j g hi hj => ?_, fun i g hi => ?_, fun i B hB => ?_, hR'.low⟩,
        ⟨hF.below, hF.le, hF.mem, hF.size, hF.defers, hF.tmps, fun i hi hd => ?_, fun i hi B hB => ?_, hF.oth, .of hF.same.frame (fun i j h => by
          obtain ⟨i', h'⟩ := joinK_src h
          exact hF.same.src i' j h') hF.same.mem⟩, fun i g hi => ?_, fun i h1 h2 h3 => ?_⟩
      · rcases put_env hv with ⟨e, he, hb, rfl, rfl⟩ | hv
        · obtain ⟨o, h1, h2⟩ := data_of_grab1 (hz e he) hb
          have hA := hR'.env _ _ h1
          have hi := zip_fst he
          refine ⟨hA.1, own_over hA.2 (fun p q hm' => ?_) (fun p k hm' => tokT k (hownT e.1 hi p k hm')) kTok⟩
          have := p3 e.1 hi p q hm'
          rwa [h2] at this
        · simp only [St.base] at hv
          split at hv
          · cases hv
          · rename_i hws
            have hws : sl ∉ ws := fun hm' => hws (any_beq.2 hm')
            split at hv
            · rename_i v0 hv0
              have hA := hR.env sl v0 hv0
              rw [hF.tmps sl hws]
              generalize a.tmps.getD sl undef = u at hA
              cases v0 with
              | data t x o =>
                simp only [keepV, Option.some.injEq] at hv
                subst hv
                exact ⟨relV_mono hF.le hA.1, keepOwn hA.2⟩
              | bptr b p =>
                simp only [keepV] at hv
                split at hv
                · rename_i hh
                  simp only [Option.some.injEq] at hv
                  subst hv
                  obtain ⟨B, g, off, q1, q2, q3, q4⟩ := hA
                  obtain ⟨r1, B', r2, x', own', rfl, r4⟩ := boxTurn b B hh q1
                  exact ⟨_, g, off, r2, r1.trans q2, (r4 p).trans q3, q4⟩
                · cases hv
              | rowp b =>
                simp only [keepV] at hv
                split at hv
                · rename_i hh
                  simp only [Option.some.injEq] at hv
                  subst hv
                  obtain ⟨tid, e, l, own, g, cap, q1, q2, q0, q3⟩ := hA
                  obtain ⟨r1, B', r2, x', own', rfl, r4⟩ := boxTurn b _ hh q1
                  exact ⟨tid, e, x', own', g, cap, r2, r1.trans q2, by rw [alike_length r4]; exact q0, by rw [alike_length r4]; exact q3⟩
                · cases hv
              | mapp b =>
                simp only [keepV] at hv
                split at hv
                · rename_i hh
                  simp only [Option.some.injEq] at hv
                  subst hv
                  obtain ⟨tid, kt, vt, l, own, g, q1, q2, q3⟩ := hA
                  obtain ⟨r1, B', r2, x', own', rfl, r4⟩ := boxTurn b _ hh q1
                  exact ⟨tid, kt, vt, x', own', g, r2, r1.trans q2, q3⟩
                · cases hv
              | iter b e F =>
                simp only [keepV] at hv
                split at hv
                · rename_i hh
                  simp only [Option.some.injEq] at hv
                  subst hv
                  obtain ⟨tid, s1, own, g, gf, lb, q1, q2, q3, q4⟩ := hA
                  obtain ⟨r1, B', r2, x', own', rfl, r4⟩ := boxTurn b _ hh q1
                  exact ⟨tid, x', own', g, gf, lb, r2, r1.trans q2, q3, q4.mono hF.le⟩
                · cases hv
              | tup ts x =>
                simp only [keepV, Option.some.injEq] at hv
                subst hv
                obtain ⟨vs, q1, q2⟩ := hA
                exact ⟨vs, q1, relVs_mono hF.le _ _ _ q2⟩
              | undef => simp only [keepV] at hv; cases hv
              | raw _ => simp only [keepV] at hv; cases hv
              | clo f caps =>
                cases caps with
                | nil => simp only [keepV, Option.some.injEq] at hv; subst hv; exact hA
                | cons c l => simp only [keepV] at hv; cases hv
            · cases hv
      · rcases put_box hB with ⟨e, he, hb, rfl, rfl⟩ | hB
        · obtain ⟨o, h1, h2⟩ := box_of_grab1 (hz e he) hb
          have hi := zip_fst he
          obtain ⟨g, q1, q5, ⟨cur, E, q2, q3, q4⟩ | ⟨tid, kt, vt, l, es, c, hbx, q2, q3⟩⟩ := hR'.bx _ _ h1
          rotate_left
          · have ho' : o = [] := congrArg Box.own hbx
            have ho : e.1.own = [] := by
              cases hw : e.1.own with
              | nil => rfl
              | cons p r =>
                obtain ⟨s', hs', _⟩ := p3 e.1 hi p.1 p.2 (by rw [hw]; simp)
                rw [h2, ho'] at hs'
                cases hs'
            refine ⟨g, (kBx _ (mem_bxs.2 ⟨e.1, hi, hb, rfl⟩)).trans q1, q5, .inr ⟨tid, kt, vt, l, es, c, ?_, q2, q3⟩⟩
            unfold boxV
            rw [ho]
            subst ho'
            exact hbx
          refine .mk ((kBx _ (mem_bxs.2 ⟨e.1, hi, hb, rfl⟩)).trans q1) q2 q3 (own_over q4 (fun p q hm' => ?_) (fun p k hm' => tokT k (hownT e.1 hi p k hm')) kTok) q5
          have := p3 e.1 hi p q hm'
          rwa [h2] at this
        · obtain ⟨hk, B0, h1, rfl⟩ := baseBox b B hB
          obtain ⟨r1, r2⟩ := hHold b hk
          obtain ⟨g, q1, q5, ⟨cur, E, q2, q3, q4⟩ | ⟨tid, kt, vt, l, es, c, rfl, q2, q3⟩⟩ := hR.bx b B0 h1
          · obtain ⟨r3, r4⟩ := r2 g q1
            exact .mk (r1.trans q1) (r3.trans q2) (relBx_mono hF.le q3) (keepOwn q4) fun o => (r4 o).trans (q5 o)
          · obtain ⟨r3, r4⟩ := r2 g q1
            exact ⟨g, r1.trans q1, fun o => (r4 o).trans (q5 o), .inr ⟨tid, kt, vt, l, es, c, rfl, r3.trans q2, q3⟩⟩
      · 
        have tb : ∀ k j b, (k, j) ∈ pr → b ∈ ids → κ' j = some g → κ' b = some g → False := fun k j b h1 h2 h3 h4 => by
          have := hR'.inj j b g h3 h4
          subst this
          rcases List.mem_append.1 h2 with h | h
          · obtain ⟨i, hi, hb, rfl⟩ := mem_bxs.1 h
            obtain ⟨v, hv⟩ := zip_mem (x := s) hi
            obtain ⟨o, q1, _⟩ := box_of_grab1 (hz _ hv) hb
            have := hR'.dis _ _ q1
            rw [hjt k _ h1] at this; cases this
          · exact hjK k j h1 h
        rcases kInv i g hi with ⟨j1, a1, a2⟩ | ⟨a1, a2⟩ <;> rcases kInv j g hj with ⟨j2, b1, b2⟩ | ⟨b1, b2⟩
        · have := hR'.inj j1 j2 g a2 b2
          subst this
          exact pair_inj hvals a1 b1
        · exact (tb i j1 j a1 b1 a2 b2).elim
        · exact (tb j j2 i b1 a1 b2 a2).elim
        · exact hR'.inj i j g a2 b2
      · rcases kInv i g hi with ⟨j, _, h⟩ | ⟨_, h⟩
        · exact hR'.kap j g h
        · exact hR'.kap i g h
      · 
        rw [htok]
        have hnT : i ∉ toks L.its → ((toks L.its).any fun k => Nat.beq k i) = false := fun h => by
          cases hb : (toks L.its).any fun k => Nat.beq k i with
          | false => rfl
          | true => exact absurd (any_beq.1 hb) h
        rcases put_box hB with ⟨e, he, hb, rfl, rfl⟩ | hB
        · have hi : e.1.id ∈ bxs L.its := mem_bxs.2 ⟨e.1, zip_fst he, hb, rfl⟩
          rw [hnT fun h => hTB _ h hi]
          have : L.keeps e.1.id = false := by
            cases hk : L.keeps e.1.id with
            | false => rfl
            | true => exact absurd rfl (hnd2 _ (List.mem_append_right _ hi) _ (keeps_iff.1 hk))
          rw [this]; rfl
        · obtain ⟨hk, B0, h1, rfl⟩ := baseBox i B hB
          rw [hnT fun h => hTK _ h hk, hR.dis i B0 h1]
          simp
      · have hk : L.keeps i = true := by
          cases hk : L.keeps i with
          | true => rfl
          | false => simp [St.back, hk] at hd
        have hk' := keeps_iff.1 hk
        exact ⟨(hF.ids i hi (hkb i hk')).1, hHold i hk'⟩
      · obtain ⟨h1, B0, h2, h3⟩ := boxOf i B hB
        exact ⟨h1, B0, by rw [h0]; exact h2, h3⟩
      · rcases kInv i g hi with ⟨j, h1, h2⟩ | ⟨h1, h2⟩
        · exact ⟨j, h2, .inl (hjt i j h1)⟩
        · exact ⟨i, h2, .inr ⟨rfl, List.mem_append.1 h1⟩⟩
      · cases hc : joinK κ' pr ids i with
        | none => rfl
        | some g =>
          rcases kInv i g hc with ⟨j, h4, _⟩ | ⟨h4, _⟩
          · exact absurd (hkT i j h4) h1
          · rcases List.mem_append.1 h4 with h | h
            · exact absurd h h2
            · exact absurd h h3
    · cases hgo
  · cases hg
end Go.Lift
