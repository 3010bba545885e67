/-
  Drawn regions of many operations.
-/
import Derived.Test.YtkoojmbkjgbdgaaGreatDoorLiftH
import Derived.RegionTactic
set_option linter.unusedSectionVars false
set_option linter.unusedVariables false
set_option linter.unusedSimpArgs false
set_option linter.unusedSectionVars false
namespace Go.Lift
open Go Go.RowKit
variable [Tab] [Mf]
variable {P : Program} {ops : Array Oper} {Q : Exit → Act → World → Prop}
theorem nbeq {a b : Nat} (h : a ≠ b) : Nat.beq a b = false := by
  cases hb : Nat.beq a b with
  | false => rfl
  | true => exact absurd (Nat.eq_of_beq_eq_true hb) h
theorem any_inv (hedge : edgesOk 0 ops.toList = true) (I : (Nat → Bool) → Act → World → Prop)
    (step : ∀ L a w k o, ops[k]? = some o → L k = false → (∀ e ∈ o.after, bindsAll e = true → L e.on = true) → I L a w → wpOp P ops Q k (fun a' w' => I (fun j => L j || Nat.beq j k) a' w') a w)
    (fin : ∀ L a w, (∀ k, k < ops.size → L k = true) → I L a w → Q .normal a w) :
    ∀ (fuel : Nat) (listed : Array Bool) (l : List Nat) (a : Act) (w : World), listed.size = ops.size → l.length ≤ fuel → l.Pairwise (· < ·) → (∀ k, k ∈ l ↔ k < ops.size ∧ listed.getD k true = false) → I (fun k => listed.getD k false) a w → wpAny P .any ops Q fuel listed a w := by
  have done : ∀ {listed : Array Bool} {l : List Nat}, listed.size = ops.size → l.Pairwise (· < ·) → (∀ k, k ∈ l ↔ k < ops.size ∧ listed.getD k true = false) → Region.ready .any ops listed = [] → l = [] := by
    intro listed l hsz hpw hmem hr
    cases l with
    | nil => rfl
    | cons i l =>
      exfalso
      obtain ⟨hi1, hi2⟩ := (hmem i).1 (by simp)
      have : i ∈ Region.ready .any ops listed := mem_ready.2 ⟨hi2, ops[i], Array.getElem?_eq_getElem hi1, fun e he hb => by
        rw [binds_any] at hb
        have hlt := edgesOk_at hedge (show ops.toList[i]? = some ops[i] by rw [Array.getElem?_toList]; exact Array.getElem?_eq_getElem hi1) e he hb
        cases hg : listed.getD e.on true with
        | true =>
          have hs : e.on < listed.size := by omega
          simp only [Array.getD_eq_getD_getElem?, Array.getElem?_eq_getElem hs, Option.getD_some] at hg ⊢
          exact hg
        | false =>
          have hm := (hmem e.on).2 ⟨by omega, hg⟩
          rcases List.mem_cons.1 hm with h | h
          · omega
          · have := List.rel_of_pairwise_cons hpw h; omega⟩
      rw [hr] at this
      simp at this
  have all : ∀ {listed : Array Bool}, listed.size = ops.size → (∀ k, k ∈ ([] : List Nat) ↔ k < ops.size ∧ listed.getD k true = false) → ∀ k, k < ops.size → listed.getD k false = true := fun {listed} hsz hmem k hk => by
    cases hg : listed.getD k true with
    | false => exact absurd ((hmem k).2 ⟨hk, hg⟩) (by simp)
    | true =>
      have hs : k < listed.size := by omega
      simp only [Array.getD_eq_getD_getElem?, Array.getElem?_eq_getElem hs, Option.getD_some] at hg ⊢
      exact hg
  intro fuel
  induction fuel with
  | zero =>
    intro listed l a w hsz hlen hpw hmem hI
    have hl : l = [] := List.length_eq_zero_iff.1 (by omega)
    subst hl
    refine ⟨?_, fin _ a w (all hsz hmem) hI⟩
    cases hr : Region.ready .any ops listed with
    | nil => rfl
    | cons i r =>
      have hi := mem_ready.1 (show i ∈ Region.ready .any ops listed by rw [hr]; simp)
      obtain ⟨h1, o, ho, _⟩ := hi
      have := (hmem i).2 ⟨(Array.getElem?_eq_some_iff.1 ho).1, h1⟩
      simp at this
  | succ fuel ih =>
    intro listed l a w hsz hlen hpw hmem hI
    refine ⟨fun hr => ?_, fun i hi => ?_⟩
    · have := done hsz hpw hmem hr
      subst this
      exact fin _ a w (all hsz hmem) hI
    · obtain ⟨hi1, oi, hoi, hpre⟩ := mem_ready.1 hi
      have hilt := (Array.getElem?_eq_some_iff.1 hoi).1
      have him := (hmem i).2 ⟨hilt, hi1⟩
      obtain ⟨L1, L2, hL⟩ := List.append_of_mem him
      subst hL
      have hpw' := hpw
      rw [List.pairwise_append] at hpw'
      obtain ⟨hp1, hp2, hp3⟩ := hpw'
      have hs : i < listed.size := by omega
      have hLi : listed.getD i false = false := by
        simp only [Array.getD_eq_getD_getElem?, Array.getElem?_eq_getElem hs, Option.getD_some] at hi1 ⊢
        exact hi1
      have h := step (fun k => listed.getD k false) a w i oi hoi hLi (fun e he hb => hpre e he (by rw [binds_any]; exact hb)) hI
      have hmono : ∀ a' w', I (fun j => listed.getD j false || Nat.beq j i) a' w' → wpAny P .any ops Q fuel (listed.setIfInBounds i true) a' w' := fun a' w' hI' => by
        have hnot1 : i ∉ L1 := fun h => Nat.lt_irrefl _ (hp3 i h i (by simp))
        have hnot2 : i ∉ L2 := fun h => Nat.lt_irrefl _ (List.rel_of_pairwise_cons hp2 h)
        refine ih _ (L1 ++ L2) a' w' (by simp [hsz]) (by simp only [List.length_append, List.length_cons] at hlen ⊢; omega) ?_ (fun k => ?_) ?_
        · rw [List.pairwise_append]
          exact ⟨hp1, (List.pairwise_cons.1 hp2).2, fun x hx y hy => hp3 x hx y (List.mem_cons_of_mem _ hy)⟩
        · by_cases hki : k = i
          · subst hki
            have : (listed.setIfInBounds k true).getD k true = true := by
              simp [Array.getD_eq_getD_getElem?, Array.getElem?_setIfInBounds_self_of_lt hs]
            rw [this]
            simp [hnot1, hnot2]
          · rw [getD_set_ne true (fun e => hki e.symm)]
            rw [← hmem k]
            simp [hki]
        · have : (fun k => (listed.setIfInBounds i true).getD k false) = fun j => listed.getD j false || Nat.beq j i := by
            funext k
            by_cases hki : k = i
            · subst hki
              rw [Nat.beq_refl, Bool.or_true]
              simp [Array.getD_eq_getD_getElem?, Array.getElem?_setIfInBounds_self_of_lt hs]
            · rw [getD_set_ne false (fun e => hki e.symm), show Nat.beq k i = false from nbeq hki, Bool.or_false]
          rw [this]
          exact hI'
      exact wpOp_mono hmono h
def depB (o : Oper) (j : Nat) : Bool := o.after.toList.any fun e => bindsAll e && Nat.beq e.on j
def dstsOnce (ops : List Oper) : Bool := (List.range ops.length).all fun i => (List.range ops.length).all fun j => Nat.beq i j || (match (ops[i]?).bind Oper.dst, (ops[j]?).bind Oper.dst with
  | some d, some d' => !(Nat.beq d d')
  | _, _ => true)
theorem any_stable (hm : P.follows .mixedOrders = true) {id : Nat} (hedge : edgesOk 0 ops.toList = true) (honce : dstsOnce ops.toList = true) {a0 : Act} {w0 : World} (S : Nat → Value → World → Prop) (C : Nat → Option Nat) (J : World → Prop)
    (h0 : J w0.drew) (hts : ∀ d, d ∈ dstsOf ops.toList → d < a0.tmps.size)
    (stJ : ∀ w w', Below w.heap.size w w' → J w → J w') (stS : ∀ j u w w', Below w.heap.size w w' → S j u w → S j u w')
    (step : ∀ k o, ops[k]? = some o → ∀ a w, J w → a.tmps.size = a0.tmps.size → a.defers = a0.defers → (∀ s, s ∉ dstsOf ops.toList → a.tmps.getD s undef = a0.tmps.getD s undef) →
      (∀ j oj d, ops[j]? = some oj → oj.dst = some d → depB o j = true → (C j = none ∨ C j = some k) → S j (a.tmps.getD d undef) w) →
      wpOp P ops Q k (fun a' w' => ∃ v, a' = a.put o.dst v ∧ (o.dst ≠ none → S k v w') ∧ (Below w.heap.size w w' ∨ (J w' ∧ ∀ j u, j ≠ k → C j ≠ some k → S j u w → S j u w'))) a w)
    (fin : ∀ a w, J w → a.tmps.size = a0.tmps.size → a.defers = a0.defers → (∀ s, s ∉ dstsOf ops.toList → a.tmps.getD s undef = a0.tmps.getD s undef) →
      (∀ k o d, ops[k]? = some o → o.dst = some d → C k = none → S k (a.tmps.getD d undef) w) → Q .normal a w) :
    (Code.region id ops true).wp P Q a0 w0 := by
  have hdm : ∀ {k : Nat} {o : Oper} {d : Nat}, ops[k]? = some o → o.dst = some d → d ∈ dstsOf ops.toList := fun {k o d} ho hd => dst_mem (by rw [Array.getElem?_toList]; exact ho) d (by rw [hd])
  have hone : ∀ {i j : Nat} {oi oj : Oper} {d : Nat}, ops[i]? = some oi → ops[j]? = some oj → oi.dst = some d → oj.dst = some d → i = j := fun {i j oi oj d} hi hj hdi hdj => by
    by_cases hij : i = j
    · exact hij
    · exfalso
      unfold dstsOnce at honce
      have li := (Array.getElem?_eq_some_iff.1 hi).1
      have lj := (Array.getElem?_eq_some_iff.1 hj).1
      have h1 := List.all_eq_true.1 (List.all_eq_true.1 honce i (List.mem_range.2 (by simpa using li))) j (List.mem_range.2 (by simpa using lj))
      rw [Array.getElem?_toList, Array.getElem?_toList, hi, hj, show Nat.beq i j = false from nbeq hij, Bool.false_or] at h1
      simp only [Option.bind_some, hdi, hdj, Nat.beq_refl, Bool.not_true] at h1
      cases h1
  refine wp_region_any hm ?_
  refine any_inv hedge (fun L a w => J w ∧ a.tmps.size = a0.tmps.size ∧ a.defers = a0.defers ∧ (∀ s, s ∉ dstsOf ops.toList → a.tmps.getD s undef = a0.tmps.getD s undef) ∧
    ∀ k o d, ops[k]? = some o → o.dst = some d → L k = true → (∀ c, C k = some c → L c = false) → S k (a.tmps.getD d undef) w) ?_ ?_ ops.size _ (List.range ops.size) a0 w0.drew (by simp) (by simp) List.pairwise_lt_range (fun k => ?_) ?_
  · rintro L a w k o ho hLk hpre ⟨hJ, h1, h2, h3, h4⟩
    refine wpOp_mono ?_ (step k o ho a w hJ h1 h2 h3 fun j oj d hj hd hdep hC => h4 j oj d hj hd ?_ fun c hc => ?_)
    · rintro a' w' ⟨v, rfl, hS, hst⟩
      have hJ' : J w' := hst.elim (fun h => stJ _ _ h hJ) And.left
      refine ⟨hJ', by rw [put_size]; exact h1, by rw [put_defers]; exact h2, fun s hs => ?_, fun j oj d hj hd hL hc => ?_⟩
      · rw [put_other _ _ _ _ fun e => hs (hdm ho e)]
        exact h3 s hs
      · by_cases hjk : j = k
        · subst hjk
          rw [ho] at hj
          cases hj
          rw [hd, put_same a d v (by rw [h1]; exact hts d (hdm ho hd))]
          exact hS (by rw [hd]; simp)
        · simp only [nbeq hjk, Bool.or_false] at hL
          have hck : C j ≠ some k := fun e => by
            have := hc k e
            simp only [Nat.beq_refl, Bool.or_true] at this
            cases this
          have hb := h4 j oj d hj hd hL fun c he => by
            have := hc c he
            simp only [Bool.or_eq_false_iff] at this
            exact this.1
          rw [put_other _ _ _ _ fun e => hjk (hone hj ho hd e)]
          exact hst.elim (fun h => stS _ _ _ _ h hb) fun h => h.2 j _ hjk hck hb
    · unfold depB at hdep
      obtain ⟨e, he, hb⟩ := List.any_eq_true.1 hdep
      rw [Bool.and_eq_true] at hb
      have := hpre e (by simpa using he) hb.1
      rwa [Nat.eq_of_beq_eq_true hb.2] at this
    · rcases hC with h | h
      · rw [h] at hc; cases hc
      · rw [h] at hc; cases hc; exact hLk
  · rintro L a w hL ⟨hJ, h1, h2, h3, h4⟩
    refine fin a w hJ h1 h2 h3 fun k o d ho hd hc => h4 k o d ho hd (hL k (Array.getElem?_eq_some_iff.1 ho).1) fun c hcc => by rw [hc] at hcc; cases hcc
  · rw [List.mem_range]
    constructor
    · intro hk
      exact ⟨hk, by simp [Array.getD_eq_getD_getElem?, hk]⟩
    · exact fun h => h.1
  · refine ⟨h0, rfl, rfl, fun _ _ => rfl, fun k o d ho _ hL _ => ?_⟩
    exfalso
    have hk := (Array.getElem?_eq_some_iff.1 ho).1
    simp [Array.getD_eq_getD_getElem?, hk] at hL
theorem any_last (hm : P.follows .mixedOrders = true) {id c : Nat} (hedge : edgesOk 0 ops.toList = true) (honce : dstsOnce ops.toList = true) {oc : Oper} (hoc : ops[c]? = some oc) (hc : c + 1 = ops.size) (hlast : ((List.range c).all fun k => depB oc k) = true) {a0 : Act} {w0 : World} (S : Nat → Value → World → Prop) (C : Nat → Option Nat) (J : World → Prop) (T : World → Prop) (cT : Nat)
    (h0 : J w0.drew) (hT0 : T w0.drew) (stT : ∀ w w', Below w.heap.size w w' → T w → T w') (hts : ∀ d, d ∈ dstsOf ops.toList → d < a0.tmps.size)
    (stJ : ∀ w w', Below w.heap.size w w' → J w → J w') (stS : ∀ j u w w', Below w.heap.size w w' → S j u w → S j u w')
    (step : ∀ k o, k < c → ops[k]? = some o → ∀ a w, J w → a.tmps.size = a0.tmps.size → a.defers = a0.defers → (∀ s, s ∉ dstsOf ops.toList → a.tmps.getD s undef = a0.tmps.getD s undef) →
      (∀ j oj d, ops[j]? = some oj → oj.dst = some d → depB o j = true → (C j = none ∨ C j = some k) → S j (a.tmps.getD d undef) w) → ((k = cT ∨ ∃ o', ops[cT]? = some o' ∧ depB o' k = true) → T w) →
      wpOp P ops Q k (fun a' w' => ∃ v, a' = a.put o.dst v ∧ (o.dst ≠ none → S k v w') ∧ (Below w.heap.size w w' ∨ (J w' ∧ (k ≠ cT → T w → T w') ∧ ∀ j oj u, ops[j]? = some oj → j ≠ k → C j ≠ some k → depB oj k = false → S j u w → S j u w'))) a w)
    (fin : ∀ a w, J w → a.tmps.size = a0.tmps.size → a.defers = a0.defers → (∀ s, s ∉ dstsOf ops.toList → a.tmps.getD s undef = a0.tmps.getD s undef) →
      (∀ k o d, k < c → ops[k]? = some o → o.dst = some d → C k = none → S k (a.tmps.getD d undef) w) → wpOp P ops Q c (fun a' w' => Q .normal a' w') a w) :
    (Code.region id ops true).wp P Q a0 w0 := by
  have hdm : ∀ {k : Nat} {o : Oper} {d : Nat}, ops[k]? = some o → o.dst = some d → d ∈ dstsOf ops.toList := fun {k o d} ho hd => dst_mem (by rw [Array.getElem?_toList]; exact ho) d (by rw [hd])
  have hone : ∀ {i j : Nat} {oi oj : Oper} {d : Nat}, ops[i]? = some oi → ops[j]? = some oj → oi.dst = some d → oj.dst = some d → i = j := fun {i j oi oj d} hi hj hdi hdj => by
    by_cases hij : i = j
    · exact hij
    · exfalso
      unfold dstsOnce at honce
      have li := (Array.getElem?_eq_some_iff.1 hi).1
      have lj := (Array.getElem?_eq_some_iff.1 hj).1
      have h1 := List.all_eq_true.1 (List.all_eq_true.1 honce i (List.mem_range.2 (by simpa using li))) j (List.mem_range.2 (by simpa using lj))
      rw [Array.getElem?_toList, Array.getElem?_toList, hi, hj, show Nat.beq i j = false from nbeq hij, Bool.false_or] at h1
      simp only [Option.bind_some, hdi, hdj, Nat.beq_refl, Bool.not_true] at h1
      cases h1
  refine wp_region_any hm ?_
  refine any_inv hedge (fun L a w => (∀ j oj, ops[j]? = some oj → L j = true → ∀ e ∈ oj.after, bindsAll e = true → L e.on = true) ∧ (L c = true → (∀ k, k < ops.size → L k = true) ∧ Q .normal a w) ∧ (L c = false → J w ∧ (L cT = false → T w) ∧ a.tmps.size = a0.tmps.size ∧ a.defers = a0.defers ∧ (∀ s, s ∉ dstsOf ops.toList → a.tmps.getD s undef = a0.tmps.getD s undef) ∧
    ∀ k o d, ops[k]? = some o → o.dst = some d → L k = true → (∀ c, C k = some c → L c = false) → S k (a.tmps.getD d undef) w)) ?_ ?_ ops.size _ (List.range ops.size) a0 w0.drew (by simp) (by simp) List.pairwise_lt_range (fun k => ?_) ?_
  · rintro L a w k o ho hLk hpre ⟨hcl, hd1, hd2⟩
    have hcl' : ∀ j oj, ops[j]? = some oj → (fun j => L j || Nat.beq j k) j = true → ∀ e ∈ oj.after, bindsAll e = true → (fun j => L j || Nat.beq j k) e.on = true := fun j oj hj hL e he hb => by
      by_cases hjk : j = k
      · subst hjk
        rw [ho] at hj
        cases hj
        simp only [hpre e he hb, Bool.true_or]
      · simp only [nbeq hjk, Bool.or_false] at hL
        simp only [hcl j oj hj hL e he hb, Bool.true_or]
    have hkn := (Array.getElem?_eq_some_iff.1 ho).1
    cases hLc : L c with
    | true => have := (hd1 hLc).1 k hkn; rw [hLk] at this; cases this
    | false =>
    obtain ⟨hJ, hTT, h1, h2, h3, h4⟩ := hd2 hLc
    by_cases hkc : k = c
    · subst hkc
      rw [ho] at hoc
      cases hoc
      have hL : ∀ j, j < k → L j = true := fun j hj => by
        have := List.all_eq_true.1 hlast j (List.mem_range.2 hj)
        unfold depB at this
        obtain ⟨e, he, hb⟩ := List.any_eq_true.1 this
        rw [Bool.and_eq_true] at hb
        have := hpre e (by simpa using he) hb.1
        rwa [Nat.eq_of_beq_eq_true hb.2] at this
      refine wpOp_mono ?_ (fin a w hJ h1 h2 h3 fun j oj d hj hoj hd hcj => h4 j oj d hoj hd (hL j hj) fun c hcc => by rw [hcj] at hcc; cases hcc)
      intro a' w' hQ
      refine ⟨hcl', fun _ => ⟨fun j hj => ?_, hQ⟩, fun h => ?_⟩
      · by_cases hjk : j = k
        · subst hjk; simp only [Nat.beq_refl, Bool.or_true]
        · simp only [hL j (by omega), Bool.true_or]
      · simp only [Nat.beq_refl, Bool.or_true] at h
        cases h
    · refine wpOp_mono ?_ (step k o (by omega) ho a w hJ h1 h2 h3 (fun j oj d hj hd hdep hC => h4 j oj d hj hd ?_ fun c hc => ?_) fun hk => hTT ?_)
      · rintro a' w' ⟨v, rfl, hS, hst⟩
        have hJ' : J w' := hst.elim (fun h => stJ _ _ h hJ) And.left
        refine ⟨hcl', fun h => ?_, fun _ => ⟨hJ', fun hT => ?_, by rw [put_size]; exact h1, by rw [put_defers]; exact h2, fun s hs => ?_, fun j oj d hj hd hL hc => ?_⟩⟩
        · simp only [hLc, nbeq (Ne.symm hkc), Bool.or_false] at h
          cases h
        · simp only [Bool.or_eq_false_iff] at hT
          have hkT : k ≠ cT := fun e => by rw [e, Nat.beq_refl] at hT; cases hT.2
          exact hst.elim (fun h => stT _ _ h (hTT hT.1)) fun h => h.2.1 hkT (hTT hT.1)
        · rw [put_other _ _ _ _ fun e => hs (hdm ho e)]
          exact h3 s hs
        · by_cases hjk : j = k
          · subst hjk
            rw [ho] at hj
            cases hj
            rw [hd, put_same a d v (by rw [h1]; exact hts d (hdm ho hd))]
            exact hS (by rw [hd]; simp)
          · simp only [nbeq hjk, Bool.or_false] at hL
            have hck : C j ≠ some k := fun e => by
              have := hc k e
              simp only [Nat.beq_refl, Bool.or_true] at this
              cases this
            have hb := h4 j oj d hj hd hL fun c he => by
              have := hc c he
              simp only [Bool.or_eq_false_iff] at this
              exact this.1
            rw [put_other _ _ _ _ fun e => hjk (hone hj ho hd e)]
            refine hst.elim (fun h => stS _ _ _ _ h hb) fun h => h.2.2 j oj _ hj hjk hck ?_ hb
            cases hdk : depB oj k with
            | false => rfl
            | true =>
              exfalso
              unfold depB at hdk
              obtain ⟨e, he, hbe⟩ := List.any_eq_true.1 hdk
              rw [Bool.and_eq_true] at hbe
              have := hcl j oj hj hL e (by simpa using he) hbe.1
              rw [Nat.eq_of_beq_eq_true hbe.2, hLk] at this
              cases this
      · unfold depB at hdep
        obtain ⟨e, he, hb⟩ := List.any_eq_true.1 hdep
        rw [Bool.and_eq_true] at hb
        have := hpre e (by simpa using he) hb.1
        rwa [Nat.eq_of_beq_eq_true hb.2] at this
      · rcases hC with h | h
        · rw [h] at hc; cases hc
        · rw [h] at hc; cases hc; exact hLk
      · rcases hk with rfl | ⟨o', ho', hd⟩
        · exact hLk
        · cases hLT : L cT with
          | false => rfl
          | true =>
            exfalso
            unfold depB at hd
            obtain ⟨e, he, hbe⟩ := List.any_eq_true.1 hd
            rw [Bool.and_eq_true] at hbe
            have := hcl cT o' ho' hLT e (by simpa using he) hbe.1
            rw [Nat.eq_of_beq_eq_true hbe.2, hLk] at this
            cases this
  · rintro L a w hL ⟨_, hd1, _⟩
    exact (hd1 (hL c (by omega))).2
  · rw [List.mem_range]
    constructor
    · intro hk
      exact ⟨hk, by simp [Array.getD_eq_getD_getElem?, hk]⟩
    · exact fun h => h.1
  · refine ⟨fun j oj hj hL => ?_, fun h => ?_, fun _ => ⟨h0, fun _ => hT0, rfl, rfl, fun _ _ => rfl, fun k o d ho _ hL _ => ?_⟩⟩
    · exfalso
      have hk := (Array.getElem?_eq_some_iff.1 hj).1
      simp [Array.getD_eq_getD_getElem?, hk] at hL
    · exfalso
      simp [Array.getD_eq_getD_getElem?, show c < ops.size by omega] at h
    · exfalso
      have hk := (Array.getElem?_eq_some_iff.1 ho).1
      simp [Array.getD_eq_getD_getElem?, hk] at hL
end Go.Lift
