/-
  Sets in the order of their sizes; the explanations of the program.
-/
import Derived.Test.YteobfadhflofpaaGreatPlainJ
import Derived.KernelRfl
import Derived.Test.YteobfadhflofpaaGreatPlainK
set_option linter.unusedSectionVars false
set_option linter.unusedVariables false
set_option linter.unusedSimpArgs false
namespace Go.Lift
open Go
def bef : List Int → List Int → Bool
  | a :: l, b :: m => if a = b then bef l m else decide (a < b)
  | [], _ :: _ => true
  | _, [] => false
theorem bef_trans : ∀ {a b c : List Int}, bef a b = true → bef b c = true → bef a c = true
  | [], [], _, h, _ => by cases h
  | _ :: _, [], _, h, _ => by cases h
  | [], _ :: _, [], _, h => by cases h
  | [], _ :: _, _ :: _, _, _ => rfl
  | _ :: _, _ :: _, [], _, h => by cases h
  | a :: l, b :: m, c :: n, h, k => by
    unfold bef at h k ⊢
    by_cases e1 : a = b
    · subst e1
      rw [if_pos rfl] at h
      by_cases e2 : a = c
      · subst e2
        rw [if_pos rfl] at k ⊢
        exact bef_trans h k
      · rw [if_neg e2] at k ⊢
        exact k
    · rw [if_neg e1, decide_eq_true_eq] at h
      by_cases e2 : b = c
      · subst e2
        rw [if_neg e1]
        exact decide_eq_true h
      · rw [if_neg e2, decide_eq_true_eq] at k
        rw [if_neg (by omega)]
        exact decide_eq_true (by omega)
theorem bef_irr : ∀ a : List Int, bef a a = false
  | [] => rfl
  | a :: l => by
    unfold bef
    rw [if_pos rfl]
    exact bef_irr l
def memL (s : Nat) : List Int := ((List.range 64).filter s.testBit).map fun (i : Nat) => (i : Int)
def sizeN (s : Nat) : Nat := (memL s).length
def lessB (a b : Nat) : Bool := decide (sizeN a < sizeN b) || (decide (sizeN a = sizeN b) && bef (memL a) (memL b))
theorem less_iff {a b : Nat} : lessB a b = true ↔ sizeN a < sizeN b ∨ (sizeN a = sizeN b ∧ bef (memL a) (memL b) = true) := by
  unfold lessB
  rw [Bool.or_eq_true, Bool.and_eq_true, decide_eq_true_eq, decide_eq_true_eq]
theorem less_trans {a b c : Nat} (h : lessB a b = true) (k : lessB b c = true) : lessB a c = true := by
  rw [less_iff] at h k ⊢
  rcases h with h | ⟨h, h'⟩ <;> rcases k with k | ⟨k, k'⟩
  · exact Or.inl (by omega)
  · exact Or.inl (by omega)
  · exact Or.inl (by omega)
  · exact Or.inr ⟨by omega, bef_trans h' k'⟩
theorem less_asymm {a b : Nat} (h : lessB a b = true) (k : lessB b a = true) : False := by
  have := less_trans h k
  rw [less_iff] at this
  rcases this with h | ⟨_, h⟩
  · omega
  · rw [bef_irr] at h; cases h
theorem less_size {a b : Nat} (h : lessB a b = true) : sizeN a ≤ sizeN b := by
  rw [less_iff] at h
  rcases h with h | ⟨h, _⟩ <;> omega
theorem memL_mem {s : Nat} {k : Int} : k ∈ memL s ↔ ∃ i : Nat, k = (i : Int) ∧ i < 64 ∧ s.testBit i = true := by
  unfold memL
  rw [List.mem_map]
  constructor
  · rintro ⟨i, hi, rfl⟩
    rw [List.mem_filter, List.mem_range] at hi
    exact ⟨i, rfl, hi.1, hi.2⟩
  · rintro ⟨i, rfl, h1, h2⟩
    exact ⟨i, by rw [List.mem_filter, List.mem_range]; exact ⟨h1, h2⟩, rfl⟩
theorem memL_bit {s i : Nat} (h : s < W64) : (i : Int) ∈ memL s ↔ s.testBit i = true := by
  rw [memL_mem]
  constructor
  · rintro ⟨j, hj, _, hb⟩
    have : i = j := by omega
    rw [this]; exact hb
  · intro hb
    refine ⟨i, rfl, ?_, hb⟩
    by_cases hi : i < 64
    · exact hi
    · rw [Nat.testBit_lt_two_pow (Nat.lt_of_lt_of_le h (by rw [pow64]; exact Nat.pow_le_pow_right (by decide) (by omega)))] at hb
      cases hb
def SN (n : Nat) : List Nat := (setsL (n : Int)).map Int.toNat
def chainB : List Nat → Bool
  | a :: b :: l => lessB a b && chainB (b :: l)
  | _ => true
def checkS (n : Nat) : Bool := ((setsL (n : Int)).all fun x => decide (0 ≤ x) && decide (x < ((2 ^ n : Nat) : Int))) && chainB (SN n) && ((List.range (2 ^ n)).all fun s => (SN n).contains s)
theorem checkS_ok : ((List.range 8).all checkS) = true := by kernel_rfl
theorem pairwise_of_chain : ∀ {l : List Nat}, chainB l = true → l.Pairwise fun a b => lessB a b = true
  | [], _ => List.Pairwise.nil
  | [a], _ => List.pairwise_singleton _ _
  | a :: b :: l, h => by
    unfold chainB at h
    rw [Bool.and_eq_true] at h
    have ih := pairwise_of_chain h.2
    rw [List.pairwise_cons]
    refine ⟨fun x hx => ?_, ih⟩
    rcases List.mem_cons.1 hx with rfl | hx
    · exact h.1
    · rw [List.pairwise_cons] at ih
      exact less_trans h.1 (ih.1 x hx)
structure SetsOk (n : Nat) (L : List Nat) : Prop where
  eq : setsL (n : Int) = L.map fun (s : Nat) => (s : Int)
  srt : L.Pairwise fun a b => lessB a b = true
  mem : ∀ s, s ∈ L ↔ s < 2 ^ n
theorem SN_ok {n : Nat} (h : n ≤ 7) : SetsOk n (SN n) := by
  have := List.all_eq_true.1 checkS_ok n (List.mem_range.2 (by omega))
  unfold checkS at this
  rw [Bool.and_eq_true, Bool.and_eq_true] at this
  obtain ⟨⟨h1, h2⟩, h3⟩ := this
  rw [List.all_eq_true] at h1 h3
  have g : ∀ x, x ∈ setsL (n : Int) → 0 ≤ x ∧ x < ((2 ^ n : Nat) : Int) := fun x hx => by
    have := h1 x hx
    rw [Bool.and_eq_true, decide_eq_true_eq, decide_eq_true_eq] at this
    exact this
  refine ⟨?_, pairwise_of_chain h2, fun s => ⟨fun hs => ?_, fun hs => ?_⟩⟩
  · unfold SN
    rw [List.map_map]
    have : ∀ x, x ∈ setsL (n : Int) → ((fun (s : Nat) => (s : Int)) ∘ Int.toNat) x = x := fun x hx => by
      have := g x hx
      show ((x.toNat : Nat) : Int) = x
      omega
    rw [List.map_congr_left this, List.map_id']
  · unfold SN at hs
    obtain ⟨x, hx, rfl⟩ := List.mem_map.1 hs
    have := g x hx
    omega
  · have := h3 s (List.mem_range.2 hs)
    rw [List.contains_iff_mem] at this
    exact this
structure IsE (N : Nat) (P : Nat → Bool) (L : List Nat) : Prop where
  srt : L.Pairwise fun a b => lessB a b = true
  mem : ∀ s, s ∈ L ↔ s < N ∧ P s = true ∧ ∀ t, t < N → P t = true → sizeN s ≤ sizeN t
theorem exists_min {P : Nat → Bool} : ∀ {N : Nat}, (∃ s, s < N ∧ P s = true) → ∃ s, s < N ∧ P s = true ∧ ∀ t, t < N → P t = true → sizeN s ≤ sizeN t
  | 0, h => by obtain ⟨s, hs, _⟩ := h; omega
  | N + 1, h => by
    by_cases k : ∃ s, s < N ∧ P s = true
    · obtain ⟨s, h1, h2, h3⟩ := exists_min k
      by_cases q : P N = true ∧ sizeN N < sizeN s
      · refine ⟨N, by omega, q.1, fun t ht hp => ?_⟩
        by_cases e : t = N
        · rw [e]; exact Nat.le_refl _
        · have := h3 t (by omega) hp; omega
      · refine ⟨s, by omega, h2, fun t ht hp => ?_⟩
        by_cases e : t = N
        · subst e
          by_cases z : sizeN t < sizeN s
          · exact (q ⟨hp, z⟩).elim
          · omega
        · exact h3 t (by omega) hp
    · obtain ⟨s, h1, h2⟩ := h
      have : s = N := by
        by_cases e : s = N
        · exact e
        · exact (k ⟨s, by omega, h2⟩).elim
      subst this
      refine ⟨s, by omega, h2, fun t ht hp => ?_⟩
      by_cases e : t = s
      · rw [e]; exact Nat.le_refl _
      · exact (k ⟨t, by omega, hp⟩).elim
theorem isE_nil {N : Nat} {P : Nat → Bool} {L : List Nat} (h : IsE N P L) : L = [] ↔ ∀ s, s < N → P s = false := by
  constructor
  · intro e s hs
    cases hp : P s with
    | false => rfl
    | true =>
      obtain ⟨m, h1, h2, h3⟩ := exists_min (P := P) ⟨s, hs, hp⟩
      have := (h.mem m).2 ⟨h1, h2, h3⟩
      rw [e] at this
      cases this
  · intro e
    cases L with
    | nil => rfl
    | cons a l =>
      have := (h.mem a).1 (by simp)
      rw [e a this.1] at this
      cases this.2.1
theorem ones32 : ((List.range 32).all fun s => decide (bits_OnesCount (s : Int) = some (sizeN s : Int))) = true := by kernel_rfl
theorem ones_size {s : Nat} (h : s < 32) : bits_OnesCount (s : Int) = some (sizeN s : Int) := by
  have := List.all_eq_true.1 ones32 s (List.mem_range.2 h)
  exact of_decide_eq_true this
theorem explL_ok {v : Dtrace_evidence} {R : Int} {P : Nat → Bool} {S : List Nat} (hs : S.Pairwise fun a b => lessB a b = true) (h32 : ∀ s, s ∈ S → s < 32)
    (hw : ∀ s, s ∈ S → ∃ w : Int, trace_evidence_firstWrong v (s : Int) R = some w ∧ P s = decide (w < 0)) (hlen : S.length ≤ 1000) :
    ∀ (rest pre : List Nat), S = pre ++ rest → (∀ s t, s ∈ pre.filter P → t ∈ pre.filter P → sizeN s = sizeN t) →
      ∃ E : List Nat, explL v R (rest.map fun (s : Nat) => (s : Int)) ((pre.filter P).map fun (s : Nat) => (s : Int)) = some (E.map fun (s : Nat) => (s : Int)) ∧ (E.Pairwise fun a b => lessB a b = true) ∧ ∀ s, s ∈ E ↔ s ∈ S ∧ P s = true ∧ ∀ t, t ∈ S → P t = true → sizeN s ≤ sizeN t
  | [], pre, e, hm => by
    rw [List.append_nil] at e
    refine ⟨pre.filter P, rfl, ?_, fun s => ?_⟩
    · exact (e ▸ hs).filter _
    · rw [List.mem_filter, e]
      constructor
      · rintro ⟨h1, h2⟩
        exact ⟨h1, h2, fun t ht hp => Nat.le_of_eq (hm s t (List.mem_filter.2 ⟨h1, h2⟩) (List.mem_filter.2 ⟨ht, hp⟩))⟩
      · rintro ⟨h1, h2, _⟩
        exact ⟨h1, h2⟩
  | s :: rest, pre, e, hm => by
    have hsS : s ∈ S := by rw [e]; simp
    have hl : (pre.filter P).length ≤ 1000 := by
      have := List.length_filter_le P pre
      rw [e, List.length_append] at hlen
      omega
    obtain ⟨w, hw1, hw2⟩ := hw s hsS
    rw [List.map_cons]
    unfold explL explStep
    have hsrt := hs
    rw [e, List.pairwise_append, List.pairwise_cons] at hsrt
    obtain ⟨q1, ⟨q2, q3⟩, q4⟩ := hsrt
    have hgo : (∀ t, t ∈ pre.filter P → sizeN t = sizeN s) → ∃ E : List Nat,
        (((trace_evidence_firstWrong v (s : Int) R).bind fun (w : Int) => bif decide (w < 0) then (app ((pre.filter P).map fun (s : Nat) => (s : Int)) [(s : Int)]).bind fun (o : List Int) => some (some o) else some (some ((pre.filter P).map fun (s : Nat) => (s : Int)))).bind fun (o : Option (List Int)) => match o with
          | none => some ((pre.filter P).map fun (s : Nat) => (s : Int))
          | some o => explL v R (rest.map fun (s : Nat) => (s : Int)) o) = some (E.map fun (s : Nat) => (s : Int)) ∧ (E.Pairwise fun a b => lessB a b = true) ∧ ∀ s, s ∈ E ↔ s ∈ S ∧ P s = true ∧ ∀ t, t ∈ S → P t = true → sizeN s ≤ sizeN t := by
      intro hsz
      have ih := explL_ok hs h32 hw hlen rest (pre ++ [s]) (by rw [e]; simp)
      rw [List.filter_append] at ih
      rw [hw1, Option.bind_some, ← hw2]
      cases hp : P s with
      | true =>
        rw [show [s].filter P = [s] by rw [List.filter_cons, hp, if_pos rfl]; rfl] at ih
        rw [cond_true, app_ok (by rw [List.length_map, List.length_singleton]; omega), Option.bind_some, Option.bind_some]
        rw [List.map_append] at ih
        exact ih fun a b ha hb => by
          have z : ∀ x, x ∈ pre.filter P ++ [s] → sizeN x = sizeN s := fun x hx => by
            rcases List.mem_append.1 hx with h | h
            · exact hsz x h
            · rw [List.mem_singleton.1 h]
          rw [z a ha, z b hb]
      | false =>
        rw [show [s].filter P = [] by rw [List.filter_cons, hp, if_neg (by decide)]; rfl, List.append_nil] at ih
        rw [cond_false, Option.bind_some]
        exact ih hm
    cases hf : pre.filter P with
    | nil =>
      rw [hf] at hgo
      rw [dec_false (show ¬ ((List.length (([] : List Nat).map fun (s : Nat) => (s : Int)) : Int) > 0) from by decide), cond_false, Option.bind_some, cond_false]
      exact hgo fun t ht => by cases ht
    | cons a l =>
      have ha : a ∈ pre.filter P := by rw [hf]; simp
      have hap := List.mem_filter.1 ha
      have haS : a ∈ S := by rw [e]; exact List.mem_append.2 (Or.inl hap.1)
      have hle : sizeN a ≤ sizeN s := less_size (q4 a hap.1 s (by simp))
      rw [hf] at hgo
      rw [dec_true (show ((List.length ((a :: l).map fun (s : Nat) => (s : Int)) : Int) > 0) by rw [List.length_map, List.length_cons]; omega), cond_true, ones_size (h32 s hsS), Option.bind_some,
        show lget 0 ((a :: l).map fun (s : Nat) => (s : Int)) 0 = (a : Int) from rfl, ones_size (h32 a haS), Option.bind_some, Option.bind_some]
      by_cases hgt : sizeN s > sizeN a
      · rw [dec_true (show (sizeN s : Int) > (sizeN a : Int) by omega), cond_true, Option.bind_some]
        refine ⟨a :: l, rfl, ?_, fun x => ?_⟩
        · rw [← hf]; exact q1.filter _
        · have hbig : ∀ t, t ∈ s :: rest → sizeN a < sizeN t := fun t ht => by
            rcases List.mem_cons.1 ht with rfl | ht
            · exact hgt
            · have := less_size (q2 t ht); omega
          rw [← hf, List.mem_filter]
          constructor
          · rintro ⟨h1, h2⟩
            refine ⟨by rw [e]; exact List.mem_append.2 (Or.inl h1), h2, fun t ht hp => ?_⟩
            have hxa := hm x a (List.mem_filter.2 ⟨h1, h2⟩) ha
            rw [e] at ht
            rcases List.mem_append.1 ht with ht | ht
            · exact Nat.le_of_eq (hm x t (List.mem_filter.2 ⟨h1, h2⟩) (List.mem_filter.2 ⟨ht, hp⟩))
            · have := hbig t ht; omega
          · rintro ⟨h1, h2, h3⟩
            refine ⟨?_, h2⟩
            rw [e] at h1
            rcases List.mem_append.1 h1 with h | h
            · exact h
            · have := hbig x h
              have := h3 a haS hap.2
              omega
      · rw [dec_false (show ¬ (sizeN s : Int) > (sizeN a : Int) by omega), cond_false]
        exact hgo fun t ht => by
          have := hm t a (by rw [hf]; exact ht) ha
          omega
theorem explOk_ok {v : Dtrace_evidence} {R : Int} : ∀ {l : List Nat}, (∀ s, s ∈ l → ∃ w : Int, trace_evidence_firstWrong v (s : Int) R = some w) → explOk v R (l.map fun (s : Nat) => (s : Int)) = some ()
  | [], _ => rfl
  | s :: l, h => by
    obtain ⟨w, hw⟩ := h s (by simp)
    rw [List.map_cons]
    unfold explOk
    rw [hw, Option.bind_some]
    exact explOk_ok fun t ht => h t (List.mem_cons_of_mem _ ht)
theorem explanations_ok {v : Dtrace_evidence} {R : Int} {P : Nat → Bool} {n : Nat} (hn : v.1 = (n : Int)) (h5 : n ≤ 5) (hw : ∀ s : Nat, s < 2 ^ n → ∃ w : Int, trace_evidence_firstWrong v (s : Int) R = some w ∧ P s = decide (w < 0)) :
    ∃ E : List Nat, trace_evidence_explanations v R = some (E.map fun (s : Nat) => (s : Int)) ∧ IsE (2 ^ n) P E := by
  have hS := SN_ok (n := n) (by omega)
  have h32 : 2 ^ n ≤ 32 := Nat.pow_le_pow_right (n := 2) (by decide) h5
  have hlen : (SN n).length ≤ 1000 := by
    have := List.all_eq_true.1 (show ((List.range 6).all fun n => decide ((SN n).length ≤ 1000)) = true by kernel_rfl) n (List.mem_range.2 (by omega))
    exact of_decide_eq_true this
  obtain ⟨E, h1, h2, h3⟩ := explL_ok (v := v) (R := R) (P := P) hS.srt (fun s hs => Nat.lt_of_lt_of_le ((hS.mem s).1 hs) h32) (fun s hs => hw s ((hS.mem s).1 hs)) hlen (SN n) [] rfl (fun s t hs => by cases hs)
  refine ⟨E, ?_, h2, fun s => ?_⟩
  · unfold trace_evidence_explanations
    rw [hn, dec_true (show (0 : Int) ≤ (n : Int) by omega), dec_true (show (n : Int) ≤ 8 by omega), show (true && true) = true from rfl, cond_true, hS.eq, explOk_ok (fun s hs => by obtain ⟨w, q, _⟩ := hw s ((hS.mem s).1 hs); exact ⟨w, q⟩), Option.bind_some]
    exact h1
  · rw [h3, hS.mem]
    exact ⟨fun ⟨a, b, c⟩ => ⟨a, b, fun t ht => c t ((hS.mem t).2 ht)⟩, fun ⟨a, b, c⟩ => ⟨a, b, fun t ht => c t ((hS.mem t).1 ht)⟩⟩
theorem filter_range_succ {p : Nat → Bool} {k : Nat} : (List.range (k + 1)).filter p = (List.range k).filter p ++ (if p k = true then [k] else []) := by
  rw [List.range_succ, List.filter_append, List.filter_cons]
  rfl
theorem set_list_ok {s : Nat} (h : s < W64) : trace_set_list (s : Int) = some (memL s) := by
  unfold trace_set_list
  refine Option.bind_eq_some_iff.2 ⟨memL s, loopM_count (fun i => (((List.range i).filter s.testBit).map fun (i : Nat) => (i : Int), (i : Int))) 64 (fun i hi => ?_) ?_, rfl⟩
  · simp only
    rw [dec_true (show (i : Int) < 64 by omega), cond_true, has_bit h (by omega), Option.bind_some, filter_range_succ]
    have hl : ((List.range i).filter s.testBit).length ≤ 64 := by
      have := List.length_filter_le s.testBit (List.range i)
      rw [List.length_range] at this
      omega
    cases hb : s.testBit i with
    | true =>
      rw [cond_true, app_ok (by rw [List.length_map, List.length_singleton]; omega), Option.bind_some, Option.bind_some, if_pos rfl, List.map_append, wi64_id (by omega) (by omega)]
      rfl
    | false =>
      rw [cond_false, Option.bind_some, if_neg (by decide), List.append_nil, wi64_id (by omega) (by omega)]
      rfl
  · rfl
end Go.Lift
namespace Go.Lift
open Go
def hitB (f : Nat → Bool) (s : Nat) : Bool := (memL s).any fun k => f k.toNat
def agreeB (T : Nat → Nat → Bool) (pres : Nat → Bool) (k R s : Nat) : Bool := (List.range k).all fun i => !R.testBit i || (hitB (T i) s == pres i)
theorem agree_iff {T : Nat → Nat → Bool} {pres : Nat → Bool} {k R s : Nat} : agreeB T pres k R s = true ↔ ∀ i, i < k → R.testBit i = true → hitB (T i) s = pres i := by
  unfold agreeB
  rw [List.all_eq_true]
  constructor
  · intro h i hi hb
    have := h i (List.mem_range.2 hi)
    rw [hb, Bool.not_true, Bool.false_or, beq_iff_eq] at this
    exact this
  · intro h i hi
    have hi := List.mem_range.1 hi
    cases hb : R.testBit i with
    | false => rfl
    | true => rw [h i hi hb, Bool.not_true, Bool.false_or, beq_self_eq_true]
theorem bit_lt {s n i : Nat} (hs : s < 2 ^ n) (h : s.testBit i = true) : i < n := by
  by_cases hi : i < n
  · exact hi
  · rw [Nat.testBit_lt_two_pow (Nat.lt_of_lt_of_le hs (Nat.pow_le_pow_right (by decide) (by omega)))] at h
    cases h
theorem lt_64 {s n : Nat} (hn : n ≤ 60) (hs : s < 2 ^ n) : s < W64 := by
  rw [pow64]
  exact Nat.lt_of_lt_of_le hs (Nat.pow_le_pow_right (by decide) (by omega))
theorem meet_set {f : Nat → Bool} {n s : Nat} (hn : n ≤ 60) (hs : s < 2 ^ n) : decide (s &&& setN f n ≠ 0) = hitB f s := by
  rw [Bool.eq_iff_iff, decide_eq_true_eq]
  unfold hitB
  rw [List.any_eq_true]
  constructor
  · intro h
    rw [ne_eq, meet_zero] at h
    simp only [Classical.not_forall, Decidable.not_not] at h
    obtain ⟨i, h1, h2⟩ := h
    rw [setN_bit, Bool.and_eq_true] at h2
    exact ⟨(i : Int), (memL_bit (lt_64 hn hs)).2 h1, by rw [Int.toNat_natCast]; exact h2.2⟩
  · rintro ⟨k, hk, hT⟩
    obtain ⟨i, rfl, _, hb⟩ := memL_mem.1 hk
    rw [Int.toNat_natCast] at hT
    intro h0
    refine meet_zero.1 h0 i ⟨hb, ?_⟩
    rw [setN_bit, Bool.and_eq_true, decide_eq_true_eq]
    exact ⟨bit_lt hs hb, hT⟩
theorem wrong_agree {T : Nat → Nat → Bool} {pres : Nat → Bool} {n k R s : Nat} (hn : n ≤ 60) (hs : s < 2 ^ n) :
    agreeB T pres k R s = (findF (wrongAt (fun i => setN (T i) n) pres s R) 0 k).isNone := by
  rw [Bool.eq_iff_iff, agree_iff, Option.isNone_iff_eq_none, findF_none]
  constructor
  · intro h i _ hi
    unfold wrongAt
    rw [meet_set hn hs]
    by_cases hb : R.testBit i = true
    · rw [if_neg (fun e => e.2 (h i (by omega) hb))]
    · rw [if_neg (fun e => hb e.1)]
  · intro h i hi hb
    have := h i (by omega) (by omega)
    unfold wrongAt at this
    rw [meet_set hn hs] at this
    split at this
    · cases this
    · rename_i q
      exact Decidable.of_not_not fun e => q ⟨hb, e⟩
theorem evidExpl_ok {T : Nat → Nat → Bool} {pres : Nat → Bool} {n k R : Nat} (hn : n ≤ 5) (hk : k ≤ 60) (hR : R < W64) :
    ∃ E : List Nat, trace_evidence_explanations ((n : Int), ((List.range k).map fun i => ((setN (T i) n : Nat) : Int), (List.range k).map pres)) (R : Int) = some (E.map fun (s : Nat) => (s : Int)) ∧ IsE (2 ^ n) (agreeB T pres k R) E := by
  refine explanations_ok (v := ((n : Int), ((List.range k).map fun i => ((setN (T i) n : Nat) : Int), (List.range k).map pres))) rfl hn fun s hs => ?_
  refine ⟨_, firstWrong_ok (by_ := fun i => setN (T i) n) hk (fun i _ => setN_64 (by omega)) (lt_64 (by omega) hs) hR, ?_⟩
  rw [wrong_agree (n := n) (by omega) hs]
  cases hf : findF (wrongAt (fun i => setN (T i) n) pres s R) 0 k with
  | none => rfl
  | some w =>
    obtain ⟨i, _, _, hi, _⟩ := findF_some hf
    unfold wrongAt at hi
    split at hi
    · cases hi
      simp only
      rw [dec_false (show ¬ (i : Int) < 0 by omega)]
      rfl
    · cases hi
theorem nodup_len : ∀ {N : Nat} {l : List Nat}, l.Nodup → (∀ s, s ∈ l → s < N) → l.length ≤ N
  | 0, [], _, _ => Nat.le_refl _
  | 0, a :: l, _, h => by have := h a (by simp); omega
  | N + 1, l, hn, h => by
    by_cases hm : N ∈ l
    · have ih := nodup_len (N := N) (hn.erase N) fun s hs => by
        have := (hn.mem_erase_iff).1 hs
        have := h s this.2
        omega
      rw [List.length_erase_of_mem hm] at ih
      omega
    · have ih := nodup_len (N := N) hn fun s hs => by
        have := h s hs
        by_cases e : s = N
        · subst e; exact (hm hs).elim
        · omega
      omega
theorem isE_len {n : Nat} {P : Nat → Bool} {E : List Nat} (hn : n ≤ 5) (h : IsE (2 ^ n) P E) : E.length ≤ 32 := by
  have hnd : E.Nodup := h.srt.imp fun {a b} hl e => by
    subst e
    exact less_asymm hl hl
  have hle : E.length ≤ 2 ^ n := nodup_len hnd fun s hs => ((h.mem s).1 hs).1
  exact Nat.le_trans hle (Nat.pow_le_pow_right (n := 2) (by decide) hn)
theorem tExplanations_ok {c : Dapi_TraceCourse} (hv : Valid c) {l : List Dapi_TraceCause} {r : List Dapi_TraceReading} (hoc : trace_openCauses c l = some ((c, stripsQ c (c.2.2.2.length + 1)), (0, 0))) (h5 : l.length ≤ 5) (hc : ∀ k, k < l.length → CauseOk c (lget d0 l (k : Int))) (hin : ∀ x, x ∈ r → ReadIn x) :
    (readsE c r ≠ 0 → trace_Explanations c l r = some ([], readsE c r)) ∧ (readsE c r = 0 → ∃ E : List Nat, IsE (2 ^ l.length) (agreeB (tabB c l r) (presB r) r.length (2 ^ r.length - 1)) E ∧ trace_Explanations c l r = some (E.map memL, if E = [] then 12 else 0)) := by
  unfold trace_Explanations
  rw [openEvidence_ok hv hoc h5 hc hin, Option.bind_some]
  simp only
  constructor
  · intro h
    rw [if_neg h, show (readsE c r != 0) = true by rw [bne_iff_ne]; exact h, cond_true]
  · intro h
    obtain ⟨h10, hr⟩ := readsE_zero h
    rw [h, if_pos rfl, show ((0 : Int) != 0) = false from rfl, cond_false]
    unfold evidN
    rw [every_ok (k := r.length) (by rw [List.length_map, List.length_range]) (by omega), Option.bind_some]
    obtain ⟨E, e1, e2⟩ := evidExpl_ok (T := tabB c l r) (pres := presB r) (n := l.length) (k := r.length) (R := 2 ^ r.length - 1) h5 (by omega) (ones_64 (by omega))
    refine ⟨E, e2, ?_⟩
    have hlen := isE_len h5 e2
    rw [show trace_evidence_explanations ((l.length : Int), (List.range r.length).map (fun i => (byN c l r i : Int)), (List.range r.length).map (presB r)) ((2 ^ r.length - 1 : Nat) : Int) = some (E.map fun (s : Nat) => (s : Int)) from e1, Option.bind_some]
    refine Option.bind_eq_some_iff.2 ⟨E.map memL, loopM_list_eq (X := Nat) (l := E) (t := E.map memL) (fun l' s => ∃ pre, E = pre ++ l' ∧ s = (pre.map memL, (pre.length : Int))) ?_ ?_ ⟨[], rfl, rfl⟩, ?_⟩
    · rintro a l' s ⟨pre, q1, rfl⟩
      left
      have hL : E.length = pre.length + (l'.length + 1) := by rw [q1, List.length_append, List.length_cons]
      have ha := ((e2.mem a).1 (by rw [q1]; simp)).1
      have g1 : ∀ d, lget d (E.map fun (s : Nat) => (s : Int)) (pre.length : Int) = (a : Int) := fun d => by
        rw [q1, List.map_append, List.map_cons, show pre.length = (pre.map fun (s : Nat) => (s : Int)).length by rw [List.length_map]]
        exact lget_mid
      simp only
      rw [List.length_map, dec_true (show (pre.length : Int) < (E.length : Int) by omega), cond_true, chk_true (and_true' (dec_true (by omega)) rfl), g1, set_list_ok (lt_64 (n := l.length) (by omega) ha), Option.bind_some,
        app_ok (by rw [List.length_map, List.length_singleton]; omega), Option.bind_some, wi64_id (by omega) (by omega)]
      refine ⟨_, rfl, pre ++ [a], by rw [q1]; simp, ?_⟩
      rw [List.map_append, List.length_append]
      rfl
    · rintro s ⟨pre, q1, rfl⟩
      rw [List.append_nil] at q1
      subst q1
      simp only
      rw [List.length_map, dec_false (show ¬ (E.length : Int) < (E.length : Int) by omega), cond_false]
    · rw [unless_ok, Option.bind_some]
      by_cases hE : E = []
      · subst hE; rfl
      · rw [if_neg hE]
        have : 0 < E.length := List.length_pos_iff.2 hE
        rw [List.length_map, dec_true (show (E.length : Int) > 0 by omega), if_pos rfl]
end Go.Lift
