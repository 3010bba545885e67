/-
  The readings that contradict all causes.
-/
import Derived.Test.YtfihcmhknhbndaaGreatDoorPlainO
import Derived.Test.YtfihcmhknhbndaaGreatDoorFunCt
set_option linter.unusedSectionVars false
set_option linter.unusedVariables false
set_option linter.unusedSimpArgs false
namespace Go.Lift
open Go
def noneB (T : Nat → Nat → Bool) (pres : Nat → Bool) (n k R : Nat) : Bool := (List.range (2 ^ n)).all fun s => !agreeB T pres k R s
theorem none_iff {T : Nat → Nat → Bool} {pres : Nat → Bool} {n k R : Nat} : noneB T pres n k R = true ↔ ∀ s, s < 2 ^ n → agreeB T pres k R s = false := by
  unfold noneB
  rw [List.all_eq_true]
  constructor
  · intro h s hs
    have := h s (List.mem_range.2 hs)
    rw [Bool.not_eq_true'] at this
    exact this
  · intro h s hs
    rw [h s (List.mem_range.1 hs)]; rfl
theorem none_nil {T : Nat → Nat → Bool} {pres : Nat → Bool} {n k R : Nat} {E : List Nat} (h : IsE (2 ^ n) (agreeB T pres k R) E) : (E = []) ↔ noneB T pres n k R = true := (isE_nil h).trans none_iff.symm
def LeastB (P : Nat → Bool) (N R : Nat) : Prop := R < N ∧ P R = true ∧ ∀ t, t < N → P t = true → t = R ∨ lessB R t = true
theorem least_uniq {P : Nat → Bool} {N R S : Nat} (h : LeastB P N R) (k : LeastB P N S) : R = S := by
  rcases h.2.2 S k.1 k.2.1 with e | e
  · exact e.symm
  · rcases k.2.2 R h.1 h.2.1 with e' | e'
    · exact e'
    · exact (less_asymm e e').elim
theorem find_least {P : Nat → Bool} {N : Nat} {L : List Nat} (hs : L.Pairwise fun a b => lessB a b = true) (hm : ∀ s, s ∈ L ↔ s < N) :
    (∀ R, L.find? P = some R → LeastB P N R) ∧ (L.find? P = none → ∀ s, s < N → P s = false) := by
  have key : ∀ {L : List Nat}, (L.Pairwise fun a b => lessB a b = true) → ∀ R, L.find? P = some R → R ∈ L ∧ P R = true ∧ ∀ t, t ∈ L → P t = true → t = R ∨ lessB R t = true := by
    intro L
    induction L with
    | nil => intro _ R h; cases h
    | cons a l ih =>
      intro hs R h
      rw [List.pairwise_cons] at hs
      rw [List.find?_cons] at h
      cases hp : P a with
      | true =>
        rw [hp] at h
        simp only [Option.some.injEq] at h
        subst h
        exact ⟨by simp, hp, fun t ht _ => (List.mem_cons.1 ht).imp id fun h => hs.1 t h⟩
      | false =>
        rw [hp] at h
        obtain ⟨h1, h2, h3⟩ := ih hs.2 R h
        refine ⟨List.mem_cons_of_mem _ h1, h2, fun t ht hq => ?_⟩
        rcases List.mem_cons.1 ht with rfl | ht
        · rw [hp] at hq; cases hq
        · exact h3 t ht hq
  constructor
  · intro R h
    obtain ⟨h1, h2, h3⟩ := key hs R h
    exact ⟨(hm R).1 h1, h2, fun t ht hq => h3 t ((hm t).2 ht) hq⟩
  · intro h s hs'
    have := List.find?_eq_none.1 h s ((hm s).2 hs')
    cases hp : P s with
    | false => rfl
    | true => exact (this hp).elim
theorem loop_first {P : Nat → Bool} {f : Int → Unit → Option (Unit ⊕ (List Int × Int))} : ∀ {L : List Nat}, (∀ s, s ∈ L → f (s : Int) () = some (if P s = true then .inr (memL s, 0) else .inl ())) →
    loopL f (L.map fun (s : Nat) => (s : Int)) () = some (match L.find? P with | some R => .inr (memL R, 0) | none => .inl ())
  | [], _ => rfl
  | s :: l, h => by
    rw [List.map_cons]
    unfold loopL
    rw [h s (by simp), Option.bind_some, List.find?_cons]
    cases hp : P s with
    | true => rw [if_pos rfl]
    | false =>
      rw [if_neg (by decide)]
      exact loop_first fun t ht => h t (List.mem_cons_of_mem _ ht)
theorem tContradicting_ok {c : Dapi_TraceCourse} (hv : Valid c) {l : List Dapi_TraceCause} {r : List Dapi_TraceReading} (hoc : trace_openCauses c l = some ((c, stripsQ c (c.2.2.2.length + 1)), (0, 0))) (h5 : l.length ≤ 5) (hc : ∀ k, k < l.length → CauseOk c (lget d0 l (k : Int))) (hin : ∀ x, x ∈ r → ReadIn x) (h7 : r.length ≤ 7 ∨ r.length > 10) :
    (readsE c r ≠ 0 → trace_Contradicting c l r = some ([], readsE c r)) ∧
    (readsE c r = 0 → noneB (tabB c l r) (presB r) l.length r.length (2 ^ r.length - 1) = false → trace_Contradicting c l r = some ([], 12)) ∧
    (readsE c r = 0 → noneB (tabB c l r) (presB r) l.length r.length (2 ^ r.length - 1) = true → ∃ R, LeastB (noneB (tabB c l r) (presB r) l.length r.length) (2 ^ r.length) R ∧ trace_Contradicting c l r = some (memL R, 0)) := by
  unfold trace_Contradicting
  rw [openEvidence_ok hv hoc h5 hc hin, Option.bind_some]
  simp only
  by_cases h : readsE c r = 0
  · obtain ⟨h10, hr⟩ := readsE_zero h
    rw [h, if_pos rfl, show ((0 : Int) != 0) = false from rfl, cond_false]
    unfold evidN
    rw [every_ok (k := r.length) (by rw [List.length_map, List.length_range]) (by omega), Option.bind_some]
    obtain ⟨E, e1, e2⟩ := evidExpl_ok (T := tabB c l r) (pres := presB r) (n := l.length) (k := r.length) (R := 2 ^ r.length - 1) h5 (by omega) (ones_64 (by omega))
    rw [show trace_evidence_explanations ((l.length : Int), (List.range r.length).map (fun i => (byN c l r i : Int)), (List.range r.length).map (presB r)) ((2 ^ r.length - 1 : Nat) : Int) = some (E.map fun (s : Nat) => (s : Int)) from e1, Option.bind_some]
    have hE := none_nil e2
    have hS := SN_ok (n := r.length) (by omega)
    obtain ⟨f, hf⟩ : ∃ f : Int → Unit → Option (Unit ⊕ (List Int × Int)), f = fun s _ =>
      (trace_evidence_explanations ((l.length : Int), (List.range r.length).map (fun i => (byN c l r i : Int)), (List.range r.length).map (presB r)) s).bind fun (t_3 : (List Int)) =>
      bif ((List.length t_3 : Int) == 0) then
        (trace_set_list s).bind fun (t_4 : (List Int)) =>
        Option.map Sum.inr (
          some (t_4, 0))
      else
        some (.inl ()) := ⟨_, rfl⟩
    have hstep : ∀ s, s ∈ SN r.length → f (s : Int) () = some (if noneB (tabB c l r) (presB r) l.length r.length s = true then .inr (memL s, 0) else .inl ()) := by
      intro s hs
      have hs2 : s < 2 ^ r.length := (hS.mem s).1 hs
      have hs64 : s < W64 := lt_64 (n := r.length) (by omega) hs2
      obtain ⟨E', e1', e2'⟩ := evidExpl_ok (T := tabB c l r) (pres := presB r) (n := l.length) (k := r.length) (R := s) h5 (by omega) hs64
      rw [hf]
      simp only
      rw [show trace_evidence_explanations ((l.length : Int), (List.range r.length).map (fun i => (byN c l r i : Int)), (List.range r.length).map (presB r)) (s : Int) = some (E'.map fun (s : Nat) => (s : Int)) from e1', Option.bind_some, set_list_ok hs64, Option.bind_some]
      have hE' := none_nil e2'
      by_cases hn : E' = []
      · rw [if_pos (hE'.1 hn), hn]; rfl
      · have : 0 < E'.length := List.length_pos_iff.2 hn
        rw [if_neg (fun e => hn (hE'.2 e)), show ((List.length (E'.map fun (s : Nat) => (s : Int)) : Int) == 0) = false by rw [beq_eq_false_iff_ne, List.length_map]; omega, cond_false]
    have hmap : ∀ y, y ∈ (SN r.length).map (fun (s : Nat) => (s : Int)) → ∃ s, s ∈ SN r.length ∧ y = (s : Int) := fun y hy => by
      obtain ⟨s, hs, rfl⟩ := List.mem_map.1 hy
      exact ⟨s, hs, rfl⟩
    have htot : Total f ((SN r.length).map fun (s : Nat) => (s : Int)) () := by
      intro pre x u _ _ hx _
      obtain ⟨s, hs, rfl⟩ := hmap x hx
      exact ⟨_, hstep s hs⟩
    have hloop : loopT f ((SN r.length).map fun (s : Nat) => (s : Int)) () = some (match (SN r.length).find? (noneB (tabB c l r) (presB r) l.length r.length) with | some R => .inr (memL R, 0) | none => .inl ()) := by
      unfold loopT
      rw [if_pos htot]
      exact loop_first hstep
    have hsets : trace_sets (r.length : Int) = some ((SN r.length).map fun (s : Nat) => (s : Int)) := by
      unfold trace_sets
      rw [dec_true (show (0 : Int) ≤ (r.length : Int) by omega), dec_true (show (r.length : Int) ≤ 8 by omega), hS.eq]
      rfl
    refine ⟨fun e => (e rfl).elim, fun _ hn => ?_, fun _ hn => ?_⟩
    · have hne : E ≠ [] := fun e => by rw [hE.1 e] at hn; cases hn
      have : 0 < E.length := List.length_pos_iff.2 hne
      rw [List.length_map, dec_true (show (E.length : Int) > 0 by omega), cond_true]
    · have hnil : E = [] := hE.2 hn
      obtain ⟨l1, l2⟩ := find_least (P := noneB (tabB c l r) (presB r) l.length r.length) hS.srt hS.mem
      cases hfd : (SN r.length).find? (noneB (tabB c l r) (presB r) l.length r.length) with
      | none =>
        have := l2 hfd (2 ^ r.length - 1) (by have := Nat.pow_pos (n := r.length) (show 0 < 2 by decide); omega)
        rw [this] at hn; cases hn
      | some R =>
        refine ⟨R, l1 R hfd, ?_⟩
        rw [hfd] at hloop
        rw [hnil, dec_false (show ¬ ((([] : List Nat).map fun (s : Nat) => (s : Int)).length : Int) > 0 by decide), cond_false, hsets, Option.bind_some]
        rw [hf] at hloop
        refine Option.bind_eq_some_iff.2 ⟨_, hloop, rfl⟩
  · refine ⟨fun _ => ?_, fun e => (h e).elim, fun e => (h e).elim⟩
    rw [if_neg h, show (readsE c r != 0) = true by rw [bne_iff_ne]; exact h, cond_true]
end Go.Lift
