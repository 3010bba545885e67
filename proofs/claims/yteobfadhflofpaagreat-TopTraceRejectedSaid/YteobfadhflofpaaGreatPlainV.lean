/-
  Sets of some causes, each alone.
-/
import Derived.Test.YteobfadhflofpaaGreatLawCa
import Derived.Test.YteobfadhflofpaaGreatLawEx
set_option linter.unusedSectionVars false
set_option linter.unusedVariables false
set_option linter.unusedSimpArgs false
namespace Go.Lift
open Go
def pickC (l : List Dapi_TraceCause) (f : Nat → Nat) (m : Nat) : List Dapi_TraceCause := (List.range m).map fun (k : Nat) => lget d0 l ((f k : Nat) : Int)
theorem pickC_len {l : List Dapi_TraceCause} {f : Nat → Nat} {m : Nat} : (pickC l f m).length = m := by unfold pickC; rw [List.length_map, List.length_range]
theorem pickC_get {l : List Dapi_TraceCause} {f : Nat → Nat} {m k : Nat} (h : k < m) : lget d0 (pickC l f m) (k : Int) = lget d0 l ((f k : Nat) : Int) := lget_range h
theorem causeE_pick {c : Dapi_TraceCourse} {l : List Dapi_TraceCause} {f : Nat → Nat} {m : Nat} (hf : ∀ k, k < m → f k < l.length) (hmono : ∀ j k, j < k → k < m → f j < f k) (h : ∀ i, i < l.length → causeE c l i = 0) {k : Nat} (hk : k < m) : causeE c (pickC l f m) k = 0 := by
  have h1 := h (f k) (hf k hk)
  unfold causeE at h1 ⊢
  rw [pickC_get hk]
  simp only at h1 ⊢
  obtain ⟨a1, h2⟩ := fE_zero h1
  obtain ⟨a2, h3⟩ := fE_zero h2
  have hany : ((l.take (f k)).any fun o => seqb o.1 (lget d0 l ((f k : Nat) : Int)).1) = false := by
    cases hb : ((l.take (f k)).any fun o => seqb o.1 (lget d0 l ((f k : Nat) : Int)).1) with
    | false => rfl
    | true => rw [hb] at a2; exact absurd a2 (by decide)
  have hany2 : (((pickC l f m).take k).any fun o => seqb o.1 (lget d0 l ((f k : Nat) : Int)).1) = false := by
    rw [List.any_eq_false] at hany ⊢
    intro o ho
    refine hany o ?_
    obtain ⟨j, hj, rfl⟩ := List.getElem_of_mem ho
    rw [List.length_take, pickC_len] at hj
    rw [List.getElem_take]
    have hjk : j < k := by omega
    have hfj := hmono j k hjk hk
    have hfl := hf k hk
    have e : (pickC l f m)[j]'(by rw [pickC_len]; omega) = lget d0 l ((f j : Nat) : Int) := by
      rw [← lget_getD (d := d0) (by rw [pickC_len]; omega), pickC_get (by omega)]
    rw [e, lget_getD (by omega)]
    have : l[f j]'(by omega) = (l.take (f k))[f j]'(by rw [List.length_take]; omega) := by rw [List.getElem_take]
    rw [this]
    exact List.getElem_mem _
  rw [a1, hany2]
  rw [fE0, show (if (!false) = true then (0 : Int) else 5) = 0 from rfl, fE0]
  exact h3
theorem openC_pick {c : Dapi_TraceCourse} {strips : List (List Dtrace_section)} {l : List Dapi_TraceCause} (hop : trace_opened c [] = some ((c, strips), 0)) {f : Nat → Nat} {m : Nat} (hf : ∀ k, k < m → f k < l.length) (hmono : ∀ j k, j < k → k < m → f j < f k)
    (h5 : m ≤ 5) (hl : ∀ x, x ∈ l → x.1.size ≤ 9223372036854775807) (h : ∀ i, i < l.length → causeE c l i = 0) :
    trace_openCauses c (pickC l f m) = some ((c, strips), (0, 0)) ∧ ∀ k, k < (pickC l f m).length → CauseOk c (lget d0 (pickC l f m) (k : Int)) := by
  have hz : ∀ k, k < (pickC l f m).length → causeE c (pickC l f m) k = 0 := fun k hk => causeE_pick hf hmono h (by rwa [pickC_len] at hk)
  constructor
  · rw [openCauses_ok hop (l := pickC l f m) (fun x hx => ?_), if_neg (fun e => e rfl), if_pos (by rw [pickC_len]; exact h5), findF_none.2 fun i _ hi => ?_]
    · rfl
    · unfold causeR
      rw [if_pos (hz i (by omega))]
    · obtain ⟨i, hi, rfl⟩ := List.mem_map.1 hx
      exact hl _ (lget_mem (hf i (List.mem_range.1 hi)))
  · intro k hk
    exact causeOk_of (hz k hk)
noncomputable def madeR (c : Dapi_TraceCourse) (m : List Dapi_TraceCause) (r : List Dapi_TraceReading) (n : Nat) : List Dapi_TraceReading :=
  (List.range r.length).map fun (j : Nat) => if j < n then ((lget r0 r (j : Int)).1, ((lget r0 r (j : Int)).2.1, m.any fun o => predB c o (lget r0 r (j : Int)))) else lget r0 r (j : Int)
theorem madeR_len {c : Dapi_TraceCourse} {m : List Dapi_TraceCause} {r : List Dapi_TraceReading} {n : Nat} : (madeR c m r n).length = r.length := by unfold madeR; rw [List.length_map, List.length_range]
theorem madeR_get {c : Dapi_TraceCourse} {m : List Dapi_TraceCause} {r : List Dapi_TraceReading} {n i : Nat} (h : i < r.length) : lget r0 (madeR c m r n) (i : Int) = if i < n then ((lget r0 r (i : Int)).1, ((lget r0 r (i : Int)).2.1, m.any fun o => predB c o (lget r0 r (i : Int)))) else lget r0 r (i : Int) := by
  unfold madeR
  rw [lget_range h]
theorem madeR_zero {c : Dapi_TraceCourse} {m : List Dapi_TraceCause} {r : List Dapi_TraceReading} : madeR c m r 0 = r := by
  apply List.ext_getElem
  · rw [madeR_len]
  · intro i h1 h2
    have := madeR_get (c := c) (m := m) (n := 0) h2
    rw [lget_getD h1, if_neg (by omega), lget_getD h2] at this
    exact this
theorem madeR_set {c : Dapi_TraceCourse} {m : List Dapi_TraceCause} {r : List Dapi_TraceReading} {i : Nat} :
    lset (madeR c m r i) (i : Int) ((lget r0 r (i : Int)).1, ((lget r0 r (i : Int)).2.1, m.any fun o => predB c o (lget r0 r (i : Int)))) = madeR c m r (i + 1) := by
  unfold lset
  rw [Int.toNat_natCast]
  apply List.ext_getElem
  · rw [List.length_set, madeR_len, madeR_len]
  · intro j h1 h2
    have hj : j < r.length := by rwa [madeR_len] at h2
    have e2 := madeR_get (c := c) (m := m) (n := i + 1) hj
    rw [lget_getD h2] at e2
    rw [e2]
    rw [List.getElem_set]
    by_cases hij : i = j
    · rw [if_pos hij, if_pos (by omega), hij]
    · rw [if_neg hij]
      have e1 := madeR_get (c := c) (m := m) (n := i) hj
      rw [lget_getD (by rw [madeR_len]; exact hj)] at e1
      rw [e1]
      by_cases hlt : j < i
      · rw [if_pos hlt, if_pos (by omega)]
      · rw [if_neg hlt, if_neg (by omega)]
theorem predB_pres {c : Dapi_TraceCourse} {o : Dapi_TraceCause} {a b : Int} {p q : Bool} : predB c o (a, (b, p)) = predB c o (a, (b, q)) := rfl
def evenS : Nat → Nat
  | 0 => 0
  | 1 => 1
  | 2 => 1
  | 3 => 5
  | 4 => 5
  | _ => 21
theorem evenS_all : ((List.range 6).all fun n => decide (memL (evenS n) = (List.range ((n + 1) / 2)).map fun (k : Nat) => ((2 * k : Nat) : Int)) && decide (evenS n < 2 ^ n)) = true := by kernel_rfl
theorem evenS_ok {n : Nat} (h : n ≤ 5) : memL (evenS n) = ((List.range ((n + 1) / 2)).map fun (k : Nat) => ((2 * k : Nat) : Int)) ∧ evenS n < 2 ^ n := by
  have := List.all_eq_true.1 evenS_all n (List.mem_range.2 (by omega))
  rw [Bool.and_eq_true, decide_eq_true_eq, decide_eq_true_eq] at this
  exact this
theorem one_all : ((List.range 6).all fun n => decide (memL (2 ^ n) = [(n : Int)])) = true := by kernel_rfl
theorem one_mem {n : Nat} (h : n ≤ 5) : memL (2 ^ n) = [(n : Int)] := by
  have := List.all_eq_true.1 one_all n (List.mem_range.2 (by omega))
  rwa [decide_eq_true_eq] at this
theorem size_one_all : ((List.range 32).all fun s => decide (sizeN s = 1) == ((List.range 5).any fun i => s == 2 ^ i)) = true := by kernel_rfl
theorem size_one {s : Nat} (h : s < 32) (h1 : sizeN s = 1) : ∃ i, i < 5 ∧ s = 2 ^ i := by
  have := List.all_eq_true.1 size_one_all s (List.mem_range.2 h)
  rw [decide_eq_true h1, beq_iff_eq] at this
  obtain ⟨i, hi, he⟩ := List.any_eq_true.1 this.symm
  exact ⟨i, List.mem_range.1 hi, by simpa using he⟩
theorem hit_even {l : List Dapi_TraceCause} (h : l.length ≤ 5) {p : Dapi_TraceCause → Bool} : hitB (fun k => p (lget d0 l (k : Int))) (evenS l.length) = (pickC l (fun k => 2 * k) ((l.length + 1) / 2)).any p := by
  unfold hitB pickC
  rw [(evenS_ok h).1, List.any_map, List.any_map]
  congr 1
theorem hit_one {l : List Dapi_TraceCause} {i : Nat} (h : i ≤ 5) {p : Dapi_TraceCause → Bool} : hitB (fun k => p (lget d0 l (k : Int))) (2 ^ i) = p (lget d0 l (i : Int)) := by
  unfold hitB
  rw [one_mem h]
  simp
theorem alone_len {n : Nat} (hn : n ≤ 5) {P : Nat → Bool} {E : List Nat} (hE : IsE (2 ^ n) P E) {s : Nat} (hs : s ∈ E) (h1 : sizeN s = 1) : ((List.range n).filter fun i => P (2 ^ i)).length = E.length := by
  have h32 : 2 ^ n ≤ 32 := Nat.pow_le_pow_right (n := 2) (by decide) hn
  have hmin := ((hE.mem s).1 hs).2.2
  have hnd : E.Nodup := hE.srt.imp fun {a b} h e => by subst e; exact less_asymm h h
  have hperm : (((List.range n).filter fun i => P (2 ^ i)).map fun i => 2 ^ i).Perm E := by
    refine (List.perm_ext_iff_of_nodup ?_ hnd).2 fun t => ?_
    · refine List.pairwise_map.2 ((List.nodup_range.filter _).imp fun {a b} h e => h ?_)
      exact (Nat.pow_right_inj (by decide)).1 e
    · rw [List.mem_map]
      constructor
      · rintro ⟨i, hi, rfl⟩
        rw [List.mem_filter, List.mem_range] at hi
        refine (hE.mem _).2 ⟨Nat.pow_lt_pow_right (by decide) hi.1, hi.2, fun t ht hp => ?_⟩
        have e1 : sizeN (2 ^ i) = 1 := by unfold sizeN; rw [one_mem (by omega)]; rfl
        have := hmin t ht hp
        omega
      · intro ht
        obtain ⟨a, b, c⟩ := (hE.mem t).1 ht
        have d := hmin t a b
        have e := c s ((hE.mem s).1 hs).1 ((hE.mem s).1 hs).2.1
        obtain ⟨i, hi, rfl⟩ := size_one (s := t) (by omega) (by omega)
        refine ⟨i, List.mem_filter.2 ⟨List.mem_range.2 ?_, b⟩, rfl⟩
        exact (Nat.pow_lt_pow_iff_right (by decide)).1 a
  rw [← hperm.length_eq, List.length_map]
end Go.Lift
