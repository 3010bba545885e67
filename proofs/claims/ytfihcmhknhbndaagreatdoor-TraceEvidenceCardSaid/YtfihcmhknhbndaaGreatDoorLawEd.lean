/-
  The law of all evidence holds of the plain functions.
-/
import Derived.Test.YtfihcmhknhbndaaGreatDoorPlainQ
import Derived.Test.YtfihcmhknhbndaaGreatDoorFunEd
set_option linter.unusedSectionVars false
set_option linter.unusedVariables false
set_option linter.unusedSimpArgs false
namespace Go.Lift
open Go

theorem map_as_range {A : Type} {f : Int → A} {l : List Int} : l.map f = (List.range l.length).map fun (i : Nat) => f (lget 0 l (i : Int)) := by
  apply List.ext_getElem
  · rw [List.length_map, List.length_map, List.length_range]
  · intro i h1 h2
    rw [List.length_map] at h1
    rw [List.getElem_map, List.getElem_map, List.getElem_range, lget_getD h1]
theorem lget_map_int {A : Type} {f : Int → A} {d : A} {l : List Int} {i : Nat} (hi : i < l.length) : lget d (l.map f) (i : Int) = f (lget 0 l (i : Int)) := by
  unfold lget
  rw [Int.toNat_natCast, List.getD_eq_getElem?_getD, List.getD_eq_getElem?_getD, List.getElem?_map, List.getElem?_eq_getElem hi]; rfl
theorem sub_agree {T : Nat → Nat → Bool} {r : List Dapi_TraceReading} {k R s : Nat} (hk : k ≤ 60) (hR : R < 2 ^ k) :
    agreeB (fun i => T (lget 0 (memL R) (i : Int)).toNat) (presB ((memL R).map fun j => lget r0 r j)) (memL R).length (2 ^ (memL R).length - 1) s = agreeB T (presB r) k R s := by
  rw [Bool.eq_iff_iff, agree_iff, agree_iff]
  have hp : ∀ i : Nat, i < (memL R).length → presB ((memL R).map fun j => lget r0 r j) i = presB r (lget 0 (memL R) (i : Int)).toNat := fun i hi => by
    unfold presB
    rw [lget_map_int hi]
    have := mem_lt hk hR _ (lget_mem (d := 0) hi)
    rw [show (((lget 0 (memL R) (i : Int)).toNat : Nat) : Int) = lget 0 (memL R) (i : Int) by omega]
  constructor
  · intro h i hi hb
    obtain ⟨j, hj, he⟩ : ∃ j : Nat, j < (memL R).length ∧ lget 0 (memL R) (j : Int) = (i : Int) := by
      have hm : (i : Int) ∈ memL R := (memL_bit (lt_64 hk hR)).2 hb
      obtain ⟨j, hj, he⟩ := List.mem_iff_getElem.1 hm
      exact ⟨j, hj, by rw [lget_getD hj]; exact he⟩
    have := h j hj (by rw [ones_bit]; exact decide_eq_true hj)
    rw [hp j hj, he, Int.toNat_natCast] at this
    exact this
  · intro h j hj _
    rw [hp j hj]
    have hm := lget_mem (d := 0) hj
    obtain ⟨i, hi, _, hb⟩ := memL_mem.1 hm
    rw [hi, Int.toNat_natCast]
    exact h i (bit_lt hR hb) hb

/-! ### A set without one of its items -/
theorem memL_srt {s : Nat} : (memL s).Pairwise (· < ·) := by
  unfold memL
  rw [List.pairwise_map]
  exact (List.Pairwise.filter _ List.pairwise_lt_range).imp fun h => by omega
def pickW (l : List Int) (w : Int) (m : Nat) : List Int := ((List.range m).filter fun (k : Nat) => (k : Int) != w).map fun (k : Nat) => lget 0 l (k : Int)
theorem pick_all {l : List Int} {w : Int} (h : w < 0) : pickW l w l.length = l := by
  unfold pickW
  rw [List.filter_eq_self.2 (fun k _ => by rw [bne_iff_ne]; omega)]
  rw [← map_as_range (f := fun x => x), List.map_id']
theorem pick_set {s n w : Nat} (hn : n ≤ 60) (hs : s < 2 ^ n) (hw : w < (memL s).length) : ∃ s', s' < 2 ^ n ∧ pickW (memL s) (w : Int) (memL s).length = memL s' ∧ sizeN s' < sizeN s := by
  obtain ⟨x, hx, _, hxb⟩ := memL_mem.1 (lget_mem (d := (0 : Int)) hw)
  have hpk : (pickW (memL s) (w : Int) (memL s).length).Pairwise (· < ·) := by
    unfold pickW
    rw [List.pairwise_map]
    refine List.Pairwise.imp_of_mem ?_ (List.Pairwise.filter _ List.pairwise_lt_range)
    intro a b ha hb hab
    rw [List.mem_filter, List.mem_range] at ha hb
    rw [lget_getD ha.1, lget_getD hb.1]
    exact List.pairwise_iff_getElem.1 memL_srt a b ha.1 hb.1 hab
  have hlt : setN (fun i => s.testBit i && decide (i ≠ x)) n < 2 ^ n := setN_lt _ n
  refine ⟨setN (fun i => s.testBit i && decide (i ≠ x)) n, hlt, ?_, ?_⟩
  · refine sorted_uniq (r := (· < ·)) (fun h k => by omega) hpk memL_srt fun y => ?_
    unfold pickW
    rw [List.mem_map]
    constructor
    · rintro ⟨k, hk, rfl⟩
      rw [List.mem_filter, List.mem_range, bne_iff_ne] at hk
      obtain ⟨z, hz, hz64, hzb⟩ := memL_mem.1 (lget_mem (d := (0 : Int)) hk.1)
      rw [hz]
      refine memL_mem.2 ⟨z, rfl, hz64, ?_⟩
      rw [setN_bit, hzb, decide_eq_true (bit_lt hs hzb), Bool.true_and, Bool.true_and, decide_eq_true_eq]
      intro e
      subst e
      rw [lget_getD hk.1] at hz
      rw [lget_getD hw] at hx
      rcases Nat.lt_trichotomy k w with h | h | h
      · have := List.pairwise_iff_getElem.1 (memL_srt (s := s)) k w hk.1 hw h; omega
      · exact hk.2 (by omega)
      · have := List.pairwise_iff_getElem.1 (memL_srt (s := s)) w k hw hk.1 h; omega
    · intro hy
      obtain ⟨z, rfl, hz64, hzb⟩ := memL_mem.1 hy
      rw [setN_bit, Bool.and_eq_true, Bool.and_eq_true, decide_eq_true_eq] at hzb
      obtain ⟨_, hzs, hzx⟩ := hzb
      have hzx := of_decide_eq_true hzx
      have hm : (z : Int) ∈ memL s := memL_mem.2 ⟨z, rfl, hz64, hzs⟩
      obtain ⟨k, hk, he⟩ := List.mem_iff_getElem.1 hm
      refine ⟨k, ?_, by rw [lget_getD hk]; exact he⟩
      rw [List.mem_filter, List.mem_range, bne_iff_ne]
      refine ⟨hk, fun e => hzx ?_⟩
      have : k = w := by omega
      subst this
      rw [lget_getD hk, he] at hx
      omega
  · have e1 : ∀ s', sizeN s' = ((List.range 64).filter s'.testBit).length := fun s' => by unfold sizeN memL; rw [List.length_map]
    rw [e1, e1]
    have hx64 : x < 64 := by have := bit_lt hs hxb; omega
    rw [show (List.range 64).filter (setN (fun i => s.testBit i && decide (i ≠ x)) n).testBit = ((List.range 64).filter s.testBit).filter fun i => decide (i ≠ x) from by
      rw [List.filter_filter]
      refine List.filter_congr fun i _ => ?_
      rw [setN_bit, Bool.eq_iff_iff]
      simp only [Bool.and_eq_true, decide_eq_true_eq]
      exact ⟨fun h => ⟨h.2.2, h.2.1⟩, fun h => ⟨bit_lt hs h.2, h.2, h.1⟩⟩]
    rw [List.length_filter_lt_length_iff_exists]
    exact ⟨x, List.mem_filter.2 ⟨List.mem_range.2 hx64, hxb⟩, by simp⟩

/-- The part of a list that a set of indexes names: as the law's loop gathers it. -/
theorem gather {A : Type} {d : A} {xs : List A} {ix : List Int} {w : Int} (hix : ix.length ≤ 100) (hb : ∀ k, k ∈ ix → 0 ≤ k ∧ k < (xs.length : Int)) {F : List A × Int → Option ((List A × Int) ⊕ List A)}
    (hF : ∀ (o : List A) (k : Nat), F (o, (k : Int)) = bif decide ((k : Int) < (List.length ix : Int)) then
                                (bif ((k : Int) != w) then
                                  chk (decide ((0 : Int) ≤ (k : Int)) && decide ((k : Int) < (List.length ix : Int))) (
                                      chk (decide ((0 : Int) ≤ (lget 0 ix (k : Int))) && decide ((lget 0 ix (k : Int)) < (List.length xs : Int))) (
                                        (app o [lget d xs (lget 0 ix (k : Int))]).bind fun (t_12 : List A) =>
                                        some t_12))
                                else
                                  some o).bind fun (some__1 : List A) =>
                                some (.inl (some__1, wi64 ((k : Int) + 1)))
                              else
                                some (.inr o)) : loopM F ([], 0) = some ((pickW ix w ix.length).map fun j => lget d xs j) := by
  refine loopM_count (fun m => ((pickW ix w m).map (fun j => lget d xs j), (m : Int))) ix.length (fun k hk => ?_) ?_
  · have hm := hb _ (lget_mem (d := 0) hk)
    have hl : (pickW ix w k).length ≤ k := by
      unfold pickW
      rw [List.length_map]
      have := List.length_filter_le (fun k => ((k : Nat) : Int) != w) (List.range k)
      rw [List.length_range] at this
      exact this
    have hstep : pickW ix w (k + 1) = pickW ix w k ++ (if ((k : Int) != w) = true then [lget 0 ix (k : Int)] else []) := by
      unfold pickW
      rw [filter_range_succ, List.map_append]
      split <;> rfl
    rw [hF, dec_true (show (k : Int) < (ix.length : Int) by omega), cond_true, chk_true (and_true' (dec_true (by omega)) rfl), chk_true (and_true' (dec_true hm.1) (dec_true hm.2)), app_ok (by rw [List.length_map, List.length_singleton]; omega), Option.bind_some, wi64_id (by omega) (by omega), hstep]
    cases (k : Int) != w with
    | true => rw [cond_true, Option.bind_some, if_pos rfl, List.map_append]; rfl
    | false => rw [cond_false, Option.bind_some, if_neg (by decide), List.append_nil]; rfl
  · rw [hF, dec_false (show ¬ (ix.length : Int) < (ix.length : Int) by omega), cond_false]

/-! ### Ascending indexes -/
theorem areIndexes_ok {s n : Nat} (hn : n ≤ 60) (hs : s < 2 ^ n) : l9_areIndexes (memL s) (n : Int) = some true := by
  have hml := memL_len (s := s)
  unfold l9_areIndexes
  refine Option.bind_eq_some_iff.2 ⟨.inl (), ?_, rfl⟩
  refine loopM_count (fun i => (i : Int)) (memL s).length (fun i hi => ?_) ?_
  · have hm := mem_lt hn hs _ (lget_mem (d := 0) hi)
    rw [dec_true (show (i : Int) < ((memL s).length : Int) by omega), cond_true, chk_true (and_true' (dec_true (by omega)) rfl), Within_ok, Option.bind_some, wi64_id (x := (n : Int) - 1) (by omega) (by omega), wi64_id (x := (i : Int) + 1) (by omega) (by omega),
      decide_eq_true (show 0 ≤ lget 0 (memL s) (i : Int) ∧ lget 0 (memL s) (i : Int) ≤ (n : Int) - 1 by omega), Bool.not_true, cond_false]
    by_cases h0 : i = 0
    · subst h0
      rw [dec_false (show ¬ ((0 : Nat) : Int) > 0 by decide), cond_false, Option.bind_some, Option.bind_some, cond_false]
      rfl
    · rw [dec_true (show (i : Int) > 0 by omega), cond_true, wi64_id (x := (i : Int) - 1) (by omega) (by omega), chk_true (and_true' (dec_true (by omega)) rfl), chk_true (and_true' (dec_true (by omega)) (dec_true (by omega)))]
      have hlt : lget 0 (memL s) ((i : Int) - 1) < lget 0 (memL s) (i : Int) := by
        rw [show (i : Int) - 1 = ((i - 1 : Nat) : Int) by omega, lget_getD (show i - 1 < (memL s).length by omega), lget_getD hi]
        exact List.pairwise_iff_getElem.1 memL_srt (i - 1) i (by omega) hi (by omega)
      rw [dec_false (show ¬ lget 0 (memL s) (i : Int) ≤ lget 0 (memL s) ((i : Int) - 1) by omega), Option.bind_some, Option.bind_some, cond_false]
      rfl
  · rw [dec_false (show ¬ ((memL s).length : Int) < ((memL s).length : Int) by omega), cond_false]

/-! ### Some of the causes -/
theorem causes_all {c : Dapi_TraceCourse} (hin : CourseIn c) {l : List Dapi_TraceCause} (hl : ∀ x, x ∈ l → x.1.size ≤ 9223372036854775807) {x : Dtrace_course} {i : Int} (h : trace_openCauses c l = some (x, (i, 0))) : ∀ k, k < l.length → causeE c l k = 0 := by
  obtain ⟨e, strips, q1, q2, q3⟩ := opened_ok hin
  rw [openCauses_ok q1 hl] at h
  simp only [Option.some.injEq, Prod.mk.injEq] at h
  obtain ⟨_, h⟩ := h
  by_cases h0 : e = 0
  · subst h0
    rw [if_neg (show ¬ (0 : Int) ≠ 0 from fun h => h rfl)] at h
    by_cases h5 : l.length ≤ 5
    · rw [if_pos h5] at h
      cases hf : findF (causeR c l) 0 l.length with
      | none =>
        intro k hk
        have := findF_none.1 hf k (by omega) (by omega)
        unfold causeR at this
        split at this
        · assumption
        · cases this
      | some v =>
        rw [hf] at h
        obtain ⟨j, _, _, hj, _⟩ := findF_some hf
        unfold causeR at hj
        split at hj
        · cases hj
        · rename_i hz
          cases hj
          simp only [Option.getD_some, Prod.mk.injEq] at h
          exact absurd h.2 hz
    · rw [if_neg h5] at h
      simp only [Prod.mk.injEq] at h
      exact absurd h.2 (by decide)
  · rw [if_pos h0] at h
    simp only [Prod.mk.injEq] at h
    exact absurd h.2 h0

theorem causes_sub {c : Dapi_TraceCourse} (hin : CourseIn c) (hv : Valid c) {l : List Dapi_TraceCause} (h5 : l.length ≤ 5) (hl : ∀ x, x ∈ l → x.1.size ≤ 9223372036854775807) (hE : ∀ k, k < l.length → causeE c l k = 0) {s : Nat} (hs : s < 2 ^ l.length) {i0 : Int} {x0 : Dtrace_course} (hoc : trace_openCauses c l = some (x0, (i0, 0))) :
    trace_openCauses c ((memL s).map fun j => lget d0 l j) = some (x0, (0, 0)) ∧ ((memL s).map fun j => lget d0 l j).length ≤ 5 ∧ ∀ k, k < ((memL s).map fun j => lget d0 l j).length → CauseOk c (lget d0 ((memL s).map fun j => lget d0 l j) (k : Int)) := by
  have hmem : ∀ k : Nat, k < (memL s).length → 0 ≤ lget 0 (memL s) (k : Int) ∧ lget 0 (memL s) (k : Int) < (l.length : Int) := fun k hk => mem_lt (by omega) hs _ (lget_mem (d := 0) hk)
  have hlen : (memL s).length ≤ 5 := by
    unfold memL
    rw [List.length_map]
    refine Nat.le_trans (nodup_len (N := l.length) (List.Pairwise.filter _ List.nodup_range) fun i hi => ?_) h5
    rw [List.mem_filter] at hi
    exact bit_lt hs hi.2
  have hlm : ((memL s).map fun j => lget d0 l j).length = (memL s).length := List.length_map _
  have hsub : ∀ k, k < (memL s).length → causeE c ((memL s).map fun j => lget d0 l j) k = 0 := fun k hk => by
    obtain ⟨m0, m1⟩ := hmem k hk
    obtain ⟨j, hj⟩ : ∃ j : Nat, lget 0 (memL s) (k : Int) = (j : Int) := ⟨(lget 0 (memL s) (k : Int)).toNat, by omega⟩
    have hx : lget d0 ((memL s).map fun j => lget d0 l j) (k : Int) = lget d0 l (j : Int) := by rw [lget_map_int hk, hj]
    have h0 := hE j (by omega)
    unfold causeE at h0 ⊢
    simp only at h0 ⊢
    rw [hx]
    obtain ⟨a1, h0⟩ := fE_zero h0
    obtain ⟨a2, h0⟩ := fE_zero h0
    rw [a1, fE0]
    have hany : ((((memL s).map fun j => lget d0 l j).take k).any fun o => seqb o.1 (lget d0 l (j : Int)).1) = false := by
      cases hA : ((((memL s).map fun j => lget d0 l j).take k).any fun o => seqb o.1 (lget d0 l (j : Int)).1) with
      | false => rfl
      | true =>
        rw [List.any_eq_true] at hA
        obtain ⟨o, ho, hob⟩ := hA
        rw [← List.map_take, List.mem_map] at ho
        obtain ⟨y, hy, rfl⟩ := ho
        obtain ⟨p, hp, rfl⟩ := List.mem_iff_getElem.1 hy
        rw [List.length_take] at hp
        rw [List.getElem_take] at hob
        have hpl : p < (memL s).length := by omega
        have hpk := List.pairwise_iff_getElem.1 (memL_srt (s := s)) p k hpl hk (by omega)
        have hq := hmem p hpl
        rw [lget_getD hpl] at hq
        rw [lget_getD hk] at hj
        obtain ⟨q, hq2⟩ : ∃ q : Nat, (memL s)[p] = (q : Int) := ⟨((memL s)[p]).toNat, by omega⟩
        have hin2 : lget d0 l (q : Int) ∈ l.take j := by
          rw [lget_getD (show q < l.length by omega)]
          rw [show l[q]'(by omega) = (l.take j)[q]'(by rw [List.length_take]; omega) from (List.getElem_take ..).symm]
          exact List.getElem_mem _
        rw [hq2] at hob
        have hT : ((l.take j).any fun o => seqb o.1 (lget d0 l (j : Int)).1) = true := List.any_eq_true.2 ⟨_, hin2, hob⟩
        rw [hT] at a2
        cases a2
    rw [hany]
    rw [show (if (!false) = true then (0 : Int) else 5) = 0 from rfl, fE0]
    exact h0
  refine ⟨?_, by rw [hlm]; exact hlen, fun k hk => causeOk_of (hsub k (by rw [← hlm]; exact hk))⟩
  obtain ⟨e, strips, q1, q2, q3⟩ := opened_ok hin
  have a1 := openCauses_ok q1 hl
  have a2 := openCauses_ok q1 (l := (memL s).map fun j => lget d0 l j) (fun x hx => by
    obtain ⟨y, hy, rfl⟩ := List.mem_map.1 hx
    obtain ⟨p, hp, rfl⟩ := List.mem_iff_getElem.1 hy
    have := hmem p hp
    rw [lget_getD hp] at this
    obtain ⟨q, hq2⟩ : ∃ q : Nat, (memL s)[p] = (q : Int) := ⟨((memL s)[p]).toNat, by omega⟩
    rw [hq2]
    exact hl _ (lget_mem (by omega)))
  rw [hoc] at a1
  simp only [Option.some.injEq, Prod.mk.injEq] at a1
  obtain ⟨rfl, a1⟩ := a1
  have he : e = 0 := by
    by_cases h0 : e = 0
    · exact h0
    · rw [if_pos h0] at a1
      simp only [Prod.mk.injEq] at a1
      exact a1.2.symm
  rw [a2, if_neg (fun h => h he), if_pos (by rw [hlm]; exact hlen), show findF (causeR c ((memL s).map fun j => lget d0 l j)) 0 ((memL s).map fun j => lget d0 l j).length = none from findF_none.2 fun k _ hk => by
    unfold causeR
    rw [if_pos (hsub k (by rw [← hlm]; omega))]]
  rfl

/-- Does the first contradiction exist? -/
theorem first_sub {c : Dapi_TraceCourse} {l : List Dapi_TraceCause} {r : List Dapi_TraceReading} {s : Nat} (hn : l.length ≤ 60) (hs : s < 2 ^ l.length) (hr : r.length ≤ 60) :
    firstR c ((memL s).map fun j => lget d0 l j) r = none ↔ agreeB (tabB c l r) (presB r) r.length (2 ^ r.length - 1) s = true := by
  have hlm : ((memL s).map fun j => lget d0 l j).length = (memL s).length := List.length_map _
  have hany : ∀ i, ((allL ((memL s).map fun j => lget d0 l j).length).any fun k => tabB c ((memL s).map fun j => lget d0 l j) r i k.toNat) = hitB (tabB c l r i) s := fun i => by
    unfold hitB
    rw [hlm, Bool.eq_iff_iff, List.any_eq_true, List.any_eq_true]
    have hval : ∀ k : Nat, k < (memL s).length → tabB c ((memL s).map fun j => lget d0 l j) r i k = tabB c l r i (lget 0 (memL s) (k : Int)).toNat := fun k hk => by
      have := mem_lt hn hs _ (lget_mem (d := 0) hk)
      unfold tabB
      rw [lget_map_int hk, show (((lget 0 (memL s) (k : Int)).toNat : Nat) : Int) = lget 0 (memL s) (k : Int) by omega]
    constructor
    · rintro ⟨k, hk, hb⟩
      obtain ⟨j, hj, rfl⟩ := List.mem_map.1 hk
      have hj := List.mem_range.1 hj
      rw [Int.toNat_natCast, hval j hj] at hb
      exact ⟨_, lget_mem hj, hb⟩
    · rintro ⟨y, hy, hb⟩
      obtain ⟨j, hj, rfl⟩ := List.mem_iff_getElem.1 hy
      refine ⟨(j : Int), List.mem_map.2 ⟨j, List.mem_range.2 hj, rfl⟩, ?_⟩
      rw [Int.toNat_natCast, hval j hj, lget_getD hj]
      exact hb
  unfold firstR
  rw [findF_none, agree_iff]
  constructor
  · intro h i hi _
    have := h i (by omega) (by omega)
    unfold clashAt at this
    rw [hany] at this
    split at this
    · cases this
    · rename_i q; exact Decidable.of_not_not q
  · intro h i _ hi
    unfold clashAt
    rw [hany, if_neg (fun e => e (h i (by omega) (by rw [ones_bit]; exact decide_eq_true (by omega))))]

theorem count_ends {A : Type} {F : Int → Option (Int ⊕ (Unit ⊕ A))} (n : Nat) (hF : ∀ k, k < n → F ((k : Int) - 1) = some (.inl (k : Int))) (hend : F ((n : Int) - 1) = some (.inr (.inl ()))) : loopM F (-1) = some (.inl ()) := by
  have := loopM_count (f := F) (fun k => ((k : Int) - 1)) n (fun k hk => by rw [hF k hk]; congr 2; simp) hend
  exact this

theorem TraceEvidence_ok {c : Dapi_TraceCourse} {l : List Dapi_TraceCause} {r : List Dapi_TraceReading} (hawake : l9_awake = some true) (hc : okv Tapi_TraceCourse c) (hl : okv (.slice Tapi_TraceCause) l) (hr : okv (.slice Tapi_TraceReading) r) : l9_TraceEvidence c l r = some true := by
  unfold l9_TraceEvidence
  rw [hawake, Option.bind_some, Bool.not_true, cond_false]
  obtain ⟨b, hb, hb2⟩ := Few_ok (c := c)
  rw [hb, Option.bind_some]
  cases b with
  | false => rfl
  | true =>
    obtain ⟨h1, h2, h3, h5, h4⟩ := hb2 rfl
    have hin := courseIn_of hc h1 h2 h3 h5 h4
    have hri : ∀ y, y ∈ r → ReadIn y := fun y hy => readIn_of (hr.2 y hy)
    obtain ⟨b, hb, hb3⟩ : ∃ b, l9_light l r = some b ∧ (b = true → l.length ≤ 6 ∧ r.length ≤ 12 ∧ (r.length ≤ 7 ∨ r.length > 10)) := by
      refine ⟨_, rfl, fun h => ?_⟩
      rw [Bool.and_eq_true, Bool.and_eq_true, Bool.or_eq_true, decide_eq_true_eq, decide_eq_true_eq, decide_eq_true_eq, decide_eq_true_eq] at h
      omega
    rw [Bool.not_true, cond_false, hb, Option.bind_some, Option.bind_some]
    cases b with
    | false => rfl
    | true =>
      obtain ⟨l6, r12, r7⟩ := hb3 rfl
      have hsz := size_of_okv hl
      obtain ⟨strips, i, e, o1, o2, o3⟩ := causes_ok hin hsz
      have hce : r9_CausesErr c l = some e := by
        unfold r9_CausesErr
        rw [o2, Option.bind_some]
      rw [Bool.not_true, cond_false, hce, Option.bind_some, Option.bind_some]
      by_cases he : e = 0
      rotate_left
      · rw [show (e != 0) = true by rw [bne_iff_ne]; exact he]; rfl
      subst he
      obtain ⟨rfl, rfl, hv, hl5, hco⟩ := o3 rfl
      rw [show ((0 : Int) != 0) = false from rfl, cond_false, ReadingsErr_ok hv hri, Option.bind_some, Option.bind_some]
      by_cases hre : readsE c r = 0
      rotate_left
      · rw [show (readsE c r != 0) = true by rw [bne_iff_ne]; exact hre]; rfl
      obtain ⟨r10, hrr⟩ := readsE_zero hre
      have r7 : r.length ≤ 7 := by omega
      rw [hre, show ((0 : Int) != 0) = false from rfl, cond_false, CopyCourse_ok h1 h2 h3 h4, Option.bind_some, CopyCauses_ok (by omega), Option.bind_some, CopyReadings_ok (by omega), Option.bind_some]
      obtain ⟨_, x2⟩ := tExplanations_ok hv o1 hl5 hco hri
      obtain ⟨_, y2, y3⟩ := tContradicting_ok hv o1 hl5 hco hri (Or.inl r7)
      obtain ⟨E, hE, hx⟩ := x2 hre
      have hlen := isE_len hl5 hE
      have hnil := none_nil hE
      rw [hx, Option.bind_some, Option.bind_some, Option.bind_some, Option.bind_some]
      cases hn : noneB (tabB c l r) (presB r) l.length r.length (2 ^ r.length - 1) with
      | false =>
        have hne : E ≠ [] := fun e => by rw [hnil.1 e] at hn; cases hn
        have hpos : 0 < E.length := List.length_pos_iff.2 hne
        rw [y2 hre hn, Option.bind_some, if_neg hne]
        simp only
        rw [show ((0 : Int) == 0) = true from rfl, cond_true, List.length_map, show ((((12 : Int) != 12) || ((([] : List Int).length : Int) != 0)) || ((E.length : Int) == 0)) = false by rw [show ((((12 : Int) != 12) || ((([] : List Int).length : Int) != 0)) = false) from rfl, Bool.false_or, beq_eq_false_iff_ne]; omega, dec_false (show ¬ (E.length : Int) > 32 by omega), Bool.false_or, cond_false]
        refine Option.bind_eq_some_iff.2 ⟨.inl (), ?_, rfl⟩
        refine loopM_list_eq (X := Nat) (l := E) (t := (Sum.inl () : Unit ⊕ Bool)) (fun l' s => ∃ pre, E = pre ++ l' ∧ s = (pre.length : Int)) ?_ ?_ ⟨[], rfl, rfl⟩
        · rintro a l' s ⟨pre, q1, rfl⟩
          left
          have hL : E.length = pre.length + (l'.length + 1) := by rw [q1, List.length_append, List.length_cons]
          have haE : a ∈ E := by rw [q1]; simp
          obtain ⟨ha, hag, hamin⟩ := (hE.mem a).1 haE
          have g1 : ∀ d, lget d (E.map memL) (pre.length : Int) = memL a := fun d => by
            rw [q1, List.map_append, List.map_cons, show pre.length = (pre.map memL).length by rw [List.length_map]]
            exact lget_mid
          have g0 : ((memL a).length : Int) = ((lget [] (E.map memL) 0).length : Int) := by
            cases hEc : E with
            | nil => exact (hne hEc).elim
            | cons x E' =>
              have hx := (hE.mem x).1 (by rw [hEc]; simp)
              have e1 := hamin x hx.1 hx.2.1
              have e2 := hx.2.2 a ha hag
              show ((memL a).length : Int) = ((memL x).length : Int)
              unfold sizeN at e1 e2
              omega
          have hml := memL_len (s := a)
          rw [dec_true (show (pre.length : Int) < (E.length : Int) by omega), cond_true, dec_true (show (0 : Int) ≤ (pre.length : Int) by omega), dec_true (show (0 : Int) ≤ 0 from Int.le_refl 0), dec_true (show (0 : Int) < (E.length : Int) by omega), Bool.and_self, chk_true rfl, chk_true rfl, g1, g0, bne_self_eq_false, cond_false, chk_true rfl, areIndexes_ok (by omega) ha, Option.bind_some, Bool.not_true, Option.bind_some, cond_false, wi64_id (x := (pre.length : Int) + 1) (by omega) (by omega)]
          refine ⟨((pre ++ [a]).length : Int), ?_, pre ++ [a], by rw [q1]; simp, rfl⟩
          refine Option.bind_eq_some_iff.2 ⟨(Sum.inl () : Unit ⊕ (Int ⊕ (Unit ⊕ Bool))), ?_, by rw [List.length_append]; rfl⟩
          have hcon : ∀ s', s' < 2 ^ l.length → trace_Contradiction c ((memL s').map fun j => lget d0 l j) r = some (match firstR c ((memL s').map fun j => lget d0 l j) r with | none => (0, 12) | some v => (v.1, 0)) := fun s' hs' => by
            obtain ⟨c1, c2, c3⟩ := causes_sub hin hv hl5 hsz (causes_all hin hsz o1) hs' o1
            rw [Contra_ok hv c1 c2 c3 hri, if_pos hre]
            rfl
          have hround : ∀ (w : Int) (s' : Nat), s' < 2 ^ l.length → pickW (memL a) w (memL a).length = memL s' → (w < 0 → agreeB (tabB c l r) (presB r) r.length (2 ^ r.length - 1) s' = true) → (0 ≤ w → agreeB (tabB c l r) (presB r) r.length (2 ^ r.length - 1) s' = false) →
              ∃ v : Int × Int, trace_Contradiction c ((pickW (memL a) w (memL a).length).map fun j => lget d0 l j) r = some v ∧ ((decide (w < 0) && (v.2 != 12)) || (decide (w ≥ 0) && (v.2 != 0))) = false := fun w s' hs' hp h1 h2 => by
            rw [hp, hcon s' hs']
            have hfs := first_sub (c := c) (l := l) (r := r) (s := s') (by omega) hs' (by omega)
            by_cases hw : w < 0
            · rw [hfs.2 (h1 hw)]
              exact ⟨_, rfl, by rw [dec_true hw, dec_false (show ¬ w ≥ 0 by omega)]; rfl⟩
            · cases hf : firstR c ((memL s').map fun j => lget d0 l j) r with
              | none => have := hfs.1 hf; rw [h2 (by omega)] at this; cases this
              | some v => exact ⟨_, rfl, by rw [dec_false hw, dec_true (show w ≥ 0 by omega)]; rfl⟩
          have hboth : ∀ k : Nat, k < (memL a).length + 1 → ∃ v : Int × Int, trace_Contradiction c ((pickW (memL a) ((k : Int) - 1) (memL a).length).map fun j => lget d0 l j) r = some v ∧ ((decide ((k : Int) - 1 < 0) && (v.2 != 12)) || (decide ((k : Int) - 1 ≥ 0) && (v.2 != 0))) = false := fun k hk => by
            cases k with
            | zero => exact hround (((0 : Nat) : Int) - 1) a ha (pick_all (by omega)) (fun _ => hag) (fun h => by omega)
            | succ k =>
              obtain ⟨s', p1, p2, p3⟩ := pick_set (n := l.length) (by omega) ha (show k < (memL a).length by omega)
              refine hround _ s' p1 (by rw [show (((k + 1 : Nat) : Int) - 1) = (k : Int) by omega]; exact p2) (fun h => by omega) (fun _ => ?_)
              cases hA : agreeB (tabB c l r) (presB r) r.length (2 ^ r.length - 1) s' with
              | false => rfl
              | true => have := hamin s' p1 hA; omega
          refine count_ends ((memL a).length + 1) (fun k hk => ?_) ?_
          · obtain ⟨v, v1, v2⟩ := hboth k hk
            rw [chk_true rfl, ← g0, dec_true (show ((k : Int) - 1) < ((memL a).length : Int) by omega), cond_true]
            refine Option.bind_eq_some_iff.2 ⟨_, gather (d := d0) (xs := l) (ix := memL a) (w := (k : Int) - 1) (by omega) (mem_lt (by omega) ha) (fun o m => ?_), ?_⟩
            · simp only
              rw [chk_true rfl, chk_true rfl]
            · rw [Option.bind_some, Option.bind_some, v1, Option.bind_some, v2, cond_false, wi64_id (by omega) (by omega)]
              congr 2; omega
          · rw [chk_true rfl, ← g0, dec_false (show ¬ ((((memL a).length + 1 : Nat) : Int) - 1) < ((memL a).length : Int) by omega), cond_false]
        · rintro s ⟨pre, q1, rfl⟩
          rw [List.append_nil] at q1
          subst q1
          rw [dec_false (show ¬ (E.length : Int) < (E.length : Int) by omega), cond_false]
      | true =>
        have hn0 : E = [] := hnil.2 hn
        obtain ⟨R, hR, hy⟩ := y3 hre hn
        obtain ⟨R1, R2, R3⟩ := hR
        have hml := memL_len (s := R)
        have hRne : 0 < (memL R).length := by
          cases hm : (memL R).length with
          | succ k => omega
          | zero =>
            have he : memL R = [] := List.length_eq_zero_iff.1 hm
            have ha : agreeB (tabB c l r) (presB r) r.length R 0 = true := agree_iff.2 fun i hi hb => by
              have : (i : Int) ∈ memL R := (memL_bit (lt_64 (by omega) R1)).2 hb
              rw [he] at this; cases this
            have := none_iff.1 R2 0 (Nat.pow_pos (by decide))
            rw [ha] at this; cases this
        rw [hy, Option.bind_some, if_pos hn0, hn0]
        simp only
        rw [show ((12 : Int) == 0) = false from rfl, cond_false, show ((((12 : Int) != 12) || (((([] : List Nat).map memL).length : Int) != 0)) || ((0 : Int) != 0)) = false from rfl, Bool.false_or, show (((memL R).length : Int) == 0) = false by rw [beq_eq_false_iff_ne]; omega, cond_false, areIndexes_ok (by omega) R1, Option.bind_some, Bool.not_true, Option.bind_some, cond_false]
        refine Option.bind_eq_some_iff.2 ⟨.inl (), ?_, rfl⟩
        have hex : ∀ s', s' < 2 ^ r.length → ∃ x : List (List Int), trace_Explanations c l ((memL s').map fun j => lget r0 r j) = some (x, if noneB (tabB c l r) (presB r) l.length r.length s' = true then 12 else 0) := fun s' hs' => by
          have hmem : ∀ k : Nat, k < (memL s').length → 0 ≤ lget 0 (memL s') (k : Int) ∧ lget 0 (memL s') (k : Int) < (r.length : Int) := fun k hk => mem_lt (by omega) hs' _ (lget_mem (d := 0) hk)
          have hlen' : ((memL s').map fun j => lget r0 r j).length = (memL s').length := List.length_map _
          have hin' : ∀ x, x ∈ ((memL s').map fun j => lget r0 r j) → ReadIn x := fun x hx => by
            obtain ⟨y, hy, rfl⟩ := List.mem_map.1 hx
            obtain ⟨p, hp, rfl⟩ := List.mem_iff_getElem.1 hy
            have := hmem p hp
            rw [lget_getD hp] at this
            obtain ⟨q, hq2⟩ : ∃ q : Nat, (memL s')[p] = (q : Int) := ⟨((memL s')[p]).toNat, by omega⟩
            rw [hq2]
            exact hri _ (lget_mem (by omega))
          have hl7 : (memL s').length ≤ 7 := by
            unfold memL
            rw [List.length_map]
            refine Nat.le_trans (nodup_len (N := r.length) (List.Pairwise.filter _ List.nodup_range) fun i hi => ?_) r7
            rw [List.mem_filter] at hi
            exact bit_lt hs' hi.2
          have hre' : readsE c ((memL s').map fun j => lget r0 r j) = 0 := by
            have hf : findF (readR c ((memL s').map fun j => lget r0 r j)) 0 ((memL s').map fun j => lget r0 r j).length = none := findF_none.2 fun k _ hk => by
              unfold readR
              have hk2 : k < (memL s').length := by rw [← hlen']; omega
              have := hmem k hk2
              obtain ⟨q, hq2⟩ : ∃ q : Nat, lget 0 (memL s') (k : Int) = (q : Int) := ⟨(lget 0 (memL s') (k : Int)).toNat, by omega⟩
              rw [lget_map_int hk2, hq2, if_pos (hrr q (by omega))]
            unfold readsE
            rw [if_neg (by rw [hlen']; omega), hf]
            rfl
          obtain ⟨_, z2⟩ := tExplanations_ok hv o1 hl5 hco hin'
          obtain ⟨E', hE', hx'⟩ := z2 hre'
          rw [hlen'] at hE'
          have htab : ∀ s, s < 2 ^ l.length → agreeB (tabB c l ((memL s').map fun j => lget r0 r j)) (presB ((memL s').map fun j => lget r0 r j)) (memL s').length (2 ^ (memL s').length - 1) s = agreeB (tabB c l r) (presB r) r.length s' s := fun s _ => by
            rw [← sub_agree (T := tabB c l r) (r := r) (k := r.length) (R := s') (by omega) hs', Bool.eq_iff_iff, agree_iff, agree_iff]
            have hrow : ∀ i, i < (memL s').length → tabB c l ((memL s').map fun j => lget r0 r j) i = tabB c l r (lget 0 (memL s') (i : Int)).toNat := fun i hi => by
              have := hmem i hi
              funext k
              unfold tabB
              rw [lget_map_int hi, show (((lget 0 (memL s') (i : Int)).toNat : Nat) : Int) = lget 0 (memL s') (i : Int) by omega]
            constructor
            · intro h i hi hb; rw [← hrow i hi]; exact h i hi hb
            · intro h i hi hb; rw [hrow i hi]; exact h i hi hb
          have hE2 := none_nil (isE_congr hE' htab)
          refine ⟨E'.map memL, ?_⟩
          rw [hx']
          by_cases hz : E' = []
          · rw [if_pos hz, if_pos (hE2.1 hz)]
          · rw [if_neg hz, if_neg (fun e => hz (hE2.2 e))]
        have hboth : ∀ k : Nat, k < (memL R).length + 1 → ∃ v : List (List Int) × Int, trace_Explanations c l ((pickW (memL R) ((k : Int) - 1) (memL R).length).map fun j => lget r0 r j) = some v ∧ ((decide ((k : Int) - 1 < 0) && (v.2 != 12)) || (decide ((k : Int) - 1 ≥ 0) && (v.2 != 0))) = false := fun k hk => by
          cases k with
          | zero =>
            rw [show (((0 : Nat) : Int) - 1) = -1 from rfl, pick_all (by omega)]
            obtain ⟨x, hx⟩ := hex R R1
            rw [if_pos R2] at hx
            exact ⟨_, hx, rfl⟩
          | succ k =>
            rw [show (((k + 1 : Nat) : Int) - 1) = (k : Int) by omega]
            obtain ⟨s', p1, p2, p3⟩ := pick_set (n := r.length) (by omega) R1 (show k < (memL R).length by omega)
            rw [p2]
            obtain ⟨x, hx⟩ := hex s' p1
            rw [if_neg (fun e => by
              rcases R3 s' p1 e with h | h
              · rw [h] at p3; omega
              · have := less_size h; omega)] at hx
            exact ⟨_, hx, by rw [dec_false (show ¬ (k : Int) < 0 by omega), dec_true (show (k : Int) ≥ 0 by omega)]; rfl⟩
        refine count_ends ((memL R).length + 1) (fun k hk => ?_) ?_
        · obtain ⟨v, v1, v2⟩ := hboth k hk
          rw [dec_true (show ((k : Int) - 1) < ((memL R).length : Int) by omega), cond_true]
          refine Option.bind_eq_some_iff.2 ⟨_, gather (d := r0) (xs := r) (ix := memL R) (w := (k : Int) - 1) (by omega) (mem_lt (by omega) R1) (fun o m => rfl), ?_⟩
          rw [Option.bind_some, Option.bind_some, v1, Option.bind_some, v2, cond_false, wi64_id (by omega) (by omega)]
          congr 2; omega
        · rw [dec_false (show ¬ ((((memL R).length + 1 : Nat) : Int) - 1) < ((memL R).length : Int) by omega), cond_false]
end Go.Lift
