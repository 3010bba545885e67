/-
  The law of explanations holds of the plain functions.
-/
import Derived.Test.YtfihcmhknhbndaaGreatDoorPlainP
import Derived.Test.YtfihcmhknhbndaaGreatDoorPlainQ
import Derived.Test.YtfihcmhknhbndaaGreatDoorFunEx
set_option linter.unusedSectionVars false
set_option linter.unusedVariables false
set_option linter.unusedSimpArgs false
namespace Go.Lift
open Go
theorem Ints_same {a : List Int} (h : a.length ≤ 1000) : b0_Ints a a = some true := by
  unfold b0_Ints
  rw [bne_self_eq_false, cond_false]
  refine Option.bind_eq_some_iff.2 ⟨.inl (), ?_, rfl⟩
  refine loopM_count (fun i => (i : Int)) a.length (fun i hi => ?_) ?_
  · rw [dec_true (show (i : Int) < (a.length : Int) by omega), cond_true, chk_true (and_true' (dec_true (by omega)) rfl), chk_true (and_true' (dec_true (by omega)) rfl), bne_self_eq_false, cond_false, wi64_id (by omega) (by omega)]
    rfl
  · rw [dec_false (show ¬ (a.length : Int) < (a.length : Int) by omega), cond_false]
theorem Lists_same {a : List (List Int)} (h : a.length ≤ 1000) (k : ∀ x, x ∈ a → x.length ≤ 1000) : b0_Lists a a = some true := by
  unfold b0_Lists
  rw [bne_self_eq_false, cond_false]
  refine Option.bind_eq_some_iff.2 ⟨.inl (), ?_, rfl⟩
  refine loopM_count (fun i => (i : Int)) a.length (fun i hi => ?_) ?_
  · rw [dec_true (show (i : Int) < (a.length : Int) by omega), cond_true, chk_true (and_true' (dec_true (by omega)) rfl), chk_true (and_true' (dec_true (by omega)) rfl), Ints_same (k _ (lget_mem hi)), Option.bind_some, Bool.not_true, cond_false, wi64_id (by omega) (by omega)]
    rfl
  · rw [dec_false (show ¬ (a.length : Int) < (a.length : Int) by omega), cond_false]
theorem lget_map_int {A : Type} {f : Int → A} {d : A} {l : List Int} {i : Nat} (hi : i < l.length) : lget d (l.map f) (i : Int) = f (lget 0 l (i : Int)) := by
  unfold lget
  rw [Int.toNat_natCast, List.getD_eq_getElem?_getD, List.getD_eq_getElem?_getD, List.getElem?_map, List.getElem?_eq_getElem hi]; rfl
theorem map_as_range {A : Type} {f : Int → A} {l : List Int} : l.map f = (List.range l.length).map fun (i : Nat) => f (lget 0 l (i : Int)) := by
  apply List.ext_getElem
  · rw [List.length_map, List.length_map, List.length_range]
  · intro i h1 h2
    rw [List.length_map] at h1
    rw [List.getElem_map, List.getElem_map, List.getElem_range, lget_getD h1]
theorem sub_agree {T : Nat → Nat → Bool} {r : List Dapi_TraceReading} {k R s : Nat} (hk : k ≤ 60) (hR : R < 2 ^ k) :
    agreeB (fun i => T (lget 0 (memL R) (i : Int)).toNat) (presB ((memL R).map fun j => lget r0 r j)) (memL R).length (2 ^ (memL R).length - 1) s = agreeB T (presB r) k R s := by
  rw [Bool.eq_iff_iff, agree_iff, agree_iff]
  have hp : ∀ i : Nat, i < (memL R).length → presB ((memL R).map fun j => lget r0 r j) i = presB r (lget 0 (memL R) (i : Int)).toNat := fun i hi => by
    unfold presB
    rw [lget_map_int hi]
    have := mem_lt hk hR _ (lget_mem (d := 0) hi)
    rw [show (((lget 0 (memL R) (i : Int)).toNat : Nat) : Int) = lget 0 (memL R) (i : Int) by omega]
  constructor
  · intro h i hi hb
    obtain ⟨j, hj, he⟩ : ∃ j : Nat, j < (memL R).length ∧ lget 0 (memL R) (j : Int) = (i : Int) := by
      have hm : (i : Int) ∈ memL R := (memL_bit (lt_64 hk hR)).2 hb
      obtain ⟨j, hj, he⟩ := List.mem_iff_getElem.1 hm
      exact ⟨j, hj, by rw [lget_getD hj]; exact he⟩
    have := h j hj (by rw [ones_bit]; exact decide_eq_true hj)
    rw [hp j hj, he, Int.toNat_natCast] at this
    exact this
  · intro h j hj _
    rw [hp j hj]
    have hm := lget_mem (d := 0) hj
    obtain ⟨i, hi, _, hb⟩ := memL_mem.1 hm
    rw [hi, Int.toNat_natCast]
    exact h i (bit_lt hR hb) hb
theorem sub_loop {c : Dapi_TraceCourse} {l : List Dapi_TraceCause} {r : List Dapi_TraceReading} (hr : r.length ≤ 60) {R : Nat} (hR : R < 2 ^ r.length) :
    loopM (S := (List (List Bool)) × (List Dapi_TraceReading) × Int) (R := (List (List Bool)) × (List Dapi_TraceReading)) (fun s_1 =>
              let t_5 : (List (List Bool)) := s_1.1
              let few : (List Dapi_TraceReading) := s_1.2.1
              let i : Int := s_1.2.2
              bif decide (i < (List.length (memL R) : Int)) then
                chk (decide ((0 : Int) ≤ i) && decide (i < (List.length (memL R) : Int))) (
                  chk (decide ((0 : Int) ≤ (lget 0 (memL R) i)) && decide ((lget 0 (memL R) i) < (List.length (tabL c l r r.length) : Int))) (
                    (app t_5 [lget [] (tabL c l r r.length) (lget 0 (memL R) i)]).bind fun (t_6 : List (List Bool)) =>
                    chk (decide ((0 : Int) ≤ i) && decide (i < (List.length (memL R) : Int))) (
                      chk (decide ((0 : Int) ≤ (lget 0 (memL R) i)) && decide ((lget 0 (memL R) i) < (List.length r : Int))) (
                        (app few [lget (0, (0, false)) r (lget 0 (memL R) i)]).bind fun (t_7 : List Dapi_TraceReading) =>
                        some (.inl (t_6, t_7, wi64 (i + 1)))))))
              else
                some (.inr (t_5, few))) ([], [], 0) = some (tabT (fun i => tabB c l r (lget 0 (memL R) (i : Int)).toNat) l.length (memL R).length, (memL R).map fun j => lget r0 r j) := by
  have hml := memL_len (s := R)
  have htl : (tabL c l r r.length).length = r.length := by unfold tabL; rw [List.length_map, List.length_range]
  have hrow : ∀ i : Nat, i < (memL R).length → lget [] (tabL c l r r.length) (lget 0 (memL R) (i : Int)) = (List.range l.length).map (tabB c l r (lget 0 (memL R) (i : Int)).toNat) := fun i hi => by
    have hm := mem_lt hr hR _ (lget_mem (d := 0) hi)
    obtain ⟨j, hj⟩ : ∃ j : Nat, lget 0 (memL R) (i : Int) = (j : Int) := ⟨(lget 0 (memL R) (i : Int)).toNat, by omega⟩
    rw [hj] at hm ⊢
    rw [Int.toNat_natCast]
    unfold tabL
    rw [lget_range (f := rowL c l r) (by omega)]
    rfl
  rw [show tabT (fun i => tabB c l r (lget 0 (memL R) (i : Int)).toNat) l.length (memL R).length = (List.range (memL R).length).map fun (i : Nat) => (List.range l.length).map (tabB c l r (lget 0 (memL R) (i : Int)).toNat) from rfl, map_as_range (l := memL R) (f := fun j => lget r0 r j)]
  refine loopM_count (fun i => ((List.range i).map (fun (i : Nat) => (List.range l.length).map (tabB c l r (lget 0 (memL R) (i : Int)).toNat)), ((List.range i).map (fun (i : Nat) => lget r0 r (lget 0 (memL R) (i : Int))), (i : Int)))) (memL R).length (fun i hi => ?_) ?_
  · have hm := mem_lt hr hR _ (lget_mem (d := 0) hi)
    simp only
    rw [dec_true (show (i : Int) < ((memL R).length : Int) by omega), cond_true, dec_true (show (0 : Int) ≤ (i : Int) by omega), Bool.and_self, chk_true rfl, chk_true (and_true' (dec_true hm.1) (dec_true (by rw [htl]; exact hm.2))), hrow i hi,
      app_ok (by rw [List.length_map, List.length_range, List.length_singleton]; omega), Option.bind_some, chk_true rfl, chk_true (and_true' (dec_true hm.1) (dec_true hm.2)), app_ok (by rw [List.length_map, List.length_range, List.length_singleton]; omega), Option.bind_some, wi64_id (by omega) (by omega), range_map_succ, range_map_succ]
    rfl
  · simp only
    rw [dec_false (show ¬ ((memL R).length : Int) < ((memL R).length : Int) by omega), cond_false]
theorem memL_ne {R : Nat} (h : 1 ≤ R) (h64 : R < W64) : 0 < (memL R).length := by
  rw [List.length_pos_iff]
  intro e
  have h0 : memL 0 = [] := by
    unfold memL
    rw [List.map_eq_nil_iff, List.filter_eq_nil_iff]
    intro a _
    rw [Nat.zero_testBit]; decide
  have := memL_inj (a := R) (b := 0) h64 (by decide) (by rw [e, h0])
  omega
theorem size_le {s n : Nat} (hn : n ≤ 60) (hs : s < 2 ^ n) : (memL s).length ≤ n := by
  unfold memL
  rw [List.length_map]
  refine nodup_len (List.Pairwise.filter _ List.nodup_range) fun i hi => ?_
  rw [List.mem_filter] at hi
  exact bit_lt hs hi.2
def InvB (P : Nat → Bool) (N : Nat) (b : Option Nat) : Prop :=
  match b with
  | none => ∀ t, 1 ≤ t → t < N → P t = false
  | some R => 1 ≤ R ∧ R < N ∧ P R = true ∧ ∀ t, 1 ≤ t → t < N → P t = true → t = R ∨ lessB R t = true
def bestL : Option Nat → List Int
  | none => []
  | some R => memL R
theorem rContradicting_ok {c : Dapi_TraceCourse} (hv : Valid c) {l : List Dapi_TraceCause} {r : List Dapi_TraceReading} (h5 : l.length ≤ 5) (hc : ∀ k, k < l.length → CauseOk c (lget d0 l (k : Int))) (hin : ∀ x, x ∈ r → ReadIn x) (h : readsE c r = 0) (h7 : r.length ≤ 7) :
    (noneB (tabB c l r) (presB r) l.length r.length (2 ^ r.length - 1) = false → r9_Contradicting c l r = some ([], false)) ∧
    (∀ R, LeastB (noneB (tabB c l r) (presB r) l.length r.length) (2 ^ r.length) R → noneB (tabB c l r) (presB r) l.length r.length (2 ^ r.length - 1) = true → r9_Contradicting c l r = some (memL R, true)) := by
  obtain ⟨h10, hr⟩ := readsE_zero h
  obtain ⟨P, hP⟩ : ∃ P, P = noneB (tabB c l r) (presB r) l.length r.length := ⟨_, rfl⟩
  obtain ⟨E, q1, q2⟩ := explained_ok (T := tabB c l r) (n := l.length) (r := r) h5 (by omega)
  have hE := none_nil q2
  have hlen := isE_len h5 q2
  unfold r9_Contradicting
  rw [Table_ok hv h5 hc (by omega) hr hin, Option.bind_some, show tabL c l r r.length = tabT (tabB c l r) l.length r.length from rfl, q1, Option.bind_some]
  have h0 : P 0 = false := by
    cases hz : P 0 with
    | false => rfl
    | true =>
      rw [hP] at hz
      have := none_iff.1 hz 0 (Nat.pow_pos (by decide))
      have ha : agreeB (tabB c l r) (presB r) r.length 0 0 = true := agree_iff.2 fun i _ hb => by rw [Nat.zero_testBit] at hb; cases hb
      rw [ha] at this; cases this
  constructor
  · intro hn
    have hne : E ≠ [] := fun e => by rw [hE.1 e] at hn; cases hn
    have : 0 < E.length := List.length_pos_iff.2 hne
    rw [List.length_map, dec_true (show (E.length : Int) > 0 by omega), cond_true]
  · intro R hR hn
    have hnil : E = [] := hE.2 hn
    rw [hnil, dec_false (show ¬ ((([] : List Nat).map memL).length : Int) > 0 by decide), cond_false]
    have hR1 : 1 ≤ R := by
      by_cases e : R = 0
      · rw [e] at hR; have := hR.2.1; rw [← hP, h0] at this; cases this
      · omega
    have key : ∀ (d k : Nat) (b : Option Nat), k + d = 2 ^ r.length → 1 ≤ k → InvB P k b → ∃ b', loopM (S := (List Int) × Int) (R := (List Int)) (fun s =>
      let best : (List Int) := s.1
      let n : Int := s.2
      chk (decide ((0 : Int) ≤ (List.length r : Int))) (
        let t_2 : Int := ishl .i64 1 (List.length r : Int)
        bif decide (n < t_2) then
          (r9_members n).bind fun (t_3 : (List Int)) =>
          (bif decide ((List.length best : Int) > 0) then
            (bif decide ((List.length t_3 : Int) > (List.length best : Int)) then some true else
              (bif ((List.length t_3 : Int) == (List.length best : Int)) then
                (b0_Before t_3 best).bind fun (t_4 : Bool) =>
                some (!t_4)
              else some false).bind fun (c_1 : Bool) =>
              some c_1).bind fun (c_2 : Bool) =>
            some c_2
          else some false).bind fun (c_3 : Bool) =>
          bif c_3 then
            some (.inl (best, wi64 (n + 1)))
          else
            (loopM (S := (List (List Bool)) × (List Dapi_TraceReading) × Int) (R := (List (List Bool)) × (List Dapi_TraceReading)) (fun s_1 =>
              let t_5 : (List (List Bool)) := s_1.1
              let few : (List Dapi_TraceReading) := s_1.2.1
              let i : Int := s_1.2.2
              bif decide (i < (List.length t_3 : Int)) then
                chk (decide ((0 : Int) ≤ i) && decide (i < (List.length t_3 : Int))) (
                  chk (decide ((0 : Int) ≤ (lget 0 t_3 i)) && decide ((lget 0 t_3 i) < (List.length (tabL c l r r.length) : Int))) (
                    (app t_5 [lget [] (tabL c l r r.length) (lget 0 t_3 i)]).bind fun (t_6 : List (List Bool)) =>
                    chk (decide ((0 : Int) ≤ i) && decide (i < (List.length t_3 : Int))) (
                      chk (decide ((0 : Int) ≤ (lget 0 t_3 i)) && decide ((lget 0 t_3 i) < (List.length r : Int))) (
                        (app few [lget (0, (0, false)) r (lget 0 t_3 i)]).bind fun (t_7 : List Dapi_TraceReading) =>
                        some (.inl (t_6, t_7, wi64 (i + 1)))))))
              else
                some (.inr (t_5, few))) ([], [], 0)).bind fun (b : (List (List Bool)) × (List Dapi_TraceReading)) =>
            let t_8 : (List (List Bool)) := b.1
            let few_1 : (List Dapi_TraceReading) := b.2
            (r9_explained t_8 (List.length l : Int) few_1).bind fun (t_9 : (List (List Int))) =>
            (bif ((List.length t_9 : Int) == 0) then
              some t_3
            else
              some best).bind fun (best_1 : (List Int)) =>
            some (.inl (best_1, wi64 (n + 1)))
        else
          some (.inr best))) (bestL b, (k : Int)) = some (bestL b') ∧ InvB P (2 ^ r.length) b' := by
      intro d
      induction d with
      | zero =>
        intro k b hk _ hi
        have : k = 2 ^ r.length := by omega
        subst this
        refine ⟨b, loopM_done ?_, hi⟩
        simp only
        rw [ishl_i64 (by omega), chk_true (dec_true (by omega)), dec_false (show ¬ ((2 ^ r.length : Nat) : Int) < ((2 ^ r.length : Nat) : Int) from Int.lt_irrefl _), cond_false]
      | succ d ih =>
        intro k b hk hk1 hi
        have hk2 : k < 2 ^ r.length := by omega
        have h128 : 2 ^ r.length ≤ 128 := Nat.pow_le_pow_right (n := 2) (by decide) h7
        have hk64 : k < W64 := lt_64 (n := r.length) (by omega) hk2
        have hml := memL_len (s := k)
        have hskip : (∀ R, b = some R → lessB k R = true → False) → b ≠ none → InvB P (k + 1) b := fun hb hne => by
          cases b with
          | none => exact (hne rfl).elim
          | some R =>
            obtain ⟨i1, i2, i3, i4⟩ := hi
            refine ⟨i1, by omega, i3, fun t ht1 ht2 hp => ?_⟩
            by_cases e : t = k
            · subst e
              right
              have hb' := hb R rfl
              by_cases hsz : sizeN R < sizeN t
              · exact less_iff.2 (Or.inl hsz)
              · have hsz2 : ¬ sizeN t < sizeN R := fun hh => hb' (less_iff.2 (Or.inl hh))
                refine less_tri hk64 (lt_64 (n := r.length) (by omega) (show R < 2 ^ r.length by omega)) (by omega) (by omega) ?_
                cases hbf : bef (memL t) (memL R) with
                | false => rfl
                | true => exact (hb' (less_iff.2 (Or.inr ⟨by omega, hbf⟩))).elim
            · exact i4 t ht1 (by omega) hp
        have hstay : P k = false → InvB P (k + 1) b := fun hp => by
          cases b with
          | none =>
            intro t ht1 ht2
            by_cases e : t = k
            · rw [e]; exact hp
            · exact hi t ht1 (by omega)
          | some R =>
            obtain ⟨i1, i2, i3, i4⟩ := hi
            refine ⟨i1, by omega, i3, fun t ht1 ht2 hq => ?_⟩
            by_cases e : t = k
            · rw [e, hp] at hq; cases hq
            · exact i4 t ht1 (by omega) hq
        have hturn : P k = true → (∀ R, b = some R → lessB k R = true) → InvB P (k + 1) (some k) := fun hp hb => by
          refine ⟨hk1, by omega, hp, fun t ht1 ht2 hq => ?_⟩
          by_cases e : t = k
          · exact .inl e
          · right
            cases b with
            | none => rw [hi t ht1 (by omega)] at hq; cases hq
            | some R =>
              obtain ⟨i1, i2, i3, i4⟩ := hi
              rcases i4 t ht1 (by omega) hq with rfl | hl
              · exact hb _ rfl
              · exact less_trans (hb R rfl) hl
        have hgo : (∀ R, b = some R → lessB k R = true) → ∃ b2, InvB P (k + 1) b2 ∧
            ((loopM (S := (List (List Bool)) × (List Dapi_TraceReading) × Int) (R := (List (List Bool)) × (List Dapi_TraceReading)) (fun s_1 =>
              bif decide (s_1.2.2 < (List.length (memL k) : Int)) then
                chk (decide ((0 : Int) ≤ s_1.2.2) && decide (s_1.2.2 < (List.length (memL k) : Int))) (
                  chk (decide ((0 : Int) ≤ (lget 0 (memL k) s_1.2.2)) && decide ((lget 0 (memL k) s_1.2.2) < (List.length (tabL c l r r.length) : Int))) (
                    (app s_1.1 [lget [] (tabL c l r r.length) (lget 0 (memL k) s_1.2.2)]).bind fun (t_6 : List (List Bool)) =>
                    chk (decide ((0 : Int) ≤ s_1.2.2) && decide (s_1.2.2 < (List.length (memL k) : Int))) (
                      chk (decide ((0 : Int) ≤ (lget 0 (memL k) s_1.2.2)) && decide ((lget 0 (memL k) s_1.2.2) < (List.length r : Int))) (
                        (app s_1.2.1 [lget (0, (0, false)) r (lget 0 (memL k) s_1.2.2)]).bind fun (t_7 : List Dapi_TraceReading) =>
                        some (.inl (t_6, t_7, wi64 (s_1.2.2 + 1)))))))
              else
                some (.inr (s_1.1, s_1.2.1))) ([], [], 0)).bind fun (b3 : (List (List Bool)) × (List Dapi_TraceReading)) =>
            (r9_explained b3.1 (List.length l : Int) b3.2).bind fun (t_9 : (List (List Int))) =>
            (bif ((List.length t_9 : Int) == 0) then
              some (memL k)
            else
              some (bestL b)).bind fun (best_1 : (List Int)) =>
            some (.inl (best_1, (k : Int) + 1) : ((List Int) × Int) ⊕ (List Int))) = some (.inl (bestL b2, ((k + 1 : Nat) : Int))) := by
          intro hb
          obtain ⟨E', p1, p2⟩ := explained_ok (T := fun i => tabB c l r (lget 0 (memL k) (i : Int)).toNat) (n := l.length) (r := (memL k).map fun j => lget r0 r j) h5 (by rw [List.length_map]; have := size_le (s := k) (n := r.length) (by omega) hk2; omega)
          rw [List.length_map] at p1 p2
          have p3 : IsE (2 ^ l.length) (agreeB (tabB c l r) (presB r) r.length k) E' := isE_congr p2 fun s _ => sub_agree (by omega) hk2
          have p4 : E' = [] ↔ P k = true := by rw [hP]; exact none_nil p3
          have hE'l := isE_len h5 p3
          refine ⟨if P k = true then some k else b, ?_, ?_⟩
          · by_cases hp : P k = true
            · rw [if_pos hp]; exact hturn hp hb
            · rw [if_neg hp]; exact hstay (by simpa using hp)
          · refine Option.bind_eq_some_iff.2 ⟨_, sub_loop (by omega) hk2, ?_⟩
            simp only
            rw [p1, Option.bind_some, List.length_map]
            by_cases hp : P k = true
            · rw [if_pos hp, p4.2 hp]; rfl
            · have hne : E' ≠ [] := fun e => hp (p4.1 e)
              have : 0 < E'.length := List.length_pos_iff.2 hne
              rw [if_neg hp, show ((E'.length : Int) == 0) = false by rw [beq_eq_false_iff_ne]; omega, cond_false, Option.bind_some]
              rfl
        have hround : ∃ b2, InvB P (k + 1) b2 ∧ ((bif decide ((List.length (bestL b) : Int) > 0) then
            (bif decide ((List.length (memL k) : Int) > (List.length (bestL b) : Int)) then some true else
              (bif ((List.length (memL k) : Int) == (List.length (bestL b) : Int)) then
                (b0_Before (memL k) (bestL b)).bind fun (t_4 : Bool) =>
                some (!t_4)
              else some false).bind fun (c_1 : Bool) =>
              some c_1).bind fun (c_2 : Bool) =>
            some c_2
          else some false).bind fun (c_3 : Bool) =>
          bif c_3 then
            some (.inl (bestL b, (k : Int) + 1))
          else
            (loopM (S := (List (List Bool)) × (List Dapi_TraceReading) × Int) (R := (List (List Bool)) × (List Dapi_TraceReading)) (fun s_1 =>
              bif decide (s_1.2.2 < (List.length (memL k) : Int)) then
                chk (decide ((0 : Int) ≤ s_1.2.2) && decide (s_1.2.2 < (List.length (memL k) : Int))) (
                  chk (decide ((0 : Int) ≤ (lget 0 (memL k) s_1.2.2)) && decide ((lget 0 (memL k) s_1.2.2) < (List.length (tabL c l r r.length) : Int))) (
                    (app s_1.1 [lget [] (tabL c l r r.length) (lget 0 (memL k) s_1.2.2)]).bind fun (t_6 : List (List Bool)) =>
                    chk (decide ((0 : Int) ≤ s_1.2.2) && decide (s_1.2.2 < (List.length (memL k) : Int))) (
                      chk (decide ((0 : Int) ≤ (lget 0 (memL k) s_1.2.2)) && decide ((lget 0 (memL k) s_1.2.2) < (List.length r : Int))) (
                        (app s_1.2.1 [lget (0, (0, false)) r (lget 0 (memL k) s_1.2.2)]).bind fun (t_7 : List Dapi_TraceReading) =>
                        some (.inl (t_6, t_7, wi64 (s_1.2.2 + 1)))))))
              else
                some (.inr (s_1.1, s_1.2.1))) ([], [], 0)).bind fun (b3 : (List (List Bool)) × (List Dapi_TraceReading)) =>
            (r9_explained b3.1 (List.length l : Int) b3.2).bind fun (t_9 : (List (List Int))) =>
            (bif ((List.length t_9 : Int) == 0) then
              some (memL k)
            else
              some (bestL b)).bind fun (best_1 : (List Int)) =>
            some (.inl (best_1, (k : Int) + 1) : ((List Int) × Int) ⊕ (List Int))) = some (.inl (bestL b2, ((k + 1 : Nat) : Int))) := by
          cases b with
          | none =>
            rw [dec_false (show ¬ ((bestL none).length : Int) > 0 by decide), cond_false, Option.bind_some, cond_false]
            exact hgo fun R e => by cases e
          | some B =>
            have hB1 : 1 ≤ B := hi.1
            have hB2 : B < 2 ^ r.length := by have := hi.2.1; omega
            have hpos := memL_ne hB1 (lt_64 (n := r.length) (by omega) hB2)
            have hmB := memL_len (s := B)
            rw [show bestL (some B) = memL B from rfl, dec_true (show ((memL B).length : Int) > 0 by omega), cond_true]
            by_cases g1 : sizeN k > sizeN B
            · rw [dec_true (show ((memL k).length : Int) > ((memL B).length : Int) from Int.ofNat_lt.2 g1), cond_true, Option.bind_some, Option.bind_some, cond_true]
              exact ⟨some B, hskip (fun R e hl => by cases e; have := less_size hl; omega) (by intro h; cases h), rfl⟩
            · rw [dec_false (show ¬ ((memL k).length : Int) > ((memL B).length : Int) from fun e => g1 (Int.ofNat_lt.1 e)), cond_false]
              by_cases g2 : sizeN k = sizeN B
              · rw [show (((memL k).length : Int) == ((memL B).length : Int)) = true by rw [beq_iff_eq]; exact congrArg _ g2, cond_true, Before_ok (by omega), Option.bind_some, Option.bind_some, Option.bind_some]
                cases hbf : bef (memL k) (memL B) with
                | true =>
                  rw [Bool.not_true, Option.bind_some, cond_false]
                  exact hgo fun R e => by cases e; exact less_iff.2 (Or.inr ⟨g2, hbf⟩)
                | false =>
                  rw [Bool.not_false, Option.bind_some, cond_true]
                  exact ⟨some B, hskip (fun R e hl => by
                    cases e
                    rcases less_iff.1 hl with h | ⟨_, h⟩
                    · omega
                    · rw [hbf] at h; cases h) (by intro h; cases h), rfl⟩
              · rw [show (((memL k).length : Int) == ((memL B).length : Int)) = false by rw [beq_eq_false_iff_ne]; exact fun e => g2 (Int.ofNat_inj.1 e), cond_false, Option.bind_some, Option.bind_some, Option.bind_some, cond_false]
                exact hgo fun R e => by cases e; exact less_iff.2 (Or.inl (by omega))
        obtain ⟨b2, i2, e2⟩ := hround
        obtain ⟨b', j1, j2⟩ := ih (k + 1) b2 (by omega) (by omega) i2
        refine ⟨b', ?_, j2⟩
        rw [loopM_next (s' := (bestL b2, ((k + 1 : Nat) : Int)))]
        · exact j1
        simp only
        rw [ishl_i64 (by omega), chk_true (dec_true (by omega)), dec_true (show (k : Int) < ((2 ^ r.length : Nat) : Int) by omega), cond_true, members_ok hk64, Option.bind_some, wi64_id (by omega) (by omega)]
        exact e2
    have h2p : 1 ≤ 2 ^ r.length := Nat.pow_pos (by decide)
    obtain ⟨b', j1, j2⟩ := key (2 ^ r.length - 1) 1 none (by omega) (Nat.le_refl _) (fun t h1 h2 => by omega)
    refine Option.bind_eq_some_iff.2 ⟨_, j1, ?_⟩
    rw [← hP] at hR
    cases b' with
    | none => have := j2 R hR1 hR.1; rw [hR.2.1] at this; cases this
    | some B =>
      obtain ⟨i1, i3, i4, i5⟩ := j2
      have hB : LeastB P (2 ^ r.length) B := ⟨i3, i4, fun t ht hp => by
        by_cases e : t = 0
        · rw [e, h0] at hp; cases hp
        · exact i5 t (by omega) ht hp⟩
      rw [least_uniq hR hB]
      rfl
theorem TraceExplained_ok {c : Dapi_TraceCourse} {l : List Dapi_TraceCause} {r : List Dapi_TraceReading} (hawake : l9_awake = some true) (hc : okv Tapi_TraceCourse c) (hl : okv (.slice Tapi_TraceCause) l) (hr : okv (.slice Tapi_TraceReading) r) : l9_TraceExplained c l r = some true := by
  unfold l9_TraceExplained
  rw [hawake, Option.bind_some, Bool.not_true, cond_false]
  obtain ⟨b, hb, hb2⟩ := Few_ok (c := c)
  rw [hb, Option.bind_some]
  cases b with
  | false => rfl
  | true =>
    obtain ⟨h1, h2, h3, h5, h4⟩ := hb2 rfl
    have hin := courseIn_of hc h1 h2 h3 h5 h4
    have hri : ∀ y, y ∈ r → ReadIn y := fun y hy => readIn_of (hr.2 y hy)
    obtain ⟨b, hb, hb3⟩ := light_ok (l := l) (r := r)
    rw [Bool.not_true, cond_false, hb, Option.bind_some, Option.bind_some]
    cases b with
    | false => rfl
    | true =>
      obtain ⟨l6, r12, r7⟩ := hb3 rfl
      obtain ⟨strips, i, e, o1, o2, o3⟩ := causes_ok hin (size_of_okv hl)
      have hce : r9_CausesErr c l = some e := by
        unfold r9_CausesErr
        rw [o2, Option.bind_some]
      rw [Bool.not_true, cond_false, CopyCourse_ok h1 h2 h3 h4, Option.bind_some, CopyCauses_ok (by omega), Option.bind_some, CopyReadings_ok (by omega), Option.bind_some]
      by_cases he : e = 0
      · subst he
        obtain ⟨rfl, rfl, hv, hl5, hco⟩ := o3 rfl
        obtain ⟨x1, x2⟩ := tExplanations_ok hv o1 hl5 hco hri
        obtain ⟨y1, y2, y3⟩ := tContradicting_ok hv o1 hl5 hco hri r7
        by_cases hre : readsE c r = 0
        · obtain ⟨r10, _⟩ := readsE_zero hre
          obtain ⟨z1, z2⟩ := rContradicting_ok hv hl5 hco hri hre (by omega)
          obtain ⟨E, hE, hx⟩ := x2 hre
          have hlen := isE_len hl5 hE
          have hnil := none_nil hE
          rw [hx, Option.bind_some, Option.bind_some, Option.bind_some, Option.bind_some]
          cases hn : noneB (tabB c l r) (presB r) l.length r.length (2 ^ r.length - 1) with
          | false =>
            have hne : E ≠ [] := fun e => by rw [hnil.1 e] at hn; cases hn
            have hpos : 0 < E.length := List.length_pos_iff.2 hne
            rw [y2 hre hn, Option.bind_some, hce, Option.bind_some, show ((0 : Int) == 0) = true from rfl, cond_true, ReadingsErr_ok hv hri, Option.bind_some, Option.bind_some, hre, show ((0 : Int) != 0) = false from rfl, cond_false, rExpl_ok hv hl5 hco hri hre hE, Option.bind_some, if_neg hne]
            simp only
            rw [List.length_map, show ((E.length : Int) == 0) = false by rw [beq_eq_false_iff_ne]; omega, Bool.false_and, cond_false, dec_true (show (E.length : Int) > 0 by omega), cond_true, show ((0 : Int) != 0) = false from rfl, cond_false, Lists_same (by rw [List.length_map]; omega) (fun x hx => by obtain ⟨s, _, rfl⟩ := List.mem_map.1 hx; have := memL_len (s := s); omega),
              Option.bind_some, Option.bind_some, Option.bind_some, Bool.not_true, Option.bind_some, cond_false, z1 hn, Option.bind_some]
            rfl
          | true =>
            have hn0 : E = [] := hnil.2 hn
            obtain ⟨R, hR, hy⟩ := y3 hre hn
            have hml := memL_len (s := R)
            rw [hy, Option.bind_some, hce, Option.bind_some, show ((0 : Int) == 0) = true from rfl, cond_true, ReadingsErr_ok hv hri, Option.bind_some, Option.bind_some, hre, show ((0 : Int) != 0) = false from rfl, cond_false, rExpl_ok hv hl5 hco hri hre hE, Option.bind_some, if_pos hn0, hn0]
            simp only
            rw [show ((((([] : List Nat).map memL).length : Int) == 0) && (((12 : Int) != 12) || ((([] : List Nat).map memL).length : Int) != 0)) = false from rfl, cond_false, dec_false (show ¬ ((([] : List Nat).map memL).length : Int) > 0 by decide), cond_false, Option.bind_some, Option.bind_some, cond_false, z2 R hR hn, Option.bind_some]
            simp only
            rw [Bool.not_true, cond_false, cond_true, Ints_same (by omega), Option.bind_some, Option.bind_some]
        · rw [x1 hre, Option.bind_some, Option.bind_some, Option.bind_some, Option.bind_some, y1 hre, Option.bind_some, hce, Option.bind_some, show ((0 : Int) == 0) = true from rfl, cond_true, ReadingsErr_ok hv hri, Option.bind_some, Option.bind_some, show (readsE c r != 0) = true by rw [bne_iff_ne]; exact hre, cond_true]
          simp only
          rw [beq_self_eq_true]
          rfl
      · have hx : trace_Explanations c l r = some ([], e) := by
          unfold trace_Explanations
          rw [openEvidence_bad o1 he, Option.bind_some]
          simp only
          rw [show (e != 0) = true by rw [bne_iff_ne]; exact he, cond_true]
        have hy : trace_Contradicting c l r = some ([], e) := by
          unfold trace_Contradicting
          rw [openEvidence_bad o1 he, Option.bind_some]
          simp only
          rw [show (e != 0) = true by rw [bne_iff_ne]; exact he, cond_true]
        rw [hx, Option.bind_some, Option.bind_some, Option.bind_some, Option.bind_some, hy, Option.bind_some, hce, Option.bind_some, show (e == 0) = false by rw [beq_eq_false_iff_ne]; exact he, cond_false, Option.bind_some, show (e != 0) = true by rw [bne_iff_ne]; exact he, cond_true]
        simp only
        rw [beq_self_eq_true]
        rfl
end Go.Lift
