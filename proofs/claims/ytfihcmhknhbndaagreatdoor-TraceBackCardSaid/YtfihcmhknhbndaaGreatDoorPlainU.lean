/-
  Two charts are composed on both sides.
-/
import Derived.Test.YtfihcmhknhbndaaGreatDoorPlainS
import Derived.Test.YtfihcmhknhbndaaGreatDoorPlainT
set_option linter.unusedSectionVars false
set_option linter.unusedVariables false
set_option linter.unusedSimpArgs false
namespace Go.Lift
open Go
def lastR (l : List Rat) : Rat := l.getD (l.length - 1) 0
theorem lastR_mem {l : List Rat} (h : l ≠ []) : lastR l ∈ l := by
  have := List.length_pos_iff.2 h
  unfold lastR
  rw [List.getD_eq_getElem?_getD, List.getElem?_eq_getElem (by omega)]
  exact List.getElem_mem _
theorem le_lastR {l : List Rat} (h : Asc l) {u : Rat} (hu : u ∈ l) : u ≤ lastR l := by
  obtain ⟨i, hi, e⟩ := List.getElem_of_mem hu
  unfold lastR
  rw [List.getD_eq_getElem?_getD, List.getElem?_eq_getElem (show l.length - 1 < l.length by omega), Option.getD_some, ← e]
  by_cases hx : i = l.length - 1
  · subst hx; exact Rat.le_refl
  · exact Rat.le_of_lt (List.pairwise_iff_getElem.1 h i (l.length - 1) hi (by omega) (by omega))
def pushR (hi : Rat) (out : List Rat) (v : Rat) : List Rat := if lastR out < v ∧ v ≤ hi then out ++ [v] else out
theorem push_ok {lo hi v : Rat} {out : List Rat} {P : Rat → Prop} (ha : Asc out) (hne : out ≠ []) (hm : ∀ u, u ∈ out ↔ u = lo ∨ (lo < u ∧ u ≤ hi ∧ P u)) (hv : ∀ u, P u → u ≤ v) :
    Asc (pushR hi out v) ∧ pushR hi out v ≠ [] ∧ (∀ u, u ∈ pushR hi out v ↔ u = lo ∨ (lo < u ∧ u ≤ hi ∧ (P u ∨ u = v))) ∧ (pushR hi out v).length ≤ out.length + 1 := by
  have hlast := lastR_mem hne
  have hlo : lo ≤ lastR out := le_lastR ha ((hm lo).2 (Or.inl rfl))
  unfold pushR
  by_cases h : lastR out < v ∧ v ≤ hi
  · rw [if_pos h]
    refine ⟨?_, by simp, fun u => ?_, by rw [List.length_append, List.length_singleton]; exact Nat.le_refl _⟩
    · rw [Asc, List.pairwise_append]
      refine ⟨ha, List.pairwise_singleton _ _, fun a h1 b h2 => ?_⟩
      rw [List.mem_singleton.1 h2]
      have := le_lastR ha h1
      grind
    · rw [List.mem_append, List.mem_singleton, hm]
      constructor
      · rintro ((e | ⟨h1, h2, h3⟩) | e)
        · exact Or.inl e
        · exact Or.inr ⟨h1, h2, Or.inl h3⟩
        · rw [e]; exact Or.inr ⟨by grind, h.2, Or.inr rfl⟩
      · rintro (e | ⟨h1, h2, h3 | h3⟩)
        · exact Or.inl (Or.inl e)
        · exact Or.inl (Or.inr ⟨h1, h2, h3⟩)
        · exact Or.inr h3
  · rw [if_neg h]
    refine ⟨ha, hne, fun u => ?_, by omega⟩
    rw [hm]
    constructor
    · rintro (e | ⟨h1, h2, h3⟩)
      · exact Or.inl e
      · exact Or.inr ⟨h1, h2, Or.inl h3⟩
    · rintro (e | ⟨h1, h2, h3 | h3⟩)
      · exact Or.inl e
      · exact Or.inr ⟨h1, h2, h3⟩
      · subst h3
        have hle : u ≤ lastR out := by
          apply Decidable.byContradiction
          intro hn
          exact h ⟨by grind, h2⟩
        rcases (hm (lastR out)).1 hlast with e | ⟨h4, h5, h6⟩
        · rw [e] at hle; grind
        · have : u = lastR out := by have := hv _ h6; grind
          rw [this]; exact Or.inr ⟨h4, h5, h6⟩
theorem cmp_ge0 {a b : Rat} : decide ((if a = b then (0 : Int) else if a < b then -1 else 1) ≥ 0) = decide (b ≤ a) := by
  rw [decide_eq_decide]
  by_cases h : a = b
  · rw [if_pos h, h]; exact ⟨fun _ => Rat.le_refl, fun _ => by decide⟩
  · rw [if_neg h]
    by_cases h2 : a < b
    · rw [if_pos h2]; exact ⟨fun h => absurd h (by decide), fun h3 => absurd h3 (by grind)⟩
    · rw [if_neg h2]; exact ⟨fun _ => by grind, fun _ => by decide⟩
theorem push_code {hi v : Rat} {out : List Rat} {I K : Int} (hne : out ≠ []) (hlen : out.length ≤ 1000) (hout : ∀ u, u ∈ out → Fit 2 u) (hv : Fit 2 v) (hhi : Fit 2 hi) :
    (chk (decide ((0 : Int) ≤ (wi64 ((List.length (out.map ratioQ) : Int) - 1))) && decide ((wi64 ((List.length (out.map ratioQ) : Int) - 1)) < (List.length (out.map ratioQ) : Int))) (
                (trace_ratio_cmp (ratioQ v) (lget (false, ([], [])) (out.map ratioQ) (wi64 ((List.length (out.map ratioQ) : Int) - 1)))).bind fun (t_9 : Int) =>
                (bif decide (t_9 > 0) then
                  (trace_ratio_cmp (ratioQ v) (ratioQ hi)).bind fun (t_10 : Int) =>
                  some (decide (t_10 ≤ 0))
                else some false).bind fun (c_2 : Bool) =>
                (bif c_2 then
                  (app (out.map ratioQ) [ratioQ v]).bind fun (t_11 : List Dtrace_ratio) =>
                  some t_11
                else
                  some (out.map ratioQ)).bind fun (between_1 : (List Dtrace_ratio)) =>
                some (.inl (between_1, I, K))) : Option (((List Dtrace_ratio) × Int × Int) ⊕ (List Dtrace_ratio))) = some (.inl ((pushR hi out v).map ratioQ, I, K)) := by
  have hpos := List.length_pos_iff.2 hne
  have w : wi64 ((out.length : Int) - 1) = ((out.length - 1 : Nat) : Int) := by rw [wi64_id (by omega) (by omega)]; omega
  have g : lget (false, ([], [])) (out.map ratioQ) ((out.length - 1 : Nat) : Int) = ratioQ (lastR out) := by
    unfold lget lastR
    rw [Int.toNat_natCast, List.getD_eq_getElem?_getD, List.getD_eq_getElem?_getD, List.getElem?_map, List.getElem?_eq_getElem (by omega)]
    rfl
  rw [List.length_map, w, chk_true (and_true' (dec_true (by omega)) (dec_true (by omega))), g, rcmp_ok hv (hout _ (lastR_mem hne)) (by decide), Option.bind_some, cmp_gt0]
  unfold pushR
  by_cases h1 : lastR out < v
  · rw [dec_true h1, cond_true, rcmp_ok hv hhi (by decide), Option.bind_some, Option.bind_some, cmp_le0]
    by_cases h2 : v ≤ hi
    · rw [dec_true h2, cond_true, app_ok (by rw [List.length_map, List.length_singleton]; omega), Option.bind_some, Option.bind_some, if_pos ⟨h1, h2⟩, List.map_append]
      rfl
    · rw [dec_false h2, cond_false, Option.bind_some, if_neg (fun e => h2 e.2)]
  · rw [dec_false h1, cond_false, Option.bind_some, cond_false, Option.bind_some, if_neg (fun e => h1 e.1)]
structure Mrg (x y : List Kn) (lo hi : Rat) (i k : Nat) (out : List Rat) : Prop where
  ni : i ≤ x.length
  nk : k ≤ y.length
  asc : Asc out
  ne : out ≠ []
  mem : ∀ u, u ∈ out ↔ u = lo ∨ (lo < u ∧ u ≤ hi ∧ ((∃ j, j < i ∧ u = (getK x j).2) ∨ ∃ j, j < k ∧ u = (getK y j).1))
  o1 : ∀ j, j < k → i < x.length → (getK y j).1 ≤ (getK x i).2
  o2 : ∀ j, j < i → k < y.length → (getK x j).2 ≤ (getK y k).1
  len : out.length ≤ 1 + i + k
theorem mrg_x {x y : List Kn} {lo hi : Rat} {i k : Nat} {out : List Rat} (hx : Inc x) (h : Mrg x y lo hi i k out) (hi' : i < x.length) (hk : k < y.length → (getK x i).2 ≤ (getK y k).1) :
    Mrg x y lo hi (i + 1) k (pushR hi out (getK x i).2) := by
  obtain ⟨p1, p2, p3, p4⟩ := push_ok (v := (getK x i).2) h.asc h.ne (P := fun u => (∃ j, j < i ∧ u = (getK x j).2) ∨ ∃ j, j < k ∧ u = (getK y j).1) h.mem (by
    rintro u (⟨j, hj, rfl⟩ | ⟨j, hj, rfl⟩)
    · exact Rat.le_of_lt (inc_get hx hj hi').2
    · exact h.o1 j hj hi')
  refine ⟨by omega, h.nk, p1, p2, fun u => ?_, fun j hj hi2 => ?_, fun j hj hk2 => ?_, by have := h.len; omega⟩
  · rw [p3]
    constructor
    · rintro (e | ⟨h1, h2, (⟨j, hj, e⟩ | ⟨j, hj, e⟩) | e⟩)
      · exact Or.inl e
      · exact Or.inr ⟨h1, h2, Or.inl ⟨j, by omega, e⟩⟩
      · exact Or.inr ⟨h1, h2, Or.inr ⟨j, hj, e⟩⟩
      · exact Or.inr ⟨h1, h2, Or.inl ⟨i, by omega, e⟩⟩
    · rintro (e | ⟨h1, h2, ⟨j, hj, e⟩ | ⟨j, hj, e⟩⟩)
      · exact Or.inl e
      · by_cases hji : j = i
        · subst hji; exact Or.inr ⟨h1, h2, Or.inr e⟩
        · exact Or.inr ⟨h1, h2, Or.inl (Or.inl ⟨j, by omega, e⟩)⟩
      · exact Or.inr ⟨h1, h2, Or.inl (Or.inr ⟨j, hj, e⟩)⟩
  · have h1 := h.o1 j hj hi'
    have h2 := (inc_get hx (i := i) (j := i + 1) (by omega) hi2).2
    grind
  · by_cases hji : j = i
    · subst hji; exact hk hk2
    · exact h.o2 j (by omega) hk2
theorem mrg_y {x y : List Kn} {lo hi : Rat} {i k : Nat} {out : List Rat} (hy : Inc y) (h : Mrg x y lo hi i k out) (hk' : k < y.length) (hk : i < x.length → (getK y k).1 ≤ (getK x i).2) :
    Mrg x y lo hi i (k + 1) (pushR hi out (getK y k).1) := by
  obtain ⟨p1, p2, p3, p4⟩ := push_ok (v := (getK y k).1) h.asc h.ne (P := fun u => (∃ j, j < i ∧ u = (getK x j).2) ∨ ∃ j, j < k ∧ u = (getK y j).1) h.mem (by
    rintro u (⟨j, hj, rfl⟩ | ⟨j, hj, rfl⟩)
    · exact h.o2 j hj hk'
    · exact Rat.le_of_lt (inc_get hy hj hk').1)
  refine ⟨h.ni, by omega, p1, p2, fun u => ?_, fun j hj hi2 => ?_, fun j hj hk2 => ?_, by have := h.len; omega⟩
  · rw [p3]
    constructor
    · rintro (e | ⟨h1, h2, (⟨j, hj, e⟩ | ⟨j, hj, e⟩) | e⟩)
      · exact Or.inl e
      · exact Or.inr ⟨h1, h2, Or.inl ⟨j, hj, e⟩⟩
      · exact Or.inr ⟨h1, h2, Or.inr ⟨j, by omega, e⟩⟩
      · exact Or.inr ⟨h1, h2, Or.inr ⟨k, by omega, e⟩⟩
    · rintro (e | ⟨h1, h2, ⟨j, hj, e⟩ | ⟨j, hj, e⟩⟩)
      · exact Or.inl e
      · exact Or.inr ⟨h1, h2, Or.inl (Or.inl ⟨j, hj, e⟩)⟩
      · by_cases hji : j = k
        · subst hji; exact Or.inr ⟨h1, h2, Or.inr e⟩
        · exact Or.inr ⟨h1, h2, Or.inl (Or.inr ⟨j, by omega, e⟩)⟩
  · by_cases hji : j = k
    · subst hji; exact hk hi2
    · exact h.o1 j (by omega) hi2
  · have h1 := h.o2 j hj hk'
    have h2 := (inc_get hy (i := k) (j := k + 1) (by omega) hk2).1
    grind
theorem mrg_fit {x y : List Kn} {lo hi : Rat} {i k : Nat} {out : List Rat} (h : Mrg x y lo hi i k out) (hx : KFits 2 x) (hy : KFits 2 y) (hlo : Fit 2 lo) : ∀ u, u ∈ out → Fit 2 u := fun u hu => by
  rcases (h.mem u).1 hu with rfl | ⟨_, _, ⟨j, hj, rfl⟩ | ⟨j, hj, rfl⟩⟩
  · exact hlo
  · exact (hx _ (getK_mem (by have := h.ni; omega))).o
  · exact (hy _ (getK_mem (by have := h.nk; omega))).i
theorem mrg_end {x y : List Kn} {lo hi : Rat} {out : List Rat} (h : Mrg x y lo hi x.length y.length out) : OutPos x y lo hi out := by
  refine ⟨h.asc, fun u => ?_⟩
  rw [h.mem]
  have ex : ∀ {l : List Kn} {f : Kn → Rat}, (∃ j, j < l.length ∧ u = f (getK l j)) ↔ ∃ k, k ∈ l ∧ u = f k := by
    intro l f
    constructor
    · rintro ⟨j, hj, e⟩; exact ⟨_, getK_mem hj, e⟩
    · rintro ⟨k, hk, e⟩
      obtain ⟨j, hj, e2⟩ := List.getElem_of_mem hk
      refine ⟨j, hj, ?_⟩
      rw [e]
      unfold getK
      rw [List.getD_eq_getElem?_getD, List.getElem?_eq_getElem hj, Option.getD_some, e2]
  rw [ex (f := fun k => k.2), ex (f := fun k => k.1)]
end Go.Lift
namespace Go.Lift
open Go
theorem merge_ok {x y : List Kn} {lo hi : Rat} (hx : KFits 2 x) (hy : KFits 2 y) (ix : Inc x) (iy : Inc y) (nx : x.length ≤ 12) (ny : y.length ≤ 12) (flo : Fit 2 lo) (fhi : Fit 2 hi) :
    ∃ B, OutPos x y lo hi B ∧ B.length ≤ 25 ∧ loopM (S := (List Dtrace_ratio) × Int × Int) (R := (List Dtrace_ratio)) (fun s =>
            let between : (List Dtrace_ratio) := s.1
            let i : Int := s.2.1
            let k : Int := s.2.2
            bif ((decide (i < (List.length (x.map kQ) : Int))) || (decide (k < (List.length (y.map kQ) : Int)))) then
              (bif decide (k ≥ (List.length (y.map kQ) : Int)) then some true else
                (bif decide (i < (List.length (x.map kQ) : Int)) then
                  chk (decide ((0 : Int) ≤ i) && decide (i < (List.length (x.map kQ) : Int))) (
                    chk (decide ((0 : Int) ≤ k) && decide (k < (List.length (y.map kQ) : Int))) (
                      (trace_ratio_cmp ((lget ((false, ([], [])), (false, ([], []))) (x.map kQ) i).2) ((lget ((false, ([], [])), (false, ([], []))) (y.map kQ) k).1)).bind fun (t_8 : Int) =>
                      some (decide (t_8 ≤ 0))))
                else some false).bind fun (c : Bool) =>
                some c).bind fun (c_1 : Bool) =>
              (bif c_1 then
                chk (decide ((0 : Int) ≤ i) && decide (i < (List.length (x.map kQ) : Int))) (
                  some (wi64 (i + 1), k, (lget ((false, ([], [])), (false, ([], []))) (x.map kQ) i).2))
              else
                chk (decide ((0 : Int) ≤ k) && decide (k < (List.length (y.map kQ) : Int))) (
                  some (i, wi64 (k + 1), (lget ((false, ([], [])), (false, ([], []))) (y.map kQ) k).1))).bind fun (j : Int × Int × Dtrace_ratio) =>
              let i_1 : Int := j.1
              let k_1 : Int := j.2.1
              let next : Dtrace_ratio := j.2.2
              chk (decide ((0 : Int) ≤ (wi64 ((List.length between : Int) - 1))) && decide ((wi64 ((List.length between : Int) - 1)) < (List.length between : Int))) (
                (trace_ratio_cmp next (lget (false, ([], [])) between (wi64 ((List.length between : Int) - 1)))).bind fun (t_9 : Int) =>
                (bif decide (t_9 > 0) then
                  (trace_ratio_cmp next (ratioQ hi)).bind fun (t_10 : Int) =>
                  some (decide (t_10 ≤ 0))
                else some false).bind fun (c_2 : Bool) =>
                (bif c_2 then
                  (app between [next]).bind fun (t_11 : List Dtrace_ratio) =>
                  some t_11
                else
                  some between).bind fun (between_1 : (List Dtrace_ratio)) =>
                some (.inl (between_1, i_1, k_1)))
            else
              some (.inr between)) ([ratioQ lo], 0, 0) = some (B.map ratioQ) := by
  have key := loopM_list (X := Unit) (S := (List Dtrace_ratio) × Int × Int) (R := (List Dtrace_ratio)) (f := fun s =>
            let between : (List Dtrace_ratio) := s.1
            let i : Int := s.2.1
            let k : Int := s.2.2
            bif ((decide (i < (List.length (x.map kQ) : Int))) || (decide (k < (List.length (y.map kQ) : Int)))) then
              (bif decide (k ≥ (List.length (y.map kQ) : Int)) then some true else
                (bif decide (i < (List.length (x.map kQ) : Int)) then
                  chk (decide ((0 : Int) ≤ i) && decide (i < (List.length (x.map kQ) : Int))) (
                    chk (decide ((0 : Int) ≤ k) && decide (k < (List.length (y.map kQ) : Int))) (
                      (trace_ratio_cmp ((lget ((false, ([], [])), (false, ([], []))) (x.map kQ) i).2) ((lget ((false, ([], [])), (false, ([], []))) (y.map kQ) k).1)).bind fun (t_8 : Int) =>
                      some (decide (t_8 ≤ 0))))
                else some false).bind fun (c : Bool) =>
                some c).bind fun (c_1 : Bool) =>
              (bif c_1 then
                chk (decide ((0 : Int) ≤ i) && decide (i < (List.length (x.map kQ) : Int))) (
                  some (wi64 (i + 1), k, (lget ((false, ([], [])), (false, ([], []))) (x.map kQ) i).2))
              else
                chk (decide ((0 : Int) ≤ k) && decide (k < (List.length (y.map kQ) : Int))) (
                  some (i, wi64 (k + 1), (lget ((false, ([], [])), (false, ([], []))) (y.map kQ) k).1))).bind fun (j : Int × Int × Dtrace_ratio) =>
              let i_1 : Int := j.1
              let k_1 : Int := j.2.1
              let next : Dtrace_ratio := j.2.2
              chk (decide ((0 : Int) ≤ (wi64 ((List.length between : Int) - 1))) && decide ((wi64 ((List.length between : Int) - 1)) < (List.length between : Int))) (
                (trace_ratio_cmp next (lget (false, ([], [])) between (wi64 ((List.length between : Int) - 1)))).bind fun (t_9 : Int) =>
                (bif decide (t_9 > 0) then
                  (trace_ratio_cmp next (ratioQ hi)).bind fun (t_10 : Int) =>
                  some (decide (t_10 ≤ 0))
                else some false).bind fun (c_2 : Bool) =>
                (bif c_2 then
                  (app between [next]).bind fun (t_11 : List Dtrace_ratio) =>
                  some t_11
                else
                  some between).bind fun (between_1 : (List Dtrace_ratio)) =>
                some (.inl (between_1, i_1, k_1)))
            else
              some (.inr between))
    (fun l s => ∃ (i k : Nat) (out : List Rat), s = (out.map ratioQ, (i : Int), (k : Int)) ∧ l.length = (x.length - i) + (y.length - k) ∧ Mrg x y lo hi i k out)
    (fun r => ∃ B, OutPos x y lo hi B ∧ B.length ≤ 25 ∧ r = B.map ratioQ) ?_ ?_ (l := List.replicate (x.length + y.length) ()) (s := ([ratioQ lo], 0, 0)) ⟨0, 0, [lo], rfl, by simp, ⟨Nat.zero_le _, Nat.zero_le _, List.pairwise_singleton _ _, by simp, fun u => ?_, fun j hj => by omega, fun j hj => by omega, by simp⟩⟩
  · obtain ⟨r, h1, B, h2, h3, rfl⟩ := key
    exact ⟨B, h2, h3, h1⟩
  · rintro _ l s ⟨i, k, out, rfl, hl, hm⟩
    left
    rw [List.length_cons] at hl
    have n1 := hm.ni
    have n2 := hm.nk
    have n3 := hm.len
    have fo := mrg_fit hm hx hy flo
    have hpush : ∀ (v : Rat) (I K : Int), Fit 2 v → _ := fun v I K hv => push_code (hi := hi) (v := v) (out := out) (I := I) (K := K) hm.ne (by omega) fo hv fhi
    have hor : (decide ((i : Int) < (x.length : Int)) || decide ((k : Int) < (y.length : Int))) = true := by
      rw [Bool.or_eq_true, decide_eq_true_eq, decide_eq_true_eq]
      omega
    simp only [List.length_map] at hpush ⊢
    rw [hor, cond_true]
    by_cases hk : k < y.length
    · rw [dec_false (show ¬ (k : Int) ≥ (y.length : Int) by omega), cond_false]
      by_cases hi' : i < x.length
      · rw [dec_true (show (i : Int) < (x.length : Int) by omega), cond_true, chk_true (and_true' (dec_true (by omega)) rfl), chk_true (and_true' (dec_true (by omega)) (dec_true (by omega))), lget_mapK hi', lget_mapK hk]
        have f1 := (hx _ (getK_mem hi')).o
        have f2 := (hy _ (getK_mem hk)).i
        simp only [kQ]
        rw [rcmp_ok f1 f2 (by decide), Option.bind_some, cmp_le0, Option.bind_some, Option.bind_some]
        by_cases hc : (getK x i).2 ≤ (getK y k).1
        · rw [dec_true hc, cond_true, chk_true (and_true' (dec_true (by omega)) rfl), Option.bind_some, wi64_id (x := (i : Int) + 1) (by omega) (by omega)]
          simp only
          rw [hpush _ _ _ f1]
          exact ⟨_, rfl, i + 1, k, _, rfl, by omega, mrg_x ix hm hi' fun _ => hc⟩
        · rw [dec_false hc, cond_false, dec_true (show (k : Int) < (y.length : Int) by omega), chk_true (and_true' (dec_true (by omega)) rfl), Option.bind_some, wi64_id (x := (k : Int) + 1) (by omega) (by omega)]
          simp only
          rw [hpush _ _ _ f2]
          exact ⟨_, rfl, i, k + 1, _, rfl, by omega, mrg_y iy hm hk fun _ => by grind⟩
      · have f2 := (hy _ (getK_mem hk)).i
        rw [dec_false (show ¬ (i : Int) < (x.length : Int) by omega), cond_false, Option.bind_some, Option.bind_some, cond_false, chk_true (and_true' (dec_true (by omega)) (dec_true (by omega))), lget_mapK hk, Option.bind_some, wi64_id (x := (k : Int) + 1) (by omega) (by omega)]
        simp only [kQ]
        rw [hpush _ _ _ f2]
        exact ⟨_, rfl, i, k + 1, _, rfl, by omega, mrg_y iy hm hk fun e => absurd e hi'⟩
    · have hi' : i < x.length := by omega
      have f1 := (hx _ (getK_mem hi')).o
      rw [dec_true (show (k : Int) ≥ (y.length : Int) by omega), cond_true, Option.bind_some, cond_true, chk_true (and_true' (dec_true (by omega)) (dec_true (by omega))), lget_mapK hi', Option.bind_some, wi64_id (x := (i : Int) + 1) (by omega) (by omega)]
      simp only [kQ]
      rw [hpush _ _ _ f1]
      exact ⟨_, rfl, i + 1, k, _, rfl, by omega, mrg_x ix hm hi' fun e => absurd e hk⟩
  · rintro s ⟨i, k, out, rfl, hl, hm⟩
    have n1 := hm.ni
    have n2 := hm.nk
    have n3 := hm.len
    rw [List.length_nil] at hl
    have e1 : i = x.length := by omega
    have e2 : k = y.length := by omega
    subst e1 e2
    refine ⟨out.map ratioQ, ?_, out, mrg_end hm, by omega, rfl⟩
    simp only [List.length_map]
    rw [dec_false (show ¬ (x.length : Int) < (x.length : Int) by omega), dec_false (show ¬ (y.length : Int) < (y.length : Int) by omega)]
    rfl
  · rw [List.mem_singleton]
    constructor
    · exact Or.inl
    · rintro (e | ⟨_, _, ⟨j, hj, _⟩ | ⟨j, hj, _⟩⟩)
      · exact e
      · omega
      · omega
def finK (K : List Kn) : Dapi_TraceMap × Int := if (simpleK K).length ≤ 12 ∧ (simpleK K).all kS = true then ((simpleK K).map kF, 0) else ([], 8)
theorem outpos_in {x y : List Kn} {lo hi : Rat} {B : List Rat} (h : OutPos x y lo hi B) (hlt : lo < hi) {u : Rat} (hu : u ∈ B) : lo ≤ u ∧ u ≤ hi := by
  rcases (h.mem u).1 hu with rfl | ⟨h1, h2, _⟩
  · exact ⟨Rat.le_refl, Rat.le_of_lt hlt⟩
  · exact ⟨Rat.le_of_lt h1, h2⟩
theorem outpos_fit {x y : List Kn} {lo hi : Rat} {B : List Rat} (h : OutPos x y lo hi B) (hx : KFits 2 x) (hy : KFits 2 y) (f : Fit 2 lo ∧ FitT 2 lo) {u : Rat} (hu : u ∈ B) : Fit 2 u ∧ FitT 2 u := by
  rcases (h.mem u).1 hu with rfl | ⟨_, _, ⟨k, hk, rfl⟩ | ⟨k, hk, rfl⟩⟩
  · exact f
  · exact ⟨(hx k hk).o, (hx k hk).to⟩
  · exact ⟨(hy k hk).i, (hy k hk).ti⟩
theorem getK_map {l : List Kn} {i : Nat} (h : i < l.length) : getK (l.map swK) i = swK (getK l i) := by
  unfold getK
  rw [List.getD_eq_getElem?_getD, List.getD_eq_getElem?_getD, List.getElem?_map, List.getElem?_eq_getElem h]
  rfl
theorem tComposed_ok {a b : List Dapi_Span} (ha : In64s a) (hb : In64s b) (ma : MapOk a) (mb : MapOk b) (ea : (mapE a).2 = 0) (eb : (mapE b).2 = 0) :
    let x := a.map kn
    let y := b.map kn
    let lo := laterQ (getK x 0).2 (getK y 0).1
    let hi := earlierQ (getK x (x.length - 1)).2 (getK y (y.length - 1)).1
    (hi ≤ lo → trace_Composed a b = some ([], 12)) ∧ (lo < hi → ∃ B, OutPos x y lo hi B ∧ B.length ≤ 25 ∧ trace_Composed a b = some (finK (B.map fun p => (valK (x.map swK) p, valK y p)))) := by
  have cx := ma.chart
  have cy := mb.chart
  have fx := ma.fits
  have fy := mb.fits
  have lx := ma.len'
  have ly := mb.len'
  have ox := openMap_ok ha
  have oy := openMap_ok hb
  rw [if_pos ea, outM_all] at ox
  rw [if_pos eb, outM_all] at oy
  generalize a.map kn = x at *
  generalize b.map kn = y at *
  have nx := cx.1
  have ny := cy.1
  intro x' y' lo hi
  have m0 := getK_mem (l := x) (i := 0) (by omega)
  have m1 := getK_mem (l := x) (i := x.length - 1) (by omega)
  have m2 := getK_mem (l := y) (i := 0) (by omega)
  have m3 := getK_mem (l := y) (i := y.length - 1) (by omega)
  have flo : Fit 2 lo ∧ FitT 2 lo := by
    show Fit 2 (laterQ _ _) ∧ FitT 2 (laterQ _ _)
    unfold laterQ
    split
    · exact ⟨(fy _ m2).i, (fy _ m2).ti⟩
    · exact ⟨(fx _ m0).o, (fx _ m0).to⟩
  have fhi : Fit 2 hi := by
    show Fit 2 (earlierQ _ _)
    unfold earlierQ
    split
    · exact (fy _ m3).i
    · exact (fx _ m1).o
  have w : wi64 ((x.length : Int) - 1) = ((x.length - 1 : Nat) : Int) := by rw [wi64_id (by omega) (by omega)]; omega
  have hlo : (bif decide ((if (getK x 0).2 = (getK y 0).1 then (0 : Int) else if (getK x 0).2 < (getK y 0).1 then -1 else 1) < 0) then
          (trace_chart_begin (y.map kQ)).bind fun (t_3 : Dtrace_ratio) =>
          some t_3
        else
          some (ratioQ (getK x 0).2)) = some (ratioQ lo) := by
    rw [cmp_lt0, begin_ok' ny]
    show _ = some (ratioQ (laterQ _ _))
    unfold laterQ
    by_cases h : (getK x 0).2 < (getK y 0).1
    · rw [dec_true h, if_pos h]; rfl
    · rw [dec_false h, if_neg h]; rfl
  have hhi : (bif decide ((if (getK x (x.length - 1)).2 = (getK y (y.length - 1)).1 then (0 : Int) else if (getK x (x.length - 1)).2 < (getK y (y.length - 1)).1 then -1 else 1) > 0) then
          (trace_chart_end (y.map kQ)).bind fun (t_3 : Dtrace_ratio) =>
          some t_3
        else
          some (ratioQ (getK x (x.length - 1)).2)) = some (ratioQ hi) := by
    rw [cmp_gt0, end_ok' ny (by omega)]
    show _ = some (ratioQ (earlierQ _ _))
    unfold earlierQ
    by_cases h : (getK y (y.length - 1)).1 < (getK x (x.length - 1)).2
    · rw [dec_true h, if_pos h]; rfl
    · rw [dec_false h, if_neg h]; rfl
  have hlolo : (getK x 0).2 ≤ lo ∧ (getK y 0).1 ≤ lo := by
    show _ ≤ laterQ _ _ ∧ _ ≤ laterQ _ _
    unfold laterQ
    constructor <;> split <;> grind
  have hhihi : hi ≤ (getK x (x.length - 1)).2 ∧ hi ≤ (getK y (y.length - 1)).1 := by
    show earlierQ _ _ ≤ _ ∧ earlierQ _ _ ≤ _
    unfold earlierQ
    constructor <;> split <;> grind
  clear_value lo hi
  unfold trace_Composed
  rw [ox, oy, Option.bind_some, Option.bind_some, first_ok (by simp), Option.bind_some]
  simp only
  rw [show firstE [(0 : Int), 0] = 0 from rfl, show ((0 : Int) != 0) = false from rfl, cond_false, List.length_map, chk_true (and_true' (dec_true (by decide)) (dec_true (by omega))), w, chk_true (and_true' (dec_true (by omega)) (dec_true (by omega))), begin_ok' ny, Option.bind_some, lget_map0 (by omega), lget_mapK (show x.length - 1 < x.length by omega)]
  rw [← begin_ok' ny]
  simp only [kQ]
  rw [rcmp_ok (fx _ m0).o (fy _ m2).i (by decide), Option.bind_some, hlo, Option.bind_some, end_ok' ny (by omega), Option.bind_some]
  rw [← end_ok' ny (by omega)]
  rw [rcmp_ok (fx _ m1).o (fy _ m3).i (by decide), Option.bind_some, hhi, Option.bind_some, rcmp_ok flo.1 fhi (by decide), Option.bind_some, cmp_ge0]
  constructor
  · intro h
    rw [dec_true h]
    rfl
  · intro h
    rw [dec_false (show ¬ hi ≤ lo by grind), cond_false]
    obtain ⟨B, hB, hlen, hloop⟩ := merge_ok (lo := lo) (hi := hi) fx fy cx.2 cy.2 lx ly flo.1 fhi
    refine ⟨B, hB, hlen, ?_⟩
    refine Option.bind_eq_some_iff.2 ⟨_, by simpa only [List.length_map] using hloop, ?_⟩
    rw [inverse_ok (by omega), Option.bind_some]
    have sx := chart_sw cx
    have fsx := fx.sw
    have hin : ∀ u, u ∈ B → trace_chart_value ((x.map swK).map kQ) (ratioQ u) = some (ratioQ (valK (x.map swK) u)) ∧ trace_chart_value (y.map kQ) (ratioQ u) = some (ratioQ (valK y u)) := fun u hu => by
      obtain ⟨u1, u2⟩ := outpos_in hB h hu
      obtain ⟨g1, _⟩ := outpos_fit hB fx fy flo hu
      constructor
      · refine tvalue_ok sx fsx g1 (by rw [List.length_map]; omega) (by decide) (by decide) ?_ ?_
        · rw [getK_map (by omega)]
          show (getK x 0).2 ≤ u
          grind
        · rw [List.length_map, getK_map (by omega)]
          show u ≤ (getK x (x.length - 1)).2
          grind
      · exact tvalue_ok cy fy g1 (by omega) (by decide) (by decide) (by grind) (by grind)
    have hKfit : ∀ k, k ∈ B.map (fun p => ((valK (x.map swK) p, valK y p) : Kn)) → KFit 18 k := fun k hk => by
      obtain ⟨u, hu, rfl⟩ := List.mem_map.1 hk
      obtain ⟨g1, g2⟩ := outpos_fit hB fx fy flo hu
      exact ⟨(val_fit sx fsx g1 (by decide) (by decide)).mono (by decide), (val_fit cy fy g1 (by decide) (by decide)).mono (by decide), (val_fitT sx fsx g2 (by decide) (by decide)).mono (by decide), (val_fitT cy fy g2 (by decide) (by decide)).mono (by decide)⟩
    refine Option.bind_eq_some_iff.2 ⟨(B.map fun p => ((valK (x.map swK) p, valK y p) : Kn)).map kQ, ?_, ?_⟩
    · refine loopM_list_eq (X := Rat) (l := B) (fun l' s => ∃ pre, B = pre ++ l' ∧ s = ((pre.map fun p => ((valK (x.map swK) p, valK y p) : Kn)).map kQ, (pre.length : Int))) ?_ ?_ ⟨[], rfl, rfl⟩
      · rintro u l' s ⟨pre, e1, rfl⟩
        left
        have hL : B.length = pre.length + (l'.length + 1) := by rw [e1, List.length_append, List.length_cons]
        have g1 : ∀ d, lget d (B.map ratioQ) (pre.length : Int) = ratioQ u := fun d => by rw [e1]; exact lget_map
        obtain ⟨v1, v2⟩ := hin u (by rw [e1]; simp)
        simp only
        rw [List.length_map, dec_true (show (pre.length : Int) < (B.length : Int) by omega), cond_true, chk_true (and_true' (dec_true (by omega)) rfl), g1, v1, Option.bind_some, v2, Option.bind_some, app_ok (by rw [List.length_map, List.length_map, List.length_singleton]; omega), Option.bind_some, wi64_id (by omega) (by omega)]
        exact ⟨_, rfl, pre ++ [u], by rw [e1]; simp, by rw [List.length_append, List.length_singleton, List.map_append, List.map_append]; rfl⟩
      · rintro s ⟨pre, e1, rfl⟩
        have hL : B.length = pre.length := by rw [e1, List.append_nil]
        simp only
        rw [List.length_map, dec_false (show ¬ (pre.length : Int) < (B.length : Int) by omega), cond_false, e1, List.append_nil]
    · generalize hK : B.map (fun p => ((valK (x.map swK) p, valK y p) : Kn)) = K at *
      have hKl : K.length ≤ 25 := by rw [← hK, List.length_map]; exact hlen
      have hsl : (simpleK K).length ≤ K.length := preK_len K K.length
      have hsf : ∀ k, k ∈ simpleK K → KFit 18 k := fun k hk => by
        obtain ⟨i, hi, _, rfl⟩ := mem_simple.1 hk
        exact hKfit _ (getK_mem hi)
      rw [simpleQ_ok hKfit (by decide) (by omega), Option.bind_some, List.length_map]
      unfold finK
      by_cases h12 : (simpleK K).length ≤ 12
      · rw [dec_false (show ¬ ((simpleK K).length : Int) > 12 by omega), cond_false, written_ok hsf (by decide) (by omega), Option.bind_some]
        by_cases hall : (simpleK K).all kS = true
        · rw [if_pos hall, if_pos ⟨h12, hall⟩]
        · rw [if_neg hall, if_neg (fun e => hall e.2)]
      · rw [dec_true (show ((simpleK K).length : Int) > 12 by omega), cond_true, if_neg (fun e => h12 e.1)]
end Go.Lift
namespace Go.Lift
open Go
end Go.Lift
namespace Go.Lift
open Go
end Go.Lift
