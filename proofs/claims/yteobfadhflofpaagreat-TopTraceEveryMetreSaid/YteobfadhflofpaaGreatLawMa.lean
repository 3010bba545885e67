/-
  The law of maps holds of the plain functions.
-/
import Derived.Test.YteobfadhflofpaaGreatPlainL
import Derived.Test.YteobfadhflofpaaGreatPlainM
import Derived.Test.YteobfadhflofpaaGreatPlainD
set_option linter.unusedSectionVars false
set_option linter.unusedVariables false
set_option linter.unusedSimpArgs false
namespace Go.Lift
open Go
theorem opened2_ok {c : Dapi_TraceCourse} {strips : List (List Dtrace_section)} {i : Nat} {e n m : Int} (h : trace_open c = some ((c, strips), (i : Int), e)) :
    trace_opened c [n, m] = some ((c, strips), firstE [firstE [e, if 0 ≤ n ∧ n ≤ (c.2.2.2.length : Int) then 0 else 2], if 0 ≤ m ∧ m ≤ (c.2.2.2.length : Int) then 0 else 2]) := by
  unfold trace_opened
  rw [h, Option.bind_some]
  simp only
  refine Option.bind_eq_some_iff.2 ⟨_, ?_, rfl⟩
  rw [loopM_next (s' := (firstE [e, if 0 ≤ n ∧ n ≤ (c.2.2.2.length : Int) then 0 else 2], 1)), loopM_next (s' := (firstE [firstE [e, if 0 ≤ n ∧ n ≤ (c.2.2.2.length : Int) then 0 else 2], if 0 ≤ m ∧ m ≤ (c.2.2.2.length : Int) then 0 else 2], 2))]
  · exact loopM_done rfl
  · simp only
    rw [show decide ((1 : Int) < (([n, m] : List Int).length : Int)) = true from rfl, cond_true, chk_true (and_true' (dec_true (by decide)) rfl), show lget 0 [n, m] (1 : Int) = m from rfl, tstepsErr_ok, Option.bind_some, first_ok (by simp), Option.bind_some]
    rfl
  · simp only
    rw [show decide ((0 : Int) < (([n, m] : List Int).length : Int)) = true from rfl, cond_true, chk_true (and_true' (dec_true (by decide)) rfl), show lget 0 [n, m] (0 : Int) = n from rfl, tstepsErr_ok, Option.bind_some, first_ok (by simp), Option.bind_some]
    rfl
def posS (l : List Sec) (P : Rat) : Rat := (atS l P).getD 0
theorem posS_on {l : List Sec} {p q P Q : Rat} (hc : Secs p q l) (h : On l P Q) : atS l P = some Q ∧ posS l P = Q := by
  have := (at_on hc).2 h
  exact ⟨this, by unfold posS; rw [this]; rfl⟩
def knots (F T : List Sec) (p : Rat) : List Kn := (p :: bs T).map fun P => (posS F P, posS T P)
structure Two (c : Dapi_TraceCourse) (k1 k2 : Nat) (p lo hi : Rat) : Prop where
  hp : Secs p 0 (stS c k2)
  inner : (bs (stS c k2)).dropLast = (bs (stS c k1)).filter (inB p (lastB p (stS c k2)))
  onlo : On (stS c k1) p lo
  onhi : On (stS c k1) (lastB p (stS c k2)) hi
  flo : FitT 300 lo
  fhi : FitT 300 hi
  mlo : r9_Move c (ratioW 0) (k2 : Int) (k1 : Int) = some (ratioW lo, true)
  mhi : r9_Move c (ratioW (lastV 0 (stS c k2))) (k2 : Int) (k1 : Int) = some (ratioW hi, true)
theorem two_ok {c : Dapi_TraceCourse} (hv : Valid c) {k1 d : Nat} (h : k1 + d ≤ c.2.2.2.length) : ∃ p lo hi, Two c k1 (k1 + d) p lo hi := by
  obtain ⟨p, hp, hne, hin⟩ := inner_ok hv d h
  have hs2 := hv.strip (k1 + d) h
  have o1 := on_begin hp hne
  have o2 := on_end hp hne
  obtain ⟨Q1, b1⟩ := on_before hv h o1
  obtain ⟨Q2, b2⟩ := on_before hv h o2
  obtain ⟨r1, m1, m2⟩ := Move_ok hv (n := k1 + d) (to := k1) (N := 3) h (by omega) (by decide) o1 (fitT_zero.mono (by decide))
  obtain ⟨r2, m3, m4⟩ := Move_ok hv (n := k1 + d) (to := k1) (N := 3) h (by omega) (by decide) o2 ((fit_small hs2.last).2.mono (by decide))
  rcases m1 with ⟨lo, rfl, l1, l2⟩ | ⟨_, l1⟩
  · rcases m3 with ⟨hi, rfl, h1, h2⟩ | ⟨_, h1⟩
    · exact ⟨p, lo, hi, hp, hin, l1, h1, l2.mono (by decide), h2.mono (by decide), m2, m4⟩
    · exact absurd b2 (h1 Q2)
  · exact absurd b1 (l1 Q1)
theorem slab_fit2 {S : Nat} {l : List Sec} (hs : StripOk S l) {p : Rat} (hp : Secs p 0 l) : ∀ P, P ∈ p :: bs l → Fit S P := by
  intro P hP
  rcases List.mem_cons.1 hP with rfl | hP
  · cases hl : l with
    | nil => exact absurd hl hs.ne
    | cons x l' =>
      subst hl
      rw [← hp.1]
      exact (hs.fit x (by simp)).a
  · obtain ⟨x, hx, rfl⟩ := List.mem_map.1 hP
    exact (hs.fit x hx).b
theorem on_points {l : List Sec} {p : Rat} (hp : Secs p 0 l) (hne : l ≠ []) : ∀ P, P ∈ p :: bs l → ∃ Q, On l P Q := by
  intro P hP
  rcases List.mem_cons.1 hP with rfl | hP
  · exact ⟨0, on_begin hp hne⟩
  · obtain ⟨x, hx, rfl⟩ := List.mem_map.1 hP
    exact ⟨x.v, x, hx, onSec_end (chain_ok hp x hx)⟩
theorem bs_mem_last {l : List Sec} {p : Rat} {b : Rat} (hne : l ≠ []) (h : b ∈ bs l) : b ∈ (bs l).dropLast ∨ b = lastB p l := by
  rw [bs_last (p := p) hne] at h
  rcases List.mem_append.1 h with h | h
  · exact Or.inl h
  · exact Or.inr (List.mem_singleton.1 h)
theorem knot_fit {c : Dapi_TraceCourse} (hv : Valid c) {k1 d : Nat} (h : k1 + d ≤ c.2.2.2.length) {p lo hi : Rat} (ht : Two c k1 (k1 + d) p lo hi) : ∀ k, k ∈ knots (stS c k1) (stS c (k1 + d)) p → KFit 300 k := by
  have h10 := hv.steps
  have hs1 := hv.strip k1 (by omega)
  have hs2 := hv.strip (k1 + d) h
  obtain ⟨p1, hp1⟩ := hs1.secs
  have g1 := hs1.len
  have g2 := hs2.len
  intro k hk
  obtain ⟨P, hP, rfl⟩ := List.mem_map.1 hk
  have hf := slab_fit2 hs2 ht.hp P hP
  obtain ⟨Q2, o2⟩ := on_points ht.hp hs2.ne P hP
  obtain ⟨Q1, o1⟩ := on_before hv h o2
  obtain ⟨a1, a2⟩ := posS_on hp1 o1
  obtain ⟨b1, b2⟩ := posS_on ht.hp o2
  have f1 := (tat_ok (fun x hx => ⟨(hs1.each x hx).1, (hs1.each x hx).2.1, (hs1.each x hx).2.2.1, (hs1.each x hx).2.2.2.1⟩) hf (show 1 + 5 * k1 ≤ 1 + 5 * (k1 + d) by omega) (by omega) (by omega)).2 _ a1
  have f2 := (tat_ok (fun x hx => ⟨(hs2.each x hx).1, (hs2.each x hx).2.1, (hs2.each x hx).2.2.1, (hs2.each x hx).2.2.2.1⟩) hf (Nat.le_refl _) (by omega) (by omega)).2 _ b1
  have t1 : FitT 300 Q1 ∧ FitT 300 Q2 := by
    rcases List.mem_cons.1 hP with rfl | hB
    · rw [on_fun hp1 o1 ht.onlo, on_fun ht.hp o2 (on_begin ht.hp hs2.ne)]
      exact ⟨ht.flo, fitT_zero.mono (by decide)⟩
    · have t2 : FitT 300 Q2 := by
        obtain ⟨y, hy, hyb⟩ := List.mem_map.1 hB
        have hon : On (stS c (k1 + d)) P y.v := by rw [← hyb]; exact ⟨y, hy, onSec_end (chain_ok ht.hp y hy)⟩
        rw [on_fun ht.hp o2 hon]
        exact (hs2.each y hy).2.2.2.2.2.v.mono (by decide)
      rcases bs_mem_last (p := p) hs2.ne hB with hd | he
      · rw [ht.inner] at hd
        obtain ⟨x, hx, hxb⟩ := List.mem_map.1 (List.mem_filter.1 hd).1
        have hon : On (stS c k1) P x.v := by rw [← hxb]; exact ⟨x, hx, onSec_end (chain_ok hp1 x hx)⟩
        rw [on_fun hp1 o1 hon]
        exact ⟨(hs1.each x hx).2.2.2.2.2.v.mono (by decide), t2⟩
      · subst he
        rw [on_fun hp1 o1 ht.onhi]
        exact ⟨ht.fhi, t2⟩
  rw [a2, b2]
  exact ⟨f1.mono (by omega), f2.mono (by omega), t1.1, t1.2⟩
theorem begin_ok {l : List Sec} {p q : Rat} (hp : Secs p q l) (hne : l ≠ []) : trace_strip_begin (l.map secQ) = some (ratioQ p) := by
  cases l with
  | nil => exact absurd rfl hne
  | cons x l =>
    unfold trace_strip_begin
    rw [chk_true (and_true' (dec_true (Int.le_refl 0)) (dec_true (by rw [List.length_map, List.length_cons]; omega))), chk01]
    show some (ratioQ x.a) = _
    rw [hp.1]
theorem tMapOf_ok {c : Dapi_TraceCourse} (hv : Valid c) (hop : trace_open c = some ((c, stripsQ c (c.2.2.2.length + 1)), ((0 : Nat) : Int), 0)) {k1 d : Nat} (h : k1 + d ≤ c.2.2.2.length) {p lo hi : Rat} (ht : Two c k1 (k1 + d) p lo hi) :
    trace_MapOf c (k1 : Int) ((k1 + d : Nat) : Int) = some (if (simpleK (knots (stS c k1) (stS c (k1 + d)) p)).all kS then ((simpleK (knots (stS c k1) (stS c (k1 + d)) p)).map kF, 0) else ([], 8)) := by
  have h10 := hv.steps
  have hs1 := hv.strip k1 (by omega)
  have hs2 := hv.strip (k1 + d) h
  obtain ⟨p1, hp1⟩ := hs1.secs
  have g1 := hs1.len
  have g2 := hs2.len
  have hK := knot_fit hv h ht
  have hKl : (knots (stS c k1) (stS c (k1 + d)) p).length = (stS c (k1 + d)).length + 1 := by unfold knots bs; rw [List.length_map, List.length_cons, List.length_map]
  have hsl := preK_len (knots (stS c k1) (stS c (k1 + d)) p) (knots (stS c k1) (stS c (k1 + d)) p).length
  unfold trace_MapOf
  rw [opened2_ok hop, Option.bind_some, unless_ok, Option.bind_some, dec_true (show (k1 : Int) ≤ ((k1 + d : Nat) : Int) by omega), if_pos rfl, if_pos (by omega), if_pos (by omega), show firstE [firstE [(0 : Int), 0], 0] = 0 from rfl, first_ok (by simp), Option.bind_some, show firstE [(0 : Int), 0] = 0 from rfl, show ((0 : Int) != 0) = false from rfl, cond_false]
  simp only
  rw [chk_true (and_true' (dec_true (by omega)) (dec_true (by rw [stripsQ_len]; omega))), chk_true (and_true' (dec_true (by omega)) (dec_true (by rw [stripsQ_len]; omega))), stripsQ_get (by omega), stripsQ_get (by omega), begin_ok ht.hp hs2.ne, Option.bind_some]
  refine Option.bind_eq_some_iff.2 ⟨(p :: bs (stS c (k1 + d))).map ratioQ, ?_, ?_⟩
  · refine loopM_list_eq (X := Sec) (l := stS c (k1 + d)) (fun l' s => ∃ pre, stS c (k1 + d) = pre ++ l' ∧ s = (ratioQ p :: pre.map (fun x => ratioQ x.b), (pre.length : Int))) ?_ ?_ ⟨[], rfl, rfl⟩
    · rintro x l' s ⟨pre, e1, rfl⟩
      left
      have hL : (stS c (k1 + d)).length = pre.length + (l'.length + 1) := by rw [e1, List.length_append, List.length_cons]
      have gx : ∀ d', lget d' ((stS c (k1 + d)).map secQ) (pre.length : Int) = secQ x := fun d' => by rw [e1]; exact lget_map
      simp only
      rw [List.length_map, dec_true (show (pre.length : Int) < ((stS c (k1 + d)).length : Int) by omega), cond_true, chk_true (and_true' (dec_true (by omega)) rfl), gx, chk11, show aget (secQ x).1 1 = ratioQ x.b from rfl, app_ok (by rw [List.length_cons, List.length_map, List.length_singleton]; omega), Option.bind_some, wi64_id (by omega) (by omega)]
      exact ⟨_, rfl, pre ++ [x], by rw [e1]; simp, by rw [List.length_append, List.length_singleton, List.map_append]; rfl⟩
    · rintro s ⟨pre, e1, rfl⟩
      have hL : (stS c (k1 + d)).length = pre.length := by rw [e1, List.append_nil]
      simp only
      rw [List.length_map, dec_false (show ¬ (pre.length : Int) < ((stS c (k1 + d)).length : Int) by omega), cond_false]
      congr 2
      rw [List.append_nil] at e1
      unfold bs
      rw [e1, List.map_cons, List.map_map]
      rfl
  · refine Option.bind_eq_some_iff.2 ⟨(knots (stS c k1) (stS c (k1 + d)) p).map kQ, ?_, ?_⟩
    · refine loopM_list_eq (X := Rat) (l := p :: bs (stS c (k1 + d))) (fun l' s => ∃ pre, p :: bs (stS c (k1 + d)) = pre ++ l' ∧ s = ((pre.map fun P => (posS (stS c k1) P, posS (stS c (k1 + d)) P)).map kQ, (pre.length : Int))) ?_ ?_ ⟨[], rfl, rfl⟩
      · rintro P l' s ⟨pre, e1, rfl⟩
        left
        have hL0 : (p :: bs (stS c (k1 + d))).length = pre.length + (l'.length + 1) := by rw [e1, List.length_append, List.length_cons]
        have hL1 : (p :: bs (stS c (k1 + d))).length = (stS c (k1 + d)).length + 1 := by unfold bs; rw [List.length_cons, List.length_map]
        have hP : P ∈ p :: bs (stS c (k1 + d)) := by rw [e1]; simp
        have gx : ∀ d', lget d' ((p :: bs (stS c (k1 + d))).map ratioQ) (pre.length : Int) = ratioQ P := fun d' => by rw [e1]; exact lget_map
        have hf := slab_fit2 hs2 ht.hp P hP
        obtain ⟨Q2, o2⟩ := on_points ht.hp hs2.ne P hP
        obtain ⟨Q1, o1⟩ := on_before hv h o2
        obtain ⟨a1, a2⟩ := posS_on hp1 o1
        obtain ⟨b1, b2⟩ := posS_on ht.hp o2
        have f1 := (tat_ok (fun x hx => ⟨(hs1.each x hx).1, (hs1.each x hx).2.1, (hs1.each x hx).2.2.1, (hs1.each x hx).2.2.2.1⟩) hf (show 1 + 5 * k1 ≤ 1 + 5 * (k1 + d) by omega) (by omega) (by omega)).1
        have f2 := (tat_ok (fun x hx => ⟨(hs2.each x hx).1, (hs2.each x hx).2.1, (hs2.each x hx).2.2.1, (hs2.each x hx).2.2.2.1⟩) hf (Nat.le_refl _) (by omega) (by omega)).1
        rw [a1] at f1
        rw [b1] at f2
        simp only
        rw [List.length_map, dec_true (show (pre.length : Int) < ((p :: bs (stS c (k1 + d))).length : Int) by omega), cond_true, chk_true (and_true' (dec_true (by omega)) rfl), gx, f1, Option.bind_some, f2, Option.bind_some, app_ok (by rw [List.length_map, List.length_map, List.length_singleton]; omega), Option.bind_some, wi64_id (by omega) (by omega)]
        refine ⟨_, rfl, pre ++ [P], by rw [e1]; simp, ?_⟩
        rw [List.length_append, List.length_singleton, List.map_append, List.map_append, List.map_singleton, List.map_singleton, a2, b2]
        rfl
      · rintro s ⟨pre, e1, rfl⟩
        have hL : (p :: bs (stS c (k1 + d))).length = pre.length := by rw [e1, List.append_nil]
        simp only
        rw [List.length_map, dec_false (show ¬ (pre.length : Int) < ((p :: bs (stS c (k1 + d))).length : Int) by omega), cond_false]
        unfold knots
        rw [e1, List.append_nil]
    · rw [simpleQ_ok hK (by decide) (by omega), Option.bind_some, written_ok (N := 300) (fun k hk => ?_) (by decide) (by unfold simpleK; omega), Option.bind_some]
      obtain ⟨i, hi, rfl⟩ := List.mem_map.1 hk
      exact hK _ (getK_mem (List.mem_range.1 (List.mem_filter.1 hi).1))
end Go.Lift
