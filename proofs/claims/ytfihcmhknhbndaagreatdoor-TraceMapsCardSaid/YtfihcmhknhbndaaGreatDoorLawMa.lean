/-
  The law of maps holds of the plain functions.
-/
import Derived.Test.YtfihcmhknhbndaaGreatDoorPlainL
import Derived.Test.YtfihcmhknhbndaaGreatDoorPlainD
set_option linter.unusedSectionVars false
set_option linter.unusedVariables false
set_option linter.unusedSimpArgs false
namespace Go.Lift
open Go

theorem opened2_ok {c : Dapi_TraceCourse} {strips : List (List Dtrace_section)} {i : Nat} {e n m : Int} (h : trace_open c = some ((c, strips), (i : Int), e)) :
    trace_opened c [n, m] = some ((c, strips), firstE [firstE [e, if 0 ≤ n ∧ n ≤ (c.2.2.2.length : Int) then 0 else 2], if 0 ≤ m ∧ m ≤ (c.2.2.2.length : Int) then 0 else 2]) := by
  unfold trace_opened
  rw [h, Option.bind_some]
  simp only
  refine Option.bind_eq_some_iff.2 ⟨_, ?_, rfl⟩
  rw [loopM_next (s' := (firstE [e, if 0 ≤ n ∧ n ≤ (c.2.2.2.length : Int) then 0 else 2], 1)), loopM_next (s' := (firstE [firstE [e, if 0 ≤ n ∧ n ≤ (c.2.2.2.length : Int) then 0 else 2], if 0 ≤ m ∧ m ≤ (c.2.2.2.length : Int) then 0 else 2], 2))]
  · exact loopM_done rfl
  · simp only
    rw [show decide ((1 : Int) < (([n, m] : List Int).length : Int)) = true from rfl, cond_true, chk_true (and_true' (dec_true (by decide)) rfl), show lget 0 [n, m] (1 : Int) = m from rfl, tstepsErr_ok, Option.bind_some, first_ok (by simp), Option.bind_some]
    rfl
  · simp only
    rw [show decide ((0 : Int) < (([n, m] : List Int).length : Int)) = true from rfl, cond_true, chk_true (and_true' (dec_true (by decide)) rfl), show lget 0 [n, m] (0 : Int) = n from rfl, tstepsErr_ok, Option.bind_some, first_ok (by simp), Option.bind_some]
    rfl

def posS (l : List Sec) (P : Rat) : Rat := (atS l P).getD 0
theorem posS_on {l : List Sec} {p q P Q : Rat} (hc : Secs p q l) (h : On l P Q) : atS l P = some Q ∧ posS l P = Q := by
  have := (at_on hc).2 h
  exact ⟨this, by unfold posS; rw [this]; rfl⟩

/-- The knots of the map from one strip to a later one. -/
def knots (F T : List Sec) (p : Rat) : List Kn := (p :: bs T).map fun P => (posS F P, posS T P)

structure Two (c : Dapi_TraceCourse) (k1 k2 : Nat) (p lo hi : Rat) : Prop where
  hp : Secs p 0 (stS c k2)
  inner : (bs (stS c k2)).dropLast = (bs (stS c k1)).filter (inB p (lastB p (stS c k2)))
  onlo : On (stS c k1) p lo
  onhi : On (stS c k1) (lastB p (stS c k2)) hi
  flo : FitT 300 lo
  fhi : FitT 300 hi
  mlo : cobbleref09_Move c (ratioW 0) (k2 : Int) (k1 : Int) = some (ratioW lo, true)
  mhi : cobbleref09_Move c (ratioW (lastV 0 (stS c k2))) (k2 : Int) (k1 : Int) = some (ratioW hi, true)

theorem two_ok {c : Dapi_TraceCourse} (hv : Valid c) {k1 d : Nat} (h : k1 + d ≤ c.2.2.2.length) : ∃ p lo hi, Two c k1 (k1 + d) p lo hi := by
  obtain ⟨p, hp, hne, hin⟩ := inner_ok hv d h
  have hs2 := hv.strip (k1 + d) h
  have o1 := on_begin hp hne
  have o2 := on_end hp hne
  obtain ⟨Q1, b1⟩ := on_before hv h o1
  obtain ⟨Q2, b2⟩ := on_before hv h o2
  obtain ⟨r1, m1, m2⟩ := Move_ok hv (n := k1 + d) (to := k1) (N := 3) h (by omega) (by decide) o1 (fitT_zero.mono (by decide))
  obtain ⟨r2, m3, m4⟩ := Move_ok hv (n := k1 + d) (to := k1) (N := 3) h (by omega) (by decide) o2 ((fit_small hs2.last).2.mono (by decide))
  rcases m1 with ⟨lo, rfl, l1, l2⟩ | ⟨_, l1⟩
  · rcases m3 with ⟨hi, rfl, h1, h2⟩ | ⟨_, h1⟩
    · exact ⟨p, lo, hi, hp, hin, l1, h1, l2.mono (by decide), h2.mono (by decide), m2, m4⟩
    · exact absurd b2 (h1 Q2)
  · exact absurd b1 (l1 Q1)

theorem slab_fit2 {S : Nat} {l : List Sec} (hs : StripOk S l) {p : Rat} (hp : Secs p 0 l) : ∀ P, P ∈ p :: bs l → Fit S P := by
  intro P hP
  rcases List.mem_cons.1 hP with rfl | hP
  · cases hl : l with
    | nil => exact absurd hl hs.ne
    | cons x l' =>
      subst hl
      rw [← hp.1]
      exact (hs.fit x (by simp)).a
  · obtain ⟨x, hx, rfl⟩ := List.mem_map.1 hP
    exact (hs.fit x hx).b

theorem on_points {l : List Sec} {p : Rat} (hp : Secs p 0 l) (hne : l ≠ []) : ∀ P, P ∈ p :: bs l → ∃ Q, On l P Q := by
  intro P hP
  rcases List.mem_cons.1 hP with rfl | hP
  · exact ⟨0, on_begin hp hne⟩
  · obtain ⟨x, hx, rfl⟩ := List.mem_map.1 hP
    exact ⟨x.v, x, hx, onSec_end (chain_ok hp x hx)⟩

theorem bs_mem_last {l : List Sec} {p : Rat} {b : Rat} (hne : l ≠ []) (h : b ∈ bs l) : b ∈ (bs l).dropLast ∨ b = lastB p l := by
  rw [bs_last (p := p) hne] at h
  rcases List.mem_append.1 h with h | h
  · exact Or.inl h
  · exact Or.inr (List.mem_singleton.1 h)

/-- Each knot fits. -/
theorem knot_fit {c : Dapi_TraceCourse} (hv : Valid c) {k1 d : Nat} (h : k1 + d ≤ c.2.2.2.length) {p lo hi : Rat} (ht : Two c k1 (k1 + d) p lo hi) : ∀ k, k ∈ knots (stS c k1) (stS c (k1 + d)) p → KFit 300 k := by
  have h10 := hv.steps
  have hs1 := hv.strip k1 (by omega)
  have hs2 := hv.strip (k1 + d) h
  obtain ⟨p1, hp1⟩ := hs1.secs
  have g1 := hs1.len
  have g2 := hs2.len
  intro k hk
  obtain ⟨P, hP, rfl⟩ := List.mem_map.1 hk
  have hf := slab_fit2 hs2 ht.hp P hP
  obtain ⟨Q2, o2⟩ := on_points ht.hp hs2.ne P hP
  obtain ⟨Q1, o1⟩ := on_before hv h o2
  obtain ⟨a1, a2⟩ := posS_on hp1 o1
  obtain ⟨b1, b2⟩ := posS_on ht.hp o2
  have f1 := (tat_ok (fun x hx => ⟨(hs1.each x hx).1, (hs1.each x hx).2.1, (hs1.each x hx).2.2.1, (hs1.each x hx).2.2.2.1⟩) hf (show 1 + 5 * k1 ≤ 1 + 5 * (k1 + d) by omega) (by omega) (by omega)).2 _ a1
  have f2 := (tat_ok (fun x hx => ⟨(hs2.each x hx).1, (hs2.each x hx).2.1, (hs2.each x hx).2.2.1, (hs2.each x hx).2.2.2.1⟩) hf (Nat.le_refl _) (by omega) (by omega)).2 _ b1
  have t1 : FitT 300 Q1 ∧ FitT 300 Q2 := by
    rcases List.mem_cons.1 hP with rfl | hB
    · rw [on_fun hp1 o1 ht.onlo, on_fun ht.hp o2 (on_begin ht.hp hs2.ne)]
      exact ⟨ht.flo, fitT_zero.mono (by decide)⟩
    · have t2 : FitT 300 Q2 := by
        obtain ⟨y, hy, hyb⟩ := List.mem_map.1 hB
        have hon : On (stS c (k1 + d)) P y.v := by rw [← hyb]; exact ⟨y, hy, onSec_end (chain_ok ht.hp y hy)⟩
        rw [on_fun ht.hp o2 hon]
        exact (hs2.each y hy).2.2.2.2.2.v.mono (by decide)
      rcases bs_mem_last (p := p) hs2.ne hB with hd | he
      · rw [ht.inner] at hd
        obtain ⟨x, hx, hxb⟩ := List.mem_map.1 (List.mem_filter.1 hd).1
        have hon : On (stS c k1) P x.v := by rw [← hxb]; exact ⟨x, hx, onSec_end (chain_ok hp1 x hx)⟩
        rw [on_fun hp1 o1 hon]
        exact ⟨(hs1.each x hx).2.2.2.2.2.v.mono (by decide), t2⟩
      · subst he
        rw [on_fun hp1 o1 ht.onhi]
        exact ⟨ht.fhi, t2⟩
  rw [a2, b2]
  exact ⟨f1.mono (by omega), f2.mono (by omega), t1.1, t1.2⟩

theorem begin_ok {l : List Sec} {p q : Rat} (hp : Secs p q l) (hne : l ≠ []) : trace_strip_begin (l.map secQ) = some (ratioQ p) := by
  cases l with
  | nil => exact absurd rfl hne
  | cons x l =>
    unfold trace_strip_begin
    rw [chk_true (and_true' (dec_true (Int.le_refl 0)) (dec_true (by rw [List.length_map, List.length_cons]; omega))), chk01]
    show some (ratioQ x.a) = _
    rw [hp.1]

/-- The program's map. -/
theorem tMapOf_ok {c : Dapi_TraceCourse} (hv : Valid c) (hop : trace_open c = some ((c, stripsQ c (c.2.2.2.length + 1)), ((0 : Nat) : Int), 0)) {k1 d : Nat} (h : k1 + d ≤ c.2.2.2.length) {p lo hi : Rat} (ht : Two c k1 (k1 + d) p lo hi) :
    trace_MapOf c (k1 : Int) ((k1 + d : Nat) : Int) = some (if (simpleK (knots (stS c k1) (stS c (k1 + d)) p)).all kS then ((simpleK (knots (stS c k1) (stS c (k1 + d)) p)).map kF, 0) else ([], 8)) := by
  have h10 := hv.steps
  have hs1 := hv.strip k1 (by omega)
  have hs2 := hv.strip (k1 + d) h
  obtain ⟨p1, hp1⟩ := hs1.secs
  have g1 := hs1.len
  have g2 := hs2.len
  have hK := knot_fit hv h ht
  have hKl : (knots (stS c k1) (stS c (k1 + d)) p).length = (stS c (k1 + d)).length + 1 := by unfold knots bs; rw [List.length_map, List.length_cons, List.length_map]
  have hsl := preK_len (knots (stS c k1) (stS c (k1 + d)) p) (knots (stS c k1) (stS c (k1 + d)) p).length
  unfold trace_MapOf
  rw [opened2_ok hop, Option.bind_some, unless_ok, Option.bind_some, dec_true (show (k1 : Int) ≤ ((k1 + d : Nat) : Int) by omega), if_pos rfl, if_pos (by omega), if_pos (by omega), show firstE [firstE [(0 : Int), 0], 0] = 0 from rfl, first_ok (by simp), Option.bind_some, show firstE [(0 : Int), 0] = 0 from rfl, show ((0 : Int) != 0) = false from rfl, cond_false]
  simp only
  rw [chk_true (and_true' (dec_true (by omega)) (dec_true (by rw [stripsQ_len]; omega))), chk_true (and_true' (dec_true (by omega)) (dec_true (by rw [stripsQ_len]; omega))), stripsQ_get (by omega), stripsQ_get (by omega), begin_ok ht.hp hs2.ne, Option.bind_some]
  refine Option.bind_eq_some_iff.2 ⟨(p :: bs (stS c (k1 + d))).map ratioQ, ?_, ?_⟩
  · refine loopM_list_eq (X := Sec) (l := stS c (k1 + d)) (fun l' s => ∃ pre, stS c (k1 + d) = pre ++ l' ∧ s = (ratioQ p :: pre.map (fun x => ratioQ x.b), (pre.length : Int))) ?_ ?_ ⟨[], rfl, rfl⟩
    · rintro x l' s ⟨pre, e1, rfl⟩
      left
      have hL : (stS c (k1 + d)).length = pre.length + (l'.length + 1) := by rw [e1, List.length_append, List.length_cons]
      have gx : ∀ d', lget d' ((stS c (k1 + d)).map secQ) (pre.length : Int) = secQ x := fun d' => by rw [e1]; exact lget_map
      simp only
      rw [List.length_map, dec_true (show (pre.length : Int) < ((stS c (k1 + d)).length : Int) by omega), cond_true, chk_true (and_true' (dec_true (by omega)) rfl), gx, chk11, show aget (secQ x).1 1 = ratioQ x.b from rfl, app_ok (by rw [List.length_cons, List.length_map, List.length_singleton]; omega), Option.bind_some, wi64_id (by omega) (by omega)]
      exact ⟨_, rfl, pre ++ [x], by rw [e1]; simp, by rw [List.length_append, List.length_singleton, List.map_append]; rfl⟩
    · rintro s ⟨pre, e1, rfl⟩
      have hL : (stS c (k1 + d)).length = pre.length := by rw [e1, List.append_nil]
      simp only
      rw [List.length_map, dec_false (show ¬ (pre.length : Int) < ((stS c (k1 + d)).length : Int) by omega), cond_false]
      congr 2
      rw [List.append_nil] at e1
      unfold bs
      rw [e1, List.map_cons, List.map_map]
      rfl
  · refine Option.bind_eq_some_iff.2 ⟨(knots (stS c k1) (stS c (k1 + d)) p).map kQ, ?_, ?_⟩
    · refine loopM_list_eq (X := Rat) (l := p :: bs (stS c (k1 + d))) (fun l' s => ∃ pre, p :: bs (stS c (k1 + d)) = pre ++ l' ∧ s = ((pre.map fun P => (posS (stS c k1) P, posS (stS c (k1 + d)) P)).map kQ, (pre.length : Int))) ?_ ?_ ⟨[], rfl, rfl⟩
      · rintro P l' s ⟨pre, e1, rfl⟩
        left
        have hL0 : (p :: bs (stS c (k1 + d))).length = pre.length + (l'.length + 1) := by rw [e1, List.length_append, List.length_cons]
        have hL1 : (p :: bs (stS c (k1 + d))).length = (stS c (k1 + d)).length + 1 := by unfold bs; rw [List.length_cons, List.length_map]
        have hP : P ∈ p :: bs (stS c (k1 + d)) := by rw [e1]; simp
        have gx : ∀ d', lget d' ((p :: bs (stS c (k1 + d))).map ratioQ) (pre.length : Int) = ratioQ P := fun d' => by rw [e1]; exact lget_map
        have hf := slab_fit2 hs2 ht.hp P hP
        obtain ⟨Q2, o2⟩ := on_points ht.hp hs2.ne P hP
        obtain ⟨Q1, o1⟩ := on_before hv h o2
        obtain ⟨a1, a2⟩ := posS_on hp1 o1
        obtain ⟨b1, b2⟩ := posS_on ht.hp o2
        have f1 := (tat_ok (fun x hx => ⟨(hs1.each x hx).1, (hs1.each x hx).2.1, (hs1.each x hx).2.2.1, (hs1.each x hx).2.2.2.1⟩) hf (show 1 + 5 * k1 ≤ 1 + 5 * (k1 + d) by omega) (by omega) (by omega)).1
        have f2 := (tat_ok (fun x hx => ⟨(hs2.each x hx).1, (hs2.each x hx).2.1, (hs2.each x hx).2.2.1, (hs2.each x hx).2.2.2.1⟩) hf (Nat.le_refl _) (by omega) (by omega)).1
        rw [a1] at f1
        rw [b1] at f2
        simp only
        rw [List.length_map, dec_true (show (pre.length : Int) < ((p :: bs (stS c (k1 + d))).length : Int) by omega), cond_true, chk_true (and_true' (dec_true (by omega)) rfl), gx, f1, Option.bind_some, f2, Option.bind_some, app_ok (by rw [List.length_map, List.length_map, List.length_singleton]; omega), Option.bind_some, wi64_id (by omega) (by omega)]
        refine ⟨_, rfl, pre ++ [P], by rw [e1]; simp, ?_⟩
        rw [List.length_append, List.length_singleton, List.map_append, List.map_append, List.map_singleton, List.map_singleton, a2, b2]
        rfl
      · rintro s ⟨pre, e1, rfl⟩
        have hL : (p :: bs (stS c (k1 + d))).length = pre.length := by rw [e1, List.append_nil]
        simp only
        rw [List.length_map, dec_false (show ¬ (pre.length : Int) < ((p :: bs (stS c (k1 + d))).length : Int) by omega), cond_false]
        unfold knots
        rw [e1, List.append_nil]
    · rw [simpleQ_ok hK (by decide) (by omega), Option.bind_some, written_ok (N := 300) (fun k hk => ?_) (by decide) (by unfold simpleK; omega), Option.bind_some]
      obtain ⟨i, hi, rfl⟩ := List.mem_map.1 hk
      exact hK _ (getK_mem (List.mem_range.1 (List.mem_filter.1 hi).1))

/-- The reference's map. -/
theorem rMapOf_ok {c : Dapi_TraceCourse} (hv : Valid c) {k1 d : Nat} (h : k1 + d ≤ c.2.2.2.length) {p lo hi : Rat} (ht : Two c k1 (k1 + d) p lo hi) :
    cobbleref09_MapOf c (k1 : Int) ((k1 + d : Nat) : Int) = some (if (simpleK (knots (stS c k1) (stS c (k1 + d)) p)).all kS then ((simpleK (knots (stS c k1) (stS c (k1 + d)) p)).map kF, true) else ([], false)) := by
  have h10 := hv.steps
  have hs1 := hv.strip k1 (by omega)
  have hs2 := hv.strip (k1 + d) h
  obtain ⟨p1, hp1⟩ := hs1.secs
  have g1 := hs1.len
  have g2 := hs2.len
  have hK := knot_fit hv h ht
  have hKl : (knots (stS c k1) (stS c (k1 + d)) p).length = (stS c (k1 + d)).length + 1 := by unfold knots bs; rw [List.length_map, List.length_cons, List.length_map]
  have hsl := preK_len (knots (stS c k1) (stS c (k1 + d)) p) (knots (stS c k1) (stS c (k1 + d)) p).length
  have hlast2 := posS_on ht.hp (on_end ht.hp hs2.ne)
  have hends := ends_okW hp1 (fun x hx => (hs1.each x hx).2.2.2.2.2) (by decide) (by omega)
  -- the knots, as the reference has them
  have hknots : knots (stS c k1) (stS c (k1 + d)) p = ((lo, 0) :: ((stS c k1).filter fun x => inB lo hi x.v).map (fun x => (x.v, posS (stS c (k1 + d)) x.b))) ++ [(hi, lastV 0 (stS c (k1 + d)))] := by
    unfold knots
    rw [bs_last (p := p) hs2.ne, ht.inner, ← filter_ends hp1 ht.onlo ht.onhi, List.map_cons, List.map_append, List.map_map, List.map_singleton, (posS_on hp1 ht.onlo).2, (posS_on ht.hp (on_begin ht.hp hs2.ne)).2, (posS_on hp1 ht.onhi).2, hlast2.2, List.cons_append]
    congr 2
    refine List.map_congr_left fun x hx => ?_
    have hxm := (List.mem_filter.1 hx).1
    show (posS (stS c k1) x.b, posS (stS c (k1 + d)) x.b) = _
    rw [(posS_on hp1 ⟨x, hxm, onSec_end (chain_ok hp1 x hxm)⟩).2]
  unfold cobbleref09_MapOf
  rw [After_ok hv h hv.len6, Option.bind_some, Length_ok hs2, Option.bind_some, RInt0, Option.bind_some, ht.mlo, Option.bind_some, ht.mhi, Option.bind_some, Option.bind_some, After_ok hv (show k1 ≤ _ by omega) hv.len6, Option.bind_some, hends, Option.bind_some]
  simp only
  refine Option.bind_eq_some_iff.2 ⟨((lo, 0) :: ((stS c k1).filter fun x => inB lo hi x.v).map (fun x => (x.v, posS (stS c (k1 + d)) x.b))).map kW, ?_, ?_⟩
  · refine loopM_list_eq (X := Sec) (l := stS c k1) (fun l' s => ∃ pre, stS c k1 = pre ++ l' ∧ s = (((lo, (0 : Rat)) :: (pre.filter fun x => inB lo hi x.v).map (fun x => (x.v, posS (stS c (k1 + d)) x.b))).map kW, (pre.length : Int))) ?_ ?_ ⟨[], rfl, rfl⟩
    · rintro x l' s ⟨pre, e1, rfl⟩
      left
      have hL : (stS c k1).length = pre.length + (l'.length + 1) := by rw [e1, List.length_append, List.length_cons]
      have hxm : x ∈ stS c k1 := by rw [e1]; simp
      have gx : ∀ d', lget d' ((stS c k1).map fun x => ratioW x.v) (pre.length : Int) = ratioW x.v := fun d' => by rw [e1]; exact lget_map (f := fun x : Sec => ratioW x.v)
      have hxv : FitT 2 x.v := (hs1.each x hxm).2.2.2.2.2.v
      have hox : On (stS c k1) x.b x.v := ⟨x, hxm, onSec_end (chain_ok hp1 x hxm)⟩
      have hfl := List.length_filter_le (fun x : Sec => inB lo hi x.v) pre
      simp only
      rw [List.length_map, dec_true (show (pre.length : Int) < ((stS c k1).length : Int) by omega), cond_true, chk_true (and_true' (dec_true (by omega)) rfl), gx, RatioCmp_ok hxv ht.flo (by decide), Option.bind_some]
      have hcond : (bif decide ((if x.v = lo then (0 : Int) else if x.v < lo then -1 else 1) > 0) then
          chk (decide ((0 : Int) ≤ (pre.length : Int)) && true) ((cobblebase_RatioCmp (ratioW x.v) (ratioW hi)).bind fun (t_7 : Int) => some (decide (t_7 < 0)))
        else some false) = some (inB lo hi x.v) := by
        rw [RatioCmp_ok hxv ht.fhi (by decide), Option.bind_some]
        by_cases a1 : lo < x.v
        · rw [dec_true (cmp_gt.2 a1), cond_true, chk_true (and_true' (dec_true (by omega)) rfl)]
          by_cases a2 : x.v < hi
          · rw [dec_true (cmp_lt.2 a2), inB_true a1 a2]
          · rw [dec_false (mt cmp_lt.1 a2), inB_right a2]
        · rw [dec_false (mt cmp_gt.1 a1), inB_left a1]; rfl
      refine ⟨((((lo, (0 : Rat)) :: ((pre ++ [x]).filter fun x => inB lo hi x.v).map (fun x => (x.v, posS (stS c (k1 + d)) x.b))).map kW), ((pre ++ [x]).length : Int)), ?_, pre ++ [x], by rw [e1]; simp, rfl⟩
      refine Option.bind_eq_some_iff.2 ⟨_, hcond, ?_⟩
      rw [List.filter_append, List.filter_cons, List.filter_nil, List.length_append, List.length_singleton]
      cases hb : inB lo hi x.v with
      | false =>
        rw [cond_false, Option.bind_some, wi64_id (by omega) (by omega), if_neg (by decide), List.append_nil]
        rfl
      | true =>
        -- the end is one of the later strip's
        have hmem : x.b ∈ (bs (stS c (k1 + d))).dropLast := by
          rw [ht.inner, ← filter_ends hp1 ht.onlo ht.onhi]
          exact List.mem_map.2 ⟨x, List.mem_filter.2 ⟨hxm, hb⟩, rfl⟩
        have hmem2 : x.b ∈ bs (stS c (k1 + d)) := List.dropLast_subset _ hmem
        obtain ⟨y, hy, hyb⟩ := List.mem_map.1 hmem2
        have hoy : On (stS c (k1 + d)) x.b y.v := by rw [← hyb]; exact ⟨y, hy, onSec_end (chain_ok ht.hp y hy)⟩
        obtain ⟨r, m1, m2⟩ := Move_ok hv (n := k1) (to := k1 + d) (N := 2) (by omega) h (by decide) hox hxv
        rcases m1 with ⟨q', rfl, n1, n2⟩ | ⟨_, n1⟩
        · rw [cond_true, chk_true (and_true' (dec_true (by omega)) rfl), m2, Option.bind_some, chk_true (and_true' (dec_true (by omega)) rfl), app_ok (by rw [List.length_map, List.length_cons, List.length_map, List.length_singleton]; omega), Option.bind_some, Option.bind_some, wi64_id (by omega) (by omega), if_pos rfl, List.map_append, (posS_on ht.hp n1).2.symm]
          simp only [List.map_cons, List.map_append, List.map_nil, List.cons_append]
          rw [(posS_on ht.hp n1).2]
          rfl
        · exact absurd hoy (n1 _)
    · rintro s ⟨pre, e1, rfl⟩
      have hL : (stS c k1).length = pre.length := by rw [e1, List.append_nil]
      simp only
      rw [List.length_map, dec_false (show ¬ (pre.length : Int) < ((stS c k1).length : Int) by omega), cond_false, e1, List.append_nil]
  · have hfl := List.length_filter_le (fun x : Sec => inB lo hi x.v) (stS c k1)
    rw [app_ok (by rw [List.length_map, List.length_cons, List.length_map, List.length_singleton]; omega), Option.bind_some]
    have e2 : (((lo, (0 : Rat)) :: ((stS c k1).filter fun x => inB lo hi x.v).map (fun x => (x.v, posS (stS c (k1 + d)) x.b))).map kW) ++ [(ratioW hi, ratioW (lastV 0 (stS c (k1 + d))))] = (knots (stS c k1) (stS c (k1 + d)) p).map kW := by
      rw [hknots, List.map_append]
      rfl
    rw [e2, simpleW_ok hK (by decide) (by omega), Option.bind_some, rsmall_ok (N := 300) (fun k hk => ?_) (by decide) (by unfold simpleK; omega), Option.bind_some]
    obtain ⟨i, hi, rfl⟩ := List.mem_map.1 hk
    exact hK _ (getK_mem (List.mem_range.1 (List.mem_filter.1 hi).1))

theorem TraceMaps_ok {c : Dapi_TraceCourse} {n m : Int} (hawake : cobblelaw09_awake = some true) (hc : okv Tapi_TraceCourse c) : cobblelaw09_TraceMaps c n m = some true := by
  unfold cobblelaw09_TraceMaps
  rw [hawake, Option.bind_some, Bool.not_true, cond_false]
  obtain ⟨b, hb, hb2⟩ := Few_ok (c := c)
  rw [hb, Option.bind_some]
  cases b with
  | false => rfl
  | true =>
    obtain ⟨h1, h2, h3, h5, h4⟩ := hb2 rfl
    have hin := courseIn_of hc h1 h2 h3 h5 h4
    obtain ⟨e, i, strips, o1, o2, o3⟩ := open_ok hin
    have hce : cobbleref09_CourseErr c = some e := by
      unfold cobbleref09_CourseErr
      rw [o2, Option.bind_some]
    rw [Bool.not_true, cond_false, CopyCourse_ok h1 h2 h3 h4, Option.bind_some]
    -- the error
    obtain ⟨E, hE⟩ : ∃ E : Int, E = firstE [firstE [firstE [e, if 0 ≤ n ∧ n ≤ (c.2.2.2.length : Int) then 0 else 2], if 0 ≤ m ∧ m ≤ (c.2.2.2.length : Int) then 0 else 2], if n ≤ m then 0 else 9] := ⟨_, rfl⟩
    have hd : ((bif (e == 0) then (cobbleref09_StepsErr c n).bind fun (t_4 : Int) => some t_4 else some e).bind fun (d : Int) =>
      (bif (d == 0) then (cobbleref09_StepsErr c m).bind fun (t_5 : Int) => some t_5 else some d).bind fun (d_1 : Int) =>
      (bif ((d_1 == 0) && (decide (n > m))) then some (9 : Int) else some d_1)) = some E := by
      rw [hE, rstepsErr_ok, rstepsErr_ok, first2, first2, first2, Option.bind_some, Option.bind_some]
      by_cases he : e = 0
      · rw [if_pos he, he, show ((0 : Int) == 0) = true from rfl, cond_true, Option.bind_some]
        by_cases hn : 0 ≤ n ∧ n ≤ (c.2.2.2.length : Int)
        · rw [if_pos hn, if_pos rfl, show ((0 : Int) == 0) = true from rfl, cond_true, Option.bind_some]
          by_cases hm : 0 ≤ m ∧ m ≤ (c.2.2.2.length : Int)
          · rw [if_pos hm, if_pos rfl, show ((0 : Int) == 0) = true from rfl, Bool.true_and]
            by_cases hnm : n ≤ m
            · rw [if_pos hnm, dec_false (show ¬ n > m by omega)]; rfl
            · rw [if_neg hnm, dec_true (show n > m by omega)]; rfl
          · rw [if_neg hm]; rfl
        · rw [if_neg hn]; rfl
      · rw [if_neg he, if_neg he, if_neg he, show (e == 0) = false by rw [beq_eq_false_iff_ne]; exact he, cond_false, Option.bind_some, show (e == 0) = false by rw [beq_eq_false_iff_ne]; exact he, cond_false, Option.bind_some, show (e == 0) = false by rw [beq_eq_false_iff_ne]; exact he]; rfl
    obtain ⟨d0', e0, hd2⟩ := Option.bind_eq_some_iff.1 hd
    obtain ⟨d1', e1, hd3⟩ := Option.bind_eq_some_iff.1 hd2
    by_cases hz : E = 0
    · subst hz
      rw [first2] at hE
      have hz1 : firstE [firstE [e, if 0 ≤ n ∧ n ≤ (c.2.2.2.length : Int) then 0 else 2], if 0 ≤ m ∧ m ≤ (c.2.2.2.length : Int) then 0 else 2] = 0 := by
        by_cases q : firstE [firstE [e, if 0 ≤ n ∧ n ≤ (c.2.2.2.length : Int) then 0 else 2], if 0 ≤ m ∧ m ≤ (c.2.2.2.length : Int) then 0 else 2] = 0
        · exact q
        · rw [if_neg q] at hE; exact hE.symm
      rw [if_pos hz1] at hE
      have hnm : n ≤ m := by
        by_cases q : n ≤ m
        · exact q
        · rw [if_neg q] at hE; cases hE
      rw [first2] at hz1
      have hz2 : firstE [e, if 0 ≤ n ∧ n ≤ (c.2.2.2.length : Int) then 0 else 2] = 0 := by
        by_cases q : firstE [e, if 0 ≤ n ∧ n ≤ (c.2.2.2.length : Int) then 0 else 2] = 0
        · exact q
        · rw [if_neg q] at hz1; exact hz1
      rw [if_pos hz2] at hz1
      rw [first2] at hz2
      have he : e = 0 := by
        by_cases q : e = 0
        · exact q
        · rw [if_neg q] at hz2; exact hz2
      rw [if_pos he] at hz2
      have hn : 0 ≤ n ∧ n ≤ (c.2.2.2.length : Int) := by
        by_cases q : 0 ≤ n ∧ n ≤ (c.2.2.2.length : Int)
        · exact q
        · rw [if_neg q] at hz2; cases hz2
      have hm : 0 ≤ m ∧ m ≤ (c.2.2.2.length : Int) := by
        by_cases q : 0 ≤ m ∧ m ≤ (c.2.2.2.length : Int)
        · exact q
        · rw [if_neg q] at hz1; cases hz1
      subst he
      obtain ⟨rfl, rfl, hv⟩ := o3 rfl
      obtain ⟨k1, rfl⟩ : ∃ k : Nat, n = (k : Int) := ⟨n.toNat, by omega⟩
      obtain ⟨d, rfl⟩ : ∃ d : Nat, m = ((k1 + d : Nat) : Int) := ⟨(m - (k1 : Int)).toNat, by omega⟩
      have hle : k1 + d ≤ c.2.2.2.length := by omega
      obtain ⟨p, lo, hi, ht⟩ := two_ok hv hle
      rw [tMapOf_ok hv o1 hle ht, Option.bind_some, hce, Option.bind_some]
      refine Option.bind_eq_some_iff.2 ⟨d0', e0, Option.bind_eq_some_iff.2 ⟨d1', e1, Option.bind_eq_some_iff.2 ⟨0, hd3, ?_⟩⟩⟩
      rw [show ((0 : Int) != 0) = false from rfl, cond_false, rMapOf_ok hv hle ht, Option.bind_some]
      have hsl := preK_len (knots (stS c k1) (stS c (k1 + d)) p) (knots (stS c k1) (stS c (k1 + d)) p).length
      have hKl : (knots (stS c k1) (stS c (k1 + d)) p).length = (stS c (k1 + d)).length + 1 := by unfold knots bs; rw [List.length_map, List.length_cons, List.length_map]
      have g2 := (hv.strip (k1 + d) hle).len
      cases (simpleK (knots (stS c k1) (stS c (k1 + d)) p)).all kS with
      | false => rfl
      | true =>
        simp only [if_true]
        rw [Bool.not_true, cond_false, show ((0 : Int) == 0) = true from rfl, cond_true, SameMap_ok (by rw [List.length_map]; unfold simpleK; omega), Option.bind_some]
        rfl
    · have htm : trace_MapOf c n m = some ([], E) := by
        unfold trace_MapOf
        rw [opened2_ok o1, Option.bind_some, unless_ok, Option.bind_some, first_ok (by simp), Option.bind_some]
        simp only
        have : (if decide (n ≤ m) = true then (0 : Int) else 9) = if n ≤ m then 0 else 9 := by
          by_cases q : n ≤ m
          · rw [dec_true q, if_pos rfl, if_pos q]
          · rw [dec_false q, if_neg (by decide), if_neg q]
        rw [this, ← hE, show (E != 0) = true by rw [bne_iff_ne]; exact hz, cond_true]
      rw [htm, Option.bind_some, hce, Option.bind_some]
      refine Option.bind_eq_some_iff.2 ⟨d0', e0, Option.bind_eq_some_iff.2 ⟨d1', e1, Option.bind_eq_some_iff.2 ⟨E, hd3, ?_⟩⟩⟩
      rw [show (E != 0) = true by rw [bne_iff_ne]; exact hz, cond_true]
      simp only
      rw [beq_self_eq_true]
      rfl
end Go.Lift
