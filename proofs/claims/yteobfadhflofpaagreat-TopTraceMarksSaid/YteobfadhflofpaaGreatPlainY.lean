/-
  Marks and rolls are checked; the first two marks that contradict a roll.
-/
import Derived.Test.YteobfadhflofpaaGreatPlainK
import Derived.Test.YteobfadhflofpaaGreatFunRo
set_option linter.unusedSectionVars false
set_option linter.unusedVariables false
set_option linter.unusedSimpArgs false
namespace Go.Lift
open Go
theorem cmp_gtd {a b : Rat} : decide ((if a = b then (0 : Int) else if a < b then -1 else 1) > 0) = decide (b < a) := by
  rw [decide_eq_decide]
  exact cmp_gt
theorem loop_gen {St R V : Type} {F : St → Option (St ⊕ (V ⊕ R))} {S : Nat → St} {g : Nat → Option R} {v : V} {n : Nat} (h0 : ∀ i, i < n → g i = none → F (S i) = some (.inl (S (i + 1))))
    (h1 : ∀ i, i < n → ∀ r, g i = some r → F (S i) = some (.inr (.inr r))) (hend : F (S n) = some (.inr (.inl v))) : ∀ (m k : Nat), k + m = n → loopM F (S k) = some (match findF g k m with | none => .inl v | some r => .inr r)
  | 0, k, hk => by
    have : k = n := by omega
    subst this
    exact loopM_done hend
  | m + 1, k, hk => by
    unfold findF
    cases hg : g k with
    | none =>
      rw [loopM_next (h0 k (by omega) hg)]
      exact loop_gen h0 h1 hend m (k + 1) (by omega)
    | some r => exact loopM_done (h1 k (by omega) r hg)
abbrev coilS (c : Dapi_TraceCourse) : List Sec := stS c c.2.2.2.length
def slabM (c : Dapi_TraceCourse) (m : Int) : Rat := slabAtS (coilS c) (m : Rat)
def posQ (c : Dapi_TraceCourse) (k : Nat) (m : Int) : Rat := (atS (stS c k) (slabM c m)).getD 0
def OnCoil (c : Dapi_TraceCourse) (m : Int) : Prop := 0 ≤ m ∧ (m : Rat) ≤ lastV 0 (coilS c) ∧ m < 9223372036854775808
theorem mark_ok {c : Dapi_TraceCourse} (hv : Valid c) {m : Int} (hm : OnCoil c m) {k : Nat} (hk : k ≤ c.2.2.2.length) :
    trace_strip_at ((stS c k).map secQ) (ratioQ (slabM c m)) = some (ratioQ (posQ c k m), true) ∧ r9_Move c (ratioW (m : Rat)) (c.2.2.2.length : Int) (k : Int) = some (ratioW (posQ c k m), true) ∧
      Fit 300 (posQ c k m) ∧ FitT 300 (posQ c k m) ∧ On (stS c k) (slabM c m) (posQ c k m) := by
  obtain ⟨h0, h1, h2⟩ := hm
  have h10 := hv.steps
  have hs := hv.strip c.2.2.2.length (Nat.le_refl _)
  have ht := hv.strip k hk
  obtain ⟨p, hp⟩ := hs.secs
  obtain ⟨p', hp'⟩ := ht.secs
  have hs6 := hs.len
  have ht6 := ht.len
  have hq := fit2_int (n := m) (by omega) h2
  have a2 : Fit 100 (slabM c m) := (slabAtS_fit (fun x hx => ⟨(hs.each x hx).1, (hs.each x hx).2.1, (hs.each x hx).2.2.2.1⟩) hq (show 1 + 5 * c.2.2.2.length + 2 ≤ 1000 by omega)).mono (by omega)
  obtain ⟨b1, b2⟩ := tat_ok (fun x hx => ⟨(ht.each x hx).1, (ht.each x hx).2.1, (ht.each x hx).2.2.1, (ht.each x hx).2.2.2.1⟩) a2 (show 1 + 5 * k ≤ 100 by omega) (by omega) (by omega)
  obtain ⟨o, _, e2, e3, e4, e5⟩ := place_ok hv (r := ((c.2.2.2.length : Int), (m, false))) rfl (Nat.le_refl _) hk h0 h1 h2
  cases o with
  | none =>
    obtain ⟨Q, hQ⟩ := on_before hv (k := k) (d := c.2.2.2.length - k) (P := slabM c m) (Q := (m : Rat)) (by omega) (by rw [show k + (c.2.2.2.length - k) = c.2.2.2.length by omega]; exact e5)
    exact absurd hQ (e4 rfl Q)
  | some q =>
    obtain ⟨q1, q2, q3⟩ := e3 q rfl
    have hat : atS (stS c k) (slabM c m) = some q := (at_on hp').2 q3
    have hpos : posQ c k m = q := by unfold posQ; rw [hat]; rfl
    rw [hpos]
    refine ⟨?_, e2, q1, q2, q3⟩
    rw [b1, hat]
    rfl
theorem pos_mono {c : Dapi_TraceCourse} (hv : Valid c) {m m' : Int} (hm : OnCoil c m) (hm' : OnCoil c m') (hle : m ≤ m') {k : Nat} (hk : k ≤ c.2.2.2.length) : posQ c k m ≤ posQ c k m' := by
  obtain ⟨p, hp⟩ := (hv.strip c.2.2.2.length (Nat.le_refl _)).secs
  obtain ⟨p', hp'⟩ := (hv.strip k hk).secs
  obtain ⟨_, _, _, _, o1⟩ := mark_ok hv hm hk
  obtain ⟨_, _, _, _, o2⟩ := mark_ok hv hm' hk
  have s1 : On (coilS c) (slabM c m) (m : Rat) := slabAt_on hp (hv.strip _ (Nat.le_refl _)).ne (by rw [← Rat.intCast_zero, Rat.intCast_le_intCast]; exact hm.1) hm.2.1
  have s2 : On (coilS c) (slabM c m') (m' : Rat) := slabAt_on hp (hv.strip _ (Nat.le_refl _)).ne (by rw [← Rat.intCast_zero, Rat.intCast_le_intCast]; exact hm'.1) hm'.2.1
  exact (on_mono hp' o1 o2).1 ((on_mono hp s1 s2).2 (by rw [Rat.intCast_le_intCast]; exact hle))
def leftQ (d : Rat) (K : Int) : Rat := d - (((d / (K : Rat)).num / ((d / (K : Rat)).den : Int) : Int) : Rat) * (K : Rat)
def clashB (a b : Rat) (K t : Int) : Bool := decide (((2 * t : Int) : Rat) < leftQ (b - a) K) && decide (((2 * t : Int) : Rat) < (K : Rat) - leftQ (b - a) K)
theorem contradicts_ok {c : Dapi_TraceCourse} (hv : Valid c) {m m' : Int} (hm : OnCoil c m) (hm' : OnCoil c m') (hle : m ≤ m') {r : Dapi_TraceRoll} {k : Nat} (hr : r.2.1 = (k : Int)) (hk : k ≤ c.2.2.2.length) (hK : 1 ≤ r.2.2 ∧ r.2.2 ≤ 1000000) {t : Int} (ht : 0 ≤ t ∧ t ≤ 1000) :
    trace_course_contradicts (c, stripsQ c (c.2.2.2.length + 1)) (ratioQ (slabM c m)) (ratioQ (slabM c m')) r t = some (clashB (posQ c k m) (posQ c k m') r.2.2 t) := by
  obtain ⟨p1, _, f1, _, _⟩ := mark_ok hv hm hk
  obtain ⟨p2, _, f2, _, _⟩ := mark_ok hv hm' hk
  have hmono := pos_mono hv hm hm' hle hk
  unfold trace_course_contradicts
  simp only
  rw [stripsQ_len, hr, chk_idx (by omega), stripsQ_get (by omega), p1, Option.bind_some, chk_idx (by omega), p2, Option.bind_some, whole_ok (by omega) (by omega), Option.bind_some]
  simp only
  generalize posQ c k m = a at *
  generalize posQ c k m' = b at *
  have hpr : (0 : Rat) < (r.2.2 : Rat) := int_pos (by omega)
  have g1 : Fit 1 (r.2.2 : Rat) := fit_whole (by omega) (by omega)
  obtain ⟨a1, a2⟩ := rminus_ok f2 f1 (by decide)
  obtain ⟨a3, a4⟩ := rover_ok a2 g1 hpr (by decide)
  have hq0 : 0 ≤ (b - a) / (r.2.2 : Rat) := by
    have := mul_pos_le (c := (r.2.2 : Rat)⁻¹) (a := 0) (b := b - a) (Rat.inv_pos.2 hpr) (by grind)
    rw [Rat.zero_mul] at this
    rwa [Rat.div_def]
  obtain ⟨a5, a6⟩ := tfloor_ok hq0 a4 (by decide)
  obtain ⟨a7, a8⟩ := rtimes_ok a6 g1 (by decide)
  obtain ⟨b1, b2⟩ := rminus_ok a2 a8 (by decide)
  obtain ⟨b3, b4⟩ := rminus_ok g1 b2 (by decide)
  have hw : Fit 1 ((2 * t : Int) : Rat) := fit_whole (by omega) (by omega)
  rw [a1, Option.bind_some, a3, Option.bind_some, a5, Option.bind_some, a7, Option.bind_some, b1, Option.bind_some, wi64_id (x := 2 * t) (by omega) (by omega), whole_ok (by omega) (by omega), Option.bind_some, rcmp_ok b2 hw (by decide), Option.bind_some, cmp_gtd, b3, Option.bind_some, rcmp_ok b4 hw (by decide), Option.bind_some, cmp_gtd]
  unfold clashB leftQ
  cases decide (((2 * t : Int) : Rat) < b - a - (((((b - a) / (r.2.2 : Rat)).num / (((b - a) / (r.2.2 : Rat)).den : Int)) : Int) : Rat) * (r.2.2 : Rat)) <;> rfl
end Go.Lift
namespace Go.Lift
open Go
def markE (c : Dapi_TraceCourse) (l : List Int) (i : Nat) : Int :=
  firstE [readErr c ((c.2.2.2.length : Int), (lget 0 l (i : Int), false)), if i = 0 ∨ lget 0 l ((i : Int) - 1) < lget 0 l (i : Int) then 0 else 9]
def markR (c : Dapi_TraceCourse) (l : List Int) (i : Nat) : Option Int := if markE c l i = 0 then none else some (markE c l i)
def marksE (c : Dapi_TraceCourse) (x : Dapi_TraceMarks) : Int := if 20 < x.1.length then 8 else (findF (markR c x.1) 0 x.1.length).getD (if 0 ≤ x.2 ∧ x.2 ≤ 1000 then 0 else 2)
def Ints64 (l : List Int) : Prop := ∀ m, m ∈ l → -9223372036854775808 ≤ m ∧ m < 9223372036854775808
def msL (c : Dapi_TraceCourse) (l : List Int) (k : Nat) : List Dtrace_ratio := (List.range k).map fun (i : Nat) => ratioQ (slabM c (lget 0 l (i : Int)))
theorem readErr_coil {c : Dapi_TraceCourse} {m : Int} {b : Bool} : readErr c ((c.2.2.2.length : Int), (m, b)) = if 0 ≤ m ∧ (m : Rat) ≤ lastV 0 (coilS c) then 0 else 6 := by
  unfold readErr
  simp only
  rw [if_pos (show (0 : Int) ≤ (c.2.2.2.length : Int) ∧ (c.2.2.2.length : Int) ≤ (c.2.2.2.length : Int) by omega), Int.toNat_natCast]
theorem markE_zero {c : Dapi_TraceCourse} {l : List Int} (hl : Ints64 l) {i : Nat} (hi : i < l.length) (h : markE c l i = 0) : OnCoil c (lget 0 l (i : Int)) ∧ (i = 0 ∨ lget 0 l ((i : Int) - 1) < lget 0 l (i : Int)) := by
  unfold markE at h
  obtain ⟨h1, h2⟩ := fE_zero h
  obtain ⟨h2, _⟩ := fE_zero h2
  rw [readErr_coil] at h1
  have hm := hl _ (lget_mem (d := 0) hi)
  constructor
  · by_cases e : 0 ≤ lget 0 l (i : Int) ∧ ((lget (0 : Int) l (i : Int) : Int) : Rat) ≤ lastV 0 (coilS c)
    · exact ⟨e.1, e.2, hm.2⟩
    · rw [if_neg e] at h1; cases h1
  · by_cases e : i = 0 ∨ lget 0 l ((i : Int) - 1) < lget 0 l (i : Int)
    · exact e
    · rw [if_neg e] at h2; cases h2
theorem openMarks_ok {c : Dapi_TraceCourse} (hv : Valid c) (hop : trace_opened c [] = some ((c, stripsQ c (c.2.2.2.length + 1)), 0)) {x : Dapi_TraceMarks} (hl : Ints64 x.1) (h22 : x.1.length ≤ 22) :
    ∃ ms, trace_openMarks c x = some ((c, stripsQ c (c.2.2.2.length + 1)), ms, marksE c x) ∧ (marksE c x = 0 → ms = msL c x.1 x.1.length) := by
  have h10 := hv.steps
  have hs := hv.strip c.2.2.2.length (Nat.le_refl _)
  have hs6 := hs.len
  have hfl := fit_small hs.last
  have hlastc : trace_course_last (c, stripsQ c (c.2.2.2.length + 1)) = some ((coilS c).map secQ) := by
    unfold trace_course_last
    simp only
    rw [stripsQ_len, wi64_id (by omega) (by omega), show ((c.2.2.2.length + 1 : Nat) : Int) - 1 = (c.2.2.2.length : Int) by omega, chk_idx (by omega), stripsQ_get (by omega)]
  unfold trace_openMarks
  rw [hop, Option.bind_some, unless_ok, Option.bind_some, first_ok (by simp), Option.bind_some, first2, if_pos rfl]
  by_cases h20 : 20 < x.1.length
  · have hE : marksE c x = 8 := by unfold marksE; rw [if_pos h20]
    rw [dec_false (show ¬ (x.1.length : Int) ≤ 20 by omega), hE]
    exact ⟨_, rfl, fun h => by cases h⟩
  · rw [dec_true (show (x.1.length : Int) ≤ 20 by omega), if_pos rfl, show ((0 : Int) != 0) = false from rfl, cond_false]
    have hbody : ∀ i, i < x.1.length → (bif ((i : Int) == 0) then some true else
            chk (decide ((0 : Int) ≤ (imax 0 (wi64 ((i : Int) - 1)))) && decide ((imax 0 (wi64 ((i : Int) - 1))) < (List.length x.1 : Int))) (
              some (decide ((lget 0 x.1 (i : Int)) > (lget 0 x.1 (imax 0 (wi64 ((i : Int) - 1)))))))) = some (decide (i = 0 ∨ lget 0 x.1 ((i : Int) - 1) < lget 0 x.1 (i : Int))) := by
      intro i hi
      by_cases h0 : i = 0
      · subst h0
        rw [show decide ((0 : Nat) = 0 ∨ lget 0 x.1 (((0 : Nat) : Int) - 1) < lget 0 x.1 ((0 : Nat) : Int)) = true from dec_true (.inl rfl)]
        rfl
      · rw [show ((i : Int) == 0) = false by rw [beq_eq_false_iff_ne]; omega, cond_false, wi64_id (by omega) (by omega), show imax 0 ((i : Int) - 1) = (i : Int) - 1 by unfold imax; split <;> omega]
        rw [chk_true (and_true' (dec_true (by omega)) (dec_true (by omega)))]
        congr 1
        rw [decide_eq_decide]
        constructor
        · intro h; exact .inr h
        · rintro (h | h)
          · exact absurd h h0
          · exact h
    have hE1 : ∀ i, i < x.1.length → firstE [if decide (0 ≤ lget 0 x.1 (i : Int) ∧ ((lget (0 : Int) x.1 (i : Int) : Int) : Rat) ≤ lastV 0 (coilS c)) = true then 0 else 6, if decide (i = 0 ∨ lget 0 x.1 ((i : Int) - 1) < lget 0 x.1 (i : Int)) = true then 0 else 9] = markE c x.1 i := by
      intro i hi
      unfold markE
      rw [readErr_coil]
      simp only [decide_eq_true_eq]
    have hloop := loop_gen (St := (List Dtrace_ratio) × Int) (V := List Dtrace_ratio) (R := Dtrace_course × (List Dtrace_ratio) × Int) (S := fun i => (msL c x.1 i, (i : Int)))
      (g := fun i => (markR c x.1 i).map fun e => ((c, stripsQ c (c.2.2.2.length + 1)), ([] : List Dtrace_ratio), e)) (v := msL c x.1 x.1.length) (n := x.1.length)
      (F := (fun s =>
      let out : (List Dtrace_ratio) := s.1
      let t_2 : Int := s.2
      bif decide (t_2 < (List.length x.1 : Int)) then
        chk (decide ((0 : Int) ≤ t_2) && decide (t_2 < (List.length x.1 : Int))) (
          (trace_course_last (c, stripsQ c (c.2.2.2.length + 1))).bind fun (t_3 : (List Dtrace_section)) =>
          (trace_strip_has t_3 (lget 0 x.1 t_2)).bind fun (t_4 : Bool) =>
          (trace_unless t_4 6).bind fun (t_5 : Int) =>
          (bif (t_2 == 0) then some true else
            chk (decide ((0 : Int) ≤ (imax 0 (wi64 (t_2 - 1)))) && decide ((imax 0 (wi64 (t_2 - 1))) < (List.length x.1 : Int))) (
              some (decide ((lget 0 x.1 t_2) > (lget 0 x.1 (imax 0 (wi64 (t_2 - 1)))))))).bind fun (c_1 : Bool) =>
          (trace_unless c_1 9).bind fun (t_6 : Int) =>
          (trace_first [t_5, t_6]).bind fun (t_7 : Int) =>
          bif (t_7 != 0) then
            Option.map Sum.inr (Option.map Sum.inr (
              some ((c, stripsQ c (c.2.2.2.length + 1)), [], t_7)))
          else
            (trace_course_last (c, stripsQ c (c.2.2.2.length + 1))).bind fun (t_8 : (List Dtrace_section)) =>
            (trace_whole (lget 0 x.1 t_2)).bind fun (t_9 : Dtrace_ratio) =>
            (trace_strip_slabAt t_8 t_9).bind fun (t_10 : Dtrace_ratio) =>
            (app out [t_10]).bind fun (t_11 : List Dtrace_ratio) =>
            some (.inl (t_11, wi64 (t_2 + 1))))
      else
        some (.inr (.inl out))))
      (fun i hi hg => by
        have hm := hl _ (lget_mem (d := 0) hi)
        have hz : markE c x.1 i = 0 := by
          unfold markR at hg
          by_cases e : markE c x.1 i = 0
          · exact e
          · rw [if_neg e] at hg; cases hg
        obtain ⟨hoc, _⟩ := markE_zero hl hi hz
        obtain ⟨p, hp⟩ := hs.secs
        have a1 := tslabAt_ok hp hs.ne (show (0 : Rat) ≤ ((lget (0 : Int) x.1 (i : Int) : Int) : Rat) by rw [← Rat.intCast_zero, Rat.intCast_le_intCast]; exact hoc.1) hoc.2.1 (fun y hy => ⟨(hs.each y hy).1, (hs.each y hy).2.1, (hs.each y hy).2.2.2.1, (hs.each y hy).2.2.2.2.1⟩) (fit2_int (n := lget 0 x.1 (i : Int)) hm.1 hm.2) (by decide) (by omega) (by omega)
        simp only
        rw [dec_true (show (i : Int) < (x.1.length : Int) by omega), cond_true, chk_true (and_true' (dec_true (by omega)) rfl), hlastc, Option.bind_some, has_ok hs.ne (by omega) hfl.1 (by decide) hm.1 hm.2, Option.bind_some, unless_ok, Option.bind_some, hbody i hi, Option.bind_some, unless_ok, Option.bind_some, first_ok (by simp), Option.bind_some, hE1 i hi, hz, show ((0 : Int) != 0) = false from rfl, cond_false, Option.bind_some, whole_ok hm.1 hm.2, Option.bind_some, a1, Option.bind_some, app_ok (by unfold msL; rw [List.length_map, List.length_range, List.length_singleton]; omega), Option.bind_some, wi64_id (by omega) (by omega)]
        unfold msL
        rw [List.range_succ, List.map_append]
        rfl)
      (fun i hi r hg => by
        have hm := hl _ (lget_mem (d := 0) hi)
        obtain ⟨e, hge, rfl⟩ := Option.map_eq_some_iff.1 hg
        have hz : markE c x.1 i ≠ 0 ∧ e = markE c x.1 i := by
          unfold markR at hge
          by_cases q : markE c x.1 i = 0
          · rw [if_pos q] at hge; cases hge
          · rw [if_neg q] at hge; exact ⟨q, (Option.some.inj hge).symm⟩
        simp only
        rw [dec_true (show (i : Int) < (x.1.length : Int) by omega), cond_true, chk_true (and_true' (dec_true (by omega)) rfl), hlastc, Option.bind_some, has_ok hs.ne (by omega) hfl.1 (by decide) hm.1 hm.2, Option.bind_some, unless_ok, Option.bind_some, hbody i hi, Option.bind_some, unless_ok, Option.bind_some, first_ok (by simp), Option.bind_some, hE1 i hi, show (markE c x.1 i != 0) = true by rw [bne_iff_ne]; exact hz.1, cond_true, hz.2]
        rfl)
      (by
        simp only
        rw [dec_false (show ¬ (x.1.length : Int) < (x.1.length : Int) by omega), cond_false]) x.1.length 0 (by omega)
    have hcase : ∀ o : Option Int, findF (markR c x.1) 0 x.1.length = o → findF (fun i => (markR c x.1 i).map fun e => ((c, stripsQ c (c.2.2.2.length + 1)), ([] : List Dtrace_ratio), e)) 0 x.1.length = o.map fun e => ((c, stripsQ c (c.2.2.2.length + 1)), ([] : List Dtrace_ratio), e) := fun o ho => by
      rw [← ho]
      have key : ∀ m k, findF (fun i => (markR c x.1 i).map fun e => ((c, stripsQ c (c.2.2.2.length + 1)), ([] : List Dtrace_ratio), e)) k m = (findF (markR c x.1) k m).map fun e => ((c, stripsQ c (c.2.2.2.length + 1)), ([] : List Dtrace_ratio), e) := by
        intro m
        induction m with
        | zero => intro k; rfl
        | succ m ih =>
          intro k
          unfold findF
          cases markR c x.1 k with
          | none => exact ih (k + 1)
          | some r => rfl
      exact key _ _
    cases hf : findF (markR c x.1) 0 x.1.length with
    | none =>
      rw [hcase none hf] at hloop
      have hE : marksE c x = if 0 ≤ x.2 ∧ x.2 ≤ 1000 then 0 else 2 := by unfold marksE; rw [if_neg h20, hf]; rfl
      refine ⟨msL c x.1 x.1.length, Option.bind_eq_some_iff.2 ⟨_, hloop, ?_⟩, fun _ => rfl⟩
      simp only [Option.map_none]
      rw [within_ok, Option.bind_some, unless_ok, Option.bind_some, hE]
      simp only [decide_eq_true_eq]
    | some e =>
      rw [hcase (some e) hf] at hloop
      have hE : marksE c x = e := by unfold marksE; rw [if_neg h20, hf]; rfl
      refine ⟨[], Option.bind_eq_some_iff.2 ⟨_, hloop, ?_⟩, fun h => ?_⟩
      · rw [hE]; rfl
      · exfalso
        obtain ⟨i, _, _, hg, _⟩ := findF_some hf
        unfold markR at hg
        by_cases q : markE c x.1 i = 0
        · rw [if_pos q] at hg; cases hg
        · rw [if_neg q] at hg
          apply q
          rw [Option.some.inj hg, ← hE, h]
end Go.Lift
namespace Go.Lift
open Go
abbrev l0 : Dapi_TraceRoll := (ByteArray.empty, (0, 0))
def rollE (c : Dapi_TraceCourse) (t : Int) (r : Dapi_TraceRoll) : Int :=
  firstE [if nameB r.1 then 0 else 4, if 0 ≤ r.2.1 ∧ r.2.1 ≤ (c.2.2.2.length : Int) then 0 else 2, if 1 ≤ r.2.2 ∧ r.2.2 ≤ 1000000 then 0 else 2, if 6 * t < r.2.2 then 0 else 22]
theorem rollErr_ok {c : Dapi_TraceCourse} {strips : List (List Dtrace_section)} {r : Dapi_TraceRoll} {t : Int} (hs : r.1.size ≤ 9223372036854775807) (ht : 0 ≤ t ∧ t ≤ 1000) : trace_course_rollErr (c, strips) r t = some (rollE c t r) := by
  unfold trace_course_rollErr rollE
  rw [isName_ok hs, Option.bind_some, unless_ok, Option.bind_some, tstepsErr_ok, Option.bind_some, within_ok, Option.bind_some, unless_ok, Option.bind_some, unless_ok, Option.bind_some, first_ok (by simp), Option.bind_some, wi64_id (by omega) (by omega)]
  simp only [decide_eq_true_eq]
theorem rollE_zero {c : Dapi_TraceCourse} {t : Int} {r : Dapi_TraceRoll} (h : rollE c t r = 0) : (0 ≤ r.2.1 ∧ r.2.1 ≤ (c.2.2.2.length : Int)) ∧ (1 ≤ r.2.2 ∧ r.2.2 ≤ 1000000) := by
  unfold rollE at h
  obtain ⟨_, h⟩ := fE_zero h
  obtain ⟨h1, h⟩ := fE_zero h
  obtain ⟨h2, _⟩ := fE_zero h
  constructor
  · by_cases e : 0 ≤ r.2.1 ∧ r.2.1 ≤ (c.2.2.2.length : Int)
    · exact e
    · rw [if_neg e] at h1; cases h1
  · by_cases e : 1 ≤ r.2.2 ∧ r.2.2 ≤ 1000000
    · exact e
    · rw [if_neg e] at h2; cases h2
theorem loop_from {R : Type} {F : Int → Option (Int ⊕ (Unit ⊕ R))} {g : Nat → Option R} {n k0 : Nat} (h0 : ∀ i, k0 ≤ i → i < n → g i = none → F (i : Int) = some (.inl ((i + 1 : Nat) : Int)))
    (h1 : ∀ i, k0 ≤ i → i < n → ∀ r, g i = some r → F (i : Int) = some (.inr (.inr r))) (hend : F (n : Int) = some (.inr (.inl ()))) : ∀ (m k : Nat), k0 ≤ k → k + m = n → loopM F (k : Int) = some (outF (findF g k m))
  | 0, k, _, hk => by
    have : k = n := by omega
    subst this
    exact loopM_done hend
  | m + 1, k, h2, hk => by
    unfold findF
    cases hg : g k with
    | none =>
      rw [loopM_next (h0 k h2 (by omega) hg)]
      exact loop_from h0 h1 hend m (k + 1) (by omega) (by omega)
    | some r => exact loopM_done (h1 k h2 (by omega) r hg)
def two2 (i k : Int) : Nat → Int := aset (aset (fun _ => 0) 0 i) 1 k
def pairF (g : Nat → Nat → Bool) (n : Nat) : Option ((Nat → Int) × Bool) :=
  findF (fun i => findF (fun k => if g i k then some (two2 (i : Int) (k : Int), true) else none) (i + 1) (n - (i + 1))) 0 n
def pairO (g : Nat → Nat → Bool) (n : Nat) : (Nat → Int) × Bool := (pairF g n).getD ((fun _ => 0), false)
def clashM (c : Dapi_TraceCourse) (l : List Int) (r : Dapi_TraceRoll) (t : Int) (i k : Nat) : Bool := clashB (posQ c r.2.1.toNat (lget 0 l (i : Int))) (posQ c r.2.1.toNat (lget 0 l (k : Int))) r.2.2 t
theorem bif_t {b : Bool} {A : Type} {x y : A} (h : b = true) : (bif b then x else y) = x := by rw [h]; rfl
theorem pairF_in {R : Type} {f : ((Nat → Int) × Bool) → R} {g : Nat → Nat → Bool} {n i : Nat} : findF (fun k => (if g i k then some (f (two2 (i : Int) (k : Int), true)) else none)) (i + 1) (n - (i + 1)) = (findF (fun k => if g i k then some (two2 (i : Int) (k : Int), true) else none) (i + 1) (n - (i + 1))).map f := by
  have key : ∀ m k, findF (fun k => (if g i k then some (f (two2 (i : Int) (k : Int), true)) else none)) k m = (findF (fun k => if g i k then some (two2 (i : Int) (k : Int), true) else none) k m).map f := by
    intro m
    induction m with
    | zero => intro k; rfl
    | succ m ih =>
      intro k
      unfold findF
      cases hg : g i k with
      | false => exact ih (k + 1)
      | true => rfl
  exact key _ _
def MarksOk (c : Dapi_TraceCourse) (l : List Int) : Prop := (∀ i, i < l.length → OnCoil c (lget 0 l (i : Int))) ∧ ∀ i k, i < k → k < l.length → lget 0 l (i : Int) ≤ lget 0 l (k : Int)
theorem marksOk_of {c : Dapi_TraceCourse} {x : Dapi_TraceMarks} (hl : Ints64 x.1) (h : marksE c x = 0) : MarksOk c x.1 ∧ (0 ≤ x.2 ∧ x.2 ≤ 1000) ∧ x.1.length ≤ 20 := by
  unfold marksE at h
  by_cases h20 : 20 < x.1.length
  · rw [if_pos h20] at h; cases h
  rw [if_neg h20] at h
  have hf : findF (markR c x.1) 0 x.1.length = none := by
    cases hf : findF (markR c x.1) 0 x.1.length with
    | none => rfl
    | some e =>
      exfalso
      rw [hf] at h
      obtain ⟨i, _, _, hg, _⟩ := findF_some hf
      unfold markR at hg
      by_cases q : markE c x.1 i = 0
      · rw [if_pos q] at hg; cases hg
      · rw [if_neg q] at hg
        apply q
        rw [Option.some.inj hg]
        exact h
  have hz : ∀ i, i < x.1.length → markE c x.1 i = 0 := fun i hi => by
    have := findF_none.1 hf i (by omega) (by omega)
    unfold markR at this
    by_cases q : markE c x.1 i = 0
    · exact q
    · rw [if_neg q] at this; cases this
  rw [hf] at h
  refine ⟨⟨fun i hi => (markE_zero hl hi (hz i hi)).1, fun i k hik hk => ?_⟩, ?_, by omega⟩
  · have step : ∀ d, i + d < x.1.length → lget 0 x.1 (i : Int) ≤ lget 0 x.1 ((i + d : Nat) : Int) := by
      intro d
      induction d with
      | zero => intro _; exact Int.le_refl _
      | succ d ih =>
        intro hd
        rcases (markE_zero hl hd (hz _ hd)).2 with e | e
        · omega
        · have := ih (by omega)
          rw [show ((i + (d + 1) : Nat) : Int) - 1 = ((i + d : Nat) : Int) by omega] at e
          omega
    have := step (k - i) (by omega)
    rwa [show i + (k - i) = k by omega] at this
  · by_cases e : 0 ≤ x.2 ∧ x.2 ≤ 1000
    · exact e
    · rw [Option.getD_none, if_neg e] at h; cases h
theorem msL_len {c : Dapi_TraceCourse} {l : List Int} {n : Nat} : (msL c l n).length = n := by unfold msL; rw [List.length_map, List.length_range]
theorem msL_get {c : Dapi_TraceCourse} {l : List Int} {n i : Nat} (h : i < n) {d : Dtrace_ratio} : lget d (msL c l n) (i : Int) = ratioQ (slabM c (lget 0 l (i : Int))) := by
  unfold lget msL
  rw [Int.toNat_natCast, List.getD_eq_getElem?_getD, List.getElem?_map, List.getElem?_range h]
  rfl
theorem pair_ok {c : Dapi_TraceCourse} (hv : Valid c) {l : List Int} (hl : MarksOk c l) (h20 : l.length ≤ 20) {r : Dapi_TraceRoll} {t : Int} (ht : 0 ≤ t ∧ t ≤ 1000) (hr : rollE c t r = 0) :
    trace_course_pair (c, stripsQ c (c.2.2.2.length + 1)) (msL c l l.length) r t = some (pairO (clashM c l r t) l.length) := by
  obtain ⟨h1, h2⟩ := rollE_zero hr
  obtain ⟨k0, hk0⟩ : ∃ k : Nat, r.2.1 = (k : Int) := ⟨r.2.1.toNat, by omega⟩
  have hT : ∀ i k, i < k → k < l.length → trace_course_contradicts (c, stripsQ c (c.2.2.2.length + 1)) (ratioQ (slabM c (lget 0 l (i : Int)))) (ratioQ (slabM c (lget 0 l (k : Int)))) r t = some (clashM c l r t i k) := fun i k hik hk => by
    have := contradicts_ok hv (hl.1 i (by omega)) (hl.1 k hk) (hl.2 i k hik hk) hk0 (by omega) h2 ht
    unfold clashM
    rw [hk0, Int.toNat_natCast]
    exact this
  generalize hg : clashM c l r t = g at hT
  unfold trace_course_pair
  refine Option.bind_eq_some_iff.2 ⟨outF (pairF g l.length), ?_, by unfold pairO; cases pairF g l.length <;> rfl⟩
  unfold pairF
  have hin : ∀ i : Nat, i < l.length → loopM (S := Int) (R := (Unit) ⊕ ((Int) ⊕ ((Unit) ⊕ ((Nat → Int) × Bool)))) (fun k =>
        bif decide (k < (List.length (msL c l l.length) : Int)) then
          chk (decide ((0 : Int) ≤ (i : Int)) && decide ((i : Int) < (List.length (msL c l l.length) : Int))) (
            chk (decide ((0 : Int) ≤ k) && decide (k < (List.length (msL c l l.length) : Int))) (
              (trace_course_contradicts (c, stripsQ c (c.2.2.2.length + 1)) (lget (false, ([], [])) (msL c l l.length) (i : Int)) (lget (false, ([], [])) (msL c l l.length) k) r t).bind fun (t_1 : Bool) =>
              bif t_1 then
                let t_2 : (Nat → Int) := aset (aset (fun _ => 0) 0 (i : Int)) 1 k
                Option.map Sum.inr (Option.map Sum.inr (
                  Option.map Sum.inr (Option.map Sum.inr (
                    some (t_2, true)))))
              else
                some (.inl (wi64 (k + 1)))))
        else
          some (.inr (.inl ()))) (wi64 ((i : Int) + 1)) = some (outF ((findF (fun k => if g i k then some (two2 (i : Int) (k : Int), true) else none) (i + 1) (l.length - (i + 1))).map fun p => .inr (.inr p))) := by
    intro i hi
    rw [wi64_id (x := (i : Int) + 1) (by omega) (by omega), show (i : Int) + 1 = ((i + 1 : Nat) : Int) by omega]
    rw [← pairF_in (f := fun p => (.inr (.inr p) : (Int) ⊕ ((Unit) ⊕ ((Nat → Int) × Bool))))]
    refine loop_from (k0 := i + 1) (n := l.length) (fun k hik hk hgk => ?_) (fun k hik hk q hgk => ?_) ?_ _ (i + 1) (Nat.le_refl _) (by omega)
    · have hb : g i k = false := by
        cases hb : g i k with
        | false => rfl
        | true => rw [hb] at hgk; cases hgk
      simp only
      rw [msL_len, dec_true (show (k : Int) < (l.length : Int) by omega), cond_true, chk_idx (by omega), chk_true (and_true' (dec_true (by omega)) rfl), msL_get (by omega), msL_get hk, hT i k (by omega) hk, hb, Option.bind_some, cond_false, wi64_id (by omega) (by omega)]
      rfl
    · have hb : g i k = true ∧ q = .inr (.inr (two2 (i : Int) (k : Int), true)) := by
        cases hb : g i k with
        | false => rw [hb] at hgk; cases hgk
        | true => rw [hb] at hgk; exact ⟨rfl, (Option.some.inj hgk).symm⟩
      simp only
      rw [msL_len, dec_true (show (k : Int) < (l.length : Int) by omega), cond_true, chk_idx (by omega), chk_true (and_true' (dec_true (by omega)) rfl), msL_get (by omega), msL_get hk, hT i k (by omega) hk, hb.1, Option.bind_some, cond_true, hb.2]
      rfl
    · simp only
      rw [msL_len, dec_false (show ¬ (l.length : Int) < (l.length : Int) by omega), cond_false]
  refine loop_find (n := l.length) (fun i hi hgi => ?_) (fun i hi q hgi => ?_) ?_ _ 0 (by omega)
  · simp only
    refine (bif_t (dec_true (show (i : Int) < ((msL c l l.length).length : Int) by rw [msL_len]; omega))).trans ?_
    rw [hin i hi, hgi]
    simp only [Option.map_none, outF, Option.bind_some]
    rw [wi64_id (by omega) (by omega)]
    rfl
  · simp only
    refine (bif_t (dec_true (show (i : Int) < ((msL c l l.length).length : Int) by rw [msL_len]; omega))).trans ?_
    rw [hin i hi, hgi]
    rfl
  · simp only
    rw [msL_len, dec_false (show ¬ (l.length : Int) < (l.length : Int) by omega), cond_false]
end Go.Lift
