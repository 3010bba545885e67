/-
  The law of volumes holds of the plain functions.
-/
import Derived.Test.YtfihcmhknhbndaaGreatDoorPlainH
import Derived.Test.YtfihcmhknhbndaaGreatDoorLawCo
set_option linter.unusedSectionVars false
set_option linter.unusedVariables false
set_option linter.unusedSimpArgs false
namespace Go.Lift
open Go

theorem area_pos {x : Sec} (hx : SecOk x) : (0 : Rat) < (x.area : Rat) := int_pos hx.area1
theorem vol_pos {x : Sec} (hx : SecOk x) : 0 ≤ (x.v - x.u) * (x.area : Rat) := by
  have h := mul_pos_le (a := 0) (b := x.v - x.u) (area_pos hx) (by have := hx.uv; grind)
  rwa [Rat.zero_mul] at h
theorem volS_cut : ∀ {l : List Sec} {lo hi : Rat}, (∀ x, x ∈ l → SecOk x) → volS (cutS lo hi l) ≤ volS l
  | [], _, _, _ => Rat.le_refl
  | x :: l, lo, hi, h => by
    have ih := volS_cut (l := l) (lo := lo) (hi := hi) fun y hy => h y (List.mem_cons_of_mem _ hy)
    have hx := h x List.mem_cons_self
    have h0 := vol_pos hx
    rw [cutS_cons]
    by_cases hcut : (if x.u < lo then lo else x.u) < (if hi < x.v then hi else x.v)
    · rw [if_pos hcut]
      show ((if hi < x.v then hi else x.v) - lo - ((if x.u < lo then lo else x.u) - lo)) * (x.area : Rat) + volS (cutS lo hi l) ≤ (x.v - x.u) * (x.area : Rat) + volS l
      have := mul_pos_le (a := (if hi < x.v then hi else x.v) - lo - ((if x.u < lo then lo else x.u) - lo)) (b := x.v - x.u) (area_pos hx) (by split <;> split <;> grind)
      grind
    · rw [if_neg hcut]
      show volS (cutS lo hi l) ≤ (x.v - x.u) * (x.area : Rat) + volS l
      grind
theorem roll_vol {d : Rat} {a n : Int} {t : Rat} (hn : 1 ≤ n) : (t + d * ((a : Rat) / (n : Rat)) - t) * (n : Rat) = d * (a : Rat) := by
  have := int_pos hn
  grind
theorem volS_rolled : ∀ {l : List Sec} {m : List Int} {t : Rat}, l.length = m.length → (∀ n, n ∈ m → 1 ≤ n ∧ n ≤ 1000) → volS (rolledS t l m) = volS l
  | [], [], _, _, _ => rfl
  | [], _ :: _, _, h, _ => by cases h
  | _ :: _, [], _, h, _ => by cases h
  | x :: l, n :: m, t, h, hm => by
    show (t + (x.v - x.u) * ((x.area : Rat) / (n : Rat)) - t) * (n : Rat) + volS (rolledS _ l m) = (x.v - x.u) * (x.area : Rat) + volS l
    rw [roll_vol (hm n List.mem_cons_self).1, volS_rolled (by simpa using h) fun k hk => hm k (List.mem_cons_of_mem _ hk)]
theorem volS_step {l out : List Sec} {x : Dapi_TraceStep} (h : StepRel l x out) (hl : ∀ y, y ∈ l → SecOk y) : volS out ≤ volS l := by
  rcases h with ⟨_, rfl, h1, h2⟩ | ⟨_, rfl, _⟩
  · rw [volS_rolled h1 h2]; exact Rat.le_refl
  · exact volS_cut hl

theorem secF_len {S : Nat} {l : List Sec} (hs : StripOk S l) {x : Sec} (hx : x ∈ l) : secF x = (fq (x.v - x.u), x.area) := by
  unfold secF
  rw [fracQ_fq (hs.fit x hx).l]

theorem volume_ok {S : Nat} {l : List Sec} (hs : StripOk S l) {x : Sec} (hx : x ∈ l) : cobblelaw09_volume (secF x) = some (ratioW ((x.v - x.u) * (x.area : Rat))) ∧ FitT 4 ((x.v - x.u) * (x.area : Rat)) := by
  obtain ⟨hk, _, _, _, _, ht⟩ := hs.each x hx
  have h1 := hk.area1
  have h2 := hk.area2
  obtain ⟨m1, m2⟩ := RatioMul_ok ht.l (fitT_int (n := x.area) (by omega) (by omega)) (by decide)
  unfold cobblelaw09_volume
  rw [secF_len hs hx]
  simp only
  rw [RatioFrom_fq (hs.fit x hx).l, Option.bind_some, RatioInt_ok (by omega) (by omega), Option.bind_some, m1, Option.bind_some]
  exact ⟨rfl, m2⟩

theorem add_vol {q : Rat} {x : Sec} {l : List Sec} : q + (x.v - x.u) * (x.area : Rat) + volS l = q + volS (x :: l) := by
  show _ = q + ((x.v - x.u) * (x.area : Rat) + volS l)
  rw [Rat.add_assoc]

/-- The volume before a step. -/
theorem was_loop {S : Nat} {l : List Sec} (hs : StripOk S l) :
    loopM (S := Int × Dcobblebase_Ratio) (R := Dcobblebase_Ratio) (fun s_2 =>
                  let i_1 : Int := s_2.1
                  let was : Dcobblebase_Ratio := s_2.2
                  bif decide (i_1 < (List.length (l.map secF) : Int)) then
                    chk (decide ((0 : Int) ≤ i_1) && decide (i_1 < (List.length (l.map secF) : Int))) (
                      (cobblelaw09_volume (lget ((0, 0), 0) (l.map secF) i_1)).bind fun (t_19 : Dcobblebase_Ratio) =>
                      (cobblebase_RatioAdd was t_19).bind fun (t_20 : Dcobblebase_Ratio) =>
                      some (.inl (wi64 (i_1 + 1), t_20)))
                  else
                    some (.inr was)) (0, ratioW 0) = some (ratioW (volS l)) := by
  have h6 := hs.len
  refine loopM_list_eq (X := Sec) (l := l) (fun l' s => ∃ pre q, l = pre ++ l' ∧ s = ((pre.length : Int), ratioW q) ∧ q + volS l' = volS l ∧ FitT (5 * pre.length + 1) q) ?_ ?_ ⟨[], 0, rfl, rfl, by rw [Rat.zero_add], fitT_zero.mono (by decide)⟩
  · rintro x l' s ⟨pre, q, e1, rfl, e2, e3⟩
    left
    have hL : l.length = pre.length + (l'.length + 1) := by rw [e1, List.length_append, List.length_cons]
    obtain ⟨v1, v2⟩ := volume_ok hs (x := x) (by rw [e1]; simp)
    obtain ⟨m2, f3⟩ := RatioAdd_ok e3 v2 (by omega)
    have g1 : ∀ d, lget d (l.map secF) (pre.length : Int) = secF x := fun d => by rw [e1]; exact lget_map
    simp only
    rw [List.length_map, dec_true (show (pre.length : Int) < (l.length : Int) by omega), cond_true, chk_true (and_true' (dec_true (by omega)) rfl), g1, v1, Option.bind_some, m2, Option.bind_some, wi64_id (by omega) (by omega)]
    exact ⟨_, rfl, pre ++ [x], _, by rw [e1]; simp, by rw [List.length_append, List.length_singleton]; rfl, by rw [add_vol, e2], f3.mono (by rw [List.length_append, List.length_singleton]; omega)⟩
  · rintro s ⟨pre, q, e1, rfl, e2, e3⟩
    have hL : l.length = pre.length := by rw [e1, List.append_nil]
    simp only
    rw [List.length_map, dec_false (show ¬ (pre.length : Int) < (l.length : Int) by omega), cond_false, ← e2, show volS [] = 0 from rfl, Rat.add_zero]

theorem volS_fit {S : Nat} {l : List Sec} (hs : StripOk S l) : FitT 100 (volS l) := (Volume_ok hs).2

def befS (c : Dapi_TraceCourse) : Nat → Dapi_TraceStrip
  | 0 => []
  | k + 1 => (stS c k).map secF

theorem TraceVolumes_ok {c : Dapi_TraceCourse} (hawake : cobblelaw09_awake = some true) (hc : okv Tapi_TraceCourse c) : cobblelaw09_TraceVolumes c = some true := by
  unfold cobblelaw09_TraceVolumes
  rw [hawake, Option.bind_some, Bool.not_true, cond_false]
  obtain ⟨b, hb, hb2⟩ := Few_ok (c := c)
  rw [hb, Option.bind_some]
  cases b with
  | false => rfl
  | true =>
    obtain ⟨h1, h2, h3, h5, h4⟩ := hb2 rfl
    have hin := courseIn_of hc h1 h2 h3 h5 h4
    obtain ⟨e, i, strips, o1, o2, o3⟩ := open_ok hin
    have hce : cobbleref09_CourseErr c = some e := by
      unfold cobbleref09_CourseErr
      rw [o2, Option.bind_some]
    rw [Bool.not_true, cond_false, hce, Option.bind_some, Option.bind_some]
    by_cases he : e = 0
    · subst he
      obtain ⟨rfl, rfl, hv⟩ := o3 rfl
      have hst := hv.steps
      rw [show ((0 : Int) != 0) = false from rfl, cond_false]
      refine Option.bind_eq_some_iff.2 ⟨.inl (), ?_, rfl⟩
      refine loopM_count (fun k => ((k : Int), befS c k)) (c.2.2.2.length + 1) (fun k hk => ?_) ?_
      · have hk' : k ≤ c.2.2.2.length := by omega
        have hs := hv.strip k hk'
        have h6 := hs.len
        have hne : (stS c k).length ≠ 0 := fun e => hs.ne (List.length_eq_zero_iff.1 e)
        obtain ⟨p, hp⟩ := hs.secs
        simp only
        rw [dec_true (show (k : Int) ≤ (c.2.2.2.length : Int) by omega), cond_true, CopyCourse_ok h1 h2 h3 h4, Option.bind_some, StripAfter_ok hv o1 hk', Option.bind_some, Option.bind_some, LengthAfter_ok hv o1 hk', Option.bind_some, fracE_fq hs.last]
        simp only
        rw [show ((0 : Int) != 0) = false from rfl, List.length_map, show (((stS c k).length : Int) == 0) = false by rw [beq_eq_false_iff_ne]; omega, dec_false (show ¬ ((stS c k).length : Int) > 6 by omega), Bool.or_false, Bool.or_false, Bool.or_false, cond_false, fq_low hs.last, Option.bind_some, Option.bind_some, Bool.not_true, cond_false, fq_small hs.last, Option.bind_some, Option.bind_some, Bool.not_true, cond_false, RInt0, Option.bind_some, Option.bind_some, Option.bind_some]
        refine Option.bind_eq_some_iff.2 ⟨.inl (ratioW (lastV 0 (stS c k)), ratioW (volS (stS c k))), ?_, ?_⟩
        · refine loopM_list_eq (X := Sec) (l := stS c k) (fun l' s => ∃ pre p' q z, stS c k = pre ++ l' ∧ s = ((pre.length : Int), ratioW q, ratioW z) ∧ Secs p' q l' ∧ FitT 3 q ∧ lastV q l' = lastV 0 (stS c k) ∧ z + volS l' = volS (stS c k) ∧ FitT (5 * pre.length + 1) z) ?_ ?_ ⟨[], p, 0, 0, rfl, rfl, hp, fitT_zero.mono (by decide), rfl, by rw [Rat.zero_add], fitT_zero.mono (by decide)⟩
          · rintro x l' s ⟨pre, p', q, z, e1, rfl, ⟨c1, c2, c3, c4⟩, hq, e2, e3, e4⟩
            left
            have hL : (stS c k).length = pre.length + (l'.length + 1) := by rw [e1, List.length_append, List.length_cons]
            have hmem : x ∈ stS c k := by rw [e1]; simp
            obtain ⟨hx, _, _, _, _, ht⟩ := hs.each x hmem
            have hsm := (hs.fit x hmem).l
            obtain ⟨v1, v2⟩ := volume_ok hs hmem
            obtain ⟨m2, f3⟩ := RatioAdd_ok e4 v2 (by omega)
            have g1 : ∀ d, lget d ((stS c k).map secF) (pre.length : Int) = secF x := fun d => by rw [e1]; exact lget_map
            have hfx := secF_len hs hmem
            have hpos : ¬ (fq (x.v - x.u)).1 ≤ 0 := fun e => by have := fq_pos.1 e; have := hx.uv; grind
            simp only
            rw [dec_true (show (pre.length : Int) < ((stS c k).length : Int) by omega), cond_true, chk_true (and_true' (dec_true (by omega)) rfl), g1, v1, hfx]
            simp only
            rw [fq_low hsm, Option.bind_some, Bool.not_true, cond_false, fq_small hsm, Option.bind_some, Option.bind_some, Bool.not_true, Bool.false_or, dec_false hpos, cond_false, Within_ok, Option.bind_some, Option.bind_some, dec_true (show (1 : Int) ≤ x.area ∧ x.area ≤ 1000 from ⟨hx.area1, hx.area2⟩), Bool.not_true, cond_false, RatioFrom_fq hsm, Option.bind_some, (RatioAdd_ok hq ht.l (by decide)).1, Option.bind_some, Option.bind_some, m2, Option.bind_some, wi64_id (by omega) (by omega), show q + (x.v - x.u) = x.v by grind]
            exact ⟨_, rfl, pre ++ [x], _, _, _, by rw [e1]; simp, by rw [List.length_append, List.length_singleton]; rfl, c4, ht.v.mono (by decide), e2, by rw [add_vol, e3], f3.mono (by rw [List.length_append, List.length_singleton]; omega)⟩
          · rintro s ⟨pre, p', q, z, e1, rfl, _, hq, e2, e3, e4⟩
            have hL : (stS c k).length = pre.length := by rw [e1, List.append_nil]
            simp only
            rw [dec_false (show ¬ (pre.length : Int) < ((stS c k).length : Int) by omega), cond_false, ← e2, ← e3, show volS [] = 0 from rfl, Rat.add_zero]
            rfl
        · simp only
          rw [RatioFrom_fq hs.last, Option.bind_some, RatioCmp_ok (fit_small hs.last).2 (fit_small hs.last).2 (by decide), if_pos rfl, Option.bind_some, show ((0 : Int) != 0) = false from rfl, cond_false]
          cases k with
          | zero =>
            rw [loopM_done (r := ratioW 0) (by rfl), Option.bind_some, dec_false (show ¬ (((0 : Nat) : Int) > 0) by decide), cond_false, Option.bind_some, cond_false, Option.bind_some]
            simp only
            rw [cond_false, Option.bind_some, cond_false, app_ok (by rw [List.length_nil, List.length_map]; omega), Option.bind_some, List.nil_append, wi64_id (by omega) (by omega)]
            rfl
          | succ j =>
            have hj : j ≤ c.2.2.2.length := by omega
            have hsj := hv.strip j hj
            have h6j := hsj.len
            have hrel := hv.rel j (by omega)
            have hw : wi64 (((j + 1 : Nat) : Int) - 1) = (j : Int) := by rw [wi64_id (by omega) (by omega)]; omega
            rw [show befS c (j + 1) = (stS c j).map secF from rfl, was_loop hsj, Option.bind_some, dec_true (show ((j + 1 : Nat) : Int) > 0 by omega), cond_true, hw, chk_true (and_true' (dec_true (by omega)) (dec_true (by omega))), lget_step, Option.bind_some]
            have fin : ∀ z : Option (Unit ⊕ ((Int × Dapi_TraceStrip) ⊕ (Unit ⊕ Bool))), z = some (.inl ()) → (z.bind fun x => match x with
                  | Sum.inl _ => (bif true then (cobblebase_RatioCmp (ratioW (volS (stS c (j + 1)))) (ratioW (volS (stS c j)))).bind fun t_24 => some (decide (t_24 > 0)) else some false).bind fun c_8 =>
                      bif c_8 then Option.map Sum.inr (Option.map Sum.inr (some false)) else (app [] ((stS c (j + 1)).map secF)).bind fun t_25 => some (Sum.inl (wi64 (((j + 1 : Nat) : Int) + 1), t_25))
                  | Sum.inr r => some r) = some (Sum.inl (((j + 1 + 1 : Nat) : Int), befS c (j + 1 + 1))) := by
              rintro z rfl
              rw [Option.bind_some]
              simp only
              have hle := volS_step hrel fun y hy => (hsj.each y hy).1
              rw [cond_true, RatioCmp_ok (volS_fit hs) (volS_fit hsj) (by decide), Option.bind_some, dec_false (show ¬ _ from fun e => by have := cmp_gt.1 e; grind), Option.bind_some, cond_false, app_ok (by rw [List.length_nil, List.length_map]; omega), Option.bind_some, List.nil_append, wi64_id (by omega) (by omega)]
              rfl
            refine fin _ ?_
            rcases hrel with ⟨r1, r2, r3, r4⟩ | ⟨r1, _⟩
            · have hrl : (rolledS 0 (stS c j) (stepAt c j).2.1).length = (stS c j).length := rolled_len r3
              rw [r1, show ((0 : Int) == 0) = true from rfl, cond_true, List.length_map, r2, hrl, show (((stS c j).length : Int) != ((stS c j).length : Int)) = false by simp, cond_false]
              refine Option.bind_eq_some_iff.2 ⟨.inl (), ?_, rfl⟩
              refine loopM_list_eq (X := Sec) (l := stS c j) (fun l' s => ∃ pre preM m' preO t, stS c j = pre ++ l' ∧ (stepAt c j).2.1 = preM ++ m' ∧ rolledS 0 (stS c j) (stepAt c j).2.1 = preO ++ rolledS t l' m' ∧ pre.length = preM.length ∧ pre.length = preO.length ∧ l'.length = m'.length ∧ s = (pre.length : Int)) ?_ ?_ ⟨[], [], (stepAt c j).2.1, [], 0, rfl, rfl, rfl, rfl, rfl, r3, rfl⟩
              · rintro x l' s ⟨pre, preM, m', preO, t, e1, e2, e3, e4, e5, e6, rfl⟩
                left
                cases m' with
                | nil => simp at e6
                | cons n m' =>
                  have hL : (stS c j).length = pre.length + (l'.length + 1) := by rw [e1, List.length_append, List.length_cons]
                  have hM : (stepAt c j).2.1.length = pre.length + (m'.length + 1) := by rw [e2, List.length_append, List.length_cons, e4]
                  have hn := r4 n (by rw [e2]; simp)
                  rw [show rolledS t (x :: l') (n :: m') = ⟨x.a, x.b, t, t + (x.v - x.u) * ((x.area : Rat) / (n : Rat)), x.old, n⟩ :: rolledS (t + (x.v - x.u) * ((x.area : Rat) / (n : Rat))) l' m' from rfl] at e3
                  obtain ⟨y, hy⟩ : ∃ y : Sec, y = ⟨x.a, x.b, t, t + (x.v - x.u) * ((x.area : Rat) / (n : Rat)), x.old, n⟩ := ⟨_, rfl⟩
                  rw [← hy] at e3
                  have hyv : (y.v - y.u) * (y.area : Rat) = (x.v - x.u) * (x.area : Rat) := by rw [hy]; exact roll_vol hn.1
                  have hya : y.area = n := by rw [hy]
                  have hxm : x ∈ stS c j := by rw [e1]; simp
                  have hym : y ∈ stS c (j + 1) := by rw [r2, e3]; simp
                  obtain ⟨v1, v2⟩ := volume_ok hsj hxm
                  obtain ⟨v3, v4⟩ := volume_ok hs hym
                  have g1 : ∀ d, lget d ((stS c j).map secF) (pre.length : Int) = secF x := fun d => by rw [e1]; exact lget_map
                  have g2 : ∀ d, lget d ((rolledS 0 (stS c j) (stepAt c j).2.1).map secF) (pre.length : Int) = secF y := fun d => by rw [e3, e5]; exact lget_map
                  have g3 : ∀ d, lget d (stepAt c j).2.1 (pre.length : Int) = n := fun d => by rw [e2, e4]; exact lget_mid
                  rw [dec_true (show (pre.length : Int) < ((stS c j).length : Int) by omega), cond_true, chk_true (and_true' (dec_true (by omega)) rfl), g1, v1, Option.bind_some, chk_true (and_true' (dec_true (by omega)) rfl), g2, v3, hyv, Option.bind_some, RatioCmp_ok v2 v2 (by decide), if_pos rfl, Option.bind_some, show ((0 : Int) != 0) = false from rfl, cond_false, chk_true (and_true' (dec_true (by omega)) rfl), chk_true (and_true' (dec_true (by omega)) (dec_true (by omega))), chk_true (and_true' (dec_true (by omega)) (dec_true (by omega))), g3, show (secF y).2 = n from hya, show (n != n) = false by simp, Option.bind_some, cond_false, wi64_id (by omega) (by omega)]
                  exact ⟨_, rfl, pre ++ [x], preM ++ [n], m', preO ++ [y], t + (x.v - x.u) * ((x.area : Rat) / (n : Rat)), by rw [e1]; simp, by rw [e2]; simp, by rw [e3]; simp, by simp [e4], by simp [e5], by simpa using e6, by rw [List.length_append, List.length_singleton]; rfl⟩
              · rintro s ⟨pre, preM, m', preO, t, e1, e2, e3, e4, e5, e6, rfl⟩
                have hL : (stS c j).length = pre.length := by rw [e1, List.append_nil]
                rw [dec_false (show ¬ (pre.length : Int) < ((stS c j).length : Int) by omega), cond_false]
            · rw [r1, show ((1 : Int) == 0) = false from rfl, cond_false]
      · simp only
        rw [dec_false (show ¬ ((c.2.2.2.length + 1 : Nat) : Int) ≤ (c.2.2.2.length : Int) by omega), cond_false]
    · rw [show (e != 0) = true by rw [bne_iff_ne]; exact he, cond_true]
end Go.Lift
