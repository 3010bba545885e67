/-
  The pieces of a coil, one by one.
-/
import Derived.Test.YteobfadhflofpaaGreatPlainE
import Derived.Test.YteobfadhflofpaaGreatPlainH
import Derived.Test.YteobfadhflofpaaGreatPlainG
import Derived.Test.YteobfadhflofpaaGreatFunEv
set_option linter.unusedSectionVars false
set_option linter.unusedVariables false
set_option linter.unusedSimpArgs false
namespace Go.Lift
open Go
end Go.Lift
namespace Go.Lift
open Go
def cst (a : Nat) : Rat := ((a : Int) : Rat)
theorem cst_le {a b : Nat} : cst a ≤ cst b ↔ a ≤ b := by unfold cst; rw [Rat.intCast_le_intCast]; omega
theorem cst_lt {a b : Nat} : cst a < cst b ↔ a < b := by unfold cst; rw [Rat.intCast_lt_intCast]; omega
theorem cst_nonneg (a : Nat) : 0 ≤ cst a := by unfold cst; rw [← Rat.intCast_zero, Rat.intCast_le_intCast]; omega
theorem cst_zero : cst 0 = 0 := Rat.intCast_zero
def endS (c : Dapi_TraceCourse) : List Sec := stS c c.2.2.2.length
def endM (c : Dapi_TraceCourse) : Rat := lastV 0 (endS c)
def endA (c : Dapi_TraceCourse) (q : Rat) : Rat := slabAtS (endS c) q
theorem A_ok {c : Dapi_TraceCourse} (hv : Valid c) {q : Rat} (h0 : 0 ≤ q) (h1 : q ≤ endM c) (f1 : Fit 1 q) :
    trace_strip_slabAt ((endS c).map secQ) (ratioQ q) = some (ratioQ (endA c q)) ∧ Fit 100 (endA c q) := by
  have h10 := hv.steps
  have hs := hv.strip c.2.2.2.length (Nat.le_refl _)
  obtain ⟨p, hp⟩ := hs.secs
  have hs6 := hs.len
  have a1 := tslabAt_ok hp hs.ne h0 h1 (fun x hx => ⟨(hs.each x hx).1, (hs.each x hx).2.1, (hs.each x hx).2.2.2.1, (hs.each x hx).2.2.2.2.1⟩) f1 (by decide) (by omega) (by omega)
  have a2 := slabAtS_fit (fun x hx => ⟨(hs.each x hx).1, (hs.each x hx).2.1, (hs.each x hx).2.2.2.1⟩) f1 (show 1 + 5 * c.2.2.2.length + 1 ≤ 1000 by omega)
  exact ⟨a1, a2.mono (by omega)⟩
theorem A_mono {c : Dapi_TraceCourse} (hv : Valid c) {q q' : Rat} (h0 : 0 ≤ q) (h1 : q ≤ endM c) (h0' : 0 ≤ q') (h1' : q' ≤ endM c) : endA c q ≤ endA c q' ↔ q ≤ q' := by
  have hs := hv.strip c.2.2.2.length (Nat.le_refl _)
  obtain ⟨p, hp⟩ := hs.secs
  exact on_mono hp (slabAt_on hp hs.ne h0 h1) (slabAt_on hp hs.ne h0' h1')
def pcEnd (M : Rat) (n k : Nat) : Rat := if M < cst ((k + 1) * n) then M else cst ((k + 1) * n)
def PcOk (c : Dapi_TraceCourse) (n k : Nat) (x : Dapi_Span) : Prop :=
  cst (k * n) < endM c ∧ smallQ (endA c (cst (k * n))) = true ∧ smallQ (endA c (pcEnd (endM c) n k)) = true ∧ x = (fq (endA c (cst (k * n))), fq (endA c (pcEnd (endM c) n k)))
def Pcs (c : Dapi_TraceCourse) (n : Nat) (L : List Dapi_Span) : Prop := ∀ i x, L[i]? = some x → PcOk c n i x
theorem endM_small {c : Dapi_TraceCourse} (hv : Valid c) : smallQ (endM c) = true := (hv.strip c.2.2.2.length (Nat.le_refl _)).last
theorem endM_nonneg {c : Dapi_TraceCourse} (hv : Valid c) : 0 ≤ endM c := by
  obtain ⟨p, hp⟩ := (hv.strip c.2.2.2.length (Nat.le_refl _)).secs
  exact last_ge hp
theorem endM_pos {c : Dapi_TraceCourse} (hv : Valid c) : 0 < endM c := by
  have hs := hv.strip c.2.2.2.length (Nat.le_refl _)
  obtain ⟨p, hp⟩ := hs.secs
  unfold endM endS
  have hne := hs.ne
  match hl : stS c c.2.2.2.length, hp with
  | [], _ => exact absurd hl hne
  | x :: l, ⟨_, h2, hx, hc⟩ =>
    have h3 : x.v ≤ lastV x.v l := last_ge hc
    have h4 := hx.uv
    show 0 < lastV x.v l
    grind
theorem pcEnd_le {M : Rat} {n k : Nat} : pcEnd M n k ≤ M := by
  unfold pcEnd
  split
  · exact Rat.le_refl
  · grind
theorem pcEnd_gt {M : Rat} {n k : Nat} (hn : 1 ≤ n) (h : cst (k * n) < M) : cst (k * n) < pcEnd M n k := by
  unfold pcEnd
  split
  · exact h
  · rw [cst_lt, Nat.add_mul, Nat.one_mul]; omega
theorem pcEnd_fit {c : Dapi_TraceCourse} (hv : Valid c) {n k : Nat} (h : (k + 1) * n ≤ 100000000) : Fit 1 (pcEnd (endM c) n k) := by
  unfold pcEnd
  split
  · exact (fit_small (endM_small hv)).1
  · exact fit_whole (by omega) (by omega)
theorem pcs_loop {c : Dapi_TraceCourse} (hv : Valid c) {n : Nat} (hn1 : 1 ≤ n) (hn2 : n ≤ 1000000) (hlast : endM c ≤ cst (50 * n)) : ∀ (d k : Nat) (out : List Dapi_Span), k + d = 51 → out.length = k → Pcs c n out →
    ∃ (L : List Dapi_Span) (e : Int), ((e = 8 ∧ L = []) ∨ (e = 0 ∧ Pcs c n L ∧ L.length ≤ 51 ∧ endM c ≤ cst (L.length * n))) ∧
    ((loopM (S := (List Dapi_Span) × Int) (R := ((List Dapi_Span)) ⊕ ((List Dapi_Span) × Int)) (fun s =>
        let out : (List Dapi_Span) := s.1
        let at_ : Int := s.2
        (trace_whole at_).bind fun (t_7 : Dtrace_ratio) =>
        (trace_strip_length ((endS c).map secQ)).bind fun (t_8 : Dtrace_ratio) =>
        (trace_ratio_cmp t_7 t_8).bind fun (t_9 : Int) =>
        bif decide (t_9 < 0) then
          (trace_whole (wi64 (at_ + (n : Int)))).bind fun (t_10 : Dtrace_ratio) =>
          (trace_strip_length ((endS c).map secQ)).bind fun (t_11 : Dtrace_ratio) =>
          (trace_ratio_cmp t_10 t_11).bind fun (t_12 : Int) =>
          (bif decide (t_12 > 0) then
            (trace_strip_length ((endS c).map secQ)).bind fun (t_13 : Dtrace_ratio) =>
            some t_13
          else
            some t_10).bind fun (end_ : Dtrace_ratio) =>
          (trace_whole at_).bind fun (t_14 : Dtrace_ratio) =>
          (trace_strip_slabAt ((endS c).map secQ) t_14).bind fun (t_15 : Dtrace_ratio) =>
          (trace_small t_15).bind fun (r_1 : Dapi_Frac × Int) =>
          (trace_strip_slabAt ((endS c).map secQ) end_).bind fun (t_16 : Dtrace_ratio) =>
          (trace_small t_16).bind fun (r_2 : Dapi_Frac × Int) =>
          (trace_first [r_1.2, r_2.2]).bind fun (t_17 : Int) =>
          bif (t_17 != 0) then
            Option.map Sum.inr (Option.map Sum.inr (
              some ([], t_17)))
          else
            (app out [(r_1.1, r_2.1)]).bind fun (t_18 : List Dapi_Span) =>
            let at__1 : Int := wi64 (at_ + (n : Int))
            some (.inl (t_18, at__1))
        else
          some (.inr (.inl out))) (out, ((k * n : Nat) : Int))).bind fun j => match j with
      | .inl out_1 => (
        some (out_1, 0))
      | .inr r => some r) = some (L, e) := by
  have hs := hv.strip c.2.2.2.length (Nat.le_refl _)
  have hs6 := hs.len
  have hl0 : 0 ≤ endM c := endM_nonneg hv
  have hfl := fit_small (endM_small hv)
  have tlen : trace_strip_length ((endS c).map secQ) = some (ratioQ (endM c)) := strip_length_ok hs.ne (show (stS c c.2.2.2.length).length ≤ 100 by omega)
  intro d
  induction d with
  | zero =>
    intro k out hk hout hpc
    have hge : 50 * n ≤ k * n := Nat.mul_le_mul_right _ (by omega)
    have hM : endM c ≤ cst (k * n) := Rat.le_trans hlast (cst_le.2 hge)
    refine ⟨out, 0, .inr ⟨rfl, hpc, by omega, by rw [hout]; exact hM⟩, ?_⟩
    rw [loopM_done (r := .inl out)]
    · rfl
    · have hkn : k * n ≤ 51 * n := Nat.mul_le_mul_right _ (by omega)
      unfold cst at hM
      simp only
      generalize k * n = a at *
      rw [whole_ok (by omega) (by omega), Option.bind_some, tlen, Option.bind_some, rcmp_ok (fit_whole (by omega) (by omega)) hfl.1 (by decide), Option.bind_some]
      rw [dec_false (mt cmp_lt.1 (by grind)), cond_false]
  | succ d ih =>
    intro k out hk hout hpc
    have hkn : k * n ≤ 50 * n := Nat.mul_le_mul_right _ (by omega)
    have hk1 : (k + 1) * n = k * n + n := by rw [Nat.add_mul, Nat.one_mul]
    have ihk := fun out' h h' => ih (k + 1) out' (by omega) h h'
    rw [hk1] at ihk
    obtain ⟨a, ha⟩ : ∃ a, a = k * n := ⟨_, rfl⟩
    rw [← ha] at ihk hkn ⊢
    have t1 : trace_whole (a : Int) = some (ratioQ (cst a)) := whole_ok (by omega) (by omega)
    have fa : Fit 1 (cst a) := fit_whole (by omega) (by omega)
    have w1 : wi64 ((a : Int) + (n : Int)) = ((a + n : Nat) : Int) := by rw [wi64_id (by omega) (by omega)]; omega
    have t2 : trace_whole ((a + n : Nat) : Int) = some (ratioQ (cst (a + n))) := whole_ok (by omega) (by omega)
    have fb : Fit 1 (cst (a + n)) := fit_whole (by omega) (by omega)
    have ha0 := cst_nonneg a
    by_cases hlt : cst a < endM c
    · obtain ⟨p1, p2⟩ := A_ok hv ha0 (Rat.le_of_lt hlt) fa
      have hE : pcEnd (endM c) n k = if endM c < cst (a + n) then endM c else cst (a + n) := by unfold pcEnd; rw [hk1, ← ha]
      have e1 : (bif decide ((if cst (a + n) = endM c then (0 : Int) else if cst (a + n) < endM c then -1 else 1) > 0) then (some (ratioQ (endM c))).bind fun (t_13 : Dtrace_ratio) => some t_13 else some (ratioQ (cst (a + n)))) = some (ratioQ (pcEnd (endM c) n k)) := by
        rw [hE]
        by_cases h : endM c < cst (a + n)
        · rw [dec_true (cmp_gt.2 h), if_pos h]; rfl
        · rw [dec_false (mt cmp_gt.1 h), if_neg h]; rfl
      have hgt : cst a < pcEnd (endM c) n k := by rw [ha]; exact pcEnd_gt hn1 (by rw [← ha]; exact hlt)
      obtain ⟨p1', p2'⟩ := A_ok hv (q := pcEnd (endM c) n k) (by grind) pcEnd_le (pcEnd_fit hv (by rw [hk1, ← ha]; omega))
      by_cases hsm : smallQ (endA c (cst a)) = true ∧ smallQ (endA c (pcEnd (endM c) n k)) = true
      · obtain ⟨L, e, l1, l2⟩ := ihk (out ++ [(fq (endA c (cst a)), fq (endA c (pcEnd (endM c) n k)))]) (by rw [List.length_append, List.length_singleton]; omega) (by
          intro i x hx
          rcases Nat.lt_or_ge i out.length with h | h
          · rw [List.getElem?_append_left h] at hx
            exact hpc i x hx
          · rw [List.getElem?_append_right h] at hx
            have hi : i = k := by
              have := (List.getElem?_eq_some_iff.1 hx).1
              rw [List.length_singleton] at this
              omega
            subst hi
            rw [hout, Nat.sub_self] at hx
            simp only [List.getElem?_cons_zero, Option.some.injEq] at hx
            subst hx
            rw [ha] at hlt hsm ⊢
            exact ⟨hlt, hsm.1, hsm.2, rfl⟩)
        refine ⟨L, e, l1, ?_⟩
        rw [← l2]
        congr 1
        refine loopM_next ?_
        simp only
        rw [t1, Option.bind_some, tlen, Option.bind_some, rcmp_ok fa hfl.1 (by decide), Option.bind_some, dec_true (cmp_lt.2 hlt), cond_true, w1, t2, Option.bind_some, Option.bind_some, rcmp_ok fb hfl.1 (by decide), Option.bind_some, e1, Option.bind_some, Option.bind_some, p1, Option.bind_some, small_ok p2 (by decide), Option.bind_some, p1', Option.bind_some, small_ok p2' (by decide), Option.bind_some, fracQ_fq hsm.1, fracQ_fq hsm.2, first_ok (by simp), Option.bind_some]
        rw [if_pos rfl, show firstE [0, 0] = 0 from rfl, show ((0 : Int) != 0) = false from rfl, cond_false, app_ok (by rw [List.length_singleton]; omega), Option.bind_some]
      · rw [← fracQ_small, ← fracQ_small] at hsm
        have hf : firstE [if (fracQ (endA c (cst a))).2 = true then 0 else 8, if (fracQ (endA c (pcEnd (endM c) n k))).2 = true then 0 else 8] = 8 := by
          revert hsm
          cases (fracQ (endA c (cst a))).2 <;> cases (fracQ (endA c (pcEnd (endM c) n k))).2 <;> simp [firstE]
        refine ⟨[], 8, .inl ⟨rfl, rfl⟩, ?_⟩
        rw [loopM_done (r := .inr ([], 8))]
        · rfl
        · simp only
          rw [t1, Option.bind_some, tlen, Option.bind_some, rcmp_ok fa hfl.1 (by decide), Option.bind_some, dec_true (cmp_lt.2 hlt), cond_true, w1, t2, Option.bind_some, Option.bind_some, rcmp_ok fb hfl.1 (by decide), Option.bind_some, e1, Option.bind_some, Option.bind_some, p1, Option.bind_some, small_ok p2 (by decide), Option.bind_some, p1', Option.bind_some, small_ok p2' (by decide), Option.bind_some, first_ok (by simp), Option.bind_some, hf]
          rfl
    · refine ⟨out, 0, .inr ⟨rfl, hpc, by omega, by rw [hout, ← ha]; grind⟩, ?_⟩
      rw [loopM_done (r := .inl out)]
      · rfl
      · simp only
        rw [t1, Option.bind_some, tlen, Option.bind_some, rcmp_ok fa hfl.1 (by decide), Option.bind_some, dec_false (mt cmp_lt.1 hlt), cond_false]
theorem Pieces_ok {c : Dapi_TraceCourse} (hv : Valid c) (hop : trace_opened c [] = some ((c, stripsQ c (c.2.2.2.length + 1)), 0)) {k : Nat} (hk1 : 1 ≤ k) (hk2 : k ≤ 1000000) :
    ∃ (L : List Dapi_Span) (e : Int), trace_PiecesOf c (k : Int) = some (L, e) ∧ (((e = 8 ∨ e = 16) ∧ L = []) ∨ (e = 0 ∧ Pcs c k L ∧ L.length ≤ 51 ∧ endM c ≤ cst (L.length * k) ∧ endM c ≤ cst (50 * k))) := by
  have h10 := hv.steps
  have hs := hv.strip c.2.2.2.length (Nat.le_refl _)
  have hs6 := hs.len
  have hfl := fit_small hs.last
  have tlen := strip_length_ok hs.ne (show (stS c c.2.2.2.length).length ≤ 100 by omega)
  have hlastc : trace_course_last (c, stripsQ c (c.2.2.2.length + 1)) = some ((stS c c.2.2.2.length).map secQ) := by
    unfold trace_course_last
    simp only
    rw [stripsQ_len, wi64_id (by omega) (by omega), show ((c.2.2.2.length + 1 : Nat) : Int) - 1 = (c.2.2.2.length : Int) by omega, chk_idx (by omega), stripsQ_get (by omega)]
  have hw : wi64 (50 * (k : Int)) = ((50 * k : Nat) : Int) := by rw [wi64_id (by omega) (by omega)]; omega
  by_cases hle : endM c ≤ cst (50 * k)
  · obtain ⟨L, e, l1, l2⟩ := pcs_loop hv hk1 hk2 hle 51 0 [] rfl rfl (fun i x h => by simp at h)
    rw [Nat.zero_mul] at l2
    refine ⟨L, e, ?_, ?_⟩
    · unfold trace_PiecesOf
      rw [hop, Option.bind_some, within_ok, Option.bind_some, unless_ok, Option.bind_some, first_ok (by simp), Option.bind_some, dec_true (show (1 : Int) ≤ (k : Int) ∧ (k : Int) ≤ 1000000 by omega), if_pos rfl, show firstE [0, 0] = 0 from rfl, show ((0 : Int) != 0) = false from rfl, cond_false]
      simp only
      rw [hlastc, Option.bind_some]
      refine Option.bind_eq_some_iff.2 ⟨_, tlen, ?_⟩
      rw [hw, whole_ok (by omega) (by omega), Option.bind_some, rcmp_ok hfl.1 (fit_whole (by omega) (by omega)) (by decide), Option.bind_some, dec_false (mt cmp_gt.1 (show ¬ (((50 * k : Nat) : Int) : Rat) < lastV 0 (stS c c.2.2.2.length) from Rat.not_lt.2 hle)), cond_false]
      exact l2
    · rcases l1 with ⟨a, b⟩ | ⟨a, b, d, f⟩
      · exact .inl ⟨.inl a, b⟩
      · exact .inr ⟨a, b, d, f, hle⟩
  · refine ⟨[], 16, ?_, .inl ⟨.inr rfl, rfl⟩⟩
    unfold trace_PiecesOf
    rw [hop, Option.bind_some, within_ok, Option.bind_some, unless_ok, Option.bind_some, first_ok (by simp), Option.bind_some, dec_true (show (1 : Int) ≤ (k : Int) ∧ (k : Int) ≤ 1000000 by omega), if_pos rfl, show firstE [0, 0] = 0 from rfl, show ((0 : Int) != 0) = false from rfl, cond_false]
    simp only
    rw [hlastc, Option.bind_some]
    refine Option.bind_eq_some_iff.2 ⟨_, tlen, ?_⟩
    rw [hw, whole_ok (by omega) (by omega), Option.bind_some, rcmp_ok hfl.1 (fit_whole (by omega) (by omega)) (by decide), Option.bind_some, dec_true (cmp_gt.2 (show (((50 * k : Nat) : Int) : Rat) < lastV 0 (stS c c.2.2.2.length) from Rat.not_le.1 hle)), cond_true]
end Go.Lift
