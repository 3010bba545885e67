/-
  pass.ParseRules: its contract.
-/
import Derived.Test.YtkoojmbkjgbdgaaGreatDoorManD
set_option linter.unusedSectionVars false
set_option linter.unusedVariables false
set_option linter.unusedSimpArgs false
set_option linter.unusedSectionVars false
set_option linter.unusedSimpArgs false
set_option linter.unusedVariables false
namespace Go.Lift
open Go Go.Proofs Go.RowKit Go.Shelf
attribute [local go_sem] Oper.semAt_some
theorem code_rest59 : rest59 = .seq (.seq (Code.fst (Code.fst rest59)) (.block 0 (.loop loop59))) tail59 := by kernel_rfl
set_option maxHeartbeats 4000000 in
set_option maxRecDepth 100000 in
theorem rest59_ok {M : Mem} {w : World} (hg : Good M w) {r : Dapi_PassRules × Int} {x : List Int} {p : ByteArray} {tl : List ByteArray}
    (hr : ((standsF tl []).bind fun st => match st with
        | none => some (noRules, 7)
        | some st => (pass_CheckRules (rulesOf x st)).bind fun e => bif e.2 != 0 then some (noRules, e.2) else some (rulesOf x st, 0)) = some r)
    {W : World} (hBW : Below w.heap.size w W) {b2 b4 : Nat} (hb2 : w.heap.size ≤ b2) (hb4 : w.heap.size ≤ b4) (hne : b2 ≠ b4) (c2W : W.heap[b2]? = some (.cells zero11 78 (0, 0))) (c4W : W.heap[b4]? = some (.cells (cells11 x (.slice none 0 0)) 78 (0, 0))) {b off pc : Nat} (hcs : ∀ j n, (p :: tl)[j]? = some n → W.cell? ⟨b, off + j, none⟩ = some (.string n)) (hb : b ≠ b4) (hcap : tl.length + 1 ≤ pc) (hlen : tl.length ≤ 1000000)
    {a : Act} (hd : a.defers = []) (hsz : a.tmps.size = 55) (h2 : a.tmps.getD 2 undef = .pointer (some ⟨b2, 0, none⟩)) (h4 : a.tmps.getD 4 undef = .pointer (some ⟨b4, 0, none⟩)) (h5 : a.tmps.getD 5 undef = .slice (some ⟨b, off, none⟩) (tl.length + 1) pc) :
    rest59.wp Tryz.prog (Post59 M w r) a W := by
  have tailK : ∀ (st : List Dapi_PassStand) (W' : World) (a' : Act), standsF tl [] = some (some st) → L59 W b2 b4 x st W' → a'.defers = [] → a'.tmps.size = 55 → a'.tmps.getD 2 undef = .pointer (some ⟨b2, 0, none⟩) → a'.tmps.getD 4 undef = .pointer (some ⟨b4, 0, none⟩) → tail59.wp Tryz.prog (Post59 M w r) a' W' := by
    intro st W' a' hst hL hd' hs' q2 q4
    obtain ⟨sv, c4', hrow⟩ := hL.row
    rw [hst, Option.bind_some] at hr
    exact tail59_ok hg hr (Upto.below_of hBW hL.upto hb4) hb2 hne hL.c2 c4' (own_base hrow hBW.size) hd' hs' q2 q4
  obtain ⟨⟨l⟩, df⟩ := a
  simp only at hd
  subst hd
  obtain ⟨x0, x1, x2, x3, x4, x5, x6, x7, x8, x9, x10, x11, x12, x13, x14, x15, x16, x17, x18, x19, x20, x21, x22, x23, x24, x25, x26, x27, x28, x29, x30, x31, x32, x33, x34, x35, x36, x37, x38, x39, x40, x41, x42, x43, x44, x45, x46, x47, x48, x49, x50, x51, x52, x53, x54, rfl⟩ := list55 l hsz
  have e2 : x2 = .pointer (some ⟨b2, 0, none⟩) := h2
  have e4 : x4 = .pointer (some ⟨b4, 0, none⟩) := h4
  have e5 : x5 = .slice (some ⟨b, off, none⟩) (tl.length + 1) pc := h5
  subst e2 e4 e5
  clear h2 h4 h5 hsz
  have hloop := @loop59_ok M w hg r x tl hr W hBW b2 b4 hb2 hb4 hne c2W c4W
  rw [code_rest59]
  generalize loop59 = LP at hloop ⊢
  generalize tail59 = TC at tailK ⊢
  simp only [rest59, c59, Tryz.f59, Option.getD_some, Code.fst, Code.snd]
  generalize Post59 M w r = Q at hloop tailK ⊢
  go_wp2
  all_goals
    rename_i hK
    first
    | exact hloop (b := b) (off := off + 1) (fun j n hj => by rw [show off + 1 + j = off + (j + 1) by omega]; exact hcs (j + 1) n hj) hb hlen (fun st W' a' q1 q2 q3 q4 q5 q6 => hK _ _ (tailK st W' a' q1 q2 q3 q4 q5 q6)) rfl rfl rfl rfl rfl rfl rfl
    | exact hloop (b := b) (off := off) (fun j n hj => by have := (List.getElem?_eq_some_iff.1 hj).1; omega) hb hlen (fun st W' a' q1 q2 q3 q4 q5 q6 => hK _ _ (tailK st W' a' q1 q2 q3 q4 q5 q6)) rfl rfl rfl rfl rfl rfl rfl
    | trace_state
theorem split_len {s sep : ByteArray} {ps : List ByteArray} (h : strings_Split s sep = some ps) : ps.length ≤ s.size + 1 ∧ ps ≠ [] := by
  have h : splitF sep s = some ps := h
  unfold splitF at h
  cases hc : decide (1 ≤ sep.size) && decide (s.size ≤ 4294967280) with
  | false => rw [hc] at h; cases h
  | true =>
    rw [hc, cond_true, Option.some.injEq] at h
    rw [Bool.and_eq_true, decide_eq_true_eq, decide_eq_true_eq] at hc
    have hlen : ps.length = Lib.countB s sep + 1 := by rw [← h]; exact Lib.splitB_all sep (by omega) 0 _ s rfl
    have hle : Lib.countB s sep ≤ s.size := Lib.countB_le sep (by omega) s.size s (Nat.le_refl _)
    refine ⟨by omega, fun e => ?_⟩
    rw [e] at hlen
    simp at hlen
set_option maxHeartbeats 4000000 in
set_option maxRecDepth 100000 in
theorem parse59 {M : Mem} {w : World} (hg : Good M w) {s : ByteArray} {r : Dapi_PassRules × Int} (hr : pass_ParseRules s = some r) :
    Calls Tryz.prog 59 #[.string s] w fun e w' => ∃ M' v, e = .returned v ∧ relR Tryz.prog M' sg_pass_ParseRules.rts r v ∧ Good M' w' ∧ Grow M w M' w' := by
  unfold pass_ParseRules at hr
  cases hsz : decide (s.size ≤ 1000000) with
  | false => rw [hsz] at hr; cases hr
  | true =>
  rw [hsz, cond_true] at hr
  have hsz := of_decide_eq_true hsz
  obtain ⟨parts, hparts, hr⟩ := Option.bind_eq_some_iff.1 hr
  obtain ⟨hpl, hpn⟩ := split_len hparts
  have hsp : ∀ W, Below w.heap.size w W → _ := fun W hW => split_calls (good_below hg hW) hparts
  cases parts with
  | nil => exact absurd rfl hpn
  | cons p tl =>
  simp only at hr
  obtain ⟨rr, hf, hr⟩ := Option.bind_eq_some_iff.1 hr
  rw [List.length_cons] at hpl
  obtain ⟨ws, nl, ok, hws, hnum, hrr⟩ := fill_calls hg hf
  go_enter Tryz.func59, Tryz.ntmps59
  go_wp2_with (first | (go_at_call 101; refine Calls.mono (hsp _ (below2 w _ _)) ?_; clear hsp; rintro e w1 ⟨M1, pp, pc, rfl, hrel1, hcs1, hg1, hgr1⟩) | (go_at_call 102; refine Calls.mono (nums102 _ _) ?_; rintro e w2 ⟨rfl, hb2⟩))
  obtain ⟨w3, hw3⟩ : ∃ w3, w2.alloc (.cells #[.pointer (some ⟨w.heap.size + 1, 0, none⟩), .pointer (some ⟨w.heap.size + 1, 1, none⟩), .pointer (some ⟨w.heap.size + 1, 2, none⟩), .pointer (some ⟨w.heap.size + 1, 3, none⟩), .pointer (some ⟨w.heap.size + 1, 4, none⟩), .pointer (some ⟨w.heap.size + 1, 5, none⟩), .pointer (some ⟨w.heap.size + 1, 7, none⟩), .pointer (some ⟨w.heap.size + 1, 8, none⟩), .pointer (some ⟨w.heap.size + 1, 9, none⟩), .pointer (some ⟨w.heap.size + 1, 10, none⟩)] 206) = w3 := ⟨_, rfl⟩
  rw [hw3]
  obtain ⟨w0, hw0⟩ : ∃ w0, (w.alloc (.cells zero11 78)).alloc (.cells zero11 78) = w0 := ⟨_, rfl⟩
  have hw0' := hw0
  unfold zero11 at hw0'
  rw [hw0'] at hgr1
  have z0 : w0.heap.size = w.heap.size + 2 := by rw [← hw0, World.size_alloc, World.size_alloc]
  have hB0 : Below w.heap.size w w0 := by rw [← hw0]; exact below2 w _ _
  have k2 : w0.heap[w.heap.size]? = some (.cells zero11 78 (0, 0)) := by
    rw [← hw0]
    exact ((below_new _ _).block _ (by rw [World.size_alloc]; omega)).trans (World.alloc_heap_new w _)
  have k4 : w0.heap[w.heap.size + 1]? = some (.cells zero11 78 (0, 0)) := by
    rw [← hw0]
    have := World.alloc_heap_new (w.alloc (.cells zero11 78)) (.cells zero11 78)
    rw [World.size_alloc] at this
    exact this
  obtain ⟨b2, hb2e⟩ : ∃ b2, b2 = w.heap.size := ⟨_, rfl⟩
  obtain ⟨b4, hb4e⟩ : ∃ b4, b4 = w.heap.size + 1 := ⟨_, rfl⟩
  rw [← hb4e] at hw3 k4
  rw [← hb2e] at k2
  have hW3 : Below w1.heap.size w1 w3 := below_trans hb2 (by rw [← hw3]; exact below_new w2 _)
  have hG13 : Grow M w0 M1 w3 := grow_below hgr1 hW3
  have hg3 : Good M1 w3 := good_below hg1 hW3
  have s1 := hgr1.below.size
  have s2 := hb2.size
  have s3 : w3.heap.size = w2.heap.size + 1 := by rw [← hw3, World.size_alloc]
  have k23 : w3.heap[b2]? = some (.cells zero11 78 (0, 0)) := (hG13.below.block b2 (by omega)).trans k2
  have k43 : w3.heap[b4]? = some (.cells zero11 78 (0, 0)) := (hG13.below.block b4 (by omega)).trans k4
  have k63 : w3.heap[w2.heap.size]? = some (.cells (os10.map fun o => Value.pointer (some ⟨b4, o, none⟩)).toArray 206 (0, 0)) := by rw [← hw3]; exact World.alloc_heap_new w2 _
  have hM4 : ∀ o, M1 b4 o = none := fun o => by rw [hgr1.mem b4 (by omega)]; exact mem_none' hg (by omega) o
  have hBw3 : Below w.heap.size w w3 := below_trans hB0 hG13.below
  rcases hcs1 with h | ⟨b, off, rfl, hcs1⟩
  · cases h
  have hpc : tl.length + 1 ≤ pc := by
    obtain ⟨v', e1, h2⟩ : relC Tryz.prog (.slice .str) M1 (p :: tl) [_] := hrel1
    simp only [List.cons.injEq, and_true] at e1
    subst e1
    rcases h2 with ⟨e, _⟩ | ⟨_, _, _, _, e, hc, _⟩ | ⟨_, _, e, h⟩
    · cases e
    · cases e; exact hc
    · cases h
  have hbb : b ≠ b4 := fun e => by
    have := hcs1 0 p rfl
    rw [e, hM4] at this
    cases this
  have d1 : w3.cell? ⟨b, off, none⟩ = some (.string p) := hg3.2 _ _ _ (hcs1 0 p rfl)
  have hsp2 : ∀ W', Below w3.heap.size w3 W' → _ := fun W' hW => split_calls (good_below hg3 hW) hws
  rw [← hb4e, ← hb2e]
  have e2 : w.heap.size ≤ b2 := by omega
  have e4 : w.heap.size ≤ b4 := by omega
  have l2 : b2 < w3.heap.size := by omega
  have l4 : b4 < w3.heap.size := by omega
  have n24 : b2 ≠ b4 := by omega
  have n46 : w2.heap.size ≠ b4 := by omega
  clear hb2e hb4e
  have hfl : ∀ (W1 : World) (M2 : Mem) (W2 : World) (q : Option Addr) (n c : Nat), Below w3.heap.size w3 W1 → Good M2 W2 → Grow M1 W1 M2 W2 → relV Tryz.prog (.slice .str) M2 ws (.slice q n c) → _ := fun W1 M2 W2 q n c hW hg' hgr hrel =>
    fillN (ga := w2.heap.size) (g := b4) (os := os10) hg' hrel hnum ((hgr.below.block _ (by have := hW.size; omega)).trans ((hW.block _ (by omega)).trans k63)) ((hgr.below.block _ (by have := hW.size; omega)).trans ((hW.block _ (by omega)).trans k43)) n46 (by decide) (fun o => by rw [hgr.mem _ (by have := hW.size; omega)]; exact hM4 o) (by decide) ⟨q, n, c, rfl⟩ hrr
  go_region_with (first | (go_at_call 101; refine Calls.mono (hsp2 _ (below_drew _)) ?_; rintro e w5 ⟨M2, sp, sc, rfl, hrel2, _, hg5, hgr5⟩) | (go_at_call 103; refine Calls.mono (hfl _ M2 _ _ _ _ (below_drew _) hg5 hgr5 hrel2) ?_; rintro e w4 ⟨M3, hg4, hF4, hM44, y, rfl, hH⟩))
  obtain ⟨hy, hx4⟩ : y = rr.isSome ∧ _ := hH
  have hG35 : Grow M1 w3 M2 w5 := grow_grow ⟨below_drew _, fun _ _ => rfl⟩ hgr5
  have sz5 := hG35.below.size
  have hblk : ∀ j, j < w3.heap.size → j ≠ b4 → w4.heap[j]? = w3.heap[j]? := fun j hj hn => (hF4.block j (by omega) (by simp only [List.mem_singleton]; exact hn)).trans (hG35.below.block j hj)
  have hBw4 : Below w.heap.size w w4 := ⟨hF4.os.trans (hG35.below.os.trans hBw3.os), hF4.tape.trans (hG35.below.tape.trans hBw3.tape), hF4.output.trans (hG35.below.output.trans hBw3.output), Nat.le_trans hBw3.size (Nat.le_trans sz5 hF4.size), fun j hj => (hblk j (by omega) (by omega)).trans (hBw3.block j hj)⟩
  have c24 : w4.heap[b2]? = some (.cells zero11 78 (0, 0)) := (hblk b2 (by omega) (by omega)).trans k23
  cases y with
  | false =>
    have hrn : rr = none := by cases rr with
      | none => rfl
      | some _ => cases hy
    rw [hrn] at hr
    simp only [Option.some.injEq] at hr
    have hq : ∀ W', W' = w4 → W'.cell? ⟨b2, 0, none⟩ = some (.int .i64 0) ∧ W'.cell? ⟨b2, 1, none⟩ = some (.int .i64 0) ∧ W'.cell? ⟨b2, 2, none⟩ = some (.int .i64 0) ∧ W'.cell? ⟨b2, 3, none⟩ = some (.int .i64 0) ∧ W'.cell? ⟨b2, 4, none⟩ = some (.int .i64 0) ∧ W'.cell? ⟨b2, 5, none⟩ = some (.int .i64 0) ∧ W'.cell? ⟨b2, 6, none⟩ = some (.slice none 0 0) ∧ W'.cell? ⟨b2, 7, none⟩ = some (.int .i64 0) ∧ W'.cell? ⟨b2, 8, none⟩ = some (.int .i64 0) ∧ W'.cell? ⟨b2, 9, none⟩ = some (.int .i64 0) ∧ W'.cell? ⟨b2, 10, none⟩ = some (.int .i64 0) ∧ ∀ off, W'.frozen? ⟨b2, off, none⟩ = false := fun W' hb' => by
      subst hb'
      exact ⟨cell_at c24 rfl, cell_at c24 rfl, cell_at c24 rfl, cell_at c24 rfl, cell_at c24 rfl, cell_at c24 rfl, cell_at c24 rfl, cell_at c24 rfl, cell_at c24 rfl, cell_at c24 rfl, cell_at c24 rfl, fun off => frozen_at c24⟩
    obtain ⟨q0, q1, q2, q3, q4, q5, q6, q7, q8, q9, q10, qf⟩ := hq w4 rfl
    clear hq hfl hsp2 hx4 hy hrr hrn
    go_wp2
    obtain ⟨s1', s2'⟩ := set11 (v0 := .int .i64 0) (v1 := .int .i64 0) (v2 := .int .i64 0) (v3 := .int .i64 0) (v4 := .int .i64 0) (v5 := .int .i64 0) (v6 := .slice none 0 0) (v7 := .int .i64 0) (v8 := .int .i64 0) (v9 := .int .i64 0) (v10 := .int .i64 0) c24
    rw [← hr]
    exact end59 (x := []) (st := []) hg (below_of_grown hBw4 s2' (by omega)) s1' (nil_row _ _) rfl rfl rfl
  | true =>
    obtain ⟨xs, hrs⟩ : ∃ xs, rr = some xs := by cases rr with
      | none => cases hy
      | some xs => exact ⟨xs, rfl⟩
    obtain ⟨hxl, hk4⟩ := hx4 xs hrs
    rw [set10 hxl] at hk4
    rw [hrs] at hr
    clear hfl hsp2 hx4 hy hrr hrs
    have hcs4 : ∀ j n, (p :: tl)[j]? = some n → w4.cell? ⟨b, off + j, none⟩ = some (.string n) := fun j n hj => by
      have h0 := hg3.2 _ _ _ (hcs1 j n hj)
      exact (World.cell?_of_block (hblk b (World.block_lt_of_cell? w3 _ h0) hbb)).trans h0
    have hrest := @rest59_ok M w hg r xs p tl hr w4 hBw4 b2 b4 (by omega) (by omega) (by omega) c24 hk4 b off pc hcs4 hbb hpc (by omega)
    rename_i K0 hK0 K1 hK1 _
    have hK0' : Hid (∀ a w, Code.wp Tryz.prog _ _ a w → K0 a w) := hK0
    clear hK0
    go_wp2
    exact hK0' _ _ (hrest rfl rfl rfl rfl rfl)
theorem m_pass_ParseRules : Has Tryz.prog sg_pass_ParseRules := by
  refine ⟨enters_of (by kernel_rfl), fun s r hr M w vs hg hvs => ?_⟩
  obtain ⟨v, rfl, hv⟩ := hvs
  obtain rfl : v = .string s := relV_str.1 hv
  exact parse59 hg hr
end Go.Lift
