/-
  model.ParseRules: its contract.
-/
import Derived.Test.YtkoojmbkjgbdgaaGreatDoorManF
import Derived.Test.YtkoojmbkjgbdgaaGreatDoorManE
set_option linter.unusedSectionVars false
set_option linter.unusedVariables false
set_option linter.unusedSimpArgs false
set_option linter.unusedSectionVars false
set_option linter.unusedSimpArgs false
set_option linter.unusedVariables false
namespace Go.Lift
open Go Go.Proofs Go.RowKit Go.Shelf
attribute [local go_sem] Oper.semAt_some
theorem u216 : Tryz.prog.underlying 216 = some (.array 2 215) := by kernel_rfl
theorem u215 : Tryz.prog.underlying 215 = some (.pointer 81) := by kernel_rfl
theorem s215 : (Tryz.prog.info? 215).map (·.size) = some 1 := by kernel_rfl
theorem i215 : ∃ i, Tryz.prog.info? 215 = some i ∧ i.size = 1 := by
  have := s215
  cases h : Tryz.prog.info? 215 with
  | none => rw [h] at this; cases this
  | some i => rw [h] at this; exact ⟨i, rfl, by simpa using this⟩
theorem index216 (p q : Option Addr) (W : World) : (Instr.index 216 (.agg #[.pointer p, .pointer q]) (.int .i64 0)).run Tryz.prog W = .ok (.pointer p) W ∧ (Instr.index 216 (.agg #[.pointer p, .pointer q]) (.int .i64 1)).run Tryz.prog W = .ok (.pointer q) W := by
  obtain ⟨i, hi, hs⟩ := i215
  constructor
  all_goals
    simp [Instr.index, run_underlying u216, asIntOf, sizeOf, typeInfo, hi, hs, part, isAgg, run_underlying u215]
theorem cells34 {W : World} {b : Nat} {v0 v1 v2 v3 v4 v5 : Value} (h : W.heap[b]? = some (.cells #[v0, v1, v2, v3, v4, v5] 83 (0, 0))) : W.cell? ⟨b, 3, none⟩ = some v3 ∧ W.cell? ⟨b, 4, none⟩ = some v4 := ⟨cell_at h rfl, cell_at h rfl⟩
theorem zero6_cells {W : World} {b : Nat} (h : W.heap[b]? = some (.cells zero6 83 (0, 0))) : W.cell? ⟨b, 0, none⟩ = some (.slice none 0 0) ∧ W.cell? ⟨b, 1, none⟩ = some (.int .i64 0) ∧ W.cell? ⟨b, 2, none⟩ = some (.int .i64 0) ∧ W.cell? ⟨b, 3, none⟩ = some (.int .i64 0) ∧ W.cell? ⟨b, 4, none⟩ = some (.int .i64 0) ∧ W.cell? ⟨b, 5, none⟩ = some (.int .i64 0) ∧ ∀ off, W.frozen? ⟨b, off, none⟩ = false :=
  ⟨cell_at h rfl, cell_at h rfl, cell_at h rfl, cell_at h rfl, cell_at h rfl, cell_at h rfl, fun off => frozen_at h⟩
set_option maxHeartbeats 4000000 in
set_option maxRecDepth 100000 in
theorem rest60_ok {M : Mem} {w : World} (hg : Good M w) {r : Dapi_ModelRules × Int} {x1 x2 y1 y2 n1 : Int} {R : List (Int × Int) × Bool} {tl : List ByteArray} {ok : Bool} (hR : Hid (knotsF tl [] ok = some R))
    (hr : Hid ((bif !R.2 then some (noModel, 7) else (model_CheckRules (modelOf R.1 x1 x2 y1 y2 n1)).bind fun e => bif e.2 != 0 then some (noModel, e.2) else some (modelOf R.1 x1 x2 y1 y2 n1, 0)) = some r))
    {W : World} (hBW : Below w.heap.size w W) {b2 b5 : Nat} (hb2 : w.heap.size ≤ b2) (hb5 : w.heap.size ≤ b5) (hne : b2 ≠ b5) (c2W : W.heap[b2]? = some (.cells zero6 83 (0, 0))) (c5W : W.heap[b5]? = some (.cells (cells6 x1 x2 y1 y2 n1 (.slice none 0 0)) 83 (0, 0))) {b off c1 : Nat} (hcs : ∀ j n, tl[j]? = some n → W.cell? ⟨b, off + j, none⟩ = some (.string n)) (hb : b ≠ b5) (hlen : tl.length ≤ 1000001)
    {K : Act → World → Prop} (hK : ∀ a' W', tail60.wp Tryz.prog (Post60 M w r) a' W' → K a' W')
    {ac : Act} (hd : ac.defers = []) (hsz : ac.tmps.size = 105) (h2 : ac.tmps.getD 2 undef = .pointer (some ⟨b2, 0, none⟩)) (h5 : ac.tmps.getD 5 undef = .pointer (some ⟨b5, 0, none⟩)) (h6 : ac.tmps.getD 6 undef = .bool ok) (h67 : ac.tmps.getD 67 undef = .slice (some ⟨b, off, none⟩) tl.length c1) (h68 : ac.tmps.getD 68 undef = .int .i64 (tl.length : Int)) (h69 : ac.tmps.getD 69 undef = .int .i64 0) :
    (Code.loop loop60).wp Tryz.prog (Exit.inBlock 2 (Exit.then K (Post60 M w r))) ac W := by
  refine loop60_ok hg hR hBW hb2 hb5 hne c2W c5W hcs hb hlen (fun W' a' hL q1 q2 q3 q4 q5 => hK _ _ ?_) hd hsz h2 h5 h6 h67 h68 h69
  obtain ⟨sv, c5', hrow⟩ := hL.row
  exact tail60_ok hg hr (Upto.below_of hBW hL.upto hb5) hb2 hne hL.c2 c5' (own_base hrow hBW.size) q1 q2 q3 q4 q5
set_option maxHeartbeats 4000000 in
set_option maxRecDepth 100000 in
theorem parse60 {M : Mem} {w : World} (hg : Good M w) {s : ByteArray} {r : Dapi_ModelRules × Int} (hr : model_ParseRules s = some r) :
    Calls Tryz.prog 60 #[.string s] w fun e w' => ∃ M' v, e = .returned v ∧ relR Tryz.prog M' sg_model_ParseRules.rts r v ∧ Good M' w' ∧ Grow M w M' w' := by
  unfold model_ParseRules at hr
  cases hsz : decide (s.size ≤ 1000000) with
  | false => rw [hsz] at hr; cases hr
  | true =>
  rw [hsz, cond_true] at hr
  have hsz := of_decide_eq_true hsz
  obtain ⟨parts, hparts, hr⟩ := Option.bind_eq_some_iff.1 hr
  obtain ⟨hpl, hpn⟩ := split_len hparts
  have hsp : ∀ W, Below w.heap.size w W → _ := fun W hW => split_calls (good_below hg hW) hparts
  have hbw := below_new w (.cells zero6 83)
  have kw := World.alloc_heap_new w (.cells zero6 83)
  have hzz : w.alloc (.cells #[.slice none 0 0, .int .i64 0, .int .i64 0, .int .i64 0, .int .i64 0, .int .i64 0] 83) = w.alloc (.cells zero6 83) := rfl
  by_cases h3 : parts.length < 3
  · have hr7 : r = (noModel, 7) := by
      match parts, h3, hr with
      | [], _, hr => exact (Option.some.inj hr).symm
      | [_], _, hr => exact (Option.some.inj hr).symm
      | [_, _], _, hr => exact (Option.some.inj hr).symm
      | _ :: _ :: _ :: _, h, _ => simp at h; omega
    subst hr7
    go_enter Tryz.func60, Tryz.ntmps60
    go_wp2_with (first | (go_at_call 101; refine Calls.mono (hsp _ hbw) ?_; clear hsp; rintro e w1 ⟨M1, pp, pc, rfl, hrel1, hcs1, hg1, hgr1⟩; have c2 := (hgr1.below.block _ (Array.getElem?_eq_some_iff.1 kw).1).trans kw; obtain ⟨o0, o1, o2, o3, o4, o5, of⟩ := zero6_cells c2; clear kw))
    obtain ⟨s1, s2⟩ := set6 (v0 := .slice none 0 0) (v1 := .int .i64 0) (v2 := .int .i64 0) (v3 := .int .i64 0) (v4 := .int .i64 0) (v5 := .int .i64 0) c2
    exact end60 (a := 0) (b := 0) (c := 0) (d := 0) (n := 0) (kn := []) hg (below_of_grown (below_trans hbw hgr1.below) s2 (Nat.le_refl _)) s1 (nil_kn _ _) (e := 7) rfl rfl rfl
  · obtain ⟨p0, p1, p2, tl, rfl⟩ : ∃ a b c l, parts = a :: b :: c :: l := by
      match parts, h3 with
      | a :: b :: c :: l, _ => exact ⟨a, b, c, l, rfl⟩
      | [], h => simp at h
      | [_], h => simp at h
      | [_, _], h => simp at h
    simp only at hr
    obtain ⟨x, hx, hr⟩ := Option.bind_eq_some_iff.1 hr
    obtain ⟨y, hy, hr⟩ := Option.bind_eq_some_iff.1 hr
    obtain ⟨n, hn, hr⟩ := Option.bind_eq_some_iff.1 hr
    obtain ⟨R, hR, hr⟩ := Option.bind_eq_some_iff.1 hr
    have hx' : ∀ W M', Good M' W → _ := fun W M' hgW => pair_calls (M := M') (w := W) hgW hx
    have hy' : ∀ W M', Good M' W → _ := fun W M' hgW => pair_calls (M := M') (w := W) hgW hy
    have hn' : ∀ W M', Good M' W → _ := fun W M' hgW => number_calls (M := M') (w := W) hgW hn
    obtain ⟨x1, x2, xb⟩ := x
    obtain ⟨y1, y2, yb⟩ := y
    obtain ⟨n1, nb⟩ := n
    simp only at hx' hy' hn' hr hR
    clear hx hy hn
    have hHR : Hid (knotsF tl [] ((xb && yb) && nb) = some R) := hR
    have hHr : Hid ((bif !R.2 then some (noModel, 7) else (model_CheckRules (modelOf R.1 x1 x2 y1 y2 n1)).bind fun e => bif e.2 != 0 then some (noModel, e.2) else some (modelOf R.1 x1 x2 y1 y2 n1, 0)) = some r) := hr
    clear hR hr
    go_enter Tryz.func60, Tryz.ntmps60
    go_wp2_with (first | (go_at_call 101; refine Calls.mono (hsp _ hbw) ?_; clear hsp; rintro e w1 ⟨M1, pp, pc, rfl, hrel1, hcs1, hg1, hgr1⟩; have c2 := (hgr1.below.block _ (Array.getElem?_eq_some_iff.1 kw).1).trans kw; clear kw))
    rcases hcs1 with h | ⟨b, off, rfl, hcs1⟩
    · cases h
    have lb2 := (Array.getElem?_eq_some_iff.1 c2).1
    have hbl : b < w1.heap.size := World.block_lt_of_cell? w1 _ (hg1.2 _ _ _ (hcs1 0 p0 rfl))
    have hbb : b ≠ w1.heap.size := by omega
    have hlen : tl.length ≤ 1000001 := by simp only [List.length_cons] at hpl; omega
    have hpc : tl.length + 3 ≤ pc := by
      obtain ⟨v', e1, h2⟩ : relC Tryz.prog (.slice .str) M1 (p0 :: p1 :: p2 :: tl) [_] := hrel1
      simp only [List.cons.injEq, and_true] at e1
      subst e1
      rcases h2 with ⟨e, _⟩ | ⟨_, _, _, _, e, hc, _⟩ | ⟨_, _, e, h⟩
      · cases e
      · cases e; exact hc
      · cases h
    have kB : ∀ W, Below w1.heap.size w1 W → W.cell? ⟨b, off, none⟩ = some (.string p0) ∧ W.cell? ⟨b, off + 1, none⟩ = some (.string p1) ∧ W.cell? ⟨b, off + 2, none⟩ = some (.string p2) := fun W hW => by
      have h0 := hg1.2 _ _ _ (hcs1 0 p0 rfl)
      have h1 := hg1.2 _ _ _ (hcs1 1 p1 rfl)
      have h2 := hg1.2 _ _ _ (hcs1 2 p2 rfl)
      have hb := hW.block b (World.block_lt_of_cell? w1 _ h0)
      exact ⟨(World.cell?_of_block hb).trans h0, (World.cell?_of_block hb).trans h1, (World.cell?_of_block hb).trans h2⟩
    have hbz := below_new w1 (.cells zero6 83)
    have kz := World.alloc_heap_new w1 (.cells zero6 83)
    have hz1 : w1.alloc (.cells #[.slice none 0 0, .int .i64 0, .int .i64 0, .int .i64 0, .int .i64 0, .int .i64 0] 83) = w1.alloc (.cells zero6 83) := rfl
    rw [hz1]
    obtain ⟨k0, k1, k2⟩ := kB _ hbz
    have hx1 := hx' (w1.alloc (.cells zero6 83)) M1 (good_below hg1 hbz)
    have hix := fun W => (index216 (some ⟨w1.heap.size, 1, none⟩) (some ⟨w1.heap.size, 3, none⟩) W).1
    have hiy := fun W => (index216 (some ⟨w1.heap.size, 1, none⟩) (some ⟨w1.heap.size, 3, none⟩) W).2
    refine wp_loop_rounds 3 ?_
    rw [rounds_succ]
    go_wp2_with (first | (go_at_call 106; refine Calls.mono hx1 ?_; clear hx1; rintro e w3 ⟨hb3, rfl⟩; have c5 := (hb3.block _ (Array.getElem?_eq_some_iff.1 kz).1).trans kz; obtain ⟨o0, o1, o2, o3, o4, o5, of⟩ := zero6_cells c5))
    obtain ⟨w4, hw4⟩ : ∃ ww, (w3.setCell ⟨w1.heap.size, 1, none⟩ (.int .i64 x1)).setCell ⟨w1.heap.size, 2, none⟩ (.int .i64 x2) = ww := ⟨_, rfl⟩
    rw [hw4]
    have gw4 : w3.grownBy w4 (some w1.heap.size) := by rw [← hw4]; exact grown_trans setCell_grown setCell_grown
    have bw4 : Below w1.heap.size w1 w4 := below_of_grown (below_trans hbz hb3) gw4 (Nat.le_refl _)
    have cw4 : w4.heap[w1.heap.size]? = some (.cells #[.slice none 0 0, .int .i64 x1, .int .i64 x2, .int .i64 0, .int .i64 0, .int .i64 0] 83 (0, 0)) := by rw [← hw4]; exact (setCell_at (setCell_at c5)).trans (by simp [zero6])
    clear hw4
    clear o0 o1 o2 o3 o4 o5 of k0 k1 k2
    obtain ⟨k0, k1, k2⟩ := kB _ bw4
    have hy1 := hy' w4 M1 (good_below hg1 bw4)
    rw [rounds_succ]
    cases xb
    all_goals
      go_wp2_with (first | (go_at_call 106; refine Calls.mono hy1 ?_; clear hy1; rintro e w5 ⟨hb5, rfl⟩; have c5b := (hb5.block _ (Array.getElem?_eq_some_iff.1 cw4).1).trans cw4; obtain ⟨o3, o4⟩ := cells34 c5b; have of : ∀ o, w5.frozen? ⟨w1.heap.size, o, none⟩ = false := fun o => frozen_at c5b))
      obtain ⟨w6, hw6⟩ : ∃ ww, (w5.setCell ⟨w1.heap.size, 3, none⟩ (.int .i64 y1)).setCell ⟨w1.heap.size, 4, none⟩ (.int .i64 y2) = ww := ⟨_, rfl⟩
      rw [hw6]
      have gw6 : w5.grownBy w6 (some w1.heap.size) := by rw [← hw6]; exact grown_trans setCell_grown setCell_grown
      have bw6 : Below w1.heap.size w1 w6 := below_of_grown (below_trans bw4 hb5) gw6 (Nat.le_refl _)
      have cw6 : w6.heap[w1.heap.size]? = some (.cells #[.slice none 0 0, .int .i64 x1, .int .i64 x2, .int .i64 y1, .int .i64 y2, .int .i64 0] 83 (0, 0)) := by rw [← hw6]; exact (setCell_at (setCell_at c5b)).trans (by simp)
      clear hw6 o3 o4 of k0 k1 k2
      obtain ⟨k0, k1, k2⟩ := kB _ bw6
      have hn1 := hn' w6 M1 (good_below hg1 bw6)
      rw [rounds_succ]
      cases yb
      all_goals
        go_wp2_with (first | (go_at_call 107; refine Calls.mono hn1 ?_; clear hn1; rintro e w7 ⟨hb7, rfl⟩; have c7 := (hb7.block _ (Array.getElem?_eq_some_iff.1 cw6).1).trans cw6; have o5 : w7.cell? ⟨w1.heap.size, 5, none⟩ = some (.int .i64 0) := cell_at c7 rfl; have of : ∀ o, w7.frozen? ⟨w1.heap.size, o, none⟩ = false := fun o => frozen_at c7))
        all_goals
          have gw8 : w7.grownBy (w7.setCell ⟨w1.heap.size, 5, none⟩ (.int .i64 n1)) (some w1.heap.size) := setCell_grown
          have bw8 := below_of_grown (below_trans bw6 hb7) gw8 (Nat.le_refl _)
          have cw8 : (w7.setCell ⟨w1.heap.size, 5, none⟩ (.int .i64 n1)).heap[w1.heap.size]? = some (.cells (cells6 x1 x2 y1 y2 n1 (.slice none 0 0)) 83 (0, 0)) := (setCell_at c7).trans (by simp [cells6])
          generalize w7.setCell ⟨w1.heap.size, 5, none⟩ (.int .i64 n1) = w8 at gw8 bw8 cw8 ⊢
          have hrest := fun (ok : Bool) (hR : Hid (knotsF tl [] ok = some R)) (off' : Nat) (hcs : ∀ j n, tl[j]? = some n → w8.cell? ⟨b, off' + j, none⟩ = some (.string n)) (c1 : Nat) => @rest60_ok M w hg r x1 x2 y1 y2 n1 R tl ok hR hHr w8 (below_trans (below_trans hbw hgr1.below) bw8) w.heap.size w1.heap.size (Nat.le_refl _) (by omega) (by omega) ((bw8.block _ lb2).trans c2) cw8 b off' c1 hcs hbb hlen
          simp only [loop60, tail60, rest60, c60, Tryz.f60, Option.getD_some, Code.fst, Code.snd, Post60] at hrest
          first
          | exact hrest _ hHR (off + 3) (fun j n hj => by rw [show off + 3 + j = off + (j + 3) by omega]; have h0 := hg1.2 _ _ _ (hcs1 (j + 3) n hj); exact (World.cell?_of_block (bw8.block b hbl)).trans h0) _ (by assumption) rfl rfl rfl rfl rfl rfl rfl rfl
          | exact hrest _ hHR off (fun j n hj => by have := (List.getElem?_eq_some_iff.1 hj).1; omega) _ (by assumption) rfl rfl rfl rfl rfl rfl rfl rfl
theorem m_model_ParseRules : Has Tryz.prog sg_model_ParseRules := by
  refine ⟨enters_of (by kernel_rfl), fun s r hr M w vs hg hvs => ?_⟩
  obtain ⟨v, rfl, hv⟩ := hvs
  obtain rfl : v = .string s := relV_str.1 hv
  exact parse60 hg hr
end Go.Lift
