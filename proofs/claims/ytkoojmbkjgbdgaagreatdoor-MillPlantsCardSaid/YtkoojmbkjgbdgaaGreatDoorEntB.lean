/-
  A stand is started, a strip threaded.
-/
import Derived.Test.YtkoojmbkjgbdgaaGreatDoorEntA
import Derived.Test.YtkoojmbkjgbdgaaGreatDoorPlainA
set_option linter.unusedSectionVars false
set_option linter.unusedVariables false
set_option linter.unusedSimpArgs false
set_option linter.unusedSectionVars false
set_option linter.unusedSimpArgs false
set_option linter.unusedVariables false
namespace Go.Lift
open Go Go.Proofs Go.RowKit Go.Shelf
attribute [local go_sem] Oper.semAt_some run_store_func
theorem note122 (w : World) (bl : Nat) (v : Value) : Calls Tryz.prog 122 #[.pointer (some ⟨bl, 0, none⟩), v] w fun e w' => Below w.heap.size w w' ∧ e = .returned (.int .i64 0) := by
  go_enter Tryz.func122, Tryz.ntmps122
  go_wp2
  all_goals
    go_ret
    exact ⟨below_new w _, rfl⟩
theorem unless_calls {M : Mem} {w : World} (hg : Good M w) (c : Bool) (e : Int) : Calls Tryz.prog 42 #[.bool c, .int .i64 e] w fun e' w' => Below w.heap.size w w' ∧ e' = .returned (.int .i64 (bif c then 0 else e)) := by
  refine Calls.mono (h_mill_unless.2 (c, e) (bif c then 0 else e) (by cases c <;> kernel_rfl) M w [.bool c, .int .i64 e] hg ⟨_, _, rfl, relV_bool.2 rfl, _, rfl, relV_int.2 rfl⟩) ?_
  rintro e' w' ⟨M', v, rfl, hv, _, hgr⟩
  obtain rfl := relV_int.1 hv
  exact ⟨hgr.below, rfl⟩
theorem within_calls {M : Mem} {w : World} (hg : Good M w) {a b c : Int} {y : Bool} (h : mill_within a b c = some y) : Calls Tryz.prog 49 #[.int .i64 a, .int .i64 b, .int .i64 c] w fun e' w' => Below w.heap.size w w' ∧ e' = .returned (.bool y) := by
  refine Calls.mono (h_mill_within.2 (a, b, c) y h M w [.int .i64 a, .int .i64 b, .int .i64 c] hg ⟨_, _, rfl, relV_int.2 rfl, _, _, rfl, relV_int.2 rfl, _, rfl, relV_int.2 rfl⟩) ?_
  rintro e' w' ⟨M', v, rfl, hv, _, hgr⟩
  obtain rfl := relV_bool.1 hv
  exact ⟨hgr.below, rfl⟩
theorem first_calls {M : Mem} {w0 w : World} (hg : Good M w0) (hb : Below w0.heap.size w0 w) {l : List Int} {g : Nat} {E : TypeId} (hc : w.heap[g]? = some (.cells (l.map fun n => Value.int .i64 n).toArray E (0, 0))) (hge : w0.heap.size ≤ g) {y : Int} (h : mill_first l = some y) :
    Calls Tryz.prog 41 #[.slice (some ⟨g, 0, none⟩) l.length l.length] w fun e' w' => Below w.heap.size w w' ∧ e' = .returned (.int .i64 y) := by
  have hgm := memFrom_good (B := w0.heap.size) (good_below hg hb)
  refine Calls.mono (h_mill_first.2 l y h (memFrom w0.heap.size M w) w [.slice (some ⟨g, 0, none⟩) l.length l.length] hgm ⟨_, rfl, _, rfl, .inr (.inl ⟨g, 0, l.length, l.map fun n => Value.int .i64 n, rfl, Nat.le_refl _, by simp [Ty.size], fun j u hj => ?_, fun i hi => ?_⟩)⟩) ?_
  · unfold memFrom
    rw [if_pos hge, Nat.zero_add]
    exact cell_at hc (by simpa using hj)
  · show ((l.map fun n => Value.int .i64 n).drop (i * 1)).take 1 = [.int .i64 l[i]]
    rw [Nat.mul_one, List.take_one, List.head?_drop, List.getElem?_map, List.getElem?_eq_getElem hi]
    rfl
  rintro e' w' ⟨M', v, rfl, hv, _, hgr⟩
  obtain rfl := relV_int.1 hv
  exact ⟨hgr.below, rfl⟩
theorem stand198 {w : World} {bl bs os ns cs : Nat} {zs : List ByteArray} {x : ByteArray} (h1 : w.cell? ⟨bl, 1, none⟩ = some (.slice (some ⟨bs, os, none⟩) ns cs)) (hz : ns = zs.length) (hlen : ns ≤ 1000) (hc : ∀ j, j < zs.length → w.cell? ⟨bs, os + j, none⟩ = some (.string (zs.getD j ByteArray.empty))) :
    Calls Tryz.prog 198 #[.pointer (some ⟨bl, 0, none⟩), .string x] w fun e w' => Below w.heap.size w w' ∧ e = .returned (.int .i64 (Lib.idxOfS zs x)) := by
  have hi := Tryz.slices_Index_string bs os ns cs zs x w (by omega) (by omega) hc
  rw [hz, List.take_length] at hi
  subst hz
  go_enter Tryz.func198, Tryz.ntmps198
  go_wp2_with (go_at_call 157; refine Calls.mono hi ?_; clear hi; rintro e w1 ⟨rfl, rfl⟩)
  go_ret
  exact ⟨Below.refl _ _, rfl⟩
theorem unless_true {M : Mem} {w W : World} (hg : Good M w) (hb : Below w.heap.size w W) (e : Int) : Calls Tryz.prog 42 #[.bool true, .int .i64 e] W fun e' w' => Below w.heap.size w w' ∧ e' = .returned (.int .i64 0) := by
  refine Calls.mono (unless_calls (good_below hg hb) true e) ?_
  rintro e' w' ⟨h1, rfl⟩
  exact ⟨below_trans hb h1, rfl⟩
theorem first_2 : mill_first (List.replicate 2 0) = some 0 := (first_ok (by decide)).trans (by decide)
theorem first_5 : mill_first (List.replicate 5 0) = some 0 := (first_ok (by decide)).trans (by decide)
theorem first_zeros {M : Mem} {w W : World} (hg : Good M w) (hb : Below w.heap.size w W) {n : Nat} (hn : mill_first (List.replicate n 0) = some 0) {E : TypeId} : Calls Tryz.prog 41 #[.slice (some ⟨W.heap.size, 0, none⟩) n n] (W.alloc (.cells (Array.replicate n (.int .i64 0)) E)) fun e' w' => Below w.heap.size w w' ∧ e' = .returned (.int .i64 0) := by
  have hbW : Below w.heap.size w (W.alloc (.cells (Array.replicate n (.int .i64 0)) E)) := below_trans hb (below_new W _)
  have := first_calls (l := List.replicate n 0) (g := W.heap.size) (E := E) hg hbW (by rw [World.alloc_heap_new]; simp) hb.size hn
  rw [List.length_replicate] at this
  refine Calls.mono this ?_
  rintro e' w' ⟨h1, rfl⟩
  exact ⟨below_trans hbW h1, rfl⟩
theorem line_cells {w w' : World} {bl : Nat} {LC : Array Value} (h : w.heap[bl]? = some (.cells LC 113 (0, 0))) (hb : Below w.heap.size w w') : w'.heap[bl]? = some (.cells LC 113 (0, 0)) := (hb.block bl (Array.getElem?_eq_some_iff.1 h).1).trans h
set_option maxHeartbeats 8000000 in
set_option maxRecDepth 100000 in
theorem start129 {M : Mem} {w : World} (hg : Good M w) {bl bs os cs br cr kB cB i : Nat} {zs : List ByteArray} {x : ByteArray} {LC cur : Array Value} {n2 r3 : Value} (hl : w.heap[bl]? = some (.cells LC 113 (0, 0)))
    (h1 : LC[1]? = some (.slice (some ⟨bs, os, none⟩) zs.length cs)) (h24 : LC[24]? = some (.slice (some ⟨br, 0, none⟩) zs.length cr)) (h27 : LC[27]? = some (.bool false)) (hlen : zs.length ≤ 1000) (hc : ∀ j, j < zs.length → w.cell? ⟨bs, os + j, none⟩ = some (.string (zs.getD j ByteArray.empty)))
    (hr : w.heap[br]? = some (.cells cur 4 (0, 0))) (hri : cur[i]? = some (.bool false)) (hi : Lib.idxOfS zs x = (i : Int)) (hilt : i < zs.length) (hx : w.cell? ⟨kB, 0, none⟩ = some (.string x)) :
    Calls Tryz.prog 129 #[.pointer (some ⟨bl, 0, none⟩), .agg #[.slice (some ⟨kB, 0, none⟩) 1 cB, n2, r3]] w fun e w' => w.grownBy w' (some br) ∧ w'.heap[br]? = some (.cells (cur.setIfInBounds i (.bool true)) 4 (0, 0)) ∧ e = .returned (.int .i64 0) := by
  obtain ⟨w0, hw0⟩ : ∃ w0, w.alloc (.cells #[.slice (some ⟨kB, 0, none⟩) 1 cB, n2, r3] 167) = w0 := ⟨_, rfl⟩
  have hb0 : Below w.heap.size w w0 := by rw [← hw0]; exact below_new w _
  have hc0 : w0.heap[w.heap.size]? = some (.cells #[.slice (some ⟨kB, 0, none⟩) 1 cB, n2, r3] 167 (0, 0)) := by rw [← hw0]; exact World.alloc_heap_new w _
  have k1 : w0.cell? ⟨w.heap.size, 0, none⟩ = some (.slice (some ⟨kB, 0, none⟩) 1 cB) := cell_at hc0 rfl
  have hkb := World.block_lt_of_cell? w _ hx
  have k2 : w0.cell? ⟨kB, 0, none⟩ = some (.string x) := (World.cell?_of_block (hb0.block kB hkb)).trans hx
  have hst := stand198 (w := w0) (bl := bl) (x := x) (cell_at (line_cells hl hb0) h1) rfl hlen (fun j hj => (World.cell?_of_block (hb0.block bs (World.block_lt_of_cell? w _ (hc j hj)))).trans (hc j hj))
  rw [hi] at hst
  have facts : ∀ W, Below w.heap.size w W → W.cell? ⟨bl, 24, none⟩ = some (.slice (some ⟨br, 0, none⟩) zs.length cr) ∧ W.cell? ⟨bl, 27, none⟩ = some (.bool false) ∧ W.cell? ⟨br, i, none⟩ = some (.bool false) ∧ W.frozen? ⟨br, i, none⟩ = false := fun W hW =>
    ⟨cell_at (line_cells hl hW) h24, cell_at (line_cells hl hW) h27, cell_at ((hW.block br (Array.getElem?_eq_some_iff.1 hr).1).trans hr) hri, frozen_at ((hW.block br (Array.getElem?_eq_some_iff.1 hr).1).trans hr)⟩
  go_enter Tryz.func129, Tryz.ntmps129
  go_wp2_with (go_at_call 198; refine Calls.mono hst ?_; clear hst; rintro e w1 ⟨hb1, rfl⟩; obtain ⟨f1, f2, f3, f4⟩ := facts w1 (below_trans hb0 hb1))
  have hbd : Below w.heap.size w w1.drew := below_trans (below_trans hb0 hb1) (below_drew _)
  obtain ⟨g1, g2, g3, g4⟩ := facts w1.drew hbd
  have hz : ∀ W, Below w.heap.size w W → Calls Tryz.prog 41 #[.slice (some ⟨W.heap.size, 0, none⟩) 2 2] (W.alloc (.cells #[.int .i64 0, .int .i64 0] 28)) _ := fun W hW => first_zeros (n := 2) (E := 28) hg hW first_2
  go_region_with (first | (go_at_call 42; refine Calls.mono (unless_true hg hbd _) ?_; rintro e w2 ⟨hb2, rfl⟩; obtain ⟨j1, j2, j3, j4⟩ := facts w2 hb2; clear hbd) | (go_at_call 42; refine Calls.mono (unless_true hg hb2 _) ?_; rintro e w3 ⟨hb3, rfl⟩; clear hb2) | (go_at_call 41; refine Calls.mono (hz _ hb3) ?_; rintro e w4 ⟨hb4, rfl⟩))
  all_goals
    obtain ⟨l1, l2, l3, l4⟩ := facts w4 hb4
    clear facts
    go_wp2
    go_ret
    refine ⟨⟨hb4.os, hb4.tape, hb4.output, by simpa [World.setCell] using hb4.size, fun k hk hn => ?_⟩, setCell_at ((hb4.block br (Array.getElem?_eq_some_iff.1 hr).1).trans hr), rfl⟩
    exact (setCell_grown.block k (Nat.lt_of_lt_of_le hk hb4.size) hn).trans (hb4.block k hk)
end Go.Lift
set_option linter.unusedSectionVars false
set_option linter.unusedSimpArgs false
set_option linter.unusedVariables false
namespace Go.Lift
open Go Go.Proofs Go.RowKit Go.Shelf
attribute [local go_sem] Oper.semAt_some run_store_func
set_option maxHeartbeats 8000000 in
set_option maxRecDepth 100000 in
theorem thread131 {w : World} {bl : Nat} {LC : Array Value} {s : ByteArray} {n1 n2 n3 : Value} (hl : w.heap[bl]? = some (.cells LC 113 (0, 0))) (h21 : LC[21]? = some (.string s)) (hs : s.toList = []) :
    Calls Tryz.prog 131 #[.pointer (some ⟨bl, 0, none⟩), .agg #[n1, n2, n3]] w fun e w' => Below w.heap.size w w' ∧ e = .returned (.int .i64 20) := by
  have facts : ∀ W, Below w.heap.size w W → W.cell? ⟨bl, 21, none⟩ = some (.string s) := fun W hW => cell_at (line_cells hl hW) h21
  have hb0 : Below w.heap.size w (w.alloc (.cells #[n1, n2, n3] 167)) := below_new w _
  obtain ⟨w0, hw0⟩ : ∃ w0, w.alloc (.cells #[n1, n2, n3] 167) = w0 := ⟨_, rfl⟩
  rw [hw0] at hb0
  have f0 := facts w0 hb0
  have f1 := facts w0.drew (below_trans hb0 (below_drew _))
  go_enter Tryz.func131, Tryz.ntmps131
  go_wp2
  go_region
  all_goals
    go_wp2
    go_ret
    exact ⟨below_trans hb0 (below_drew _), rfl⟩
end Go.Lift
