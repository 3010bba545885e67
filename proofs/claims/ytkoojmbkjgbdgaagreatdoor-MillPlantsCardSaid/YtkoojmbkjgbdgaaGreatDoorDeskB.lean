/-
  The answer; the examples hold.
-/
import Derived.Test.YtkoojmbkjgbdgaaGreatDoorDeskA
import Derived.Test.YtkoojmbkjgbdgaaGreatDoorFunE
set_option linter.unusedSectionVars false
set_option linter.unusedVariables false
set_option linter.unusedSimpArgs false
set_option linter.unusedSectionVars false
set_option linter.unusedSimpArgs false
set_option linter.unusedVariables false
namespace Go.Lift
open Go Go.Proofs Go.RowKit Go.Shelf
attribute [local go_sem] Oper.semAt_some run_store_func
theorem run85 {W : World} {x g b bp op cp bs os ks : Nat} {LC cur : Array Value} {r2 r3 : Value} (h : LineA W x g bp op cp bs os ks 2 LC cur) (hb : W.cell? ⟨b, 0, none⟩ = some (.pointer (some ⟨x, 0, none⟩))) {i : Nat} (hi : i < 2) {y : Bool} (hc : cur[i]? = some (.bool y)) :
    Calls Tryz.prog 85 #[.int .i64 (i : Int), .pointer (some ⟨b, 0, none⟩)] W fun e w' => Below W.heap.size W w' ∧ e = .returned (.bool y) := by
  have h24 : W.cell? ⟨x, 24, none⟩ = some (.slice (some ⟨g, 0, none⟩) 2 2) := cell_at h.box h.c24
  have hci : W.cell? ⟨g, i, none⟩ = some (.bool y) := cell_at h.run hc
  go_enter Tryz.func85, Tryz.ntmps85
  go_wp2
  go_ret
  exact ⟨Below.refl _ _, rfl⟩
theorem fits9 : fits Tryz.prog .str (.inl 9) = true := by kernel_rfl
theorem u23 : Tryz.prog.underlying 23 = some (.slice 9) := by kernel_rfl
theorem nil9 (W : World) (B : Nat) : W.ownsRow B 9 1 (.slice none 0 0) 0 [] := ⟨rfl, .inl ⟨rfl, rfl⟩⟩
set_option maxHeartbeats 8000000 in
set_option maxRecDepth 100000 in
theorem names84 {w : World} {x g b bp op cp bs os ks : Nat} {LC : Array Value} {r2 r3 : Value} (h : LineA w x g bp op cp bs os ks 2 LC #[.bool true, .bool false]) (hb : w.cell? ⟨b, 0, none⟩ = some (.pointer (some ⟨x, 0, none⟩))) :
    Calls Tryz.prog 84 #[.pointer (some ⟨x, 0, none⟩), .func (.func 85) #[] #[.pointer (some ⟨b, 0, none⟩)]] w fun e w' => Below w.heap.size w w' ∧ ∃ v, e = .returned v ∧ w'.ownsRow w.heap.size 9 1 v 1 [.string bF1] := by
  have h1 : w.cell? ⟨x, 1, none⟩ = some (.slice (some ⟨bs, os, none⟩) 2 ks) := cell_at h.box h.c1
  have s0 : w.cell? ⟨bs, os, none⟩ = some (.string bF1) := h.std 0 (by decide)
  have s1 : w.cell? ⟨bs, os + 1, none⟩ = some (.string bF2) := h.std 1 (by decide)
  have c0 := run85 (r2 := r2) (r3 := r3) h hb (i := 0) (by decide) (y := true) rfl
  go_enter Tryz.func84, Tryz.ntmps84
  obtain ⟨i0, d0, hi0⟩ := fits_info fits9
  obtain ⟨z, hz, hz1, _⟩ := hi0.zero (by rfl)
  have hby := hi0.bytes
  have hzs : z.cells.size = 1 := by have := relC_len .str (fun _ _ => none) _ _ (hz1 (fun _ _ => none)); exact (by simpa using this : z.cells.size = (Ty.str).size)
  go_wp2
  refine wp_loop_rounds 3 ?_
  rw [rounds_succ]
  go_wp2_with (first | (go_at_call 85; refine Calls.mono c0 ?_; clear c0; rintro e w1 ⟨hb1, rfl⟩) | (at_builtin; refine wpList_append_own_at _ rfl _ _ 23 rfl w.heap.size 9 i0 z 1 i0.bytes u23 hi0.info hz hi0.size rfl hzs (by decide) _ _ _ rfl (nil9 _ w.heap.size) ⟨w1.heap.size, 0, none⟩ 1 1 [.string bF1] rfl ?qc1 ?qc2 ?qc3 ?qc4 ?qc5 ?qc6 ?_))
  case qc1 => rfl
  case qc2 =>
    intro j u hj
    rw [Addr.add_mk, Nat.zero_add]
    exact (cell_block (World.alloc_heap_new w1 _)).trans (by simpa using hj)
  case qc3 =>
    intro u hu
    simp only [List.mem_cons, List.not_mem_nil, or_false] at hu
    subst hu
    rfl
  case qc4 => decide
  case qc5 =>
    have := hby
    omega
  case qc6 => have := hb1.size; rw [World.size_alloc]; omega
  intro v' w5 ho5 hgr5 hnil hob
  have ho5' : w5.ownsRow w.heap.size 9 1 v' 1 [.string bF1] := ho5
  obtain ⟨p5, n5, c5, rfl⟩ := own_shape ho5
  have hb5 : Below (w1.alloc (.cells #[.string bF1] 9)).heap.size (w1.alloc (.cells #[.string bF1] 9)) w5 := below_of_none hgr5
  have hB5 := below_trans hb1 (below_trans (below_new w1 _) hb5)
  have s15 : w5.cell? ⟨bs, os + 1, none⟩ = some (.string bF2) := (World.cell?_of_block (hB5.block _ (World.block_lt_of_cell? _ _ s1))).trans s1
  have hb' : w5.cell? ⟨b, 0, none⟩ = some (.pointer (some ⟨x, 0, none⟩)) := (World.cell?_of_block (hB5.block _ (World.block_lt_of_cell? _ _ hb))).trans hb
  have c1 := run85 (r2 := r2) (r3 := r3) (h.below hB5) hb' (i := 1) (by decide) (y := false) rfl
  clear ho5 hgr5 hnil hob
  go_wp2
  rw [rounds_succ]
  go_wp2_with (first | (go_at_call 85; refine Calls.mono c1 ?_; clear c1; rintro e w6 ⟨hb6, rfl⟩))
  rw [rounds_succ]
  go_wp2
  go_ret
  exact ⟨below_trans hB5 hb6, _, rfl, World.ownsRow.kept ho5' (below_grown hb6) (Classical.em _)⟩
theorem list_one {M : Mem} {w0 w : World} (hg : Good M w0) (hb : Below w0.heap.size w0 w) {v : Value} (h : w.ownsRow w0.heap.size 9 1 v 1 [.string bF1]) : Calls Tryz.prog 83 #[v] w fun e w' => Below w.heap.size w w' ∧ e = .returned (.string bF1) := by
  have hr : mill_list [bF1] = some bF1 := by kernel_rfl
  have hrel : relV Tryz.prog (.slice .str) (memFrom w0.heap.size M w) [bF1] v := by
    have h1 : relC Tryz.prog (.slice .str) (memFrom w0.heap.size M w) [bF1] [v] := own_rel (t := .str) h rfl fun i hi => by
      match i, hi with
      | 0, _ => rfl
    exact h1
  refine Calls.mono ((h_mill_list m_strings_Join).2 [bF1] bF1 hr (memFrom w0.heap.size M w) w [v] (memFrom_good (good_below hg hb)) ⟨_, rfl, hrel⟩) ?_
  rintro e' w' ⟨M', v', rfl, hv, _, hgr⟩
  obtain rfl := relV_str.1 hv
  exact ⟨hgr.below, rfl⟩
end Go.Lift
set_option linter.unusedSectionVars false
set_option linter.unusedSimpArgs false
set_option linter.unusedVariables false
namespace Go.Lift
open Go Go.Proofs Go.RowKit Go.Shelf
attribute [local go_sem] Oper.semAt_some run_store_func
set_option maxHeartbeats 8000000 in
set_option maxRecDepth 100000 in
theorem answer_running {M : Mem} {w : World} (hg : Good M w) {x g bp op cp bs os ks : Nat} {LC : Array Value} (h : LineA w x g bp op cp bs os ks 2 LC #[.bool true, .bool false]) (n : Int) :
    Calls Tryz.prog 52 #[.pointer (some ⟨x, 0, none⟩), .int .i64 n, .string ⟨#[114, 117, 110, 110, 105, 110, 103]⟩] w fun e w' => Below w.heap.size w w' ∧ e = .returned (.tuple #[.string bF1, .int .i64 0]) := by
  have hb0 := below_new w (.cells #[.pointer (some ⟨x, 0, none⟩)] 102)
  have k0 : (w.alloc (.cells #[.pointer (some ⟨x, 0, none⟩)] 102)).cell? ⟨w.heap.size, 0, none⟩ = some (.pointer (some ⟨x, 0, none⟩)) := cell_at (World.alloc_heap_new w _) rfl
  have hn := names84 (r2 := .bool true) (r3 := .bool true) (h.below hb0) k0
  go_enter Tryz.func52, Tryz.ntmps52
  go_wp2_with (first | (go_at_call 84; refine Calls.mono hn ?_; clear hn; rintro e w1 ⟨hb1, v, rfl, hown⟩; have hl := list_one (good_below hg hb0) hb1 hown) | (go_at_call 83; refine Calls.mono hl ?_; clear hl; rintro e w2 ⟨hb2, rfl⟩))
  go_ret2
  exact ⟨below_trans (below_trans hb0 hb1) hb2, rfl⟩
set_option maxHeartbeats 8000000 in
set_option maxRecDepth 100000 in
theorem Answer_running {M : Mem} {w : World} (hg : Good M w) {p0 p1 : Option Addr} {n0 k0 n1 k1 : Nat} {s2 s3 : ByteArray} (hv : relV Tryz.prog Tapi_MillPlant M plantV (.agg #[.slice p0 n0 k0, .slice p1 n1 k1, .string s2, .string s3])) {bl ol cl : Nat} (hlog : LogAt w bl ol bTom bTom tStart tNote) :
    Calls Tryz.prog 27 #[.agg #[.slice p0 n0 k0, .slice p1 n1 k1, .string s2, .string s3], .slice (some ⟨bl, ol, none⟩) 2 cl, .string ⟨#[114, 117, 110, 110, 105, 110, 103]⟩] w fun e w' => Below w.heap.size w w' ∧ e = .returned (.tuple #[.string bF1, .int .i64 0]) := by
  have hb0 := below_new w (.cells #[.slice p0 n0 k0, .slice p1 n1 k1, .string s2, .string s3] 25)
  have haf := after_note (cl := cl) (good_below hg hb0) hv (hlog.below hb0)
  go_enter Tryz.func27, Tryz.ntmps27
  go_wp2_with (first | (go_at_call 40; refine Calls.mono haf ?_; clear haf; rintro e w1 ⟨hb1, x, rfl, g, bp, op, cp, bs, os, ks, r2, r3, LC, hline, hdrop, ho2, ho3⟩; have han := answer_running (good_below hg (below_trans hb0 hb1)) hline 2) | (go_at_call 52; refine Calls.mono han ?_; clear han; rintro e w2 ⟨hb2, rfl⟩))
  go_ret2
  exact ⟨below_trans (below_trans hb0 hb1) hb2, rfl⟩
end Go.Lift
set_option linter.unusedSectionVars false
set_option linter.unusedSimpArgs false
set_option linter.unusedVariables false
namespace Go.Lift
open Go Go.Proofs Go.RowKit Go.Shelf
attribute [local go_sem] Oper.semAt_some run_store_func
theorem sum_ab : mill_SumOf (bytes [97, 98]) 0 = some (13525, 0) := le_mill_SumOf _ _ _ (by kernel_rfl)
theorem sum25 {M : Mem} {w : World} (hg : Good M w) : Calls Tryz.prog 25 #[.string ⟨#[97, 98]⟩, .int .i64 0] w fun e w' => Below w.heap.size w w' ∧ e = .returned (.tuple #[.int .i64 13525, .int .i64 0]) := by
  refine Calls.mono (h_mill_SumOf.2 (bytes [97, 98], 0) _ sum_ab M w [.string (bytes [97, 98]), .int .i64 0] hg ⟨_, _, rfl, relV_str.2 rfl, _, rfl, relV_int.2 rfl⟩) ?_
  rintro e' w' ⟨M', v, rfl, ⟨⟨vl⟩, rfl, u1, rs, e1, hu1, u2, rfl, hu2⟩, _, hgr'⟩
  obtain rfl := relV_int.1 hu1
  obtain rfl := relV_int.1 hu2
  replace e1 : vl = [_, _] := e1
  subst e1
  exact ⟨hgr'.below, rfl⟩
theorem plant24 {M : Mem} {w : World} (hg : Good M w) : Calls Tryz.prog 24 #[] w fun e w' => Below w.heap.size w w' ∧ ∃ M' p0 n0 k0 p1 n1 k1 s2 s3, Good M' w' ∧ e = .returned (.agg #[.slice p0 n0 k0, .slice p1 n1 k1, .string s2, .string s3]) ∧ relV Tryz.prog Tapi_MillPlant M' plantV (.agg #[.slice p0 n0 k0, .slice p1 n1 k1, .string s2, .string s3]) := by
  refine Calls.mono (h_cobblelaw10_Plant.2 () _ plant_true M w [] hg rfl) ?_
  rintro e' w' ⟨M', v, rfl, hv, hg', hgr'⟩
  obtain ⟨p0, n0, k0, p1, n1, k1, s2, s3, rfl⟩ := plant_vals hv
  exact ⟨hgr'.below, M', p0, n0, k0, p1, n1, k1, s2, s3, hg', rfl, hv⟩
theorem logAt_new {w : World} {g : Nat} {t1 t2 : ByteArray} (h : w.heap[g]? = some (.cells #[.int .i64 0, .string bTom, .string t1, .int .i64 0, .string bTom, .string t2] 54 (0, 0))) : LogAt w g 0 bTom bTom t1 t2 :=
  ⟨cell_at h rfl, cell_at h rfl, cell_at h rfl, cell_at h rfl, cell_at h rfl, cell_at h rfl⟩
set_option maxHeartbeats 8000000 in
set_option maxRecDepth 100000 in
theorem awake6 {M : Mem} {w : World} (hg : Good M w) : Calls Tryz.prog 6 #[] w fun e w' => Below w.heap.size w w' ∧ e = .returned (.bool true) := by
  have hb0 := below_new w (.cells #[.int .i64 0, .string bTom, .string tStart, .int .i64 0, .string bTom, .string tNote] 54)
  have kl := World.alloc_heap_new w (.cells #[.int .i64 0, .string bTom, .string tStart, .int .i64 0, .string bTom, .string tNote] 54)
  have hp1 := plant24 (good_below hg hb0)
  have hf : (bF1.toList == [102, 49]) = true := by kernel_rfl
  go_enter Tryz.func6, Tryz.ntmps6
  go_wp2_with (first | (go_at_call 24; refine Calls.mono hp1 ?_; clear hp1; rintro e w1 ⟨hb1, M1, p0, n0, k0, p1, n1, k1, s2, s3, hg1, rfl, hv1⟩; have kl1 := (hb1.block _ (Array.getElem?_eq_some_iff.1 kl).1).trans kl; have hst := StateOf_note (cl := 2) hg1 hv1 (logAt_new kl1)) | (go_at_call 23; refine Calls.mono hst ?_; clear hst; rintro e w2 ⟨hb2, g, r2, r3, rfl, ho2, ho3, hrun⟩; have hB3 := below_trans (below_trans hb0 hb1) (below_trans hb2 (below_new w2 (.cells (state13 g r2 r3).toArray 65))); have ks3 := World.alloc_heap_new w2 (.cells (state13 g r2 r3).toArray 65); have kr3 := ((below_new w2 (.cells (state13 g r2 r3).toArray 65)).block _ (Array.getElem?_eq_some_iff.1 hrun).1).trans hrun; have hsum := sum25 (good_below hg hB3)) | (show wpList _ _ _ ({ dst := none, op := Op.store 65 (Operand.tmp 2) (Operand.tmp 17), type := _, pos := _, after := _, guard := _ } :: _) _ _; refine wpList_store_all rfl 65 (.tmp 2) (.tmp 17) w2.heap.size rfl rfl (state13 g r2 r3) rfl (World.alloc_heap_new w2 _) rfl Tryz.sizeOf65 (state_one ho2 ho3) ?_; rw [World.setRow_alloc_new]) | (go_at_call 25; refine Calls.mono hsum ?_; clear hsum; rintro e w4 ⟨hb4, rfl⟩; have hB4 := below_trans hB3 hb4; have hp2 := plant24 (good_below hg hB4)) | (go_at_call 24; refine Calls.mono hp2 ?_; clear hp2; rintro e w5 ⟨hb5, M5, p50, n50, k50, p51, n51, k51, s52, s53, hg5, rfl, hv5⟩; have hB5 := below_trans hB4 hb5; have hb5a := below_new w5 (.cells #[.int .i64 0, .string bTom, .string tStart, .int .i64 0, .string bTom, .string tThread] 54); have hck := check_thread (cl := 2) (good_below hg5 hb5a) hv5 (logAt_new (World.alloc_heap_new w5 _))) | (go_at_call 26; refine Calls.mono hck ?_; clear hck; rintro e w6 ⟨hb6, rfl⟩; have hB6 := below_trans hB5 (below_trans hb5a hb6); have hp3 := plant24 (good_below hg hB6)) | (go_at_call 24; refine Calls.mono hp3 ?_; clear hp3; rintro e w7 ⟨hb7, M7, p70, n70, k70, p71, n71, k71, s72, s73, hg7, rfl, hv7⟩; have hB7 := below_trans hB6 hb7; have kl7 := ((below_trans (below_trans hb1 hb2) (below_trans (below_new w2 (.cells (state13 g r2 r3).toArray 65)) (below_trans hb4 (below_trans hb5 (below_trans hb5a (below_trans hb6 hb7)))))).block _ (Array.getElem?_eq_some_iff.1 kl).1).trans kl; have han := Answer_running (cl := 2) hg7 hv7 (logAt_new kl7)) | (go_at_call 27; refine Calls.mono han ?_; clear han; rintro e w8 ⟨hb8, rfl⟩; have hB38 := below_trans hb4 (below_trans hb5 (below_trans hb5a (below_trans hb6 (below_trans hb7 hb8)))); have ks8 := (hB38.block _ (Array.getElem?_eq_some_iff.1 ks3).1).trans ks3; have kr8 := (hB38.block _ (Array.getElem?_eq_some_iff.1 kr3).1).trans kr3; have z1 : w8.cell? ⟨w2.heap.size, 3, none⟩ = some (.slice (some ⟨g, 0, none⟩) 2 2) := cell_at ks8 rfl; have z2 : w8.cell? ⟨g, 0, none⟩ = some (.bool true) := cell_at kr8 rfl; have z3 : w8.cell? ⟨g, 1, none⟩ = some (.bool false) := cell_at kr8 rfl))
  go_ret
  exact ⟨below_trans hB3 hB38, rfl⟩
end Go.Lift
