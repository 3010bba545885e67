/-
  The plant of the examples; the state after its log.
-/
import Derived.Test.YtkoojmbkjgbdgaaGreatDoorEntE
import Derived.Test.YtkoojmbkjgbdgaaGreatDoorManG
import Derived.Test.YtkoojmbkjgbdgaaGreatDoorFunE
import Derived.Deep.WholeRow
set_option linter.unusedSectionVars false
set_option linter.unusedVariables false
set_option linter.unusedSimpArgs false
set_option linter.unusedSectionVars false
set_option linter.unusedSimpArgs false
set_option linter.unusedVariables false
namespace Go.Lift
open Go Go.Proofs Go.RowKit Go.Shelf
attribute [local go_sem] Oper.semAt_some run_store_func
theorem persons_of {M : Mem} {w : World} (hg : Good M w) {l : List (ByteArray × Int)} {cs : List Value} (hl : l ≠ []) (h : relC Tryz.prog (.slice Tapi_MillPerson) M l cs) : ∃ b off c, cs = [.slice (some ⟨b, off, none⟩) l.length c] ∧ PersonsAt w b off l := by
  obtain ⟨v', rfl, h2⟩ := h
  rcases h2 with ⟨rfl, rfl⟩ | ⟨b, off, cap, cells, rfl, hcap, hlen, hm, hel⟩ | ⟨a, c, rfl, rfl⟩
  · exact absurd rfl hl
  · refine ⟨b, off, cap, rfl, fun j p hj => ?_⟩
    obtain ⟨hlt, hs⟩ := List.getElem?_eq_some_iff.1 hj
    obtain ⟨h3, h4⟩ : relC Tryz.prog (.pair .str (.int .i64)) M l[j] ((cells.drop (j * 2)).take 2) := hel j hlt
    replace h3 : ((cells.drop (j * 2)).take 2).take 1 = [.string l[j].1] := h3
    replace h4 : ((cells.drop (j * 2)).take 2).drop 1 = [.int .i64 l[j].2] := h4
    have e3 := congrArg (fun l : List Value => l[0]?) h3
    have e4 := congrArg (fun l : List Value => l[0]?) h4
    simp only [List.getElem?_take, List.getElem?_drop] at e3 e4
    rw [← hs]
    exact ⟨hg.2 _ _ _ (hm (j * 2) _ (by simpa using e3)), hg.2 _ _ _ (by rw [Nat.add_assoc]; exact hm (j * 2 + 1) _ (by simpa using e4))⟩
  · exact absurd rfl hl
theorem names_of {M : Mem} {w : World} (hg : Good M w) {l : List ByteArray} {cs : List Value} (hl : l ≠ []) (h : relC Tryz.prog (.slice .str) M l cs) : ∃ b off c, cs = [.slice (some ⟨b, off, none⟩) l.length c] ∧ ∀ j, j < l.length → w.cell? ⟨b, off + j, none⟩ = some (.string (l.getD j ByteArray.empty)) := by
  obtain ⟨v', rfl, h2⟩ := h
  obtain ⟨p, c, rfl, h3⟩ := strs_shape (v := v') ⟨v', rfl, h2⟩
  rcases h3 with rfl | ⟨b, off, rfl, h3⟩
  · exact absurd rfl hl
  · refine ⟨b, off, c, rfl, fun j hj => hg.2 _ _ _ (h3 j _ ?_)⟩
    rw [List.getElem?_eq_getElem hj]
    simp [List.getD, hj]
theorem people_plant : plantV.1 = people3 := by kernel_rfl
theorem stands_plant : plantV.2.1 = stands2 := by kernel_rfl
theorem works_of {M : Mem} {w : World} (hg : Good M w) {ru : Dapi_PassRules × Dapi_ModelRules} {v : Value} (h : relV Tryz.prog Tmill_works M (plantV, ru) v) :
    ∃ bp op cp bs os ks, ∃ c2 c3 c4 c5 c6 c7 c8 c9 c10 c11 c12 c13 c14 c15 c16 c17 c18 c19 c20 : Value, v = .agg #[.slice (some ⟨bp, op, none⟩) 3 cp, .slice (some ⟨bs, os, none⟩) 2 ks, c2, c3, c4, c5, c6, c7, c8, c9, c10, c11, c12, c13, c14, c15, c16, c17, c18, c19, c20] ∧ PersonsAt w bp op people3 ∧ (∀ j, j < stands2.length → w.cell? ⟨bs, os + j, none⟩ = some (.string (stands2.getD j ByteArray.empty))) ∧ (∀ u ∈ ([.slice (some ⟨bp, op, none⟩) 3 cp, .slice (some ⟨bs, os, none⟩) 2 ks, c2, c3, c4, c5, c6, c7, c8, c9, c10, c11, c12, c13, c14, c15, c16, c17, c18, c19, c20] : List Value), u.oneCell' = true) := by
  obtain ⟨⟨cells⟩, rfl, h⟩ := h
  have hone := relC_one Tmill_works _ _ h
  have hlen := relC_len Tmill_works M _ _ h
  obtain ⟨c0, c1, c2, c3, c4, c5, c6, c7, c8, c9, c10, c11, c12, c13, c14, c15, c16, c17, c18, c19, c20, rfl⟩ := list21 cells hlen
  obtain ⟨⟨hp, hs, _⟩, _⟩ := h
  have hp' : relC Tryz.prog (.slice Tapi_MillPerson) M plantV.1 [c0] := hp
  have hs' : relC Tryz.prog (.slice .str) M plantV.2.1 [c1] := hs
  rw [people_plant] at hp'
  rw [stands_plant] at hs'
  obtain ⟨bp, op, cp, e1, h1⟩ := persons_of hg (by simp [people3]) hp'
  obtain ⟨bs, os, ks, e2, h2⟩ := names_of hg (by simp [stands2]) hs'
  simp only [List.cons.injEq, and_true] at e1 e2
  subst e1 e2
  exact ⟨bp, op, cp, bs, os, ks, c2, c3, c4, c5, c6, c7, c8, c9, c10, c11, c12, c13, c14, c15, c16, c17, c18, c19, c20, rfl, h1, h2, hone⟩
theorem open28 {M : Mem} {w : World} (hg : Good M w) {v : Value} (hv : relV Tryz.prog Tapi_MillPlant M plantV v) :
    Calls Tryz.prog 28 #[v] w fun e w' => Below w.heap.size w w' ∧ ∃ bp op cp bs os ks, ∃ c2 c3 c4 c5 c6 c7 c8 c9 c10 c11 c12 c13 c14 c15 c16 c17 c18 c19 c20 : Value, e = .returned (.tuple #[.agg #[.slice (some ⟨bp, op, none⟩) 3 cp, .slice (some ⟨bs, os, none⟩) 2 ks, c2, c3, c4, c5, c6, c7, c8, c9, c10, c11, c12, c13, c14, c15, c16, c17, c18, c19, c20], .int .i64 0, .int .i64 0]) ∧ PersonsAt w' bp op people3 ∧ (∀ j, j < stands2.length → w'.cell? ⟨bs, os + j, none⟩ = some (.string (stands2.getD j ByteArray.empty))) ∧ (∀ u ∈ ([.slice (some ⟨bp, op, none⟩) 3 cp, .slice (some ⟨bs, os, none⟩) 2 ks, c2, c3, c4, c5, c6, c7, c8, c9, c10, c11, c12, c13, c14, c15, c16, c17, c18, c19, c20] : List Value), u.oneCell' = true) := by
  obtain ⟨ru, hru⟩ := open_plant
  refine Calls.mono ((h_mill_open m_pass_ParseRules m_model_ParseRules).2 plantV _ hru M w [v] hg ⟨_, rfl, hv⟩) ?_
  rintro e' w' ⟨M', v', rfl, ⟨⟨vl⟩, rfl, u1, rs, e1, hu1, u2, rs2, rfl, hu2, u3, rfl, hu3⟩, hg', hgr'⟩
  obtain rfl := relV_int.1 hu2
  obtain rfl := relV_int.1 hu3
  replace e1 : vl = [_, _, _] := e1
  subst e1
  obtain ⟨bp, op, cp, bs, os, ks, c2, c3, c4, c5, c6, c7, c8, c9, c10, c11, c12, c13, c14, c15, c16, c17, c18, c19, c20, rfl, h1, h2, h3⟩ := works_of hg' hu1
  exact ⟨hgr'.below, bp, op, cp, bs, os, ks, c2, c3, c4, c5, c6, c7, c8, c9, c10, c11, c12, c13, c14, c15, c16, c17, c18, c19, c20, rfl, h1, h2, h3⟩
end Go.Lift
set_option linter.unusedSectionVars false
set_option linter.unusedSimpArgs false
set_option linter.unusedVariables false
namespace Go.Lift
open Go Go.Proofs Go.RowKit Go.Shelf
attribute [local go_sem] Oper.semAt_some run_store_func
theorem wpList_store_all {P : Program} {w : World} {ops : Array Oper} {rest : List Oper} {o : Oper} {a : Act} {Q : Exit → Act → World → Prop}
    (hg : o.guard = none) (t : TypeId) (p x : Operand) (g : Nat) (hop : o.op = Op.store t p x) (hp : a.eval p = .pointer (some ⟨g, 0, none⟩)) (l : List Value) (hx : a.eval x = .agg l.toArray) {cur : Array Value} {T : TypeId} (hh : w.heap[g]? = some (.cells cur T (0, 0))) (hn : cur.size = l.length)
    (hsz : ∀ W, (sizeOf t).run P W = .ok l.length W) (h1 : ∀ v ∈ l, v.oneCell' = true) (hK : wpList P ops Q rest (a.put o.dst undef) (w.setRow g l.toArray)) : wpList P ops Q (o :: rest) a w := by
  have hst := run_storeCells_at P g 0 T l 0 cur w hh (by omega) h1
  have e : (cur.toList.take (0 + 0) ++ l ++ cur.toList.drop (0 + 0 + l.length)).toArray = l.toArray := by
    rw [Nat.zero_add, Nat.zero_add, List.take_zero, List.nil_append, List.drop_eq_nil_of_le (by simp; omega), List.append_nil]
  rw [e] at hst
  have hrun : (execOp a.eval o).run P w = .ok .skip (w.setRow g l.toArray) := by
    simp only [execOp, hop, Instr.storeAt, Instr.sureAddr, storeVar, Sem.run_bind, Sem.run_pure, hsz, hp, hx, Result.andThen_ok]
    rw [if_neg (by show ¬ _; simp [Value.cells])]
    show (Result.andThen ((storeCells ⟨g, 0, none⟩ l).run P w) _) = _
    rw [hst]
    rfl
  refine wpList_plain hg fun K hK' => ?_
  unfold Oper.wp
  rw [hrun]
  exact hK' _ _ hK
end Go.Lift
set_option linter.unusedSectionVars false
set_option linter.unusedSimpArgs false
set_option linter.unusedVariables false
namespace Go.Lift
open Go Go.Proofs Go.RowKit Go.Shelf
attribute [local go_sem] Oper.semAt_some run_store_func
def state13 (g : Nat) (r2 r3 : Value) : List Value := [.string ⟨#[]⟩, .int .i64 0, .int .i64 0, .slice (some ⟨g, 0, none⟩) 2 2, r2, r3, .bool false, .int .i64 0, .slice none 0 0, .slice none 0 0, .slice none 0 0, .int .i64 0, .int .i64 0]
def Ran (w : World) (x : Nat) : Prop := ∃ g bp op cp bs os ks r2 r3 LC, LineA w x g bp op cp bs os ks 2 LC #[.bool true, .bool false] ∧ LC.toList.drop 21 = state13 g r2 r3 ∧ r2.oneCell' = true ∧ r3.oneCell' = true
theorem Ran.below {w w' : World} {x : Nat} (h : Ran w x) (hb : Below w.heap.size w w') : Ran w' x := by
  obtain ⟨g, bp, op, cp, bs, os, ks, r2, r3, LC, h1, h2⟩ := h
  exact ⟨g, bp, op, cp, bs, os, ks, r2, r3, LC, h1.below hb, h2⟩
theorem plant_vals {M : Mem} {v : Value} (hv : relV Tryz.prog Tapi_MillPlant M plantV v) : ∃ p0 n0 c0 p1 n1 c1 s2 s3, v = .agg #[.slice p0 n0 c0, .slice p1 n1 c1, .string s2, .string s3] := by
  obtain ⟨⟨cells⟩, rfl, h⟩ := hv
  have hlen := relC_len Tapi_MillPlant M _ _ h
  match cells, hlen with
  | [a, b, c, d], _ =>
    obtain ⟨h0, h1, h2, h3⟩ := h
    have e2 : [c] = [Value.string _] := h2
    have e3 : [d] = [Value.string _] := h3
    simp only [List.cons.injEq, and_true] at e2 e3
    subst e2 e3
    obtain ⟨v0, e0, h0⟩ : relC Tryz.prog (.slice Tapi_MillPerson) M plantV.1 [a] := h0
    obtain ⟨v1, e1, h1⟩ : relC Tryz.prog (.slice .str) M plantV.2.1 [b] := h1
    simp only [List.cons.injEq, and_true] at e0 e1
    subst e0 e1
    rcases h0 with ⟨rfl, _⟩ | ⟨_, _, _, _, rfl, _⟩ | ⟨_, _, rfl, _⟩ <;> rcases h1 with ⟨rfl, _⟩ | ⟨_, _, _, _, rfl, _⟩ | ⟨_, _, rfl, _⟩ <;> exact ⟨_, _, _, _, _, _, _, _, rfl⟩
set_option maxHeartbeats 8000000 in
set_option maxRecDepth 100000 in
theorem after_note {M : Mem} {w : World} (hg : Good M w) {p0 p1 : Option Addr} {n0 k0 n1 k1 : Nat} {s2 s3 : ByteArray} (hv : relV Tryz.prog Tapi_MillPlant M plantV (.agg #[.slice p0 n0 k0, .slice p1 n1 k1, .string s2, .string s3])) {bl ol cl : Nat} (hlog : LogAt w bl ol bTom bTom tStart tNote) :
    Calls Tryz.prog 40 #[.agg #[.slice p0 n0 k0, .slice p1 n1 k1, .string s2, .string s3], .slice (some ⟨bl, ol, none⟩) 2 cl] w fun e w' => Below w.heap.size w w' ∧ ∃ x, e = .returned (.tuple #[.pointer (some ⟨x, 0, none⟩), .int .i64 0]) ∧ Ran w' x := by
  have hb0 := below_new w (.cells #[.slice p0 n0 k0, .slice p1 n1 k1, .string s2, .string s3] 25)
  have hop := open28 (good_below hg hb0) hv
  go_enter Tryz.func40, Tryz.ntmps40
  go_wp2_with (first | (go_at_call 28; refine Calls.mono hop ?_; clear hop; rintro e w1 ⟨hb1, bp, op, cp, bs, os, ks, c2, c3, c4, c5, c6, c7, c8, c9, c10, c11, c12, c13, c14, c15, c16, c17, c18, c19, c20, rfl, hpe, hst, hone⟩; have hB1 := below_trans hb0 hb1; have hb2 := below_new w1 (.cells #[.slice (some ⟨bp, op, none⟩) 3 cp, .slice (some ⟨bs, os, none⟩) 2 ks, c2, c3, c4, c5, c6, c7, c8, c9, c10, c11, c12, c13, c14, c15, c16, c17, c18, c19, c20] 85); have kx := World.alloc_heap_new w1 (.cells #[.slice (some ⟨bp, op, none⟩) 3 cp, .slice (some ⟨bs, os, none⟩) 2 ks, c2, c3, c4, c5, c6, c7, c8, c9, c10, c11, c12, c13, c14, c15, c16, c17, c18, c19, c20] 85); have hre := replay_note (good_below hg (below_trans hB1 hb2)) (bp := bp) (op := op) (cp := cp) (bs := bs) (os := os) (ks := ks) (cl := cl) (c2 := c2) (c3 := c3) (c4 := c4) (c5 := c5) (c6 := c6) (c7 := c7) (c8 := c8) (c9 := c9) (c10 := c10) (c11 := c11) (c12 := c12) (c13 := c13) (c14 := c14) (c15 := c15) (c16 := c16) (c17 := c17) (c18 := c18) (c19 := c19) (c20 := c20) (hpe.below hb2) (fun j hj => (World.cell?_of_block (hb2.block _ (World.block_lt_of_cell? _ _ (hst j hj)))).trans (hst j hj)) (hlog.below (below_trans hB1 hb2))) | (show wpList _ _ _ ({ dst := some 21, op := Op.load 85 (Operand.tmp 6), type := _, pos := _, after := _, guard := _ } :: _) _ _; refine wpList_load rfl 85 (.tmp 6) ⟨w1.heap.size, 0, none⟩ rfl rfl (load85 kx rfl) ?_) | (show wpList _ _ _ ({ dst := none, op := Op.store 85 (Operand.tmp 6) (Operand.tmp 14), type := _, pos := _, after := _, guard := _ } :: _) _ _; go_loud (refine wpList_store_all rfl 85 (.tmp 6) (.tmp 14) w1.heap.size rfl rfl [.slice (some ⟨bp, op, none⟩) 3 cp, .slice (some ⟨bs, os, none⟩) 2 ks, c2, c3, c4, c5, c6, c7, c8, c9, c10, c11, c12, c13, c14, c15, c16, c17, c18, c19, c20] rfl (World.alloc_heap_new w1 _) rfl Tryz.sizeOf85 hone ?_; rw [World.setRow_alloc_new])) | (go_at_call 51; refine Calls.mono hre ?_; clear hre; rintro e w3 ⟨hb3, x, g, r2, r3, rfl, hline, ho2, ho3⟩))
  go_ret2
  exact ⟨below_trans (below_trans hB1 hb2) hb3, x, rfl, g, bp, op, cp, bs, os, ks, r2, r3, _, hline, rfl, ho2, ho3⟩
set_option maxHeartbeats 8000000 in
set_option maxRecDepth 100000 in
theorem check_thread {M : Mem} {w : World} (hg : Good M w) {p0 p1 : Option Addr} {n0 k0 n1 k1 : Nat} {s2 s3 : ByteArray} (hv : relV Tryz.prog Tapi_MillPlant M plantV (.agg #[.slice p0 n0 k0, .slice p1 n1 k1, .string s2, .string s3])) {bl ol cl : Nat} (hlog : LogAt w bl ol bTom bTom tStart tThread) :
    Calls Tryz.prog 26 #[.agg #[.slice p0 n0 k0, .slice p1 n1 k1, .string s2, .string s3], .slice (some ⟨bl, ol, none⟩) 2 cl] w fun e w' => Below w.heap.size w w' ∧ e = .returned (.tuple #[.int .i64 1, .int .i64 20]) := by
  have hb0 := below_new w (.cells #[.slice p0 n0 k0, .slice p1 n1 k1, .string s2, .string s3] 25)
  have hop := open28 (good_below hg hb0) hv
  go_enter Tryz.func26, Tryz.ntmps26
  go_wp2_with (first | (go_at_call 28; refine Calls.mono hop ?_; clear hop; rintro e w1 ⟨hb1, bp, op, cp, bs, os, ks, c2, c3, c4, c5, c6, c7, c8, c9, c10, c11, c12, c13, c14, c15, c16, c17, c18, c19, c20, rfl, hpe, hst, hone⟩; have hB1 := below_trans hb0 hb1; have hb2 := below_new w1 (.cells #[.slice (some ⟨bp, op, none⟩) 3 cp, .slice (some ⟨bs, os, none⟩) 2 ks, c2, c3, c4, c5, c6, c7, c8, c9, c10, c11, c12, c13, c14, c15, c16, c17, c18, c19, c20] 85); have kx := World.alloc_heap_new w1 (.cells #[.slice (some ⟨bp, op, none⟩) 3 cp, .slice (some ⟨bs, os, none⟩) 2 ks, c2, c3, c4, c5, c6, c7, c8, c9, c10, c11, c12, c13, c14, c15, c16, c17, c18, c19, c20] 85); have hre := replay_thread (good_below hg (below_trans hB1 hb2)) (bp := bp) (op := op) (cp := cp) (bs := bs) (os := os) (ks := ks) (cl := cl) (c2 := c2) (c3 := c3) (c4 := c4) (c5 := c5) (c6 := c6) (c7 := c7) (c8 := c8) (c9 := c9) (c10 := c10) (c11 := c11) (c12 := c12) (c13 := c13) (c14 := c14) (c15 := c15) (c16 := c16) (c17 := c17) (c18 := c18) (c19 := c19) (c20 := c20) (hpe.below hb2) (fun j hj => (World.cell?_of_block (hb2.block _ (World.block_lt_of_cell? _ _ (hst j hj)))).trans (hst j hj)) (hlog.below (below_trans hB1 hb2))) | (show wpList _ _ _ ({ dst := some 21, op := Op.load 85 (Operand.tmp 6), type := _, pos := _, after := _, guard := _ } :: _) _ _; refine wpList_load rfl 85 (.tmp 6) ⟨w1.heap.size, 0, none⟩ rfl rfl (load85 kx rfl) ?_) | (show wpList _ _ _ ({ dst := none, op := Op.store 85 (Operand.tmp 6) (Operand.tmp 14), type := _, pos := _, after := _, guard := _ } :: _) _ _; go_loud (refine wpList_store_all rfl 85 (.tmp 6) (.tmp 14) w1.heap.size rfl rfl [.slice (some ⟨bp, op, none⟩) 3 cp, .slice (some ⟨bs, os, none⟩) 2 ks, c2, c3, c4, c5, c6, c7, c8, c9, c10, c11, c12, c13, c14, c15, c16, c17, c18, c19, c20] rfl (World.alloc_heap_new w1 _) rfl Tryz.sizeOf85 hone ?_; rw [World.setRow_alloc_new])) | (go_at_call 51; refine Calls.mono hre ?_; clear hre; rintro e w3 ⟨hb3, x, g, r2, r3, rfl, hline, ho2, ho3⟩))
  go_ret2
  exact ⟨below_trans (below_trans hB1 hb2) hb3, rfl⟩
end Go.Lift
set_option linter.unusedSectionVars false
set_option linter.unusedSimpArgs false
set_option linter.unusedVariables false
namespace Go.Lift
open Go Go.Proofs Go.RowKit Go.Shelf
attribute [local go_sem] Oper.semAt_some run_store_func
theorem load65 {W : World} {g o : Nat} {l : List Value} (h : ∀ j v, l[j]? = some v → W.cell? ⟨g, o + j, none⟩ = some v) (hl : l.length = 13) : (loadVar 65 ⟨g, o, none⟩).run Tryz.prog W = .ok (.agg l.toArray) W := by
  have := run_loadCells_list (P := Tryz.prog) W ⟨g, o, none⟩ l (fun j v hj => by rw [Addr.add_mk]; exact h j v hj)
  rw [hl] at this
  simp [loadVar, Sem.run_bind, Sem.run_pure, Tryz.isAgg65, Tryz.sizeOf65, this, Result.andThen_ok]
def zero13 : List Value := [.string ⟨#[]⟩, .int .i64 0, .int .i64 0, .slice none 0 0, .slice none 0 0, .slice none 0 0, .bool false, .int .i64 0, .slice none 0 0, .slice none 0 0, .slice none 0 0, .int .i64 0, .int .i64 0]
theorem results23 : Tryz.f23.results = #[.cell 4 65, .tmp 5] := by kernel_rfl
theorem state_one {g : Nat} {r2 r3 : Value} (h2 : r2.oneCell' = true) (h3 : r3.oneCell' = true) : ∀ v ∈ state13 g r2 r3, v.oneCell' = true := by
  intro v hv
  simp only [state13, List.mem_cons, List.not_mem_nil, or_false] at hv
  rcases hv with rfl | rfl | rfl | rfl | rfl | rfl | rfl | rfl | rfl | rfl | rfl | rfl | rfl <;> first | rfl | assumption
theorem setRow_below {w0 w : World} {g : Nat} {cs : Array Value} (h : Below w0.heap.size w0 w) (hg : w0.heap.size ≤ g) : Below w0.heap.size w0 (w.setRow g cs) :=
  ⟨h.os, h.tape, h.output, by simpa [World.setRow] using h.size, fun j hj => by
    rw [← h.block j hj]
    simp only [World.setRow, Array.getElem?_modify, if_neg (show g ≠ j by omega)]⟩
theorem ran_cells {w : World} {x g bp op cp bs os ks : Nat} {LC cur : Array Value} {r2 r3 : Value} (h : LineA w x g bp op cp bs os ks 2 LC cur) (hd : LC.toList.drop 21 = state13 g r2 r3) : ∀ j v, (state13 g r2 r3)[j]? = some v → w.cell? ⟨x, 21 + j, none⟩ = some v := fun j v hj =>
  cell_at h.box (by rw [← hd, List.getElem?_drop] at hj; simpa using hj)
set_option maxHeartbeats 8000000 in
set_option maxRecDepth 100000 in
theorem StateOf_note {M : Mem} {w : World} (hg : Good M w) {p0 p1 : Option Addr} {n0 k0 n1 k1 : Nat} {s2 s3 : ByteArray} (hv : relV Tryz.prog Tapi_MillPlant M plantV (.agg #[.slice p0 n0 k0, .slice p1 n1 k1, .string s2, .string s3])) {bl ol cl : Nat} (hlog : LogAt w bl ol bTom bTom tStart tNote) :
    Calls Tryz.prog 23 #[.agg #[.slice p0 n0 k0, .slice p1 n1 k1, .string s2, .string s3], .slice (some ⟨bl, ol, none⟩) 2 cl] w fun e w' => Below w.heap.size w w' ∧ ∃ g r2 r3, e = .returned (.tuple #[.agg (state13 g r2 r3).toArray, .int .i64 0]) ∧ r2.oneCell' = true ∧ r3.oneCell' = true ∧ w'.heap[g]? = some (.cells #[.bool true, .bool false] 4 (0, 0)) := by
  have hb0 := below_trans (below_new w (.cells #[.slice p0 n0 k0, .slice p1 n1 k1, .string s2, .string s3] 25)) (below_new _ (.cells zero13.toArray 65))
  have hz0 := World.alloc_heap_new (w.alloc (.cells #[.slice p0 n0 k0, .slice p1 n1 k1, .string s2, .string s3] 25)) (.cells zero13.toArray 65)
  rw [World.size_alloc] at hz0
  have hs0 : ((w.alloc (.cells #[.slice p0 n0 k0, .slice p1 n1 k1, .string s2, .string s3] 25)).alloc (.cells #[.string ⟨#[]⟩, .int .i64 0, .int .i64 0, .slice none 0 0, .slice none 0 0, .slice none 0 0, .bool false, .int .i64 0, .slice none 0 0, .slice none 0 0, .slice none 0 0, .int .i64 0, .int .i64 0] 65)) = ((w.alloc (.cells #[.slice p0 n0 k0, .slice p1 n1 k1, .string s2, .string s3] 25)).alloc (.cells zero13.toArray 65)) := rfl
  have haf := after_note (cl := cl) (good_below hg hb0) hv (hlog.below hb0)
  go_enter Tryz.func23, Tryz.ntmps23
  go_wp2_with (first | (go_at_call 40; refine Calls.mono haf ?_; clear haf; rintro e w1 ⟨hb1, x, rfl, g, bp, op, cp, bs, os, ks, r2, r3, LC, hline, hdrop, ho2, ho3⟩; have hcells := ran_cells hline hdrop; have hz1 := (hb1.block _ (Array.getElem?_eq_some_iff.1 hz0).1).trans hz0) | (show wpList _ _ _ ({ dst := some 21, op := Op.load 65 (Operand.tmp 20), type := _, pos := _, after := _, guard := _ } :: _) _ _; refine wpList_load rfl 65 (.tmp 20) ⟨x, 21, none⟩ rfl rfl (load65 hcells rfl) ?_) | (show wpList _ _ _ ({ dst := none, op := Op.store 65 (Operand.tmp 4) (Operand.tmp 21), type := _, pos := _, after := _, guard := _ } :: _) _ _; go_loud (refine wpList_store_all rfl 65 (.tmp 4) (.tmp 21) (w.heap.size + 1) rfl rfl (state13 g r2 r3) rfl hz1 rfl Tryz.sizeOf65 (state_one ho2 ho3) ?_)))
  have hrow := setRow_heap w1 (w.heap.size + 1) zero13.toArray (state13 g r2 r3).toArray 65 (0, 0) hz1
  have hne : w.heap.size + 1 ≠ g := fun e => by rw [e, hline.run] at hz1; cases hz1
  refine bodyPost_ret (results_cell2 results23 rfl (load65 (g := w.heap.size + 1) (o := 0) (l := state13 g r2 r3) (fun j v hj => cell_at hrow (by rw [Nat.zero_add]; simpa using hj)) rfl)) rfl ⟨setRow_below (below_trans hb0 hb1) (by omega), g, r2, r3, rfl, ho2, ho3, ?_⟩
  rw [← hline.run]
  simp only [World.setRow, Array.getElem?_modify, if_neg hne]
end Go.Lift
