/-
  The line before all entries.
-/
import Derived.Test.YtkoojmbkjgbdgaaGreatDoorEntB
import Derived.Laws.CopyOwn
import Derived.Deep.RegionLaw
import Derived.Test.YtkoojmbkjgbdgaaGreatDoorLiftQ
import Derived.Test.YtkoojmbkjgbdgaaGreatDoorManB
set_option linter.unusedSectionVars false
set_option linter.unusedVariables false
set_option linter.unusedSimpArgs false
set_option linter.unusedSectionVars false
set_option linter.unusedSimpArgs false
set_option linter.unusedVariables false
namespace Go.Lift
open Go Go.Proofs Go.RowKit Go.Shelf
attribute [local go_sem] Oper.semAt_some run_store_func
theorem u56 : Tryz.prog.underlying 56 = some (.slice 3) := by kernel_rfl
theorem fits3 : fits Tryz.prog (.int .i64) (.inl 3) = true := by kernel_rfl
theorem u55 : Tryz.prog.underlying 55 = some (.slice 4) := by kernel_rfl
theorem fits4 : fits Tryz.prog .bool (.inl 4) = true := by kernel_rfl
theorem full_row {w : World} {base e g n : Nat} {xs : List Value} (h : w.ownsRow base e 1 (.slice (some ⟨g, 0, none⟩) n n) n xs) : w.heap[g]? = some (.cells xs.toArray e (0, 0)) ∧ xs.length = n := by
  have h1 := h.1
  rcases h.2 with ⟨e1, _⟩ | ⟨g', cap, cur, e1, _, hg, _, _, hs, ht⟩
  · cases e1
  · simp only [Value.slice.injEq, Option.some.injEq, Addr.mk.injEq, and_true, true_and] at e1
    obtain ⟨rfl, rfl⟩ := e1
    refine ⟨?_, by omega⟩
    rw [hg, ← ht, List.take_of_length_le (by simp; omega)]
theorem below_of_none {w w' : World} (h : w.grownBy w' none) : Below w.heap.size w w' := ⟨h.os, h.tape, h.output, h.size, fun k hk => h.block k hk (fun e => by cases e)⟩
theorem made_one (v : Value) (n : Nat) : madeCells #[v] n = Array.replicate n v := by
  unfold madeCells
  apply Array.ext
  · simp
  · intro i h1 h2
    simp [Nat.mod_one]
theorem make_full1 {P : Program} {w : World} {ops : Array Oper} {rest : List Oper} {o : Oper} {a : Act} {Q : Exit → Act → World → Prop} (hg : o.guard = none) (l c : Operand) (t : TypeId) (hop : o.op = Op.makeSlice t l c)
    (e : TypeId) (i : TypeInfo) (z : Value) (h1 : P.underlying t = some (.slice e)) (h2 : P.info? e = some i) (h3 : i.zero = some z) (h4 : i.size = 1) {v : Value} (hz : z.cells = #[v]) (n : Nat) (hl : a.eval l = .int .i64 (n : Int)) (hc : a.eval c = .int .i64 (n : Int)) (b2 : i.bytes * n ≤ 281474976710656) (b3 : n ≤ maxLen)
    (hK : ∀ w', w'.heap[w.heap.size]? = some (.cells (Array.replicate n v) e (0, 0)) → Below w.heap.size w w' → wpList P ops Q rest (a.put o.dst (.slice (some ⟨w.heap.size, 0, none⟩) n n)) w') : wpList P ops Q (o :: rest) a w :=
  wpList_make_full w hg l c t hop w.heap.size e i z 1 h1 h2 h3 h4 .i64 .i64 n n n hl hc rfl rfl b2 b3 (Nat.le_refl _) fun w' ho hgr => hK w' (by
    have := (full_row ho).1
    rw [this, hz, Nat.mul_one, made_one]) (below_of_none hgr)
theorem s56 : (Tryz.prog.info? 3).map (·.size) = some 1 := by kernel_rfl
set_option maxHeartbeats 8000000 in
set_option maxRecDepth 100000 in
theorem repeat71 {M : Mem} {w : World} {b : Nat} {x : Int} (hx : w.cell? ⟨b, 0, none⟩ = some (.int .i64 x)) :
    Calls Tryz.prog 71 #[.slice (some ⟨b, 0, none⟩) 1 1, .int .i64 2] w fun e w' => ∃ g, e = .returned (.slice (some ⟨g, 0, none⟩) 2 2) ∧ w.heap.size ≤ g ∧ w'.heap[g]? = some (.cells #[.int .i64 x, .int .i64 x] 3 (0, 0)) ∧ Below w.heap.size w w' := by
  have hm := Tryz.bits_Mul 1 2 (by decide) (by decide) w
  go_enter Tryz.func71, Tryz.ntmps71
  obtain ⟨i0, d0, hi0⟩ := fits_info fits3
  obtain ⟨z, hz, hz1, _⟩ := hi0.zero (by rfl)
  have hby := hi0.bytes
  have hzc : z.cells = #[.int .i64 0] := by have : z.cells.toList = [.int .i64 0] := hz1 M; exact Array.ext' this
  have hb2 : i0.bytes * 2 ≤ 281474976710656 := by have := hi0.bytes; omega
  go_wp2_with (first | (go_at_call 114; refine Calls.mono hm ?_; clear hm; rintro e w1 ⟨rfl, rfl⟩) | (at_make; refine make_full1 rfl _ _ 56 rfl 3 i0 z u56 hi0.info hz hi0.size hzc 2 rfl rfl hb2 (by decide) ?_; clear hzc hz hi0; intro w2 hk2 hb2'; have hx2 := (World.cell?_of_block (hb2'.block b (World.block_lt_of_cell? _ _ hx))).trans hx) | (show wpList _ _ _ ({ dst := some 33, op := Op.call { callee := Callee.builtin Builtin.copy, args := _, argTypes := _ }, type := _, pos := _, after := _, guard := _ } :: _) _ _; go_loud (refine wpList_copy_splice rfl _ _ 56 56 rfl 3 u56 s56 _ _ 2 2 1 1 rfl rfl w1.heap.size 0 [.int .i64 0, .int .i64 0] 3 hk2 [.int .i64 x] rfl (fun _ => ⟨rfl, _, rfl, fun j v hj => by (match j, hj with | 0, hj => cases hj; exact hx2)⟩) (by simp) (by intro v hv; rw [List.mem_singleton.1 hv]; rfl) w1.heap.size w1 hb2' (Nat.le_refl _) ?_); intro w3 hk3 hb3))
  refine wp_loop_rounds 2 ?_
  rw [rounds_succ]
  have hk3' : w3.heap[w1.heap.size]? = some (.cells #[.int .i64 x, .int .i64 0] 3 (0, 0)) := hk3
  have hk3d : w3.drew.heap[w1.heap.size]? = some (.cells ([.int .i64 x, .int .i64 0] : List Value).toArray 3 (0, 0)) := hk3'
  have hb3d : Below w1.heap.size w1 w3.drew := below_trans hb3 (below_drew w3)
  have hsrc : ∀ j v, ([.int .i64 x] : List Value)[j]? = some v → w3.drew.cell? (Addr.add ⟨w1.heap.size, 0, none⟩ j) = some v := by
    intro j v hj
    match j, hj with
    | 0, hj => cases hj; exact cell_at hk3d rfl
  go_wp2
  go_region_law (refine step_copy_splice rfl (.tmp 41) (.tmp 44) 56 56 rfl 3 u56 s56 (some ⟨w1.heap.size, 1, none⟩) (some ⟨w1.heap.size, 0, none⟩) 1 1 1 2 (by simp [Act.eval, Act.put]) (by simp [Act.eval, Act.put]) w1.heap.size 1 [.int .i64 x, .int .i64 0] 3 hk3d [.int .i64 x] rfl (fun _ => ⟨rfl, _, rfl, hsrc⟩) (Nat.le_refl 2) (by intro v hv; rw [List.mem_singleton.1 hv]; rfl) w1.heap.size w1 hb3d (Nat.le_refl _) ?_; intro w4 hk4 hb4)
  all_goals
    have hk4' : w4.heap[w1.heap.size]? = some (.cells #[.int .i64 x, .int .i64 x] 3 (0, 0)) := hk4
    clear hk4
    go_wp2
    rw [rounds_succ]
    go_wp2
    go_ret
    exact ⟨_, rfl, Nat.le_refl _, hk4', hb4⟩
end Go.Lift
set_option linter.unusedSectionVars false
set_option linter.unusedSimpArgs false
set_option linter.unusedVariables false
namespace Go.Lift
open Go Go.Proofs Go.RowKit Go.Shelf
attribute [local go_sem] Oper.semAt_some run_store_func
theorem load85 {W : World} {g : Nat} {l : List Value} (h : W.heap[g]? = some (.cells l.toArray 85 (0, 0))) (hl : l.length = 21) : (loadVar 85 ⟨g, 0, none⟩).run Tryz.prog W = .ok (.agg l.toArray) W := by
  have := run_loadCells_list (P := Tryz.prog) W ⟨g, 0, none⟩ l (fun j v hj => by rw [Addr.add_mk, Nat.zero_add]; exact cell_at h (by simpa using hj))
  rw [hl] at this
  simp [loadVar, Sem.run_bind, Sem.run_pure, Tryz.isAgg85, Tryz.sizeOf85, this, Result.andThen_ok]
theorem step_load {P : Program} {ops : Array Oper} {o : Oper} {a : Act} {w : World} {K : Act → World → Prop} {Q : Exit → Act → World → Prop} {E : Prop}
    (hg : o.guard = none) (t : TypeId) (x : Operand) (ad : Addr) (hop : o.op = Op.load t x) (hx : a.eval x = .pointer (some ad)) {v : Value} (hrun : (loadVar t ad).run P w = .ok v w) (hK : K (a.put o.dst v) w) :
    if Region.wanted o (yielded ops a.tmps) = true then Oper.wp P o a w K Q else E := by
  have hw : Region.wanted o (yielded ops a.tmps) = true := by simp [Region.wanted, hg]
  rw [if_pos hw]
  unfold Oper.wp
  simp [execOp, hop, hx, Instr.loadAt, Instr.sureAddr, hrun, Result.andThen]
  exact hK
theorem step_make {P : Program} {ops : Array Oper} {o : Oper} {a : Act} {w w' : World} {K : Act → World → Prop} {Q : Exit → Act → World → Prop} {E : Prop}
    (hg : o.guard = none) (l c : Operand) (t : TypeId) (hop : o.op = Op.makeSlice t l c) (x y v' : Value) (hl : a.eval l = x) (hc : a.eval c = y) (hrun : (Instr.makeSlice t x y).run P w = .ok v' w') (hK : K (a.put o.dst v') w') :
    if Region.wanted o (yielded ops a.tmps) = true then Oper.wp P o a w K Q else E := by
  have hw : Region.wanted o (yielded ops a.tmps) = true := by simp [Region.wanted, hg]
  rw [if_pos hw]
  unfold Oper.wp
  simp [execOp, hop, hl, hc, hrun, Result.andThen]
  exact hK
def Run2 (B : Nat) (v : Value) (W : World) : Prop := ∃ g, v = .slice (some ⟨g, 0, none⟩) 2 2 ∧ B ≤ g ∧ W.heap[g]? = some (.cells #[.bool false, .bool false] 4 (0, 0))
theorem Run2.below {B : Nat} {v : Value} {W W' : World} (h : Run2 B v W) (hb : Below W.heap.size W W') : Run2 B v W' := by
  obtain ⟨g, e, hB, hh⟩ := h
  exact ⟨g, e, hB, (hb.block g (Array.getElem?_eq_some_iff.1 hh).1).trans hh⟩
def Run3 (B : Nat) (v r2 r3 : Value) (W : World) : Prop := Run2 B v W ∧ r2.oneCell' = true ∧ r3.oneCell' = true
theorem Run3.below {B : Nat} {v r2 r3 : Value} {W W' : World} (h : Run3 B v r2 r3 W) (hb : Below W.heap.size W W') : Run3 B v r2 r3 W' := ⟨h.1.below hb, h.2⟩
def lineC (c0 c2 c3 c4 c5 c6 c7 c8 c9 c10 c11 c12 c13 c14 c15 c16 c17 c18 c19 c20 : Value) (p : Option Addr) (ks : Nat) (r1 r2 r3 : Value) : Array Value := #[c0, .slice p 2 ks, c2, c3, c4, c5, c6, c7, c8, c9, c10, c11, c12, c13, c14, c15, c16, c17, c18, c19, c20, .string ⟨#[]⟩, .int .i64 0, .int .i64 0, r1, r2, r3, .bool false, .int .i64 0, .slice none 0 0, .slice none 0 0, .slice none 0 0, .int .i64 0, .int .i64 0]
def S43 (B : Nat) (c0 c2 c3 c4 c5 c6 c7 c8 c9 c10 c11 c12 c13 c14 c15 c16 c17 c18 c19 c20 : Value) (p : Option Addr) (ks : Nat) : Nat → Value → World → Prop
  | 0, v, _ => v = .agg #[c0, .slice p 2 ks, c2, c3, c4, c5, c6, c7, c8, c9, c10, c11, c12, c13, c14, c15, c16, c17, c18, c19, c20]
  | 1, v, _ => v = .int .i64 2
  | 2, v, W => Run2 B v W
  | 3, v, _ => v = .int .i64 2
  | 4, v, _ => v = .int .i64 1
  | 5, v, _ => ∃ g, v = .slice (some ⟨g, 0, none⟩) 1 1
  | 6, v, W => ∃ g, v = .slice (some ⟨g, 0, none⟩) 1 1 ∧ W.cell? ⟨g, 0, none⟩ = some (.int .i64 2000)
  | 7, v, _ => v = .int .i64 2
  | 8, v, _ => ∃ g, v = .slice (some ⟨g, 0, none⟩) 2 2
  | 9, v, W => ∃ r1 r2 r3, Run3 B r1 r2 r3 W ∧ v = .agg #[.string ⟨#[]⟩, .int .i64 0, .int .i64 0, r1, r2, r3, .bool false, .int .i64 0]
  | 10, v, W => ∃ r1 r2 r3, Run3 B r1 r2 r3 W ∧ v = .agg #[.string ⟨#[]⟩, .int .i64 0, .int .i64 0, r1, r2, r3, .bool false, .int .i64 0, .slice none 0 0, .slice none 0 0, .slice none 0 0, .int .i64 0, .int .i64 0]
  | 11, v, W => ∃ r1 r2 r3, Run3 B r1 r2 r3 W ∧ v = .agg (lineC c0 c2 c3 c4 c5 c6 c7 c8 c9 c10 c11 c12 c13 c14 c15 c16 c17 c18 c19 c20 p ks r1 r2 r3)
  | 12, v, W => ∃ x r1 r2 r3, Run3 B r1 r2 r3 W ∧ v = .pointer (some ⟨x, 0, none⟩) ∧ B ≤ x ∧ W.heap[x]? = some (.cells (lineC c0 c2 c3 c4 c5 c6 c7 c8 c9 c10 c11 c12 c13 c14 c15 c16 c17 c18 c19 c20 p ks r1 r2 r3) 113 (0, 0))
  | 13, v, W => ∃ x r1 r2 r3, Run3 B r1 r2 r3 W ∧ v = .pointer (some ⟨x, 0, none⟩) ∧ B ≤ x ∧ W.heap[x]? = some (.cells (lineC c0 c2 c3 c4 c5 c6 c7 c8 c9 c10 c11 c12 c13 c14 c15 c16 c17 c18 c19 c20 p ks r1 r2 r3) 113 (0, 0))
  | _, _, _ => True
theorem S43_st {B : Nat} {c0 c2 c3 c4 c5 c6 c7 c8 c9 c10 c11 c12 c13 c14 c15 c16 c17 c18 c19 c20 : Value} {p : Option Addr} {ks : Nat} (j : Nat) (u : Value) (W W' : World) (hb : Below W.heap.size W W') (h : S43 B c0 c2 c3 c4 c5 c6 c7 c8 c9 c10 c11 c12 c13 c14 c15 c16 c17 c18 c19 c20 p ks j u W) : S43 B c0 c2 c3 c4 c5 c6 c7 c8 c9 c10 c11 c12 c13 c14 c15 c16 c17 c18 c19 c20 p ks j u W' := by
  unfold S43 at h ⊢
  split at h
  case h_3 => exact Run2.below h hb
  case h_7 => obtain ⟨g, e, hh⟩ := h; exact ⟨g, e, (World.cell?_of_block (hb.block g (World.block_lt_of_cell? W _ hh))).trans hh⟩
  case h_10 => obtain ⟨r1, r2, r3, hr, e⟩ := h; exact ⟨r1, r2, r3, hr.below hb, e⟩
  case h_11 => obtain ⟨r1, r2, r3, hr, e⟩ := h; exact ⟨r1, r2, r3, hr.below hb, e⟩
  case h_12 => obtain ⟨r1, r2, r3, hr, e⟩ := h; exact ⟨r1, r2, r3, hr.below hb, e⟩
  case h_13 => obtain ⟨x, r1, r2, r3, hr, e, hx, hh⟩ := h; exact ⟨x, r1, r2, r3, hr.below hb, e, hx, (hb.block x (Array.getElem?_eq_some_iff.1 hh).1).trans hh⟩
  case h_14 => obtain ⟨x, r1, r2, r3, hr, e, hx, hh⟩ := h; exact ⟨x, r1, r2, r3, hr.below hb, e, hx, (hb.block x (Array.getElem?_eq_some_iff.1 hh).1).trans hh⟩
  all_goals exact h
set_option maxHeartbeats 8000000 in
set_option maxRecDepth 100000 in
theorem empty43 {w : World} {c0 c2 c3 c4 c5 c6 c7 c8 c9 c10 c11 c12 c13 c14 c15 c16 c17 c18 c19 c20 : Value} {p : Option Addr} {ks : Nat} : Calls Tryz.prog 43 #[.agg #[c0, .slice p 2 ks, c2, c3, c4, c5, c6, c7, c8, c9, c10, c11, c12, c13, c14, c15, c16, c17, c18, c19, c20]] w fun e w' => Below w.heap.size w w' ∧ ∃ x r1 r2 r3, e = .returned (.pointer (some ⟨x, 0, none⟩)) ∧ w.heap.size ≤ x ∧ Run3 w.heap.size r1 r2 r3 w' ∧ w'.heap[x]? = some (.cells (lineC c0 c2 c3 c4 c5 c6 c7 c8 c9 c10 c11 c12 c13 c14 c15 c16 c17 c18 c19 c20 p ks r1 r2 r3) 113 (0, 0)) := by
  have hM : ∃ i z, Tryz.prog.info? 4 = some i ∧ i.zero = some z ∧ i.size = 1 ∧ i.bytes ≤ 32768 ∧ z.cells = #[.bool false] := by
    obtain ⟨i0, d0, hi0⟩ := fits_info fits4
    obtain ⟨z, hz, hz1, _⟩ := hi0.zero (by rfl)
    refine ⟨i0, z, hi0.info, hz, hi0.size, hi0.bytes, ?_⟩
    have : z.cells.toList = [.bool false] := hz1 (fun _ _ => none)
    exact Array.ext' this
  obtain ⟨i0, z, hi, hz, hsz, hby, hzc⟩ := hM
  go_enter Tryz.func43, Tryz.ntmps43
  go_wp2
  obtain ⟨w1, hw1⟩ : ∃ w1, w.alloc (.cells #[c0, .slice p 2 ks, c2, c3, c4, c5, c6, c7, c8, c9, c10, c11, c12, c13, c14, c15, c16, c17, c18, c19, c20] 85) = w1 := ⟨_, rfl⟩
  have hbw1 : Below w.heap.size w w1 := by rw [← hw1]; exact below_new w _
  have hx1 : w1.heap[w.heap.size]? = some (.cells #[c0, .slice p 2 ks, c2, c3, c4, c5, c6, c7, c8, c9, c10, c11, c12, c13, c14, c15, c16, c17, c18, c19, c20] 85 (0, 0)) := by rw [← hw1]; exact World.alloc_heap_new w _
  rw [hw1]
  clear hw1
  rename_i a1
  refine any_stable (by kernel_rfl) (by kernel_rfl) (by kernel_rfl) (S43 w.heap.size c0 c2 c3 c4 c5 c6 c7 c8 c9 c10 c11 c12 c13 c14 c15 c16 c17 c18 c19 c20 p ks) (fun _ => none) (fun W => Below w1.heap.size w1 W) (below_drew _) (dsts_ok (by kernel_rfl)) (fun W W' hb h => below_trans h hb) (fun j u W W' hb h => S43_st j u W W' hb h) ?step ?fin
  case step =>
    intro k o ho a W hJ hs hd hfr hS
    have hJw : w.heap.size ≤ W.heap.size := Nat.le_trans hbw1.size hJ.size
    obtain ⟨⟨l⟩, df⟩ := a
    simp only at hd
    subst hd
    obtain ⟨x0, x1, x2, x3, x4, x5, x6, x7, x8, x9, x10, x11, x12, x13, x14, x15, x16, x17, x18, x19, x20, rfl⟩ := list21 l hs
    have hk1 : x1 = .pointer (some ⟨w.heap.size, 0, none⟩) := hfr 1 (by decide)
    have hk3 : x3 = .int .i64 2 := hfr 3 (by decide)
    subst hk1 hk3
    match k, ho with
    | 0, ho =>
      cases ho
      have hl := (hJ.block _ (Array.getElem?_eq_some_iff.1 hx1).1).trans hx1
      refine wpOp_step rfl fun K' hK => ?_
      refine step_load rfl 85 (.tmp 1) ⟨w.heap.size, 0, none⟩ rfl rfl (load85 hl rfl) ?_
      exact hK _ _ ⟨_, rfl, fun _ => rfl, .inl (Below.refl _ _)⟩
    | 1, ho => cases ho; refine wpOp_step rfl fun K' hK => ?_; go_simp; exact hK _ _ ⟨_, rfl, fun _ => rfl, .inl (Below.refl _ _)⟩
    | 2, ho =>
      cases ho
      have e : x9 = _ := hS 1 _ 9 rfl rfl rfl (.inl rfl)
      subst e
      have hr := run_makeSlice (P := Tryz.prog) (w := W) 55 4 i0 z u55 hi hz .i64 .i64 2 2 (by decide) (Int.le_refl _) (by rw [hsz]; decide) (by omega) (by decide)
      refine wpOp_step rfl fun K' hK => ?_
      refine step_make rfl (.tmp 9) (.tmp 9) 55 rfl _ _ _ rfl rfl hr ?_
      refine hK _ _ ⟨_, rfl, fun _ => ⟨_, rfl, hJw, ?_⟩, .inl (below_new _ _)⟩
      rw [World.alloc_heap_new, hzc, hsz, show ((2 : Int).toNat * 1) = 2 from rfl, made_one]
      rfl
    | 3, ho => cases ho; refine wpOp_step rfl fun K' hK => ?_; go_simp; exact hK _ _ ⟨_, rfl, fun _ => rfl, .inl (Below.refl _ _)⟩
    | 4, ho =>
      cases ho
      have e : x11 = _ := hS 3 _ 11 rfl rfl rfl (.inl rfl)
      subst e
      refine wpOp_step rfl fun K' hK => ?_
      go_simp
      exact hK _ _ ⟨_, rfl, fun _ => rfl, .inl (Below.refl _ _)⟩
    | 5, ho =>
      cases ho
      have e : x12 = _ := hS 4 _ 12 rfl rfl rfl (.inl rfl)
      subst e
      have hr := run_makeSlice (P := Tryz.prog) (w := W) 55 4 i0 z u55 hi hz .i64 .i64 1 1 (by decide) (Int.le_refl _) (by rw [hsz]; decide) (by omega) (by decide)
      refine wpOp_step rfl fun K' hK => ?_
      refine step_make rfl (.tmp 12) (.tmp 12) 55 rfl _ _ _ rfl rfl hr ?_
      exact hK _ _ ⟨_, rfl, fun _ => ⟨_, rfl⟩, .inl (below_new _ _)⟩
    | 6, ho =>
      cases ho
      refine wpOp_step rfl fun K' hK => ?_
      go_simp
      refine hK _ _ ⟨_, rfl, fun _ => ⟨_, rfl, cell_at (World.alloc_heap_new _ _) rfl⟩, .inl (below_new _ _)⟩
    | 7, ho => cases ho; refine wpOp_step rfl fun K' hK => ?_; go_simp; exact hK _ _ ⟨_, rfl, fun _ => rfl, .inl (Below.refl _ _)⟩
    | 8, ho =>
      cases ho
      have e : x15 = _ := hS 7 _ 15 rfl rfl rfl (.inl rfl)
      subst e
      obtain ⟨g, e, hh⟩ : ∃ g, x14 = .slice (some ⟨g, 0, none⟩) 1 1 ∧ _ := hS 6 _ 14 rfl rfl rfl (.inl rfl)
      subst e
      refine wpOp_step rfl fun K' hK => ?_
      go_simp
      refine Calls.mono (repeat71 (M := fun _ _ => none) hh) ?_
      rintro e w2 ⟨g2, rfl, _, _, hb2⟩
      exact hK _ _ ⟨_, rfl, fun _ => ⟨_, rfl⟩, .inl hb2⟩
    | 9, ho =>
      cases ho
      have e1 : Run2 w.heap.size x10 W := hS 2 _ 10 rfl rfl rfl (.inl rfl)
      obtain ⟨g, e, hg1, hg2⟩ := e1
      obtain ⟨g5, e5⟩ : ∃ g, x13 = .slice (some ⟨g, 0, none⟩) 1 1 := hS 5 _ 13 rfl rfl rfl (.inl rfl)
      obtain ⟨g8, e8⟩ : ∃ g, x16 = .slice (some ⟨g, 0, none⟩) 2 2 := hS 8 _ 16 rfl rfl rfl (.inl rfl)
      subst e e5 e8
      refine wpOp_step rfl fun K' hK => ?_
      go_simp
      exact hK _ _ ⟨_, rfl, fun _ => ⟨_, _, _, ⟨⟨g, rfl, hg1, hg2⟩, rfl, rfl⟩, rfl⟩, .inl (Below.refl _ _)⟩
    | 10, ho =>
      cases ho
      obtain ⟨r1, r2, r3, hr, e⟩ : ∃ r1 r2 r3, Run3 w.heap.size r1 r2 r3 W ∧ x17 = _ := hS 9 _ 17 rfl rfl rfl (.inl rfl)
      subst e
      refine wpOp_step rfl fun K' hK => ?_
      go_simp
      exact hK _ _ ⟨_, rfl, fun _ => ⟨_, _, _, hr, rfl⟩, .inl (Below.refl _ _)⟩
    | 11, ho =>
      cases ho
      obtain ⟨r1, r2, r3, hr, e⟩ : ∃ r1 r2 r3, Run3 w.heap.size r1 r2 r3 W ∧ x18 = _ := hS 10 _ 18 rfl rfl rfl (.inl rfl)
      have e8 : x8 = _ := hS 0 _ 8 rfl rfl rfl (.inl rfl)
      subst e e8
      refine wpOp_step rfl fun K' hK => ?_
      go_simp
      exact hK _ _ ⟨_, rfl, fun _ => ⟨_, _, _, hr, rfl⟩, .inl (Below.refl _ _)⟩
    | 12, ho =>
      cases ho
      obtain ⟨r1, r2, r3, hr, e⟩ : ∃ r1 r2 r3, Run3 w.heap.size r1 r2 r3 W ∧ x19 = _ := hS 11 _ 19 rfl rfl rfl (.inl rfl)
      subst e
      refine wpOp_step rfl fun K' hK => ?_
      go_simp
      exact hK _ _ ⟨_, rfl, fun _ => ⟨_, _, _, _, hr.below (below_new _ _), rfl, hJw, World.alloc_heap_new _ _⟩, .inl (below_new _ _)⟩
    | 13, ho =>
      cases ho
      have h := hS 12 _ 20 rfl rfl rfl (.inl rfl)
      obtain ⟨x, r1, r2, r3, hr, e, hx, hh⟩ : ∃ x r1 r2 r3, Run3 w.heap.size r1 r2 r3 W ∧ x20 = .pointer (some ⟨x, 0, none⟩) ∧ w.heap.size ≤ x ∧ W.heap[x]? = some (.cells (lineC c0 c2 c3 c4 c5 c6 c7 c8 c9 c10 c11 c12 c13 c14 c15 c16 c17 c18 c19 c20 p ks r1 r2 r3) 113 (0, 0)) := h
      subst e
      refine wpOp_step rfl fun K' hK => ?_
      go_simp
      exact hK _ _ ⟨_, rfl, fun _ => ⟨_, _, _, _, hr, rfl, hx, hh⟩, .inl (Below.refl _ _)⟩
    | k + 14, ho => cases ho
  case fin =>
    intro a W hJ hs hd hfr hS
    obtain ⟨⟨l⟩, df⟩ := a
    simp only at hd
    subst hd
    obtain ⟨x0, x1, x2, x3, x4, x5, x6, x7, x8, x9, x10, x11, x12, x13, x14, x15, x16, x17, x18, x19, x20, rfl⟩ := list21 l hs
    have h := hS 13 _ 2 rfl rfl rfl
    obtain ⟨x, r1, r2, r3, hr, e, hx, hh⟩ : ∃ x r1 r2 r3, Run3 w.heap.size r1 r2 r3 W ∧ x2 = .pointer (some ⟨x, 0, none⟩) ∧ w.heap.size ≤ x ∧ W.heap[x]? = some (.cells (lineC c0 c2 c3 c4 c5 c6 c7 c8 c9 c10 c11 c12 c13 c14 c15 c16 c17 c18 c19 c20 p ks r1 r2 r3) 113 (0, 0)) := h
    subst e
    go_wp2
    go_ret
    exact ⟨below_trans hbw1 hJ, x, rfl, hx, r1, r2, r3, hr, hh⟩
end Go.Lift
