/-
  The entries of the examples; a log is replayed.
-/
import Derived.Test.YtkoojmbkjgbdgaaGreatDoorEntD
import Derived.OwnWalk
set_option linter.unusedSectionVars false
set_option linter.unusedVariables false
set_option linter.unusedSimpArgs false
set_option linter.unusedSectionVars false
set_option linter.unusedSimpArgs false
set_option linter.unusedVariables false
namespace Go.Lift
open Go Go.Proofs Go.RowKit Go.Shelf
def bOla : ByteArray := ⟨#[111, 108, 97]⟩
def bTom : ByteArray := ⟨#[116, 111, 109]⟩
def bMia : ByteArray := ⟨#[109, 105, 97]⟩
def bF1 : ByteArray := ⟨#[102, 49]⟩
def bF2 : ByteArray := ⟨#[102, 50]⟩
def tStart : ByteArray := ⟨#[115, 116, 97, 114, 116, 32, 102, 49]⟩
def tNote : ByteArray := ⟨#[110, 111, 116, 101, 32, 120]⟩
def tThread : ByteArray := ⟨#[116, 104, 114, 101, 97, 100]⟩
def people3 : List (ByteArray × Int) := [(bOla, 1), (bTom, 2), (bMia, 3)]
def stands2 : List ByteArray := [bF1, bF2]
structure LineA (w : World) (x g bp op cp bs os cs cr : Nat) (LC cur : Array Value) : Prop where
  box : w.heap[x]? = some (.cells LC 113 (0, 0))
  run : w.heap[g]? = some (.cells cur 4 (0, 0))
  ppl : PersonsAt w bp op people3
  std : ∀ j, j < stands2.length → w.cell? ⟨bs, os + j, none⟩ = some (.string (stands2.getD j ByteArray.empty))
  ne1 : x ≠ g
  ne2 : bp ≠ g
  ne3 : bs ≠ g
  c0 : LC[0]? = some (.slice (some ⟨bp, op, none⟩) 3 cp)
  c1 : LC[1]? = some (.slice (some ⟨bs, os, none⟩) 2 cs)
  c21 : LC[21]? = some (.string ⟨#[]⟩)
  c24 : LC[24]? = some (.slice (some ⟨g, 0, none⟩) 2 cr)
  c27 : LC[27]? = some (.bool false)
theorem PersonsAt.grown {w w' : World} {b off g : Nat} {l : List (ByteArray × Int)} (h : PersonsAt w b off l) (hb : w.grownBy w' (some g)) (hn : b ≠ g) : PersonsAt w' b off l := fun j p hj =>
  ⟨cell_grown hb (h j p hj).1 (fun e => by cases e; exact hn rfl), cell_grown hb (h j p hj).2 (fun e => by cases e; exact hn rfl)⟩
theorem LineA.grown {w w' : World} {x g bp op cp bs os cs cr : Nat} {LC cur cur' : Array Value} (h : LineA w x g bp op cp bs os cs cr LC cur) (hb : w.grownBy w' (some g)) (hr : w'.heap[g]? = some (.cells cur' 4 (0, 0))) : LineA w' x g bp op cp bs os cs cr LC cur' :=
  { h with
    box := (hb.block _ (Array.getElem?_eq_some_iff.1 h.box).1 (fun e => by cases e; exact h.ne1 rfl)).trans h.box
    run := hr
    ppl := h.ppl.grown hb h.ne2
    std := fun j hj => cell_grown hb (h.std j hj) (fun e => by cases e; exact h.ne3 rfl) }
theorem LineA.below {w w' : World} {x g bp op cp bs os cs cr : Nat} {LC cur : Array Value} (h : LineA w x g bp op cp bs os cs cr LC cur) (hb : Below w.heap.size w w') : LineA w' x g bp op cp bs os cs cr LC cur :=
  { h with
    box := (hb.block _ (Array.getElem?_eq_some_iff.1 h.box).1).trans h.box
    run := (hb.block _ (Array.getElem?_eq_some_iff.1 h.run).1).trans h.run
    ppl := h.ppl.below hb
    std := fun j hj => (World.cell?_of_block (hb.block _ (World.block_lt_of_cell? _ _ (h.std j hj)))).trans (h.std j hj) }
theorem ola_tom : (bOla.toList == bTom.toList) = false := by kernel_rfl
section
variable {M : Mem} {w : World} (hg : Good M w) {x g bp op cp bs os cs cr : Nat} {LC cur : Array Value} (h : LineA w x g bp op cp bs os cs cr LC cur)
include hg h
theorem tom_is : ∀ j q, j < 1 → people3[j]? = some q → (q.1.toList == bTom.toList) = false := by
  intro j q hj hq
  match j, hj with
  | 0, _ => cases hq; exact ola_tom
set_option maxHeartbeats 4000000 in
set_option maxRecDepth 100000 in
theorem enter_start (hcur : cur[0]? = some (.bool false)) :
    Calls Tryz.prog 46 #[.pointer (some ⟨x, 0, none⟩), .agg #[.int .i64 0, .string bTom, .string tStart], .int .i64 0] w fun e w' => ∃ k, e = .returned (.int .i64 k) ∧ k = 0 ∧ w.grownBy w' (some g) ∧ LineA w' x g bp op cp bs os cs cr LC (cur.setIfInBounds 0 (.bool true)) := by
  obtain ⟨m, hm⟩ := maxLen_cell hg
  refine enter46 hg (i := 1) (p := (bTom, 2)) (f := 129) (s2 := ByteArray.empty) (PP := fun a n c W => ∃ b, a = some ⟨b, 0, none⟩ ∧ n = 1 ∧ W.cell? ⟨b, 0, none⟩ = some (.string bF1)) (R := fun k w' => k = 0 ∧ w.grownBy w' (some g) ∧ LineA w' x g bp op cp bs os cs cr LC (cur.setIfInBounds 0 (.bool true))) h.box h.c0 h.ppl (by decide) rfl rfl (tom_is hg h) (Int.le_refl _) (by decide) (Int.le_refl _) (by decide) (by kernel_rfl)
    (fun W => verbs_start W (by kernel_rfl)) (by decide) (fun W hB => ?_) (fun a n c W W' hb hp => ?_) (fun _ _ => rfl) (fun W a n c hB hp => ?_)
  · refine Calls.mono (parse1 (role := 2) (f := 129) ((World.cell?_of_block (hB.block 4 (World.block_lt_of_cell? w _ hm))).trans hm) (w0 := ⟨#[115, 116, 97, 114, 116]⟩) (w1 := bF1) (by decide) (by kernel_rfl) (by kernel_rfl) (by kernel_rfl) (by decide) (by decide)) ?_
    rintro e w' ⟨hb, b, c, rfl, hc⟩
    exact ⟨hb, _, _, _, rfl, b, rfl, rfl, hc⟩
  · obtain ⟨b, e1, e2, hc⟩ := hp
    exact ⟨b, e1, e2, (World.cell?_of_block (hb.block _ (World.block_lt_of_cell? _ _ hc))).trans hc⟩
  · obtain ⟨b, rfl, rfl, hc⟩ := hp
    have h' := h.below hB
    refine Calls.mono (start129 (good_below hg hB) (zs := stands2) (i := 0) (x := bF1) h'.box h'.c1 h'.c24 h'.c27 (by decide) h'.std h'.run hcur (by kernel_rfl) (by decide) hc) ?_
    rintro e w' ⟨hgr, hh, rfl⟩
    exact ⟨0, rfl, rfl, ⟨by rw [hgr.os, hB.os], by rw [hgr.tape, hB.tape], by rw [hgr.output, hB.output], Nat.le_trans hB.size hgr.size, fun k hk hn => (hgr.block k (Nat.lt_of_lt_of_le hk hB.size) hn).trans (hB.block k hk)⟩, h'.grown hgr hh⟩
set_option maxHeartbeats 4000000 in
set_option maxRecDepth 100000 in
theorem enter_note :
    Calls Tryz.prog 46 #[.pointer (some ⟨x, 0, none⟩), .agg #[.int .i64 0, .string bTom, .string tNote], .int .i64 0] w fun e w' => ∃ k, e = .returned (.int .i64 k) ∧ k = 0 ∧ Below w.heap.size w w' := by
  obtain ⟨m, hm⟩ := maxLen_cell hg
  refine enter46 hg (i := 1) (p := (bTom, 2)) (f := 122) (s2 := ⟨#[120]⟩) (PP := fun a n c W => True) (R := fun k w' => k = 0 ∧ Below w.heap.size w w') h.box h.c0 h.ppl (by decide) rfl rfl (tom_is hg h) (Int.le_refl _) (by decide) (Int.le_refl _) (by decide) (by kernel_rfl)
    (fun W => verbs_note W (by kernel_rfl)) (by decide) (fun W hB => ?_) (fun a n c W W' hb hp => trivial) (fun _ _ => rfl) (fun W a n c hB hp => ?_)
  · refine Calls.mono (parseR (role := 0) (f := 122) ((World.cell?_of_block (hB.block 4 (World.block_lt_of_cell? w _ hm))).trans hm) (w0 := ⟨#[110, 111, 116, 101]⟩) (w1 := ⟨#[120]⟩) (by decide) (by kernel_rfl) (by decide) (by kernel_rfl) (by decide)) ?_
    rintro e w' ⟨hb, a, n, c, rfl⟩
    exact ⟨hb, _, _, _, rfl, trivial⟩
  · refine Calls.mono (note122 W x _) ?_
    rintro e w' ⟨hb, rfl⟩
    exact ⟨0, rfl, rfl, below_trans hB hb⟩
set_option maxHeartbeats 4000000 in
set_option maxRecDepth 100000 in
theorem enter_thread :
    Calls Tryz.prog 46 #[.pointer (some ⟨x, 0, none⟩), .agg #[.int .i64 0, .string bTom, .string tThread], .int .i64 0] w fun e w' => ∃ k, e = .returned (.int .i64 k) ∧ k = 20 ∧ Below w.heap.size w w' := by
  obtain ⟨m, hm⟩ := maxLen_cell hg
  refine enter46 hg (i := 1) (p := (bTom, 2)) (f := 131) (s2 := ByteArray.empty) (PP := fun a n c W => True) (R := fun k w' => k = 20 ∧ Below w.heap.size w w') h.box h.c0 h.ppl (by decide) rfl rfl (tom_is hg h) (Int.le_refl _) (by decide) (Int.le_refl _) (by decide) (by kernel_rfl)
    (fun W => verbs_thread W (by kernel_rfl)) (by decide) (fun W hB => ?_) (fun a n c W W' hb hp => trivial) (fun _ _ => rfl) (fun W a n c hB hp => ?_)
  · refine Calls.mono (parse0 (role := 2) (f := 131) ((World.cell?_of_block (hB.block 4 (World.block_lt_of_cell? w _ hm))).trans hm) (w0 := tThread) (by decide) (by kernel_rfl) (by kernel_rfl) (by kernel_rfl) (by decide)) ?_
    rintro e w' ⟨hb, a, n, c, rfl⟩
    exact ⟨hb, _, _, _, rfl, trivial⟩
  · refine Calls.mono (thread131 (h.below hB).box h.c21 (by kernel_rfl)) ?_
    rintro e w' ⟨hb, rfl⟩
    exact ⟨20, rfl, rfl, below_trans hB hb⟩
end
end Go.Lift
set_option linter.unusedSectionVars false
set_option linter.unusedSimpArgs false
set_option linter.unusedVariables false
namespace Go.Lift
open Go Go.Proofs Go.RowKit Go.Shelf
attribute [local go_sem] Oper.semAt_some run_store_func
theorem wpList_load {P : Program} {w : World} {ops : Array Oper} {rest : List Oper} {o : Oper} {a : Act} {Q : Exit → Act → World → Prop}
    (hg : o.guard = none) (t : TypeId) (x : Operand) (ad : Addr) (hop : o.op = Op.load t x) (hx : a.eval x = .pointer (some ad)) {v : Value} (hrun : (loadVar t ad).run P w = .ok v w) (hK : wpList P ops Q rest (a.put o.dst v) w) : wpList P ops Q (o :: rest) a w := by
  refine wpList_plain hg fun K hK' => ?_
  unfold Oper.wp
  simp [execOp, hop, hx, Instr.loadAt, Instr.sureAddr, hrun, Result.andThen]
  exact hK' _ _ hK
structure LogAt (w : World) (b o : Nat) (s1 s2 t1 t2 : ByteArray) : Prop where
  a0 : w.cell? ⟨b, o, none⟩ = some (.int .i64 0)
  a1 : w.cell? ⟨b, o + 1, none⟩ = some (.string s1)
  a2 : w.cell? ⟨b, o + 2, none⟩ = some (.string t1)
  a3 : w.cell? ⟨b, o + 3, none⟩ = some (.int .i64 0)
  a4 : w.cell? ⟨b, o + 4, none⟩ = some (.string s2)
  a5 : w.cell? ⟨b, o + 5, none⟩ = some (.string t2)
theorem LogAt.below {w w' : World} {b o : Nat} {s1 s2 t1 t2 : ByteArray} (h : LogAt w b o s1 s2 t1 t2) (hb : Below w.heap.size w w') : LogAt w' b o s1 s2 t1 t2 :=
  have hl : w'.heap[b]? = w.heap[b]? := hb.block _ (World.block_lt_of_cell? _ _ h.a0)
  have hc : ∀ {k : Nat} {v : Value}, w.cell? ⟨b, k, none⟩ = some v → w'.cell? ⟨b, k, none⟩ = some v := fun hv => (World.cell?_of_block hl).trans hv
  ⟨hc h.a0, hc h.a1, hc h.a2, hc h.a3, hc h.a4, hc h.a5⟩
theorem LogAt.grown {w w' : World} {b o g : Nat} {s1 s2 t1 t2 : ByteArray} (h : LogAt w b o s1 s2 t1 t2) (hb : w.grownBy w' (some g)) (hn : b ≠ g) : LogAt w' b o s1 s2 t1 t2 :=
  have hc : ∀ {k : Nat} {v : Value}, w.cell? ⟨b, k, none⟩ = some v → w'.cell? ⟨b, k, none⟩ = some v := fun hv => cell_grown hb hv (fun e => by cases e; exact hn rfl)
  ⟨hc h.a0, hc h.a1, hc h.a2, hc h.a3, hc h.a4, hc h.a5⟩
theorem line_made {w : World} {x g bp op cp bs os ks B : Nat} {c2 c3 c4 c5 c6 c7 c8 c9 c10 c11 c12 c13 c14 c15 c16 c17 c18 c19 c20 r2 r3 : Value} (hp : PersonsAt w bp op people3) (hs : ∀ j, j < stands2.length → w.cell? ⟨bs, os + j, none⟩ = some (.string (stands2.getD j ByteArray.empty)))
    (hx : w.heap[x]? = some (.cells (lineC (.slice (some ⟨bp, op, none⟩) 3 cp) c2 c3 c4 c5 c6 c7 c8 c9 c10 c11 c12 c13 c14 c15 c16 c17 c18 c19 c20 (some ⟨bs, os, none⟩) ks (.slice (some ⟨g, 0, none⟩) 2 2) r2 r3) 113 (0, 0))) (hr : w.heap[g]? = some (.cells #[.bool false, .bool false] 4 (0, 0))) (h1 : bp < B) (h2 : bs < B) (hgB : B ≤ g) :
    LineA w x g bp op cp bs os ks 2 (lineC (.slice (some ⟨bp, op, none⟩) 3 cp) c2 c3 c4 c5 c6 c7 c8 c9 c10 c11 c12 c13 c14 c15 c16 c17 c18 c19 c20 (some ⟨bs, os, none⟩) ks (.slice (some ⟨g, 0, none⟩) 2 2) r2 r3) #[.bool false, .bool false] :=
  { box := hx, run := hr, ppl := hp, std := hs, ne2 := by omega, ne3 := by omega, c0 := rfl, c1 := rfl, c21 := rfl, c24 := rfl, c27 := rfl
    ne1 := fun e => by subst e; rw [hx] at hr; cases hr }
set_option maxHeartbeats 8000000 in
set_option maxRecDepth 100000 in
theorem replay_note {M : Mem} {w : World} (hg : Good M w) {bp op cp bs os ks bl ol cl : Nat} {c2 c3 c4 c5 c6 c7 c8 c9 c10 c11 c12 c13 c14 c15 c16 c17 c18 c19 c20 : Value} (hp : PersonsAt w bp op people3) (hs : ∀ j, j < stands2.length → w.cell? ⟨bs, os + j, none⟩ = some (.string (stands2.getD j ByteArray.empty))) (hlog : LogAt w bl ol bTom bTom tStart tNote) :
    Calls Tryz.prog 51 #[.agg #[.slice (some ⟨bp, op, none⟩) 3 cp, .slice (some ⟨bs, os, none⟩) 2 ks, c2, c3, c4, c5, c6, c7, c8, c9, c10, c11, c12, c13, c14, c15, c16, c17, c18, c19, c20], .slice (some ⟨bl, ol, none⟩) 2 cl] w fun e w' => Below w.heap.size w w' ∧ ∃ x g r2 r3, e = .returned (.tuple #[.pointer (some ⟨x, 0, none⟩), .int .i64 0, .int .i64 0]) ∧ LineA w' x g bp op cp bs os ks 2 (lineC (.slice (some ⟨bp, op, none⟩) 3 cp) c2 c3 c4 c5 c6 c7 c8 c9 c10 c11 c12 c13 c14 c15 c16 c17 c18 c19 c20 (some ⟨bs, os, none⟩) ks (.slice (some ⟨g, 0, none⟩) 2 2) r2 r3) #[.bool true, .bool false] ∧ r2.oneCell' = true ∧ r3.oneCell' = true := by
  have lp := World.block_lt_of_cell? _ _ (hp 0 _ rfl).1
  have ls := World.block_lt_of_cell? _ _ (hs 0 (by decide))
  have ll := World.block_lt_of_cell? _ _ hlog.a0
  have hb1 := below_new w (.cells #[.slice (some ⟨bp, op, none⟩) 3 cp, .slice (some ⟨bs, os, none⟩) 2 ks, c2, c3, c4, c5, c6, c7, c8, c9, c10, c11, c12, c13, c14, c15, c16, c17, c18, c19, c20] 85)
  go_enter Tryz.func51, Tryz.ntmps51
  go_wp2_with (first | (show wpList _ _ _ ({ dst := some 12, op := Op.load 85 (Operand.tmp 2), type := _, pos := _, after := _, guard := _ } :: _) _ _; refine wpList_load rfl 85 (.tmp 2) ⟨w.heap.size, 0, none⟩ rfl rfl (load85 (World.alloc_heap_new w _) rfl) ?_) | (go_at_call 43; refine Calls.mono empty43 ?_; rintro e w2 ⟨hb2, x, r1, r2, r3, rfl, hx, ⟨⟨g, rfl, hg1, hrun⟩, ho2, ho3⟩, hbox⟩))
  have hB2 := below_trans hb1 hb2
  have hgB : w.heap.size ≤ g := Nat.le_trans hb1.size hg1
  have hline := line_made (hp.below hB2) (fun j hj => (World.cell?_of_block (hB2.block _ (World.block_lt_of_cell? _ _ (hs j hj)))).trans (hs j hj)) hbox hrun lp ls hgB
  obtain ⟨k0, k1, k2, k3, k4, k5⟩ := hlog.below hB2
  have hG2 := good_below hg hB2
  have hb3 := below_new w2 (.cells #[.int .i64 0, .string bTom, .string tStart] 54)
  have hen := enter_start (good_below hG2 hb3) (hline.below hb3) rfl
  refine wp_loop_rounds 3 ?_
  rw [rounds_succ]
  go_wp2_with (first | (go_at_call 46; refine Calls.mono hen ?_; clear hen; rintro e w3 ⟨ka, rfl, rfl, hgr3, hline3⟩; clear k0 k1 k2 k3 k4 k5; obtain ⟨k0, k1, k2, k3, k4, k5⟩ := ((hlog.below hB2).below hb3).grown hgr3 (by omega); have j0 : w3.cell? ⟨w2.heap.size, 0, none⟩ = some (.int .i64 0) := cell_grown hgr3 (cell_at (World.alloc_heap_new w2 _) rfl) (fun e => by cases e; have := (Array.getElem?_eq_some_iff.1 hrun).1; omega); have hB3 : Below w.heap.size w w3 := below_of_grown (below_trans hB2 hb3) hgr3 hgB))
  have hline3' : LineA w3 x g bp op cp bs os ks 2 _ #[.bool true, .bool false] := hline3
  have hG3 : Good M w3 := good_below hg hB3
  have hb4 := below_new w3 (.cells #[.int .i64 0, .string bTom, .string tNote] 54)
  have hen := enter_note (good_below hG3 hb4) (hline3'.below hb4)
  rw [rounds_succ]
  go_wp2_with (first | (go_at_call 46; go_loud (refine Calls.mono hen ?_); clear hen; rintro e w5 ⟨kb, rfl, rfl, hb5⟩; have j1 : w5.cell? ⟨w3.heap.size, 0, none⟩ = some (.int .i64 0) := (World.cell?_of_block (hb5.block _ (Array.getElem?_eq_some_iff.1 (World.alloc_heap_new w3 _)).1)).trans (cell_at (World.alloc_heap_new w3 _) rfl)))
  rw [rounds_succ]
  go_wp2
  go_ret3
  exact ⟨below_trans hB3 (below_trans hb4 hb5), x, g, r2, r3, rfl, (hline3'.below hb4).below hb5, ho2, ho3⟩
set_option maxHeartbeats 8000000 in
set_option maxRecDepth 100000 in
theorem replay_thread {M : Mem} {w : World} (hg : Good M w) {bp op cp bs os ks bl ol cl : Nat} {c2 c3 c4 c5 c6 c7 c8 c9 c10 c11 c12 c13 c14 c15 c16 c17 c18 c19 c20 : Value} (hp : PersonsAt w bp op people3) (hs : ∀ j, j < stands2.length → w.cell? ⟨bs, os + j, none⟩ = some (.string (stands2.getD j ByteArray.empty))) (hlog : LogAt w bl ol bTom bTom tStart tThread) :
    Calls Tryz.prog 51 #[.agg #[.slice (some ⟨bp, op, none⟩) 3 cp, .slice (some ⟨bs, os, none⟩) 2 ks, c2, c3, c4, c5, c6, c7, c8, c9, c10, c11, c12, c13, c14, c15, c16, c17, c18, c19, c20], .slice (some ⟨bl, ol, none⟩) 2 cl] w fun e w' => Below w.heap.size w w' ∧ ∃ x g r2 r3, e = .returned (.tuple #[.pointer (some ⟨x, 0, none⟩), .int .i64 1, .int .i64 20]) ∧ LineA w' x g bp op cp bs os ks 2 (lineC (.slice (some ⟨bp, op, none⟩) 3 cp) c2 c3 c4 c5 c6 c7 c8 c9 c10 c11 c12 c13 c14 c15 c16 c17 c18 c19 c20 (some ⟨bs, os, none⟩) ks (.slice (some ⟨g, 0, none⟩) 2 2) r2 r3) #[.bool true, .bool false] ∧ r2.oneCell' = true ∧ r3.oneCell' = true := by
  have lp := World.block_lt_of_cell? _ _ (hp 0 _ rfl).1
  have ls := World.block_lt_of_cell? _ _ (hs 0 (by decide))
  have ll := World.block_lt_of_cell? _ _ hlog.a0
  have hb1 := below_new w (.cells #[.slice (some ⟨bp, op, none⟩) 3 cp, .slice (some ⟨bs, os, none⟩) 2 ks, c2, c3, c4, c5, c6, c7, c8, c9, c10, c11, c12, c13, c14, c15, c16, c17, c18, c19, c20] 85)
  go_enter Tryz.func51, Tryz.ntmps51
  go_wp2_with (first | (show wpList _ _ _ ({ dst := some 12, op := Op.load 85 (Operand.tmp 2), type := _, pos := _, after := _, guard := _ } :: _) _ _; refine wpList_load rfl 85 (.tmp 2) ⟨w.heap.size, 0, none⟩ rfl rfl (load85 (World.alloc_heap_new w _) rfl) ?_) | (go_at_call 43; refine Calls.mono empty43 ?_; rintro e w2 ⟨hb2, x, r1, r2, r3, rfl, hx, ⟨⟨g, rfl, hg1, hrun⟩, ho2, ho3⟩, hbox⟩))
  have hB2 := below_trans hb1 hb2
  have hgB : w.heap.size ≤ g := Nat.le_trans hb1.size hg1
  have hline := line_made (hp.below hB2) (fun j hj => (World.cell?_of_block (hB2.block _ (World.block_lt_of_cell? _ _ (hs j hj)))).trans (hs j hj)) hbox hrun lp ls hgB
  obtain ⟨k0, k1, k2, k3, k4, k5⟩ := hlog.below hB2
  have hG2 := good_below hg hB2
  have hb3 := below_new w2 (.cells #[.int .i64 0, .string bTom, .string tStart] 54)
  have hen := enter_start (good_below hG2 hb3) (hline.below hb3) rfl
  refine wp_loop_rounds 3 ?_
  rw [rounds_succ]
  go_wp2_with (first | (go_at_call 46; refine Calls.mono hen ?_; clear hen; rintro e w3 ⟨ka, rfl, rfl, hgr3, hline3⟩; clear k0 k1 k2 k3 k4 k5; obtain ⟨k0, k1, k2, k3, k4, k5⟩ := ((hlog.below hB2).below hb3).grown hgr3 (by omega); have j0 : w3.cell? ⟨w2.heap.size, 0, none⟩ = some (.int .i64 0) := cell_grown hgr3 (cell_at (World.alloc_heap_new w2 _) rfl) (fun e => by cases e; have := (Array.getElem?_eq_some_iff.1 hrun).1; omega); have hB3 : Below w.heap.size w w3 := below_of_grown (below_trans hB2 hb3) hgr3 hgB))
  have hline3' : LineA w3 x g bp op cp bs os ks 2 _ #[.bool true, .bool false] := hline3
  have hG3 : Good M w3 := good_below hg hB3
  have hb4 := below_new w3 (.cells #[.int .i64 0, .string bTom, .string tThread] 54)
  have hen := enter_thread (good_below hG3 hb4) (hline3'.below hb4)
  rw [rounds_succ]
  go_wp2_with (first | (go_at_call 46; go_loud (refine Calls.mono hen ?_); clear hen; rintro e w5 ⟨kb, rfl, rfl, hb5⟩; have j1 : w5.cell? ⟨w3.heap.size, 0, none⟩ = some (.int .i64 0) := (World.cell?_of_block (hb5.block _ (Array.getElem?_eq_some_iff.1 (World.alloc_heap_new w3 _)).1)).trans (cell_at (World.alloc_heap_new w3 _) rfl)))
  go_ret3
  exact ⟨below_trans hB3 (below_trans hb4 hb5), x, g, r2, r3, rfl, (hline3'.below hb4).below hb5, ho2, ho3⟩
end Go.Lift
