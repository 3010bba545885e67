/-
  pass.ParseRules: what follows the numbers; the loop over the stands.
-/
import Derived.Test.YtkoojmbkjgbdgaaGreatDoorManC
import Derived.Deep.RegionWith
set_option linter.unusedSectionVars false
set_option linter.unusedVariables false
set_option linter.unusedSimpArgs false
set_option linter.unusedSectionVars false
set_option linter.unusedSimpArgs false
set_option linter.unusedVariables false
namespace Go.Lift
open Go Go.Proofs Go.RowKit Go.Shelf
attribute [local go_sem] Oper.semAt_some
theorem below2 (w : World) (a b : Obj) : Below w.heap.size w ((w.alloc a).alloc b) := ((Below.refl _ w).alloc (Nat.le_refl _) _).alloc (by rw [World.size_alloc]; omega) _
def cells11 (x : List Int) (sv : Value) : Array Value := #[.int .i64 (x.getD 0 0), .int .i64 (x.getD 1 0), .int .i64 (x.getD 2 0), .int .i64 (x.getD 3 0), .int .i64 (x.getD 4 0), .int .i64 (x.getD 5 0), sv, .int .i64 (x.getD 6 0), .int .i64 (x.getD 7 0), .int .i64 (x.getD 8 0), .int .i64 (x.getD 9 0)]
def zero11 : Array Value := #[.int .i64 0, .int .i64 0, .int .i64 0, .int .i64 0, .int .i64 0, .int .i64 0, .slice none 0 0, .int .i64 0, .int .i64 0, .int .i64 0, .int .i64 0]
def os10 : List Nat := [0, 1, 2, 3, 4, 5, 7, 8, 9, 10]
theorem set10 {x : List Int} (h : x.length = 10) : setAll zero11 os10 x = cells11 x (.slice none 0 0) := by
  match x, h with
  | [a, b, c, d, e, f, g, i, j, k], _ => simp [setAll, zero11, os10, cells11]
def stCells (st : List Dapi_PassStand) : List Value := st.flatMap fun s => [.int .i64 s.1, .int .i64 s.2.1, .int .i64 s.2.2.1, .int .i64 s.2.2.2.1, .int .i64 s.2.2.2.2]
theorem stCells_at : ∀ (st : List Dapi_PassStand) (i : Nat) (hi : i < st.length), ((stCells st).drop (i * 5)).take 5 = [.int .i64 st[i].1, .int .i64 st[i].2.1, .int .i64 st[i].2.2.1, .int .i64 st[i].2.2.2.1, .int .i64 st[i].2.2.2.2]
  | s :: st, 0, _ => rfl
  | s :: st, i + 1, h => by
    have := stCells_at st i (by simpa using h)
    rw [show (i + 1) * 5 = i * 5 + 5 by omega]
    exact this
noncomputable def c59 : Code := Tryz.f59.body.getD .skip
noncomputable def rest59 : Code := Code.snd (Code.snd (Code.snd (Code.snd (Code.snd c59))))
noncomputable def tail59 : Code := Code.snd rest59
theorem rules_rel {M : Mem} {W : World} {B : Nat} {x : List Int} {st : List Dapi_PassStand} {sv : Value} (h : W.ownsRow B 132 5 sv st.length (stCells st)) : relV Tryz.prog Tapi_PassRules (memFrom B M W) (rulesOf x st) (.agg (cells11 x sv)) := by
  have hs : relC Tryz.prog (.slice Tapi_PassStand) (memFrom B M W) st [sv] := own_rel (t := Tapi_PassStand) h rfl fun i hi => by
    show relC _ _ _ _ (((stCells st).drop (i * 5)).take 5)
    rw [stCells_at st i hi]
    exact ⟨rfl, rfl, rfl, rfl, rfl⟩
  exact ⟨_, rfl, rfl, rfl, rfl, ⟨rfl, rfl⟩, rfl, hs, ⟨rfl, rfl⟩, rfl, rfl⟩
theorem list55 {α : Type} : ∀ l : List α, l.length = 55 → ∃ x0 x1 x2 x3 x4 x5 x6 x7 x8 x9 x10 x11 x12 x13 x14 x15 x16 x17 x18 x19 x20 x21 x22 x23 x24 x25 x26 x27 x28 x29 x30 x31 x32 x33 x34 x35 x36 x37 x38 x39 x40 x41 x42 x43 x44 x45 x46 x47 x48 x49 x50 x51 x52 x53 x54, l = x0 :: x1 :: x2 :: x3 :: x4 :: x5 :: x6 :: x7 :: x8 :: x9 :: x10 :: x11 :: x12 :: x13 :: x14 :: x15 :: x16 :: x17 :: x18 :: x19 :: x20 :: x21 :: x22 :: x23 :: x24 :: x25 :: x26 :: x27 :: x28 :: x29 :: x30 :: x31 :: x32 :: x33 :: x34 :: x35 :: x36 :: x37 :: x38 :: x39 :: x40 :: x41 :: x42 :: x43 :: x44 :: x45 :: x46 :: x47 :: x48 :: x49 :: x50 :: x51 :: x52 :: x53 :: x54 :: []
  | x0 :: x1 :: x2 :: x3 :: x4 :: x5 :: x6 :: x7 :: x8 :: x9 :: x10 :: x11 :: x12 :: x13 :: x14 :: x15 :: x16 :: x17 :: x18 :: x19 :: x20 :: x21 :: x22 :: x23 :: x24 :: x25 :: x26 :: x27 :: x28 :: x29 :: x30 :: x31 :: x32 :: x33 :: x34 :: x35 :: x36 :: x37 :: x38 :: x39 :: x40 :: x41 :: x42 :: x43 :: x44 :: x45 :: x46 :: x47 :: x48 :: x49 :: x50 :: x51 :: x52 :: x53 :: x54 :: [], _ => ⟨_, _, _, _, _, _, _, _, _, _, _, _, _, _, _, _, _, _, _, _, _, _, _, _, _, _, _, _, _, _, _, _, _, _, _, _, _, _, _, _, _, _, _, _, _, _, _, _, _, _, _, _, _, _, _, rfl⟩
def Post59 (M : Mem) (w : World) (r : Dapi_PassRules × Int) : Exit → Act → World → Prop := bodyPost Tryz.prog Tryz.f59 fun e w' => ∃ M' v, e = .returned v ∧ relR Tryz.prog M' sg_pass_ParseRules.rts r v ∧ Good M' w' ∧ Grow M w M' w'
theorem results59 : Tryz.f59.results = #[.cell 2 78, .tmp 3] := by kernel_rfl
theorem load78 {W : World} {b : Nat} {x : List Int} {sv : Value} (h : W.heap[b]? = some (.cells (cells11 x sv) 78 (0, 0))) : (loadVar 78 ⟨b, 0, none⟩).run Tryz.prog W = .ok (.agg (cells11 x sv)) W := by
  have := run_loadCells_list (P := Tryz.prog) W ⟨b, 0, none⟩ (cells11 x sv).toList (fun j v hj => by rw [Addr.add_mk, Nat.zero_add]; exact cell_at h (by simpa using hj))
  rw [show (cells11 x sv).toList.length = 11 from rfl] at this
  simp [loadVar, Sem.run_bind, Sem.run_pure, Tryz.isAgg78, Tryz.sizeOf78, this, Result.andThen_ok]
theorem end59 {M : Mem} {w : World} (hg : Good M w) {W : World} (hb : Below w.heap.size w W) {b2 : Nat} {x : List Int} {st : List Dapi_PassStand} {sv : Value} (c2 : W.heap[b2]? = some (.cells (cells11 x sv) 78 (0, 0))) (hrow : W.ownsRow w.heap.size 132 5 sv st.length (stCells st)) {e : Int} {a : Act}
    (hd : a.defers = []) (h2 : a.tmps.getD 2 undef = .pointer (some ⟨b2, 0, none⟩)) (h3 : a.tmps.getD 3 undef = .int .i64 e) : Post59 M w (rulesOf x st, e) .ret a W := by
  refine bodyPost_ret (results_cell2 results59 h2 (load78 c2)) hd ⟨memFrom w.heap.size M W, _, rfl, ?_, memFrom_good (good_below hg hb), memFrom_grow hb⟩
  rw [h3]
  exact ⟨_, rfl, _, _, rfl, rules_rel hrow, _, rfl, relV_int.2 rfl⟩
theorem nil_row (W : World) (B : Nat) : W.ownsRow B 132 5 (.slice none 0 0) (([] : List Dapi_PassStand)).length (stCells []) := ⟨rfl, .inl ⟨rfl, rfl⟩⟩
theorem set11 {w : World} {g : Nat} {v0 v1 v2 v3 v4 v5 v6 v7 v8 v9 v10 : Value} (h : w.heap[g]? = some (.cells zero11 78 (0, 0))) :
    (((((((((((w.setCell ⟨g, 0, none⟩ v0).setCell ⟨g, 1, none⟩ v1).setCell ⟨g, 2, none⟩ v2).setCell ⟨g, 3, none⟩ v3).setCell ⟨g, 4, none⟩ v4).setCell ⟨g, 5, none⟩ v5).setCell ⟨g, 6, none⟩ v6).setCell ⟨g, 7, none⟩ v7).setCell ⟨g, 8, none⟩ v8).setCell ⟨g, 9, none⟩ v9).setCell ⟨g, 10, none⟩ v10).heap[g]? = some (.cells #[v0, v1, v2, v3, v4, v5, v6, v7, v8, v9, v10] 78 (0, 0)) ∧ w.grownBy (((((((((((w.setCell ⟨g, 0, none⟩ v0).setCell ⟨g, 1, none⟩ v1).setCell ⟨g, 2, none⟩ v2).setCell ⟨g, 3, none⟩ v3).setCell ⟨g, 4, none⟩ v4).setCell ⟨g, 5, none⟩ v5).setCell ⟨g, 6, none⟩ v6).setCell ⟨g, 7, none⟩ v7).setCell ⟨g, 8, none⟩ v8).setCell ⟨g, 9, none⟩ v9).setCell ⟨g, 10, none⟩ v10) (some g) :=
  have e : (((((((((((zero11.setIfInBounds 0 v0).setIfInBounds 1 v1).setIfInBounds 2 v2).setIfInBounds 3 v3).setIfInBounds 4 v4).setIfInBounds 5 v5).setIfInBounds 6 v6).setIfInBounds 7 v7).setIfInBounds 8 v8).setIfInBounds 9 v9).setIfInBounds 10 v10) = #[v0, v1, v2, v3, v4, v5, v6, v7, v8, v9, v10] := by simp [zero11]
  ⟨e ▸ (setCell_at (setCell_at (setCell_at (setCell_at (setCell_at (setCell_at (setCell_at (setCell_at (setCell_at (setCell_at (setCell_at h))))))))))), (grown_trans (grown_trans (grown_trans (grown_trans (grown_trans (grown_trans (grown_trans (grown_trans (grown_trans (grown_trans setCell_grown setCell_grown) setCell_grown) setCell_grown) setCell_grown) setCell_grown) setCell_grown) setCell_grown) setCell_grown) setCell_grown) setCell_grown)⟩
theorem kind_apart {W : World} {g B e E s m : Nat} {cur : Array Value} {r : Value} {cs : List Value} (hg : W.heap[g]? = some (.cells cur E (0, 0))) (he : e ≠ E) (hr : W.ownsRow B e s r m cs) : r.ownBlock = none ∨ r.ownBlock ≠ some g := by
  rcases hr.2 with ⟨rfl, _⟩ | ⟨g0, cap0, cur0, rfl, _, e1, _⟩
  · exact .inl rfl
  · refine .inr fun e2 => ?_
    simp only [Value.ownBlock, Option.some.injEq] at e2
    subst e2
    rw [hg] at e1
    simp only [Option.some.injEq, Obj.cells.injEq] at e1
    exact he e1.2.1.symm
theorem below_of_grown {w0 w w' : World} {g : Nat} (h : Below w0.heap.size w0 w) (k : w.grownBy w' (some g)) (hg : w0.heap.size ≤ g) : Below w0.heap.size w0 w' :=
  ⟨k.os.trans h.os, k.tape.trans h.tape, k.output.trans h.output, Nat.le_trans h.size k.size, fun j hj => (k.block j (Nat.lt_of_lt_of_le hj h.size) fun e => by cases e; omega).trans (h.block j hj)⟩
set_option maxHeartbeats 4000000 in
set_option maxRecDepth 100000 in
theorem tail59_ok {M : Mem} {w : World} (hg : Good M w) {r : Dapi_PassRules × Int} {x : List Int} {st : List Dapi_PassStand} (hr : ((pass_CheckRules (rulesOf x st)).bind fun e => bif e.2 != 0 then some (noRules, e.2) else some (rulesOf x st, 0)) = some r)
    {W : World} (hb : Below w.heap.size w W) {b2 b4 : Nat} (hb2 : w.heap.size ≤ b2) (hne : b2 ≠ b4) (c2 : W.heap[b2]? = some (.cells zero11 78 (0, 0))) {sv : Value} (c4 : W.heap[b4]? = some (.cells (cells11 x sv) 78 (0, 0))) (hrow : W.ownsRow w.heap.size 132 5 sv st.length (stCells st))
    {a : Act} (hd : a.defers = []) (hsz : a.tmps.size = 55) (h2 : a.tmps.getD 2 undef = .pointer (some ⟨b2, 0, none⟩)) (h4 : a.tmps.getD 4 undef = .pointer (some ⟨b4, 0, none⟩)) :
    tail59.wp Tryz.prog (Post59 M w r) a W := by
  obtain ⟨e, he, hr⟩ := Option.bind_eq_some_iff.1 hr
  have hcall := h_pass_CheckRules.2 (rulesOf x st) e he (memFrom w.heap.size M W) W [.agg (cells11 x sv)] (memFrom_good (good_below hg hb)) ⟨_, rfl, rules_rel hrow⟩
  obtain ⟨⟨l⟩, df⟩ := a
  simp only at hd
  subst hd
  obtain ⟨p4, n4, c4', rfl⟩ := own_shape hrow
  have hq : ∀ W', Below W.heap.size W W' → W'.cell? ⟨b2, 0, none⟩ = some (.int .i64 0) ∧ W'.cell? ⟨b2, 1, none⟩ = some (.int .i64 0) ∧ W'.cell? ⟨b2, 2, none⟩ = some (.int .i64 0) ∧ W'.cell? ⟨b2, 3, none⟩ = some (.int .i64 0) ∧ W'.cell? ⟨b2, 4, none⟩ = some (.int .i64 0) ∧ W'.cell? ⟨b2, 5, none⟩ = some (.int .i64 0) ∧ W'.cell? ⟨b2, 6, none⟩ = some (.slice none 0 0) ∧ W'.cell? ⟨b2, 7, none⟩ = some (.int .i64 0) ∧ W'.cell? ⟨b2, 8, none⟩ = some (.int .i64 0) ∧ W'.cell? ⟨b2, 9, none⟩ = some (.int .i64 0) ∧ W'.cell? ⟨b2, 10, none⟩ = some (.int .i64 0) ∧ ∀ off, W'.frozen? ⟨b2, off, none⟩ = false := fun W' hb' => by
    have := (hb'.block b2 (Array.getElem?_eq_some_iff.1 c2).1).trans c2
    exact ⟨cell_at this rfl, cell_at this rfl, cell_at this rfl, cell_at this rfl, cell_at this rfl, cell_at this rfl, cell_at this rfl, cell_at this rfl, cell_at this rfl, cell_at this rfl, cell_at this rfl, fun off => frozen_at this⟩
  have hk : ∀ W', Below W.heap.size W W' → W'.cell? ⟨b4, 0, none⟩ = some (.int .i64 (x.getD 0 0)) ∧ W'.cell? ⟨b4, 1, none⟩ = some (.int .i64 (x.getD 1 0)) ∧ W'.cell? ⟨b4, 2, none⟩ = some (.int .i64 (x.getD 2 0)) ∧ W'.cell? ⟨b4, 3, none⟩ = some (.int .i64 (x.getD 3 0)) ∧ W'.cell? ⟨b4, 4, none⟩ = some (.int .i64 (x.getD 4 0)) ∧ W'.cell? ⟨b4, 5, none⟩ = some (.int .i64 (x.getD 5 0)) ∧ W'.cell? ⟨b4, 6, none⟩ = some (.slice p4 n4 c4') ∧ W'.cell? ⟨b4, 7, none⟩ = some (.int .i64 (x.getD 6 0)) ∧ W'.cell? ⟨b4, 8, none⟩ = some (.int .i64 (x.getD 7 0)) ∧ W'.cell? ⟨b4, 9, none⟩ = some (.int .i64 (x.getD 8 0)) ∧ W'.cell? ⟨b4, 10, none⟩ = some (.int .i64 (x.getD 9 0)) := fun W' hb' => by
    have := (hb'.block b4 (Array.getElem?_eq_some_iff.1 c4).1).trans c4
    exact ⟨cell_at this rfl, cell_at this rfl, cell_at this rfl, cell_at this rfl, cell_at this rfl, cell_at this rfl, cell_at this rfl, cell_at this rfl, cell_at this rfl, cell_at this rfl, cell_at this rfl⟩
  obtain ⟨k0, k1, k2, k3, k4, k5, k6, k7, k8, k9, k10⟩ := hk W (Below.refl _ _)
  obtain ⟨x0, x1, x2, x3, x4, x5, x6, x7, x8, x9, x10, x11, x12, x13, x14, x15, x16, x17, x18, x19, x20, x21, x22, x23, x24, x25, x26, x27, x28, x29, x30, x31, x32, x33, x34, x35, x36, x37, x38, x39, x40, x41, x42, x43, x44, x45, x46, x47, x48, x49, x50, x51, x52, x53, x54, rfl⟩ := list55 l hsz
  have e2 : x2 = .pointer (some ⟨b2, 0, none⟩) := h2
  have e4 : x4 = .pointer (some ⟨b4, 0, none⟩) := h4
  subst e2 e4
  clear h2 h4 hsz
  simp only [tail59, rest59, c59, Tryz.f59, Option.getD_some, Code.fst, Code.snd]
  have hcall : Calls Tryz.prog 105 #[.agg (cells11 x (.slice p4 n4 c4'))] W fun e' w' => Below W.heap.size W w' ∧ e' = .returned (.tuple #[.int .i64 e.1, .int .i64 e.2]) := by
    refine Calls.mono hcall ?_
    rintro e' w' ⟨M', v, rfl, ⟨⟨vl⟩, rfl, u1, rs, e1, hu1, u2, rfl, hu2⟩, _, hgr'⟩
    obtain rfl := relV_int.1 hu1
    obtain rfl := relV_int.1 hu2
    replace e1 : vl = [_, _] := e1
    subst e1
    exact ⟨hgr'.below, rfl⟩
  unfold cells11 at hcall
  obtain ⟨Q, hQ⟩ : ∃ Q, Q = Post59 M w r := ⟨_, rfl⟩
  rw [← hQ]
  go_wp2_with (go_at_call 105; refine Calls.mono hcall ?_; clear hcall; rintro e' w1 ⟨hb1, rfl⟩; obtain ⟨q0, q1, q2, q3, q4, q5, q6, q7, q8, q9, q10, qf⟩ := hq w1 hb1; obtain ⟨m0, m1, m2, m3, m4, m5, m6, m7, m8, m9, m10⟩ := hk w1 hb1; clear k0 k1 k2 k3 k4 k5 k6 k7 k8 k9 k10)
  · have hne0 : (e.2 != 0) = true := by assumption
    rw [hne0, cond_true, Option.some.injEq] at hr
    obtain ⟨s1, s2⟩ := set11 (v0 := .int .i64 0) (v1 := .int .i64 0) (v2 := .int .i64 0) (v3 := .int .i64 0) (v4 := .int .i64 0) (v5 := .int .i64 0) (v6 := .slice none 0 0) (v7 := .int .i64 0) (v8 := .int .i64 0) (v9 := .int .i64 0) (v10 := .int .i64 0) ((hb1.block b2 (Array.getElem?_eq_some_iff.1 c2).1).trans c2)
    rw [hQ, ← hr]
    exact end59 (x := []) (st := []) hg (below_of_grown (below_trans hb hb1) s2 hb2) s1 (nil_row _ _) rfl rfl rfl
  · have hne0 : (e.2 != 0) = false := by assumption
    rw [hne0, cond_false, Option.some.injEq] at hr
    obtain ⟨s1, s2⟩ := set11 (v0 := .int .i64 (x.getD 0 0)) (v1 := .int .i64 (x.getD 1 0)) (v2 := .int .i64 (x.getD 2 0)) (v3 := .int .i64 (x.getD 3 0)) (v4 := .int .i64 (x.getD 4 0)) (v5 := .int .i64 (x.getD 5 0)) (v6 := .slice p4 n4 c4') (v7 := .int .i64 (x.getD 6 0)) (v8 := .int .i64 (x.getD 7 0)) (v9 := .int .i64 (x.getD 8 0)) (v10 := .int .i64 (x.getD 9 0)) ((hb1.block b2 (Array.getElem?_eq_some_iff.1 c2).1).trans c2)
    rw [hQ, ← hr]
    have hr1 := World.ownsRow.kept hrow (below_grown hb1) (by cases Value.ownBlock (.slice p4 n4 c4') <;> simp)
    have hr2 := hr1.kept s2 (kind_apart ((hb1.block b2 (Array.getElem?_eq_some_iff.1 c2).1).trans c2) (by decide) hr1)
    exact end59 (x := x) (st := st) hg (below_of_grown (below_trans hb hb1) s2 hb2) s1 hr2 rfl rfl rfl
end Go.Lift
set_option linter.unusedSectionVars false
set_option linter.unusedSimpArgs false
set_option linter.unusedVariables false
namespace Go.Lift
open Go Go.Proofs Go.RowKit Go.Shelf
attribute [local go_sem] Oper.semAt_some
structure Upto (N b : Nat) (w w' : World) : Prop where
  os : w'.os = w.os
  tape : w'.tape = w.tape
  output : w'.output = w.output
  size : w.heap.size ≤ w'.heap.size
  block : ∀ k, k < N → k ≠ b → w'.heap[k]? = w.heap[k]?
theorem Upto.refl {N b : Nat} (w : World) : Upto N b w w := ⟨rfl, rfl, rfl, Nat.le_refl _, fun _ _ _ => rfl⟩
theorem Upto.trans {N b : Nat} {w w1 w2 : World} (h : Upto N b w w1) (k : Upto N b w1 w2) : Upto N b w w2 :=
  ⟨k.os.trans h.os, k.tape.trans h.tape, k.output.trans h.output, Nat.le_trans h.size k.size, fun j hj hb => (k.block j hj hb).trans (h.block j hj hb)⟩
theorem Upto.below {N b : Nat} {w w' : World} (h : Below w.heap.size w w') (hN : N ≤ w.heap.size) : Upto N b w w' := ⟨h.os, h.tape, h.output, h.size, fun k hk _ => h.block k (by omega)⟩
theorem Upto.grown {N b : Nat} {w w' : World} {row : Option Nat} (h : w.grownBy w' row) (hN : N ≤ w.heap.size) (hr : ∀ g, row = some g → N ≤ g) : Upto N b w w' := ⟨h.os, h.tape, h.output, h.size, fun k hk _ => h.block k (by omega) fun e => by have := hr k e.symm; omega⟩
theorem Upto.set {N b off : Nat} {w : World} {v : Value} : Upto N b w (w.setCell ⟨b, off, none⟩ v) := by
  have h := setCell_grown (w := w) (g := b) (off := off) (v := v)
  exact ⟨h.os, h.tape, h.output, h.size, fun k hk hb => by
    by_cases hlt : k < w.heap.size
    · exact h.block k hlt fun e => hb (by cases e; rfl)
    · have := h.size
      rw [Array.getElem?_eq_none (by have : (w.setCell ⟨b, off, none⟩ v).heap.size = w.heap.size := by simp [World.setCell]
                                     omega), Array.getElem?_eq_none (by omega)]⟩
theorem Upto.below_of {w W0 W : World} {b : Nat} (h0 : Below w.heap.size w W0) (h : Upto W0.heap.size b W0 W) (hb : w.heap.size ≤ b) : Below w.heap.size w W :=
  ⟨h.os.trans h0.os, h.tape.trans h0.tape, h.output.trans h0.output, Nat.le_trans h0.size h.size, fun j hj => (h.block j (Nat.lt_of_lt_of_le hj h0.size) (by omega)).trans (h0.block j hj)⟩
structure L59 (W0 : World) (b2 b4 : Nat) (x : List Int) (st : List Dapi_PassStand) (W : World) : Prop where
  upto : Upto W0.heap.size b4 W0 W
  c2 : W.heap[b2]? = some (.cells zero11 78 (0, 0))
  row : ∃ sv, W.heap[b4]? = some (.cells (cells11 x sv) 78 (0, 0)) ∧ W.ownsRow W0.heap.size 132 5 sv st.length (stCells st)
theorem fill_calls {M : Mem} {w : World} (hg : Good M w) {s : ByteArray} {n : Nat} {rr : Option (List Int)} (h : filled s n = some rr) :
    ∃ ws l ok, strings_Split s (bytes [32]) = some ws ∧ pass_numbers ws = some (l, ok) ∧ rr = (if ok = true ∧ l.length = n then some l else none) := by
  unfold filled at h
  obtain ⟨ws, h1, h⟩ := Option.bind_eq_some_iff.1 h
  obtain ⟨⟨l, ok⟩, h2, h⟩ := Option.bind_eq_some_iff.1 h
  refine ⟨ws, l, ok, h1, h2, ?_⟩
  simp only at h
  cases ok with
  | false => simpa using h.symm
  | true =>
    by_cases hl : l.length = n
    · rw [if_pos ⟨rfl, hl⟩]
      have : ((l.length : Int) != (n : Int)) = false := by simp [hl]
      rw [this] at h
      simpa using h.symm
    · rw [if_neg (fun e => hl e.2)]
      have : ((l.length : Int) != (n : Int)) = true := by simp; omega
      rw [this] at h
      simpa using h.symm
noncomputable def loop59 : Code := Code.fst (Code.fst (Code.snd (Code.fst rest59)))
theorem standsF_step {s : ByteArray} {l : List ByteArray} {st : List Dapi_PassStand} {R : Option (List Dapi_PassStand)} (h : standsF (s :: l) st = some R) : ∃ rr, filled s 5 = some rr ∧ (match rr with
    | none => R = none
    | some x => st.length + 1 ≤ 4294967296 ∧ standsF l (st ++ [standOf x]) = some R) := by
  unfold standsF at h
  obtain ⟨rr, h1, h⟩ := Option.bind_eq_some_iff.1 h
  refine ⟨rr, h1, ?_⟩
  cases rr with
  | none => exact (Option.some.inj h).symm
  | some x =>
    obtain ⟨o, h2, h⟩ := Option.bind_eq_some_iff.1 h
    unfold app at h2
    split at h2
    · simp only [Option.some.injEq] at h2
      subst h2
      rename_i hl
      exact ⟨by simpa using hl, h⟩
    · cases h2
def Hid (p : Prop) : Prop := p
theorem fillN {M : Mem} {w : World} (hg : Good M w) {ws : List ByteArray} {wv : Value} (hw : relV Tryz.prog (.slice .str) M ws wv) {l : List Int} {ok : Bool} (hn : pass_numbers ws = some (l, ok)) {ga g : Nat} {os : List Nat} {cur : Array Value} {E E' : TypeId}
    (h1 : w.heap[ga]? = some (.cells (os.map fun o => Value.pointer (some ⟨g, o, none⟩)).toArray E (0, 0))) (h2 : w.heap[g]? = some (.cells cur E' (0, 0))) (hne : ga ≠ g) (hos : ∀ o ∈ os, o < cur.size) (hMg : ∀ o, M g o = none) (hlen : os.length ≤ 1000) (hsl : ∃ p n c, wv = .slice p n c) {rr : Option (List Int)} (hrr : rr = if ok = true ∧ l.length = os.length then some l else none) :
    Calls Tryz.prog 103 #[wv, .slice (some ⟨ga, 0, none⟩) os.length os.length] w fun e w' => ∃ M', Good M' w' ∧ Fra [g] M w M' w' ∧ (∀ o, M' g o = none) ∧
      ∃ y : Bool, e = .returned (.bool y) ∧ Hid (y = rr.isSome ∧ ∀ xs, rr = some xs → xs.length = os.length ∧ w'.heap[g]? = some (.cells (setAll cur os xs) E' (0, 0))) := by
  refine Calls.mono (fill103 hg hw hn h1 h2 hne hos hMg hlen hsl) ?_
  rintro e w' ⟨M', a1, a2, rfl, a3, a4⟩
  refine ⟨M', a1, a2, a3, ?_⟩
  cases ok with
  | false => rw [hrr, if_neg (fun e => by cases e.1)]; exact ⟨_, rfl, rfl, fun xs h => by cases h⟩
  | true =>
    by_cases hl : l.length = os.length
    · rw [hrr, if_pos ⟨rfl, hl⟩, decide_eq_true hl]
      rw [decide_eq_true hl] at a4
      exact ⟨_, rfl, rfl, fun xs h => by cases h; exact ⟨hl, a4⟩⟩
    · rw [hrr, if_neg (fun e => hl e.2), decide_eq_false hl]
      exact ⟨_, rfl, rfl, fun xs h => by cases h⟩
theorem below_drew (w : World) : Below w.heap.size w w.drew := ⟨rfl, rfl, rfl, Nat.le_refl _, fun _ _ => rfl⟩
theorem u76 : Tryz.prog.underlying 76 = some (.slice 132) := by kernel_rfl
theorem fits132 : fits Tryz.prog Tapi_PassStand (.inl 132) = true := by kernel_rfl
theorem set5 {x : List Int} (h : x.length = 5) : setAll #[.int .i64 0, .int .i64 0, .int .i64 0, .int .i64 0, .int .i64 0] [0, 1, 2, 3, 4] x = #[.int .i64 (x.getD 0 0), .int .i64 (x.getD 1 0), .int .i64 (x.getD 2 0), .int .i64 (x.getD 3 0), .int .i64 (x.getD 4 0)] := by
  match x, h with
  | [a, b, c, d, e], _ => simp [setAll]
theorem stCells_snoc (st : List Dapi_PassStand) (x : List Int) : stCells (st ++ [standOf x]) = stCells st ++ [.int .i64 (x.getD 0 0), .int .i64 (x.getD 1 0), .int .i64 (x.getD 2 0), .int .i64 (x.getD 3 0), .int .i64 (x.getD 4 0)] := by simp [stCells, standOf]
set_option maxHeartbeats 4000000 in
set_option maxRecDepth 100000 in
theorem loop59_ok {M : Mem} {w : World} (hg : Good M w) {r : Dapi_PassRules × Int} {x : List Int} {tl : List ByteArray}
    (hr : ((standsF tl []).bind fun st => match st with
        | none => some (noRules, 7)
        | some st => (pass_CheckRules (rulesOf x st)).bind fun e => bif e.2 != 0 then some (noRules, e.2) else some (rulesOf x st, 0)) = some r)
    {W : World} (hBW : Below w.heap.size w W) {b2 b4 : Nat} (hb2 : w.heap.size ≤ b2) (hb4 : w.heap.size ≤ b4) (hne : b2 ≠ b4) (c2W : W.heap[b2]? = some (.cells zero11 78 (0, 0))) (c4W : W.heap[b4]? = some (.cells (cells11 x (.slice none 0 0)) 78 (0, 0))) {b off c1 : Nat} (hcs : ∀ j n, tl[j]? = some n → W.cell? ⟨b, off + j, none⟩ = some (.string n)) (hb : b ≠ b4) (hlen : tl.length ≤ 1000000)
    {K : Act → World → Prop} (hK : ∀ (st : List Dapi_PassStand) (W' : World) (a' : Act), standsF tl [] = some (some st) → L59 W b2 b4 x st W' → a'.defers = [] → a'.tmps.size = 55 → a'.tmps.getD 2 undef = .pointer (some ⟨b2, 0, none⟩) → a'.tmps.getD 4 undef = .pointer (some ⟨b4, 0, none⟩) → K a' W')
    {a : Act} (hd : a.defers = []) (hsz : a.tmps.size = 55) (h2 : a.tmps.getD 2 undef = .pointer (some ⟨b2, 0, none⟩)) (h4 : a.tmps.getD 4 undef = .pointer (some ⟨b4, 0, none⟩)) (h25 : a.tmps.getD 25 undef = .slice (some ⟨b, off, none⟩) tl.length c1) (h26 : a.tmps.getD 26 undef = .int .i64 (tl.length : Int)) (h27 : a.tmps.getD 27 undef = .int .i64 0) :
    (Code.loop loop59).wp Tryz.prog (Exit.inBlock 0 (Exit.then K (Post59 M w r))) a W := by
  obtain ⟨R, hR, hr⟩ := Option.bind_eq_some_iff.1 hr
  obtain ⟨⟨l⟩, df⟩ := a
  simp only at hd
  subst hd
  obtain ⟨x0, x1, x2, x3, x4, x5, x6, x7, x8, x9, x10, x11, x12, x13, x14, x15, x16, x17, x18, x19, x20, x21, x22, x23, x24, x25, x26, x27, x28, x29, x30, x31, x32, x33, x34, x35, x36, x37, x38, x39, x40, x41, x42, x43, x44, x45, x46, x47, x48, x49, x50, x51, x52, x53, x54, rfl⟩ := list55 l hsz
  have e2 : x2 = .pointer (some ⟨b2, 0, none⟩) := h2
  have e4 : x4 = .pointer (some ⟨b4, 0, none⟩) := h4
  have e25 : x25 = .slice (some ⟨b, off, none⟩) tl.length c1 := h25
  have e26 : x26 = .int .i64 (tl.length : Int) := h26
  have e27 : x27 = .int .i64 0 := h27
  subst e2 e4 e25 e26 e27
  clear h2 h4 h25 h26 h27 hsz
  simp only [loop59, rest59, c59, Tryz.f59, Option.getD_some, Code.fst, Code.snd]
  unfold Post59
  show Code.wp Tryz.prog _ _ { tmps := List.toArray (x0 :: x1 :: (.pointer (some ⟨b2, 0, none⟩)) :: x3 :: (.pointer (some ⟨b4, 0, none⟩)) :: x5 :: x6 :: x7 :: x8 :: x9 :: x10 :: x11 :: x12 :: x13 :: x14 :: x15 :: x16 :: x17 :: x18 :: x19 :: x20 :: x21 :: x22 :: x23 :: x24 :: (.slice (some ⟨b, off, none⟩) tl.length c1) :: (.int .i64 (tl.length : Int)) :: (.int .i64 0) :: x28 :: x29 :: x30 :: x31 :: x32 :: x33 :: x34 :: x35 :: x36 :: x37 :: x38 :: x39 :: x40 :: x41 :: x42 :: x43 :: x44 :: x45 :: x46 :: x47 :: x48 :: x49 :: x50 :: x51 :: x52 :: x53 :: x54 :: []), defers := [] } W
  go_loopw [27] (fun v27 wr => ∃ (i : Nat) (st : List Dapi_PassStand), i ≤ tl.length ∧ v27 = Value.int .i64 (i : Int) ∧ standsF (tl.drop i) st = some R ∧ st.length = i ∧ L59 W b2 b4 x st wr) (fun v27 wr => muI tl.length v27)
  case atStart => exact ⟨0, [], Nat.zero_le _, rfl, by rw [List.drop_zero]; exact hR, rfl, ⟨Upto.refl W, c2W, _, c4W, nil_row _ _⟩⟩
  case round =>
    obtain ⟨i, st, hi, rfl, hS, hsl, hLi⟩ := hrel
    obtain ⟨sv, c4r, hrow⟩ := hLi.row
    have zW2 := (Array.getElem?_eq_some_iff.1 c2W).1
    have zW4 := (Array.getElem?_eq_some_iff.1 c4W).1
    have hBr : Below w.heap.size w wr := Upto.below_of hBW hLi.upto hb4
    have hgr := good_below hg hBr
    have szr := hLi.upto.size
    have szw := hBW.size
    by_cases hlt : i < tl.length
    · rw [List.drop_eq_getElem_cons hlt] at hS
      obtain ⟨rr, hf, hS⟩ := standsF_step hS
      obtain ⟨ws, nl, ok, hws, hnum, hrr⟩ := fill_calls hgr hf
      have c1 : wr.cell? ⟨b, off + i, none⟩ = some (.string tl[i]) := by
        have h0 := hcs i tl[i] (List.getElem?_eq_getElem hlt)
        have hlb := World.block_lt_of_cell? W _ h0
        exact (World.cell?_of_block (hLi.upto.block b hlb hb)).trans h0
      go_wp2_with (go_at_call 104; refine Calls.mono (nums104 _ _) ?_; rintro e w1 ⟨rfl, hb1⟩)
      obtain ⟨w2, hw2⟩ : ∃ w2, w1.alloc (.cells #[.pointer (some ⟨wr.heap.size, 0, none⟩), .pointer (some ⟨wr.heap.size, 1, none⟩), .pointer (some ⟨wr.heap.size, 2, none⟩), .pointer (some ⟨wr.heap.size, 3, none⟩), .pointer (some ⟨wr.heap.size, 4, none⟩)] 211) = w2 := ⟨_, rfl⟩
      rw [hw2]
      have zb1 := hb1.size
      rw [World.size_alloc] at zb1
      have hB1 : Below wr.heap.size wr w1 := by
        have := below_new wr (.cells #[.int .i64 0, .int .i64 0, .int .i64 0, .int .i64 0, .int .i64 0] 132)
        exact below_trans this hb1
      have hB2 : Below wr.heap.size wr w2 := below_trans hB1 (by rw [← hw2]; exact below_new w1 _)
      have hk9 : w2.heap[wr.heap.size]? = some (.cells #[.int .i64 0, .int .i64 0, .int .i64 0, .int .i64 0, .int .i64 0] 132 (0, 0)) := by
        have h0 : w1.heap[wr.heap.size]? = _ := (hb1.block wr.heap.size (by rw [World.size_alloc]; omega)).trans (World.alloc_heap_new wr _)
        rw [← hw2]
        exact ((below_new w1 _).block _ (by omega)).trans h0
      have hka : w2.heap[w1.heap.size]? = some (.cells (([0, 1, 2, 3, 4] : List Nat).map fun o => Value.pointer (some ⟨wr.heap.size, o, none⟩)).toArray 211 (0, 0)) := by rw [← hw2]; exact World.alloc_heap_new w1 _
      have hz2 : w2.heap.size = w1.heap.size + 1 := by rw [← hw2, World.size_alloc]
      have hg2 := good_below hgr hB2
      have hM9 : ∀ o, M wr.heap.size o = none := mem_none' hg (by omega)
      have hsp : ∀ W', Below w2.heap.size w2 W' → _ := fun W' hW => split_calls (good_below hg2 hW) hws
      have hfl : ∀ (W1 : World) (M2 : Mem) (W2 : World) (p : Option Addr) (n c : Nat), Below w2.heap.size w2 W1 → Good M2 W2 → Grow M W1 M2 W2 → relV Tryz.prog (.slice .str) M2 ws (.slice p n c) → _ := fun W1 M2 W2 p n c hW hg' hgr hrel =>
        fillN (ga := w1.heap.size) (g := wr.heap.size) (os := [0, 1, 2, 3, 4]) hg' hrel hnum ((hgr.below.block _ (by have := hW.size; omega)).trans ((hW.block _ (by omega)).trans hka)) ((hgr.below.block _ (by have := hW.size; omega)).trans ((hW.block _ (by omega)).trans hk9)) (by omega) (by intro o ho; simp only [List.mem_cons, List.not_mem_nil, or_false] at ho; rcases ho with rfl | rfl | rfl | rfl | rfl <;> decide) (fun o => by rw [hgr.mem _ (by have := hW.size; omega)]; exact hM9 o) (by decide) ⟨p, n, c, rfl⟩ hrr
      go_region_with (first | (go_at_call 101; refine Calls.mono (hsp _ (below_drew _)) ?_; rintro e w3 ⟨M2, sp, sc, rfl, hrel2, _, hg3, hgr3⟩) | (go_at_call 103; refine Calls.mono (hfl _ M2 _ _ _ _ (below_drew _) hg3 hgr3 hrel2) ?_; rintro e w4 ⟨M3, hg4, hF4, hM4, y, rfl, hH⟩))
      obtain ⟨hy, hx4⟩ : y = rr.isSome ∧ _ := hH
      have hG3 : Grow M wr M2 w3 := grow_grow ⟨below_trans hB2 (below_drew _), fun _ _ => rfl⟩ hgr3
      have sz3 := hG3.below.size
      have hblk : ∀ j, j < wr.heap.size → w4.heap[j]? = wr.heap[j]? := fun j hj => (hF4.block j (by omega) (by simp only [List.mem_singleton]; omega)).trans (hG3.below.block j hj)
      have hgb : wr.grownBy w4 (some wr.heap.size) := ⟨hF4.os.trans hG3.below.os, hF4.tape.trans hG3.below.tape, hF4.output.trans hG3.below.output, Nat.le_trans sz3 hF4.size, fun k hk _ => hblk k hk⟩
      have hU4 : Upto W.heap.size b4 W w4 := hLi.upto.trans (Upto.grown hgb szr (fun g hg => by cases hg; exact szr))
      have c2r := hLi.c2
      have z2 := (Array.getElem?_eq_some_iff.1 c2r).1
      have z4 := (Array.getElem?_eq_some_iff.1 c4r).1
      have c24 : w4.heap[b2]? = some (.cells zero11 78 (0, 0)) := (hblk b2 z2).trans c2r
      have c44 : w4.heap[b4]? = some (.cells (cells11 x sv) 78 (0, 0)) := (hblk b4 z4).trans c4r
      have hrow4 : w4.ownsRow W.heap.size 132 5 sv st.length (stCells st) := hrow.kept hgb (by
        cases hsv : sv.ownBlock with
        | none => exact .inl rfl
        | some g => exact .inr fun e => by cases e; have := (hrow.lt _ hsv).2; omega)
      cases y with
      | false =>
        have hrn : rr = none := by cases rr with
          | none => rfl
          | some _ => cases hy
        rw [hrn] at hS
        subst hS
        simp only [Option.some.injEq] at hr
        have hq : ∀ W', W' = w4 → W'.cell? ⟨b2, 0, none⟩ = some (.int .i64 0) ∧ W'.cell? ⟨b2, 1, none⟩ = some (.int .i64 0) ∧ W'.cell? ⟨b2, 2, none⟩ = some (.int .i64 0) ∧ W'.cell? ⟨b2, 3, none⟩ = some (.int .i64 0) ∧ W'.cell? ⟨b2, 4, none⟩ = some (.int .i64 0) ∧ W'.cell? ⟨b2, 5, none⟩ = some (.int .i64 0) ∧ W'.cell? ⟨b2, 6, none⟩ = some (.slice none 0 0) ∧ W'.cell? ⟨b2, 7, none⟩ = some (.int .i64 0) ∧ W'.cell? ⟨b2, 8, none⟩ = some (.int .i64 0) ∧ W'.cell? ⟨b2, 9, none⟩ = some (.int .i64 0) ∧ W'.cell? ⟨b2, 10, none⟩ = some (.int .i64 0) ∧ ∀ off, W'.frozen? ⟨b2, off, none⟩ = false := fun W' hb' => by
          subst hb'
          exact ⟨cell_at c24 rfl, cell_at c24 rfl, cell_at c24 rfl, cell_at c24 rfl, cell_at c24 rfl, cell_at c24 rfl, cell_at c24 rfl, cell_at c24 rfl, cell_at c24 rfl, cell_at c24 rfl, cell_at c24 rfl, fun off => frozen_at c24⟩
        obtain ⟨q0, q1, q2, q3, q4, q5, q6, q7, q8, q9, q10, qf⟩ := hq w4 rfl
        clear hq hfl hsp hx4 hy hrr hrn
        go_wp2
        obtain ⟨s1, s2⟩ := set11 (v0 := .int .i64 0) (v1 := .int .i64 0) (v2 := .int .i64 0) (v3 := .int .i64 0) (v4 := .int .i64 0) (v5 := .int .i64 0) (v6 := .slice none 0 0) (v7 := .int .i64 0) (v8 := .int .i64 0) (v9 := .int .i64 0) (v10 := .int .i64 0) c24
        rw [← hr]
        exact end59 (x := []) (st := []) hg (below_of_grown (Upto.below_of hBW hU4 hb4) s2 hb2) s1 (nil_row _ _) rfl rfl rfl
      | true =>
        obtain ⟨xs, hrs⟩ : ∃ xs, rr = some xs := by cases rr with
          | none => cases hy
          | some xs => exact ⟨xs, rfl⟩
        obtain ⟨hxl, hk4⟩ := hx4 xs hrs
        rw [hrs] at hS
        obtain ⟨hS1, hS2⟩ := hS
        obtain ⟨a0, a1, a2, a3, a4, rfl⟩ : ∃ a0 a1 a2 a3 a4, xs = [a0, a1, a2, a3, a4] := by
          match xs, hxl with
          | [a0, a1, a2, a3, a4], _ => exact ⟨_, _, _, _, _, rfl⟩
        rw [set5 (x := [a0, a1, a2, a3, a4]) rfl] at hk4
        obtain ⟨i0, d0, hi0⟩ := fits_info fits132
        obtain ⟨z, hz, hz1, _⟩ := hi0.zero (by rfl)
        have hby := hi0.bytes
        have hzs : z.cells.size = 5 := by have := relC_len Tapi_PassStand M _ _ (hz1 M); exact (by simpa using this : z.cells.size = Tapi_PassStand.size)
        obtain ⟨p4, n4, c4', rfl⟩ := own_shape hrow4
        have n0 : w4.cell? ⟨wr.heap.size, 0, none⟩ = some (.int .i64 a0) := cell_at hk4 rfl
        have n1 : w4.cell? ⟨wr.heap.size, 1, none⟩ = some (.int .i64 a1) := cell_at hk4 rfl
        have n2 : w4.cell? ⟨wr.heap.size, 2, none⟩ = some (.int .i64 a2) := cell_at hk4 rfl
        have n3 : w4.cell? ⟨wr.heap.size, 3, none⟩ = some (.int .i64 a3) := cell_at hk4 rfl
        have n5 : w4.cell? ⟨wr.heap.size, 4, none⟩ = some (.int .i64 a4) := cell_at hk4 rfl
        have m6 : w4.cell? ⟨b4, 6, none⟩ = some (.slice p4 n4 c4') := cell_at c44 rfl
        have hrowA : ∀ o, (w4.alloc o).ownsRow W.heap.size 132 5 (.slice p4 n4 c4') st.length (stCells st) := fun o => hrow4.kept (below_grown (below_new w4 o)) (by cases Value.ownBlock (.slice p4 n4 c4') <;> simp)
        have szU := hU4.size
        clear hfl hsp hx4 hy hrr hrs
        go_wp2_with (at_builtin; refine wpList_append_own_at _ rfl _ _ 76 rfl W.heap.size 132 i0 z 5 i0.bytes u76 hi0.info hz hi0.size rfl hzs (by decide) _ _ _ rfl (hrowA _) ⟨w4.heap.size, 0, none⟩ 1 1 [.int .i64 a0, .int .i64 a1, .int .i64 a2, .int .i64 a3, .int .i64 a4] rfl ?qc1 ?qc2 ?qc3 ?qc4 ?qc5 ?qc6 ?_)
        case qc1 => rfl
        case qc2 =>
          intro j u hj
          rw [Addr.add_mk, Nat.zero_add]
          exact (cell_block (World.alloc_heap_new w4 _)).trans (by simpa using hj)
        case qc3 =>
          intro u hu
          simp only [List.mem_cons, List.not_mem_nil, or_false] at hu
          rcases hu with rfl | rfl | rfl | rfl | rfl <;> rfl
        case qc4 => unfold maxLen; omega
        case qc5 =>
          have := Nat.mul_le_mul (show st.length + 1 ≤ 1000001 by omega) hby
          omega
        case qc6 => rw [World.size_alloc]; omega
        intro v' w5 ho5 hgr5 hnil hob
        have hwb : Below w4.heap.size w4 (w4.alloc (.cells #[.int .i64 a0, .int .i64 a1, .int .i64 a2, .int .i64 a3, .int .i64 a4] 132)) := below_new w4 _
        generalize w4.alloc (.cells #[.int .i64 a0, .int .i64 a1, .int .i64 a2, .int .i64 a3, .int .i64 a4] 132) = w4a at hgr5 hwb ⊢
        have z44 := (Array.getElem?_eq_some_iff.1 c44).1
        have z24 := (Array.getElem?_eq_some_iff.1 c24).1
        have szb := hwb.size
        have keep5 : ∀ (bb : Nat) (cs : Array Value), w4.heap[bb]? = some (.cells cs 78 (0, 0)) → w5.heap[bb]? = some (.cells cs 78 (0, 0)) := fun bb cs hb' => by
          have hlt' := (Array.getElem?_eq_some_iff.1 hb').1
          refine (hgr5.block bb (by omega) fun e => ?_).trans ((hwb.block bb hlt').trans hb')
          rcases kind_apart hb' (show (132 : TypeId) ≠ 78 by decide) hrow4 with h | h
          · rw [h] at e; cases e
          · exact h e.symm
        have c45 := keep5 b4 _ c44
        have c25 := keep5 b2 _ c24
        obtain ⟨p5, n5', c5', rfl⟩ := own_shape ho5
        have m65 : w5.cell? ⟨b4, 6, none⟩ = some (.slice p4 n4 c4') := cell_at c45 rfl
        have f65 : w5.frozen? ⟨b4, 6, none⟩ = false := frozen_at c45
        clear m6 n0 n1 n2 n3 n5
        go_wp2
        have hset := setCell_at (off := 6) (v := .slice p5 n5' c5') c45
        refine ⟨⟨i + 1, st ++ [standOf [a0, a1, a2, a3, a4]], by omega, rfl, hS2, by simp [hsl], ⟨?_, ?_, _, hset, ?_⟩⟩, ?_⟩
        · refine ((hU4.trans (Upto.below hwb (by omega))).trans (Upto.grown hgr5 (by omega) fun g hg => ?_)).trans Upto.set
          exact (hrow4.lt g hg).1
        · exact (setCell_grown.block b2 (Array.getElem?_eq_some_iff.1 c25).1 fun e => by cases e; exact hne rfl).trans c25
        · rw [stCells_snoc, List.length_append]
          have := ho5.kept (setCell_grown (g := b4) (off := 6) (v := .slice p5 n5' c5')) (kind_apart c45 (by decide) ho5)
          rw [← hsl] at this
          exact this
        · show tl.length - (((i : Int) + 1)).toNat < tl.length - ((i : Int)).toNat
          omega
    · go_wp2
      obtain rfl : i = tl.length := by omega
      rw [List.drop_length] at hS
      have hS : some st = R := Option.some.inj hS
      subst hS
      exact hK st wr _ hR hLi rfl rfl rfl rfl
end Go.Lift
