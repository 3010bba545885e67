/-
  Kinds of texts, persons, texts that are split.
-/
import Derived.Test.YtkoojmbkjgbdgaaGreatDoorManC
import Derived.Test.YtkoojmbkjgbdgaaGreatDoorManD
import Derived.Deep.RegionWith
set_option linter.unusedSectionVars false
set_option linter.unusedVariables false
set_option linter.unusedSimpArgs false
set_option linter.unusedSectionVars false
set_option linter.unusedSimpArgs false
set_option linter.unusedVariables false
namespace Go.Lift
open Go Go.Proofs Go.RowKit Go.Shelf
theorem run_store_func (P : Program) (w : World) (a : Addr) (m : Mode) (g : Fn) (x y : Array Value) : (store a (.func g x y) m).run P w = stored P w a (.func g x y) m := run_store P w a _ m rfl
attribute [local go_sem] Oper.semAt_some run_store_func
theorem results81 : Tryz.f81.results = #[.cell 2 163, .tmp 3] := by kernel_rfl
def verbV (role words numbers : Int) (rest : Bool) (f : Nat) : Value := .agg #[.int .i64 role, .int .i64 words, .int .i64 numbers, .bool rest, .func (.func f) #[] #[]]
theorem load163 {W : World} {g : Nat} {v0 v1 v2 v3 v4 : Value} (h : W.heap[g]? = some (.cells #[v0, v1, v2, v3, v4] 163 (0, 0))) : (loadVar 163 ⟨g, 0, none⟩).run Tryz.prog W = .ok (.agg #[v0, v1, v2, v3, v4]) W := by
  have := run_loadCells_list (P := Tryz.prog) W ⟨g, 0, none⟩ [v0, v1, v2, v3, v4] (fun j v hj => by rw [Addr.add_mk, Nat.zero_add]; exact cell_at h (by simpa using hj))
  simp only [List.length_cons, List.length_nil, Nat.zero_add, Nat.reduceAdd] at this
  simp [loadVar, Sem.run_bind, Sem.run_pure, Tryz.isAgg163, Tryz.sizeOf163, this, Result.andThen_ok]
set_option maxHeartbeats 4000000 in
set_option maxRecDepth 100000 in
theorem verbs_note (w : World) {s : ByteArray} (hs : s.toList = [110, 111, 116, 101]) : Calls Tryz.prog 81 #[.string s] w fun e w' => Below w.heap.size w w' ∧ e = .returned (.tuple #[verbV 0 0 0 true 122, .bool true]) := by
  go_enter Tryz.func81, Tryz.ntmps81
  go_wp2
  exact bodyPost_ret (results_cell2 results81 rfl (load163 (World.alloc_heap_new w _))) rfl ⟨below_new w _, rfl⟩
set_option maxHeartbeats 4000000 in
set_option maxRecDepth 100000 in
theorem verbs_start (w : World) {s : ByteArray} (hs : s.toList = [115, 116, 97, 114, 116]) : Calls Tryz.prog 81 #[.string s] w fun e w' => Below w.heap.size w w' ∧ e = .returned (.tuple #[verbV 2 1 0 false 129, .bool true]) := by
  go_enter Tryz.func81, Tryz.ntmps81
  go_wp2
  exact bodyPost_ret (results_cell2 results81 rfl (load163 (World.alloc_heap_new w _))) rfl ⟨below_new w _, rfl⟩
set_option maxHeartbeats 4000000 in
set_option maxRecDepth 100000 in
theorem verbs_thread (w : World) {s : ByteArray} (hs : s.toList = [116, 104, 114, 101, 97, 100]) : Calls Tryz.prog 81 #[.string s] w fun e w' => Below w.heap.size w w' ∧ e = .returned (.tuple #[verbV 2 0 0 false 131, .bool true]) := by
  go_enter Tryz.func81, Tryz.ntmps81
  go_wp2
  exact bodyPost_ret (results_cell2 results81 rfl (load163 (World.alloc_heap_new w _))) rfl ⟨below_new w _, rfl⟩
end Go.Lift
set_option linter.unusedSectionVars false
set_option linter.unusedSimpArgs false
set_option linter.unusedVariables false
namespace Go.Lift
open Go Go.Proofs Go.RowKit Go.Shelf
attribute [local go_sem] Oper.semAt_some
theorem is77 {w : World} {b o be : Nat} {s t : ByteArray} (h1 : w.cell? ⟨b, o, none⟩ = some (.string s)) (h2 : w.cell? ⟨be, 1, none⟩ = some (.string t)) :
    Calls Tryz.prog 77 #[.pointer (some ⟨b, o, none⟩), .pointer (some ⟨be, 0, none⟩)] w fun e w' => Below w.heap.size w w' ∧ e = .returned (.bool (s.toList == t.toList)) := by
  go_enter Tryz.func77, Tryz.ntmps77
  go_wp2
  go_region
  all_goals
    go_wp2
    go_ret
    exact ⟨below_drew _, rfl⟩
def PersonsAt (w : World) (b off : Nat) (l : List (ByteArray × Int)) : Prop := ∀ j p, l[j]? = some p → w.cell? ⟨b, off + j * 2, none⟩ = some (.string p.1) ∧ w.cell? ⟨b, off + j * 2 + 1, none⟩ = some (.int .i64 p.2)
theorem PersonsAt.below {w w' : World} {b off : Nat} {l : List (ByteArray × Int)} (h : PersonsAt w b off l) (hb : Below w.heap.size w w') : PersonsAt w' b off l := fun j p hj =>
  ⟨(World.cell?_of_block (hb.block b (World.block_lt_of_cell? w _ (h j p hj).1))).trans (h j p hj).1, (World.cell?_of_block (hb.block b (World.block_lt_of_cell? w _ (h j p hj).1))).trans (h j p hj).2⟩
set_option maxHeartbeats 4000000 in
set_option maxRecDepth 100000 in
theorem find76 {w : World} {b off c be : Nat} {l : List (ByteArray × Int)} {t : ByteArray} (hl : PersonsAt w b off l) (h2 : w.cell? ⟨be, 1, none⟩ = some (.string t)) (hlen : l.length ≤ 1000) {i : Nat} {p : ByteArray × Int} (hi : l[i]? = some p) (hp : p.1.toList = t.toList) (hb : ∀ j q, j < i → l[j]? = some q → (q.1.toList == t.toList) = false) :
    Calls Tryz.prog 76 #[.slice (some ⟨b, off, none⟩) l.length c, .func (.func 77) #[] #[.pointer (some ⟨be, 0, none⟩)]] w fun e w' => Below w.heap.size w w' ∧ e = .returned (.pointer (some ⟨b, off + i * 2, none⟩)) := by
  have hlt := (List.getElem?_eq_some_iff.1 hi).1
  have hbe := World.block_lt_of_cell? w _ h2
  go_enter Tryz.func76, Tryz.ntmps76
  go_wp2
  go_loopw [8] (fun v8 wr => ∃ k : Nat, k ≤ i ∧ v8 = Value.int .i64 (k : Int) ∧ Below w.heap.size w wr) (fun v8 wr => muI l.length v8)
  case atStart => exact ⟨0, Nat.zero_le _, rfl, Below.refl _ _⟩
  case round =>
    obtain ⟨k, hk, rfl, hB⟩ := hrel
    obtain ⟨q, hq⟩ : ∃ q, l[k]? = some q := ⟨_, List.getElem?_eq_getElem (by omega)⟩
    have hc := is77 ((hl.below hB) k q hq).1 ((World.cell?_of_block (hB.block be hbe)).trans h2)
    have hkl : k < l.length := by omega
    by_cases hki : k = i
    · subst hki
      rw [hi] at hq
      cases hq
      rw [show (p.1.toList == t.toList) = true by rw [hp]; simp] at hc
      go_wp2_with (go_at_call 77; refine Calls.mono hc ?_; clear hc; rintro e w1 ⟨hb1, rfl⟩)
      go_ret
      exact ⟨below_trans hB hb1, rfl⟩
    · rw [hb k q (by omega) hq] at hc
      go_wp2_with (go_at_call 77; refine Calls.mono hc ?_; clear hc; rintro e w1 ⟨hb1, rfl⟩)
      refine ⟨⟨k + 1, by omega, rfl, below_trans hB hb1⟩, ?_⟩
      show l.length - (((k : Int) + 1)).toNat < l.length - ((k : Int)).toNat
      omega
end Go.Lift
set_option linter.unusedSectionVars false
set_option linter.unusedSimpArgs false
set_option linter.unusedVariables false
namespace Go.Lift
open Go Go.Proofs Go.RowKit Go.Shelf
attribute [local go_sem] Oper.semAt_some run_store_func
theorem results82 : Tryz.f82.results = #[.cell 4 167, .tmp 5] := by kernel_rfl
theorem load167 {W : World} {g : Nat} {v0 v1 v2 : Value} (h : W.heap[g]? = some (.cells #[v0, v1, v2] 167 (0, 0))) : (loadVar 167 ⟨g, 0, none⟩).run Tryz.prog W = .ok (.agg #[v0, v1, v2]) W := by
  have := run_loadCells_list (P := Tryz.prog) W ⟨g, 0, none⟩ [v0, v1, v2] (fun j v hj => by rw [Addr.add_mk, Nat.zero_add]; exact cell_at h (by simpa using hj))
  simp only [List.length_cons, List.length_nil, Nat.zero_add, Nat.reduceAdd] at this
  simp [loadVar, Sem.run_bind, Sem.run_pure, Tryz.isAgg167, Tryz.sizeOf167, this, Result.andThen_ok]
theorem below3 (w : World) (a b c : Obj) : Below w.heap.size w (((w.alloc a).alloc b).alloc c) := below_trans (below2 w a b) (below_new _ c)
theorem boxes3 (w : World) (A B C : Array Value) (tA tB tC : TypeId) : (((w.alloc (.cells A tA)).alloc (.cells B tB)).alloc (.cells C tC)).heap[w.heap.size]? = some (.cells A tA (0, 0)) ∧ (((w.alloc (.cells A tA)).alloc (.cells B tB)).alloc (.cells C tC)).heap[w.heap.size + 1]? = some (.cells B tB (0, 0)) ∧ (((w.alloc (.cells A tA)).alloc (.cells B tB)).alloc (.cells C tC)).heap[w.heap.size + 1 + 1]? = some (.cells C tC (0, 0)) := by
  have h1 := World.alloc_heap_new w (.cells A tA)
  have h2 := World.alloc_heap_new (w.alloc (.cells A tA)) (.cells B tB)
  have h3 := World.alloc_heap_new ((w.alloc (.cells A tA)).alloc (.cells B tB)) (.cells C tC)
  rw [World.size_alloc] at h2
  rw [World.size_alloc, World.size_alloc] at h3
  exact ⟨((below_new _ _).block _ (by rw [World.size_alloc, World.size_alloc]; omega)).trans (((below_new _ _).block _ (by rw [World.size_alloc]; omega)).trans h1), ((below_new _ _).block _ (by rw [World.size_alloc, World.size_alloc]; omega)).trans h2, h3⟩
theorem verb_cells {W : World} {g : Nat} {v0 v1 v2 v3 v4 : Value} (h : W.heap[g]? = some (.cells #[v0, v1, v2, v3, v4] 163 (0, 0))) : W.cell? ⟨g, 1, none⟩ = some v1 ∧ W.cell? ⟨g, 2, none⟩ = some v2 ∧ W.cell? ⟨g, 3, none⟩ = some v3 := ⟨cell_at h rfl, cell_at h rfl, cell_at h rfl⟩
theorem com_cells {W : World} {g : Nat} {v0 v1 v2 : Value} (h : W.heap[g]? = some (.cells #[v0, v1, v2] 167 (0, 0))) : W.cell? ⟨g, 0, none⟩ = some v0 ∧ W.cell? ⟨g, 1, none⟩ = some v1 ∧ W.cell? ⟨g, 2, none⟩ = some v2 ∧ ∀ o, W.frozen? ⟨g, o, none⟩ = false := ⟨cell_at h rfl, cell_at h rfl, cell_at h rfl, fun _ => frozen_at h⟩
theorem com_set {W : World} {g : Nat} {a0 a1 a2 v0 v1 v2 : Value} (h : W.heap[g]? = some (.cells #[a0, a1, a2] 167 (0, 0))) :
    (((W.setCell ⟨g, 0, none⟩ v0).setCell ⟨g, 1, none⟩ v1).setCell ⟨g, 2, none⟩ v2).heap[g]? = some (.cells #[v0, v1, v2] 167 (0, 0)) ∧ W.grownBy (((W.setCell ⟨g, 0, none⟩ v0).setCell ⟨g, 1, none⟩ v1).setCell ⟨g, 2, none⟩ v2) (some g) :=
  have e : ((#[a0, a1, a2].setIfInBounds 0 v0).setIfInBounds 1 v1).setIfInBounds 2 v2 = #[v0, v1, v2] := by simp
  ⟨e ▸ setCell_at (setCell_at (setCell_at h)), grown_trans (grown_trans setCell_grown setCell_grown) setCell_grown⟩
theorem below_set {w0 W : World} {g o : Nat} {v : Value} (h : Below w0.heap.size w0 W) (hg : w0.heap.size ≤ g) : Below w0.heap.size w0 (W.setCell ⟨g, o, none⟩ v) := below_of_grown h setCell_grown hg
theorem toList_ne {x : ByteArray} (h : x.size ≠ 0) : x ≠ ⟨#[]⟩ := fun e => h (by rw [e]; rfl)
set_option maxHeartbeats 8000000 in
set_option maxRecDepth 100000 in
theorem parse1 {w : World} {m : Int} (hm : w.cell? ⟨4, 0, none⟩ = some (.int .i64 m)) {s w0 w1 : ByteArray} {role f : Nat} (hs : s.size < 4294967281) (hp : Lib.hasPrefix s.data.toList [114, 101, 97, 100, 32] = false) (hc : Lib.countB s ⟨#[32]⟩ = 1) (hsp : Lib.splitB ⟨#[32]⟩ 0 1 s = [w0, w1]) (h0 : w0.size ≠ 0) (h1 : w1.size ≠ 0) :
    Calls Tryz.prog 82 #[verbV role 1 0 false f, .string s] w fun e w' => Below w.heap.size w w' ∧ ∃ b c, e = .returned (.tuple #[.agg #[.slice (some ⟨b, 0, none⟩) 1 c, .slice none 0 0, .string ByteArray.empty], .bool true]) ∧ w'.cell? ⟨b, 0, none⟩ = some (.string w1) := by
  have hpre := fun W => Tryz.strings_HasPrefix s ⟨#[114, 101, 97, 100, 32]⟩ W
  have hpl : Lib.hasPrefix s.data.toList (⟨#[114, 101, 97, 100, 32]⟩ : ByteArray).data.toList = false := hp
  rw [hpl] at hpre
  have hsplit : ∀ W, Below w.heap.size w W → Calls Tryz.prog 101 #[.string s, .string ⟨#[32]⟩] W fun e w' => ∃ WA, WA = W ∧ Below w.heap.size w WA ∧ ∃ kA, e = .returned (.slice (some ⟨kA, 0, none⟩) 2 2) ∧ w'.heap[kA]? = some (.cells #[.string w0, .string w1] 9 (0, 0)) ∧ Below WA.heap.size WA w' := fun W hW => by
    refine Calls.mono (Tryz.strings_Split s ⟨#[32]⟩ m W hs ((World.cell?_of_block (hW.block 4 (World.block_lt_of_cell? w _ hm))).trans hm) (by decide)) ?_
    rintro e w' ⟨rfl, rfl⟩
    rw [hc, hsp]
    exact ⟨W, rfl, hW, W.heap.size, rfl, World.alloc_heap_new W _, below_new W _⟩
  have hcon : ∀ W kA, W.heap[kA]? = some (.cells #[.string w0, .string w1] 9 (0, 0)) → Calls Tryz.prog 100 #[.slice (some ⟨kA, 0, none⟩) 2 2, .string ⟨#[]⟩] W fun e w' => e = .returned (.bool false) ∧ w' = W := fun W kA hk => by
    have hf : Lib.containsS ([w0, w1].take 2) ⟨#[]⟩ = false := by
      cases hx : Lib.containsS ([w0, w1].take 2) ⟨#[]⟩ with
      | false => rfl
      | true =>
        rw [Lib.containsS_iff] at hx
        simp only [List.take_succ_cons, List.take_zero, List.mem_cons, List.not_mem_nil, or_false] at hx
        rcases hx with e | e
        · exact absurd e.symm (toList_ne h0)
        · exact absurd e.symm (toList_ne h1)
    have := Tryz.slices_Contains_string kA 0 2 2 [w0, w1] ⟨#[]⟩ W (Nat.le_refl _) (by decide) (fun j hj => by
      rw [Nat.zero_add]
      match j, hj with
      | 0, _ => exact cell_at hk rfl
      | 1, _ => exact cell_at hk rfl
      | j + 2, hj => exact absurd (show j + 2 < 2 from hj) (by omega))
    rw [hf] at this
    exact this
  have hclo : ∀ W kA, W.heap[kA]? = some (.cells #[.string w0, .string w1] 9 (0, 0)) → Calls Tryz.prog 31 #[.slice (some ⟨kA, 1, none⟩) 1 1] W fun e w' => ∃ kB cB, e = .returned (.slice (some ⟨kB, 0, none⟩) 1 cB) ∧ Below W.heap.size W w' ∧ w'.cell? ⟨kB, 0, none⟩ = some (.string w1) ∧ W.heap.size ≤ kB := fun W kA hk => by
    refine Calls.mono (Tryz.slices_Clone_string kA 1 1 1 [w1] W (Nat.le_refl _) (by decide) (fun j hj => by
      match j, hj with
      | 0, _ => exact cell_at hk rfl
      | j + 1, hj => exact absurd (show j + 1 < 1 from hj) (by omega))) ?_
    rintro e w' ⟨v', rfl, ho, hn, hb⟩
    rcases ho.2 with ⟨_, h⟩ | ⟨g, cap, cur, rfl, hge, hh, _⟩
    · cases h
    · have := ho.cells (g := g) rfl 0 (.string w1) rfl
      rw [Addr.add_mk] at this
      exact ⟨g, cap, rfl, hb, this, hge⟩
  have hbox := boxes3 w #[.int .i64 role, .int .i64 1, .int .i64 0, .bool false, .func (.func f) #[] #[]] #[.slice none 0 0, .slice none 0 0, .string { data := #[] }] #[.slice none 0 0, .slice none 0 0, .string { data := #[] }] 163 167 167
  unfold verbV
  go_enter Tryz.func82, Tryz.ntmps82
  go_wp2_with (first | (go_at_call 143; refine Calls.mono (hpre _) ?_; clear hpre; rintro e w1 ⟨rfl, rfl⟩) | (go_at_call 101; refine Calls.mono (hsplit _ (below3 w _ _ _)) ?_; clear hsplit; rintro e W1 ⟨WA, hWA, hbA, kA, rfl, hkA, hb1⟩; rw [← hWA] at hbox; obtain ⟨hx0, hx1, hx2⟩ := hbox; have y0 := (hb1.block _ (Array.getElem?_eq_some_iff.1 hx0).1).trans hx0; have y1 := (hb1.block _ (Array.getElem?_eq_some_iff.1 hx1).1).trans hx1; have y2 := (hb1.block _ (Array.getElem?_eq_some_iff.1 hx2).1).trans hx2; obtain ⟨u1, u2, u3⟩ := verb_cells y0; clear hx0 hx1 hx2 hWA) | (go_at_call 100; refine Calls.mono (hcon _ _ hkA) ?_; clear hcon; rintro e w1' ⟨rfl, rfl⟩) | (go_at_call 31; refine Calls.mono (hclo _ _ hkA) ?_; clear hclo; rintro e W2 ⟨kB, cB, rfl, hb2, hcB, hkB⟩; have z0 := (hb2.block _ (Array.getElem?_eq_some_iff.1 y0).1).trans y0; have z1 := (hb2.block _ (Array.getElem?_eq_some_iff.1 y1).1).trans y1; have z2 := (hb2.block _ (Array.getElem?_eq_some_iff.1 y2).1).trans y2; clear u1 u2 u3; obtain ⟨u1, u2, u3⟩ := verb_cells z0; obtain ⟨m0, m1, m2, mf⟩ := com_cells z2; obtain ⟨n0, n1, n2, nf⟩ := com_cells z1))
  refine wp_loop_rounds 1 ?_
  rw [rounds_succ]
  go_wp2
  have q1 : (W2.setCell ⟨w.heap.size + 1 + 1, 0, none⟩ (.slice (some ⟨kB, 0, none⟩) 1 cB)).heap[w.heap.size + 1]? = some (.cells #[.slice none 0 0, .slice none 0 0, .string { data := #[] }] 167 (0, 0)) := (setCell_grown.block _ (Array.getElem?_eq_some_iff.1 z1).1 (fun e => by simp only [Option.some.injEq] at e; omega)).trans z1
  obtain ⟨q2, q3⟩ := com_set (v0 := .slice (some ⟨kB, 0, none⟩) 1 cB) (v1 := .slice none 0 0) (v2 := .string { data := #[] }) q1
  have hlt := (Array.getElem?_eq_some_iff.1 z2).1
  have hbA1 := below_trans hbA hb1
  have hb : Below w.heap.size w W2 := below_trans hbA1 hb2
  have hB := below_of_grown (below_set (g := w.heap.size + 1 + 1) (o := 0) (v := .slice (some ⟨kB, 0, none⟩) 1 cB) hb (by omega)) q3 (by omega)
  have hz := (Array.getElem?_eq_some_iff.1 y2).1
  refine bodyPost_ret (results_cell2 results82 rfl (load167 q2)) rfl ⟨hB, kB, cB, rfl, ?_⟩
  exact cell_grown q3 (cell_grown setCell_grown hcB (fun e => by simp only [Option.some.injEq] at e; omega)) (fun e => by simp only [Option.some.injEq] at e; omega)
end Go.Lift
set_option linter.unusedSectionVars false
set_option linter.unusedSimpArgs false
set_option linter.unusedVariables false
namespace Go.Lift
open Go Go.Proofs Go.RowKit Go.Shelf
attribute [local go_sem] Oper.semAt_some run_store_func
set_option maxHeartbeats 8000000 in
set_option maxRecDepth 100000 in
theorem parse0 {w : World} {m : Int} (hm : w.cell? ⟨4, 0, none⟩ = some (.int .i64 m)) {s w0 : ByteArray} {role f : Nat} (hs : s.size < 4294967281) (hp : Lib.hasPrefix s.data.toList [114, 101, 97, 100, 32] = false) (hc : Lib.countB s ⟨#[32]⟩ = 0) (hsp : Lib.splitB ⟨#[32]⟩ 0 0 s = [w0]) (h0 : w0.size ≠ 0) :
    Calls Tryz.prog 82 #[verbV role 0 0 false f, .string s] w fun e w' => Below w.heap.size w w' ∧ ∃ p n c, e = .returned (.tuple #[.agg #[.slice p n c, .slice none 0 0, .string ByteArray.empty], .bool true]) := by
  have hpre := fun W => Tryz.strings_HasPrefix s ⟨#[114, 101, 97, 100, 32]⟩ W
  have hpl : Lib.hasPrefix s.data.toList (⟨#[114, 101, 97, 100, 32]⟩ : ByteArray).data.toList = false := hp
  rw [hpl] at hpre
  have hsplit : ∀ W, Below w.heap.size w W → Calls Tryz.prog 101 #[.string s, .string ⟨#[32]⟩] W fun e w' => ∃ WA, WA = W ∧ Below w.heap.size w WA ∧ ∃ kA, e = .returned (.slice (some ⟨kA, 0, none⟩) 1 1) ∧ w'.heap[kA]? = some (.cells #[.string w0] 9 (0, 0)) ∧ Below WA.heap.size WA w' := fun W hW => by
    refine Calls.mono (Tryz.strings_Split s ⟨#[32]⟩ m W hs ((World.cell?_of_block (hW.block 4 (World.block_lt_of_cell? w _ hm))).trans hm) (by decide)) ?_
    rintro e w' ⟨rfl, rfl⟩
    rw [hc, hsp]
    exact ⟨W, rfl, hW, W.heap.size, rfl, World.alloc_heap_new W _, below_new W _⟩
  have hcon : ∀ W kA, W.heap[kA]? = some (.cells #[.string w0] 9 (0, 0)) → Calls Tryz.prog 100 #[.slice (some ⟨kA, 0, none⟩) 1 1, .string ⟨#[]⟩] W fun e w' => e = .returned (.bool false) ∧ w' = W := fun W kA hk => by
    have hf : Lib.containsS ([w0].take 1) ⟨#[]⟩ = false := by
      cases hx : Lib.containsS ([w0].take 1) ⟨#[]⟩ with
      | false => rfl
      | true =>
        rw [Lib.containsS_iff] at hx
        simp only [List.take_succ_cons, List.take_zero, List.mem_cons, List.not_mem_nil, or_false] at hx
        exact absurd hx.symm (toList_ne h0)
    have := Tryz.slices_Contains_string kA 0 1 1 [w0] ⟨#[]⟩ W (Nat.le_refl _) (by decide) (fun j hj => by
      rw [Nat.zero_add]
      match j, hj with
      | 0, _ => exact cell_at hk rfl
      | j + 1, hj => exact absurd (show j + 1 < 1 from hj) (by omega))
    rw [hf] at this
    exact this
  have hclo : ∀ (W : World) (q : Addr) (c : Nat), Calls Tryz.prog 31 #[.slice (some q) 0 c] W fun e w' => ∃ pB nB cB, e = .returned (.slice pB nB cB) ∧ Below W.heap.size W w' := fun W q c => by
    refine Calls.mono (Tryz.slices_Clone_string_zero q c W) ?_
    rintro e w' ⟨v', rfl, ho, hn, hb⟩
    obtain ⟨p, n, c, rfl⟩ := own_shape ho
    exact ⟨p, n, c, rfl, hb⟩
  have hbox := boxes3 w #[.int .i64 role, .int .i64 0, .int .i64 0, .bool false, .func (.func f) #[] #[]] #[.slice none 0 0, .slice none 0 0, .string { data := #[] }] #[.slice none 0 0, .slice none 0 0, .string { data := #[] }] 163 167 167
  unfold verbV
  go_enter Tryz.func82, Tryz.ntmps82
  go_wp2_with (first | (go_at_call 143; refine Calls.mono (hpre _) ?_; clear hpre; rintro e w1 ⟨rfl, rfl⟩) | (go_at_call 101; refine Calls.mono (hsplit _ (below3 w _ _ _)) ?_; clear hsplit; rintro e W1 ⟨WA, hWA, hbA, kA, rfl, hkA, hb1⟩; rw [← hWA] at hbox; obtain ⟨hx0, hx1, hx2⟩ := hbox; have y0 := (hb1.block _ (Array.getElem?_eq_some_iff.1 hx0).1).trans hx0; have y1 := (hb1.block _ (Array.getElem?_eq_some_iff.1 hx1).1).trans hx1; have y2 := (hb1.block _ (Array.getElem?_eq_some_iff.1 hx2).1).trans hx2; obtain ⟨u1, u2, u3⟩ := verb_cells y0; clear hx0 hx1 hx2 hWA) | (go_at_call 100; refine Calls.mono (hcon _ _ hkA) ?_; clear hcon; rintro e w1' ⟨rfl, rfl⟩) | (go_at_call 31; refine Calls.mono (hclo _ _ _) ?_; clear hclo; rintro e W2 ⟨pB, nB, cB, rfl, hb2⟩; have z0 := (hb2.block _ (Array.getElem?_eq_some_iff.1 y0).1).trans y0; have z1 := (hb2.block _ (Array.getElem?_eq_some_iff.1 y1).1).trans y1; have z2 := (hb2.block _ (Array.getElem?_eq_some_iff.1 y2).1).trans y2; clear u1 u2 u3; obtain ⟨u1, u2, u3⟩ := verb_cells z0; obtain ⟨m0, m1, m2, mf⟩ := com_cells z2; obtain ⟨n0, n1, n2, nf⟩ := com_cells z1))
  refine wp_loop_rounds 1 ?_
  rw [rounds_succ]
  go_wp2
  have q1 : (W2.setCell ⟨w.heap.size + 1 + 1, 0, none⟩ (.slice pB nB cB)).heap[w.heap.size + 1]? = some (.cells #[.slice none 0 0, .slice none 0 0, .string { data := #[] }] 167 (0, 0)) := (setCell_grown.block _ (Array.getElem?_eq_some_iff.1 z1).1 (fun e => by simp only [Option.some.injEq] at e; omega)).trans z1
  obtain ⟨q2, q3⟩ := com_set (v0 := .slice pB nB cB) (v1 := .slice none 0 0) (v2 := .string { data := #[] }) q1
  have hlt := (Array.getElem?_eq_some_iff.1 z2).1
  have hbA1 := below_trans hbA hb1
  have hb : Below w.heap.size w W2 := below_trans hbA1 hb2
  have hB := below_of_grown (below_set (g := w.heap.size + 1 + 1) (o := 0) (v := .slice pB nB cB) hb (by omega)) q3 (by omega)
  have hz := (Array.getElem?_eq_some_iff.1 y2).1
  refine bodyPost_ret (results_cell2 results82 rfl (load167 q2)) rfl ⟨hB, pB, nB, cB, rfl⟩
theorem rest_state {W1 : World} {n kA : Nat} {A B C K : Array Value} {v : Value} (y0 : W1.heap[n]? = some (.cells A 163 (0, 0))) (y1 : W1.heap[n + 1]? = some (.cells B 167 (0, 0))) (y2 : W1.heap[n + 1 + 1]? = some (.cells C 167 (0, 0))) (hk : W1.heap[kA]? = some (.cells K 9 (0, 0))) :
    ∃ WS, W1.setCell ⟨n + 1 + 1, 2, none⟩ v = WS ∧ WS.heap[n]? = some (.cells A 163 (0, 0)) ∧ WS.heap[n + 1]? = some (.cells B 167 (0, 0)) ∧ WS.heap[n + 1 + 1]? = some (.cells (C.setIfInBounds 2 v) 167 (0, 0)) ∧ WS.heap[kA]? = some (.cells K 9 (0, 0)) ∧ W1.grownBy WS (some (n + 1 + 1)) := by
  have gS : W1.grownBy (W1.setCell ⟨n + 1 + 1, 2, none⟩ v) (some (n + 1 + 1)) := setCell_grown
  refine ⟨_, rfl, (gS.block _ (Array.getElem?_eq_some_iff.1 y0).1 (fun e => ?_)).trans y0, (gS.block _ (Array.getElem?_eq_some_iff.1 y1).1 (fun e => ?_)).trans y1, setCell_at y2, (gS.block _ (Array.getElem?_eq_some_iff.1 hk).1 (fun e => ?_)).trans hk, gS⟩
  · have := Option.some.inj e; omega
  · have := Option.some.inj e; omega
  · have := Option.some.inj e
    rw [this, y2] at hk
    simp at hk
set_option maxHeartbeats 8000000 in
set_option maxRecDepth 100000 in
theorem parseR {w : World} {m : Int} (hm : w.cell? ⟨4, 0, none⟩ = some (.int .i64 m)) {s w0 w1 : ByteArray} {role f : Nat} (hs : s.size < 4294967281) (hp : Lib.hasPrefix s.data.toList [114, 101, 97, 100, 32] = false) (hsz : 1 ≤ s.size) (hsp : Lib.splitB ⟨#[32]⟩ 0 1 s = [w0, w1]) (h0 : w0.size ≠ 0) :
    Calls Tryz.prog 82 #[verbV role 0 0 true f, .string s] w fun e w' => Below w.heap.size w w' ∧ ∃ p n c, e = .returned (.tuple #[.agg #[.slice p n c, .slice none 0 0, .string w1], .bool true]) := by
  have hpre := fun W => Tryz.strings_HasPrefix s ⟨#[114, 101, 97, 100, 32]⟩ W
  have hpl : Lib.hasPrefix s.data.toList (⟨#[114, 101, 97, 100, 32]⟩ : ByteArray).data.toList = false := hp
  rw [hpl] at hpre
  have hsplit : ∀ W, Below w.heap.size w W → Calls Tryz.prog 74 #[.string s, .string ⟨#[32]⟩, .int .i64 2] W fun e w' => ∃ WA, WA = W ∧ Below w.heap.size w WA ∧ ∃ kA, e = .returned (.slice (some ⟨kA, 0, none⟩) 2 2) ∧ w'.heap[kA]? = some (.cells #[.string w0, .string w1] 9 (0, 0)) ∧ Below WA.heap.size WA w' := fun W hW => by
    refine Calls.mono (Tryz.strings_SplitN s ⟨#[32]⟩ 2 m W hs ((World.cell?_of_block (hW.block 4 (World.block_lt_of_cell? w _ hm))).trans hm) (by decide) (by decide) (by decide)) ?_
    rintro e w' ⟨rfl, rfl⟩
    rw [show min 2 (s.size + 1) = 2 by omega, show 2 - 1 = 1 from rfl, hsp]
    exact ⟨W, rfl, hW, W.heap.size, rfl, World.alloc_heap_new W _, below_new W _⟩
  have hcon : ∀ W kA, W.heap[kA]? = some (.cells #[.string w0, .string w1] 9 (0, 0)) → Calls Tryz.prog 100 #[.slice (some ⟨kA, 0, none⟩) 1 2, .string ⟨#[]⟩] W fun e w' => e = .returned (.bool false) ∧ w' = W := fun W kA hk => by
    have hf : Lib.containsS ([w0].take 1) ⟨#[]⟩ = false := by
      cases hx : Lib.containsS ([w0].take 1) ⟨#[]⟩ with
      | false => rfl
      | true =>
        rw [Lib.containsS_iff] at hx
        simp only [List.take_succ_cons, List.take_zero, List.mem_cons, List.not_mem_nil, or_false] at hx
        exact absurd hx.symm (toList_ne h0)
    have := Tryz.slices_Contains_string kA 0 1 2 [w0] ⟨#[]⟩ W (Nat.le_refl _) (by decide) (fun j hj => by
      rw [Nat.zero_add]
      match j, hj with
      | 0, _ => exact cell_at hk rfl
      | j + 1, hj => exact absurd (show j + 1 < 1 from hj) (by omega))
    rw [hf] at this
    exact this
  have hclo : ∀ (W : World) (q : Addr) (c : Nat), Calls Tryz.prog 31 #[.slice (some q) 0 c] W fun e w' => ∃ pB nB cB, e = .returned (.slice pB nB cB) ∧ Below W.heap.size W w' := fun W q c => by
    refine Calls.mono (Tryz.slices_Clone_string_zero q c W) ?_
    rintro e w' ⟨v', rfl, ho, hn, hb⟩
    obtain ⟨p, n, c, rfl⟩ := own_shape ho
    exact ⟨p, n, c, rfl, hb⟩
  have hbox := boxes3 w #[.int .i64 role, .int .i64 0, .int .i64 0, .bool true, .func (.func f) #[] #[]] #[.slice none 0 0, .slice none 0 0, .string { data := #[] }] #[.slice none 0 0, .slice none 0 0, .string { data := #[] }] 163 167 167
  unfold verbV
  go_enter Tryz.func82, Tryz.ntmps82
  go_wp2_with (first | (go_at_call 143; refine Calls.mono (hpre _) ?_; clear hpre; rintro e w1 ⟨rfl, rfl⟩) | (go_at_call 74; refine Calls.mono (hsplit _ (below3 w _ _ _)) ?_; clear hsplit; rintro e W1 ⟨WA, hWA, hbA, kA, rfl, hkA, hb1⟩; rw [← hWA] at hbox; obtain ⟨hx0, hx1, hx2⟩ := hbox; have y0 := (hb1.block _ (Array.getElem?_eq_some_iff.1 hx0).1).trans hx0; have y1 := (hb1.block _ (Array.getElem?_eq_some_iff.1 hx1).1).trans hx1; have y2 := (hb1.block _ (Array.getElem?_eq_some_iff.1 hx2).1).trans hx2; have r0 : W1.cell? ⟨kA, 0, none⟩ = some (.string w0) := cell_at hkA rfl; have r1 : W1.cell? ⟨kA, 1, none⟩ = some (.string w1) := cell_at hkA rfl; obtain ⟨s0, s1, s2, sf⟩ := com_cells y2; obtain ⟨u1, u2, u3⟩ := verb_cells y0; clear hx0 hx1 hx2 hWA; obtain ⟨WS, hWS, S0, S1, S2, hkS, gS⟩ := rest_state (v := .string w1) y0 y1 y2 hkA; obtain ⟨U1, U2, U3⟩ := verb_cells S0) | (go_at_call 100; refine Calls.mono (hcon _ _ hkS) ?_; clear hcon; rintro e w1' ⟨rfl, rfl⟩) | (go_at_call 31; refine Calls.mono (hclo _ _ _) ?_; clear hclo; rintro e W2 ⟨pB, nB, cB, rfl, hb2⟩; have z0 := (hb2.block _ (Array.getElem?_eq_some_iff.1 S0).1).trans S0; have z1 := (hb2.block _ (Array.getElem?_eq_some_iff.1 S1).1).trans S1; have z2 := (hb2.block _ (Array.getElem?_eq_some_iff.1 S2).1).trans S2; clear u1 u2 u3; obtain ⟨u1, u2, u3⟩ := verb_cells z0; obtain ⟨m0, m1, m2, mf⟩ := com_cells z2; obtain ⟨n0, n1, n2, nf⟩ := com_cells z1))
  refine wp_loop_rounds 1 ?_
  rw [rounds_succ]
  go_wp2
  have q1 : (W2.setCell ⟨w.heap.size + 1 + 1, 0, none⟩ (.slice pB nB cB)).heap[w.heap.size + 1]? = some (.cells #[.slice none 0 0, .slice none 0 0, .string { data := #[] }] 167 (0, 0)) := (setCell_grown.block _ (Array.getElem?_eq_some_iff.1 z1).1 (fun e => by simp only [Option.some.injEq] at e; omega)).trans z1
  obtain ⟨q2, q3⟩ := com_set (v0 := .slice pB nB cB) (v1 := .slice none 0 0) (v2 := .string w1) q1
  have hlt := (Array.getElem?_eq_some_iff.1 z2).1
  have hbA1 := below_of_grown (below_trans hbA hb1) gS (by omega)
  have hb : Below w.heap.size w W2 := below_trans hbA1 hb2
  have hB := below_of_grown (below_set (g := w.heap.size + 1 + 1) (o := 0) (v := .slice pB nB cB) hb (by omega)) q3 (by omega)
  refine bodyPost_ret (results_cell2 results82 rfl (load167 q2)) rfl ⟨hB, pB, nB, cB, rfl⟩
end Go.Lift
