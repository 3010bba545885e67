/-
  What the walks of the chapter share.
-/
import Derived.Test.YtbmclapepgfjhaaGreatManD
import Derived.Test.YtbmclapepgfjhaaGreatLiftP
set_option linter.unusedSectionVars false
set_option linter.unusedVariables false
set_option linter.unusedSimpArgs false
namespace Go.Lift
open Go Go.Proofs Go.RowKit
attribute [local go_sem] Oper.semAt_some
theorem zvh {fn : Func} {s t : Nat} (h : fn.results = #[.tmp s, .tmp t]) (tmps : Array Value) (w : World) : (Go.results fn tmps).run Tryz.prog w = .ok (.tuple #[tmps.getD s undef, tmps.getD t undef]) w := results_tmp2 h tmps Tryz.prog w
theorem z0b {W : World} {g off : Nat} {cur : Array Value} {E : TypeId} {v : Value} (h : W.heap[g]? = some (.cells cur E (0, 0))) (hv : cur[off]? = some v) : W.cell? ⟨g, off, none⟩ = some v := (z5w h).trans hv
theorem z34 {W : World} {g off : Nat} {cur : Array Value} {E : TypeId} (h : W.heap[g]? = some (.cells cur E (0, 0))) : W.frozen? ⟨g, off, none⟩ = false := by
 simp only [World.frozen?, h]; rfl
theorem z5n {M : Mem} {W : World} {g off : Nat} {v : Value} {cur : Array Value} {E : TypeId} (hg : Good M W) (hM : ∀ o, M g o = none) (hb : W.heap[g]? = some (.cells cur E (0, 0))) :
  Good M (W.setCell ⟨g, off, none⟩ v) ∧ Fra [g] M W M (W.setCell ⟨g, off, none⟩ v) ∧ (W.setCell ⟨g, off, none⟩ v).heap[g]? = some (.cells (cur.setIfInBounds off v) E (0, 0)) := by
 have hbk : ∀ j, j ≠ g → (W.setCell ⟨g, off, none⟩ v).heap[j]? = W.heap[j]? := fun j hj => by
  simp [World.setCell, Array.getElem?_modify, Ne.symm hj]
 refine ⟨⟨Tab.keep (Mem.le_refl _) (fun j c t fr hj => ?_) hg.1, fun b o u hu => ?_⟩, ⟨Mem.le_refl _, rfl, rfl, rfl, by simp [World.setCell], fun j _ hj => hbk j (by simpa using hj), fun _ _ _ => rfl⟩, by simp [World.setCell, Array.getElem?_modify, hb]⟩
 ·by_cases e : j = g
  ·subst e
   rw [hb] at hj
   simp only [Option.some.injEq, Obj.cells.injEq] at hj
   obtain ⟨rfl, rfl, rfl⟩ := hj
   exact ⟨cur.setIfInBounds off v, (0, 0), by simp [World.setCell, Array.getElem?_modify, hb], by simp⟩
  ·exact ⟨c, fr, (hbk j e).trans hj, rfl⟩
 have hne : b ≠ g := fun e => by rw [e, hM] at hu; cases hu
 exact (World.cell?_of_block (hbk b hne)).trans (hg.2 b o u hu)
attribute [local go_sem] Oper.semAt_some
theorem run_store_func (P : Program) (w : World) (a : Addr) (m : Mode) (g : Fn) (x y : Array Value) : (store a (.func g x y) m).run P w = stored P w a (.func g x y) m := run_store P w a _ m rfl
def z4y (M : Mem) (B : Nat) (cs : List Value) : Mem := fun b o => if b = B then cs[o]? else M b o
theorem zw3 {M : Mem} {w : World} {cs : Array Value} {T : TypeId} (hg : Good M w) : Good (z4y M w.heap.size cs.toList) (w.alloc (.cells cs T)) ∧ Grow M w (z4y M w.heap.size cs.toList) (w.alloc (.cells cs T)) ∧ Mem.le M (z4y M w.heap.size cs.toList) := by
 have hb : Below w.heap.size w (w.alloc (.cells cs T)) := (Below.refl _ w).alloc (Nat.le_refl _) _
 have hno : ∀ o, M w.heap.size o = none := fun o => zc0 hg (Nat.le_refl _) o
 have hle : Mem.le M (z4y M w.heap.size cs.toList) := fun b o u hu => by
  unfold z4y
  by_cases e : b = w.heap.size
  ·subst e; rw [hno] at hu; cases hu
  ·rw [if_neg e]; exact hu
 have hg1 := z1n hg hb
 refine ⟨⟨Tab.keep hle (zb9.refl _) hg1.1, fun b o u hu => ?_⟩, ⟨hb, fun b hlt => ?_⟩, hle⟩
 ·unfold z4y at hu
  split at hu
  ·rename_i e; subst e
   rw [z5w (World.alloc_heap_new w (.cells cs T))]
   simpa using hu
  ·exact hg1.2 b o u hu
 ·funext o; unfold z4y; rw [if_neg (by omega)]
theorem zxm (T : TypeId) (w : World) : (Instr.makeMap T none).run Tryz.prog w = .ok (.map (some w.heap.size)) (w.alloc (.map #[] 0)) := by
 simp only [Instr.makeMap, Option.map_none, Sem.run_bind, run_newObj_alloc, Result.andThen_ok, Sem.run_pure]
theorem zrp {M : Mem} {q : List ByteArray} {r : Value} (h : relV Tryz.prog (.slice .str) M q r) : ∃ a c, r = .slice a q.length c := by
 obtain ⟨v', h1, h2⟩ : relC Tryz.prog (.slice .str) M q [r] := h
 simp only [List.cons.injEq, and_true] at h1
 subst h1
 rcases h2 with ⟨rfl, rfl⟩ | ⟨b, off, cap, cells, rfl, _⟩ | ⟨a, c, rfl, rfl⟩
 ·exact ⟨_, _, rfl⟩
 ·exact ⟨_, _, rfl⟩
 ·exact ⟨_, _, rfl⟩
end Go.Lift
