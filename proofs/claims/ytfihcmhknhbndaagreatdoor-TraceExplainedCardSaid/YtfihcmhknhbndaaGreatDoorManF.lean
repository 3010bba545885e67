/-
  The contract of the function that yields all sets.
-/
import Derived.Test.YtfihcmhknhbndaaGreatDoorManC
import Derived.Test.YtfihcmhknhbndaaGreatDoorExtCt
set_option linter.unusedSectionVars false
set_option linter.unusedVariables false
set_option linter.unusedSimpArgs false
namespace Go.Lift
open Go Go.Proofs Go.RowKit
theorem m_trace_sets : Has Tryz.prog sg_trace_sets := by
  refine ⟨enters_of (by kernel_rfl), fun n res hr M w vs hg hvs => ?_⟩
  obtain ⟨u, rfl, hu⟩ := hvs
  obtain rfl : u = .int .i64 n := by
    have : [u] = [Value.int .i64 n] := hu
    simpa using this
  have hr : trace_sets n = some res := hr
  unfold trace_sets at hr
  cases hc : decide ((0 : Int) ≤ n) && decide (n ≤ 8) with
  | false => rw [hc] at hr; cases hr
  | true =>
  rw [hc, cond_true] at hr
  rw [Bool.and_eq_true, decide_eq_true_eq, decide_eq_true_eq] at hc
  simp only [Option.some.injEq] at hr
  subst hr
  unfold CallsTo
  refine (callsIn_wide (n := 2)).1 ((sets_in Fence.wide 2 (fun _ => trivial) rfl n w).mono ?_)
  rintro e w' ⟨rfl, rfl⟩
  have hle : Mem.le M (fun b o => if b = w.heap.size then (if o = 0 then some (.int .i64 n) else none) else M b o) := by
    intro b o x hx
    by_cases hb : b = w.heap.size
    · subst hb; rw [mem_none hg (Nat.le_refl _)] at hx; cases hx
    · simp only [if_neg hb]; exact hx
  have hB : Below w.heap.size w (w.alloc (.cells #[.int .i64 n] 3)) := (Below.refl _ w).alloc (Nat.le_refl _) _
  have hg2 := good_below hg hB
  have hnew : (w.alloc (.cells #[.int .i64 n] 3)).heap[w.heap.size]? = some (.cells #[.int .i64 n] 3 (0, 0)) := World.alloc_heap_new w _
  refine ⟨fun b o => if b = w.heap.size then (if o = 0 then some (.int .i64 n) else none) else M b o, _, rfl, ⟨179, #[.pointer (some ⟨w.heap.size, 0, none⟩)], rfl, Go.Proofs.enters_of Tryz.func179 (by kernel_rfl) rfl, ?_⟩, ⟨Tab.keep hle (SameSizes.refl _) hg2.1, fun b o x hx => ?_⟩, ⟨hB, fun b hb => ?_⟩⟩
  · intro F nn w1 h1 h2 h3 h4
    have hcell : w1.cell? ⟨w.heap.size, 0, none⟩ = some (.int .i64 n) := h4 _ _ _ (by simp)
    obtain ⟨ob, q1, _⟩ := cells_of_cell hcell
    refine SeqStopsK.keeps (sets_stops F h1 nn h2 h3 w.heap.size n hc w1 (Array.getElem?_eq_some_iff.1 q1).1 hcell) fun A B hk hA => hk _ _ _ (by simp) hA
  · by_cases hb : b = w.heap.size
    · subst hb
      simp only [if_true] at hx
      split at hx
      · rename_i ho; subst ho; cases hx
        revert hnew
        generalize w.alloc (Obj.cells #[Value.int IntKind.i64 n] 3) = W
        intro hnew
        simp [World.cell?, hnew]
      · cases hx
    · simp only [if_neg hb] at hx
      exact hg2.2 b o x hx
  · funext o; exact if_neg (by omega)
end Go.Lift
