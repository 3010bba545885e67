/-
  A desk that is nil; the law's contract.
-/
import Derived.Test.YtkoojmbkjgbdgaaGreatDoorDeskB
import Derived.Test.YtkoojmbkjgbdgaaGreatDoorLiftO
import Derived.ChangeSame
set_option linter.unusedSectionVars false
set_option linter.unusedVariables false
set_option linter.unusedSimpArgs false
set_option linter.unusedSectionVars false
set_option linter.unusedSimpArgs false
set_option linter.unusedVariables false
namespace Go.Lift
open Go Go.Proofs Go.RowKit Go.Shelf
attribute [local go_sem] Oper.semAt_some run_store_func
end Go.Lift
set_option linter.unusedSectionVars false
set_option linter.unusedSimpArgs false
set_option linter.unusedVariables false
namespace Go.Lift
open Go Go.Proofs Go.RowKit Go.Shelf
theorem pair_of_head {P : Program} {W : World} {name : String} {a b : Int} {rest : List (String × DataW Unit)} {g : Nat} {t : TypeId} {f0 f1 : Field}
    (hg : P.globalNamed name = some g) (hty : (P.globals[g]?).map (·.type) = some t) (ht : P.underlying t = some (.struct #[f0, f1])) (h0 : P.underlying f0.type = some (.int .i64)) (h1 : P.underlying f1.type = some (.int .i64)) (o0 : f0.offset = 0) (o1 : f1.offset = 1) (k0 : P.cellsOf f0.type = 1) (k1 : P.cellsOf f1.type = 1) (kt : P.cellsOf t = 2)
    (h : laidMet P ((name, .agg [.lit (.int .i64 a), .lit (.int .i64 b)]) :: rest) W) : Lib.TabIs P W name .i64 [a, b] := by
  obtain ⟨ps, ⟨g', t', cs, fuel, p, q, hg', ht', hvar, hd, _, _⟩, _⟩ := h
  obtain rfl := Option.some.inj (hg.symm.trans hg')
  obtain rfl := Option.some.inj (hty.symm.trans ht')
  obtain ⟨y0, y1, n, hx, hl, e0, e1⟩ := ChangeShapes.trod_struct2 ht hd
  rw [o0, k0] at e0
  rw [o1, k1] at e1
  obtain ⟨n0, c0, rfl, _⟩ := DataW.trod_int h0 e0
  obtain ⟨n1, c1, rfl, _⟩ := DataW.trod_int h1 e1
  simp only [Prod.mk.injEq, DataW.agg.injEq, List.cons.injEq, DataW.lit.injEq, Lit.int.injEq, true_and, and_true] at hx
  obtain ⟨⟨rfl, rfl⟩, _⟩ := hx
  rw [kt] at hl
  unfold Lib.TabIs
  rw [hvar]
  match cs, hl with
  | ⟨[u, v]⟩, _ =>
    have c0' : [u] = [Value.int .i64 a] := c0
    have c1' : [v] = [Value.int .i64 b] := c1
    simp only [List.cons.injEq, and_true] at c0' c1'
    rw [c0', c1']
    rfl
theorem gv_of {P : Program} {W : World} {name : String} {a b : Int} {g : Nat} (h : Lib.TabIs P W name .i64 [a, b]) (hg : P.globalNamed name = some g) : snap W g 0 = some (.int .i64 a) ∧ snap W g 1 = some (.int .i64 b) :=
  ⟨Lib.TabIs.cell h hg 0 (Nat.zero_lt_succ _), Lib.TabIs.cell h hg 1 (Nat.succ_lt_succ (Nat.zero_lt_succ _))⟩
end Go.Lift
