/-
  A desk that is nil; the law's contract.
-/
import Derived.Test.YtkoojmbkjgbdgaaGreatDoorDeskB
import Derived.Test.YtkoojmbkjgbdgaaGreatDoorLiftO
import Derived.ChangeSame
set_option linter.unusedSectionVars false
set_option linter.unusedVariables false
set_option linter.unusedSimpArgs false
set_option linter.unusedSectionVars false
set_option linter.unusedSimpArgs false
set_option linter.unusedVariables false
namespace Go.Lift
open Go Go.Proofs Go.RowKit Go.Shelf
attribute [local go_sem] Oper.semAt_some run_store_func
theorem nil12 (w : World) (s : ByteArray) : Calls Tryz.prog 12 #[.pointer none, .string s] w fun e w' => w' = w ∧ e = .returned (.tuple #[.string ⟨#[]⟩, .int .i64 1]) := by
  go_enter Tryz.func12, Tryz.ntmps12
  go_wp2
  go_ret2
  exact ⟨rfl, rfl⟩
theorem nil13 (w : World) (n : Int) (s t : ByteArray) : Calls Tryz.prog 13 #[.pointer none, .int .i64 n, .string s, .string t] w fun e w' => w' = w ∧ e = .returned (.int .i64 1) := by
  go_enter Tryz.func13, Tryz.ntmps13
  go_wp2
  go_ret
  exact ⟨rfl, rfl⟩
theorem nil14 (w : World) : Calls Tryz.prog 14 #[.pointer none] w fun e w' => w' = w ∧ e = .returned (.int .i64 1) := by
  go_enter Tryz.func14, Tryz.ntmps14
  go_wp2
  go_ret
  exact ⟨rfl, rfl⟩
theorem nil15 (w : World) : Calls Tryz.prog 15 #[.pointer none] w fun e w' => w' = w ∧ e = .returned (.slice none 0 0) := by
  go_enter Tryz.func15, Tryz.ntmps15
  go_wp2
  go_ret
  exact ⟨rfl, rfl⟩
theorem nil16 (w : World) : Calls Tryz.prog 16 #[.pointer none] w fun e w' => w' = w ∧ e = .returned (.string ⟨#[]⟩) := by
  go_enter Tryz.func16, Tryz.ntmps16
  go_wp2
  go_ret
  exact ⟨rfl, rfl⟩
set_option maxHeartbeats 8000000 in
set_option maxRecDepth 100000 in
theorem nil_law {M : Mem} {w : World} (hg : Good M w) (n : Int) (s t : ByteArray) : Calls Tryz.prog 4 #[.int .i64 n, .string s, .string t] w fun e w' => Below w.heap.size w w' ∧ e = .returned (.bool true) := by
  have ha := awake6 hg
  by_cases h1 : (s.size : Int) > 60
  · go_enter Tryz.func4, Tryz.ntmps4
    go_wp2_with (first | (go_at_call 6; refine Calls.mono ha ?_; clear ha; rintro e w1 ⟨hb1, rfl⟩))
    go_ret
    exact ⟨hb1, rfl⟩
  by_cases h2 : (t.size : Int) > 60
  · go_enter Tryz.func4, Tryz.ntmps4
    go_wp2_with (first | (go_at_call 6; refine Calls.mono ha ?_; clear ha; rintro e w1 ⟨hb1, rfl⟩))
    go_ret
    exact ⟨hb1, rfl⟩
  go_enter Tryz.func4, Tryz.ntmps4
  go_wp2_with (first | (go_at_call 6; refine Calls.mono ha ?_; clear ha; rintro e w1 ⟨hb1, rfl⟩) | (go_at_call 12; refine Calls.mono (nil12 _ _) ?_; rintro e w2 ⟨rfl, rfl⟩) | (go_at_call 13; refine Calls.mono (nil13 _ _ _ _) ?_; rintro e w2 ⟨rfl, rfl⟩) | (go_at_call 14; refine Calls.mono (nil14 _) ?_; rintro e w2 ⟨rfl, rfl⟩) | (go_at_call 15; refine Calls.mono (nil15 _) ?_; rintro e w2 ⟨rfl, rfl⟩) | (go_at_call 16; refine Calls.mono (nil16 _) ?_; rintro e w2 ⟨rfl, rfl⟩))
  go_ret
  exact ⟨hb1, rfl⟩
end Go.Lift
set_option linter.unusedSectionVars false
set_option linter.unusedSimpArgs false
set_option linter.unusedVariables false
namespace Go.Lift
open Go Go.Proofs Go.RowKit Go.Shelf
noncomputable abbrev sg_nil : Sig := ⟨4, [.int .i64, .str, .str], [.bool], fun _ => some true⟩
theorem m_nil : Has Tryz.prog sg_nil := by
  refine ⟨enters_of (by kernel_rfl), fun x r hr M w vs hg hvs => ?_⟩
  obtain ⟨v1, rest, rfl, h1, v2, rest2, rfl, h2, v3, rfl, h3⟩ := hvs
  obtain rfl : v1 = .int .i64 x.1 := relV_int.1 h1
  obtain rfl : v2 = .string x.2.1 := relV_str.1 h2
  obtain rfl : v3 = .string x.2.2 := relV_str.1 h3
  have hr : true = r := Option.some.inj hr
  subst hr
  refine Calls.mono (nil_law hg x.1 x.2.1 x.2.2) ?_
  rintro e w' ⟨hb, rfl⟩
  exact ⟨M, _, rfl, relV_bool.2 rfl, good_below hg hb, hb, fun _ _ => rfl⟩
theorem pair_of_head {P : Program} {W : World} {name : String} {a b : Int} {rest : List (String × DataW Unit)} {g : Nat} {t : TypeId} {f0 f1 : Field}
    (hg : P.globalNamed name = some g) (hty : (P.globals[g]?).map (·.type) = some t) (ht : P.underlying t = some (.struct #[f0, f1])) (h0 : P.underlying f0.type = some (.int .i64)) (h1 : P.underlying f1.type = some (.int .i64)) (o0 : f0.offset = 0) (o1 : f1.offset = 1) (k0 : P.cellsOf f0.type = 1) (k1 : P.cellsOf f1.type = 1) (kt : P.cellsOf t = 2)
    (h : laidMet P ((name, .agg [.lit (.int .i64 a), .lit (.int .i64 b)]) :: rest) W) : Lib.TabIs P W name .i64 [a, b] := by
  obtain ⟨ps, ⟨g', t', cs, fuel, p, q, hg', ht', hvar, hd, _, _⟩, _⟩ := h
  obtain rfl := Option.some.inj (hg.symm.trans hg')
  obtain rfl := Option.some.inj (hty.symm.trans ht')
  obtain ⟨y0, y1, n, hx, hl, e0, e1⟩ := ChangeShapes.trod_struct2 ht hd
  rw [o0, k0] at e0
  rw [o1, k1] at e1
  obtain ⟨n0, c0, rfl, _⟩ := DataW.trod_int h0 e0
  obtain ⟨n1, c1, rfl, _⟩ := DataW.trod_int h1 e1
  simp only [Prod.mk.injEq, DataW.agg.injEq, List.cons.injEq, DataW.lit.injEq, Lit.int.injEq, true_and, and_true] at hx
  obtain ⟨⟨rfl, rfl⟩, _⟩ := hx
  rw [kt] at hl
  unfold Lib.TabIs
  rw [hvar]
  match cs, hl with
  | ⟨[u, v]⟩, _ =>
    have c0' : [u] = [Value.int .i64 a] := c0
    have c1' : [v] = [Value.int .i64 b] := c1
    simp only [List.cons.injEq, and_true] at c0' c1'
    rw [c0', c1']
    rfl
theorem gv_of {P : Program} {W : World} {name : String} {a b : Int} {g : Nat} (h : Lib.TabIs P W name .i64 [a, b]) (hg : P.globalNamed name = some g) : snap W g 0 = some (.int .i64 a) ∧ snap W g 1 = some (.int .i64 b) :=
  ⟨Lib.TabIs.cell h hg 0 (Nat.zero_lt_succ _), Lib.TabIs.cell h hg 1 (Nat.succ_lt_succ (Nat.zero_lt_succ _))⟩
end Go.Lift
