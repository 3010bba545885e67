/-
  Pointers to the numbers of rules.
-/
import Derived.Test.YtkoojmbkjgbdgaaGreatDoorManA
import Derived.Test.YtkoojmbkjgbdgaaGreatDoorFunH
import Derived.Test.YtkoojmbkjgbdgaaGreatDoorLiftQ
import Derived.Test.YtkoojmbkjgbdgaaGreatDoorLiftP
set_option linter.unusedSectionVars false
set_option linter.unusedVariables false
set_option linter.unusedSimpArgs false
set_option linter.unusedSectionVars false
set_option linter.unusedSimpArgs false
set_option linter.unusedVariables false
namespace Go.Lift
open Go Go.Proofs Go.RowKit Go.Shelf
attribute [local go_sem] Oper.semAt_some
theorem cell_at {W : World} {b o : Nat} {cs : Array Value} {t : TypeId} {fr : Nat × Nat} {v : Value} (h : W.heap[b]? = some (.cells cs t fr)) (hv : cs[o]? = some v) : W.cell? ⟨b, o, none⟩ = some v := by
  unfold World.cell?
  rw [h]
  simp [hv]
theorem frozen_at {W : World} {b off : Nat} {cs : Array Value} {E : TypeId} (h : W.heap[b]? = some (.cells cs E (0, 0))) : W.frozen? ⟨b, off, none⟩ = false := by
  unfold World.frozen?
  rw [h]
  simp
theorem results_cell {fn : Func} {s t : Nat} {tmps : Array Value} {W : World} {a : Addr} {v : Value} (hrs : fn.results = #[.cell s t]) (h2 : tmps.getD s undef = .pointer (some a)) (hl : (loadVar t a).run Tryz.prog W = .ok v W) : (Go.results fn tmps).run Tryz.prog W = .ok v W := by
  simp only [Go.results, hrs, Sem.run_bind, List.mapM_toArray, List.mapM_cons, List.mapM_nil, h2, asAddr, Sem.run_pure, Result.andThen_ok, hl, Sem.run_map]
  rfl
theorem results_cell2 {fn : Func} {s t r : Nat} {tmps : Array Value} {W : World} {a : Addr} {v : Value} (hrs : fn.results = #[.cell s t, .tmp r]) (h2 : tmps.getD s undef = .pointer (some a)) (hl : (loadVar t a).run Tryz.prog W = .ok v W) : (Go.results fn tmps).run Tryz.prog W = .ok (.tuple #[v, tmps.getD r undef]) W := by
  simp only [Go.results, hrs, Sem.run_bind, List.mapM_toArray, List.mapM_cons, List.mapM_nil, h2, asAddr, Sem.run_pure, Result.andThen_ok, hl, Sem.run_map]
  rfl
theorem step_skip_run {P : Program} {ops : Array Oper} {o : Oper} {a : Act} {w w' : World} {K : Act → World → Prop} {Q : Exit → Act → World → Prop} {E : Prop}
    (hg : o.guard = none) (hno : ∀ c', o.op ≠ .defer c') (hrun : (execOp a.eval o).run P w = .ok .skip w') (hK : K (a.put o.dst undef) w') :
    if Region.wanted o (yielded ops a.tmps) = true then Oper.wp P o a w K Q else E := by
  have hw : Region.wanted o (yielded ops a.tmps) = true := by simp [Region.wanted, hg]
  rw [if_pos hw]
  unfold Oper.wp
  rw [hrun]
  exact hK
theorem list40 {α : Type} : ∀ l : List α, l.length = 40 → ∃ x0 x1 x2 x3 x4 x5 x6 x7 x8 x9 x10 x11 x12 x13 x14 x15 x16 x17 x18 x19 x20 x21 x22 x23 x24 x25 x26 x27 x28 x29 x30 x31 x32 x33 x34 x35 x36 x37 x38 x39, l = x0 :: x1 :: x2 :: x3 :: x4 :: x5 :: x6 :: x7 :: x8 :: x9 :: x10 :: x11 :: x12 :: x13 :: x14 :: x15 :: x16 :: x17 :: x18 :: x19 :: x20 :: x21 :: x22 :: x23 :: x24 :: x25 :: x26 :: x27 :: x28 :: x29 :: x30 :: x31 :: x32 :: x33 :: x34 :: x35 :: x36 :: x37 :: x38 :: x39 :: []
  | x0 :: x1 :: x2 :: x3 :: x4 :: x5 :: x6 :: x7 :: x8 :: x9 :: x10 :: x11 :: x12 :: x13 :: x14 :: x15 :: x16 :: x17 :: x18 :: x19 :: x20 :: x21 :: x22 :: x23 :: x24 :: x25 :: x26 :: x27 :: x28 :: x29 :: x30 :: x31 :: x32 :: x33 :: x34 :: x35 :: x36 :: x37 :: x38 :: x39 :: [], _ => ⟨_, _, _, _, _, _, _, _, _, _, _, _, _, _, _, _, _, _, _, _, _, _, _, _, _, _, _, _, _, _, _, _, _, _, _, _, _, _, _, _, rfl⟩
def S102 (g : Nat) : Nat → Value → World → Prop
  | 0, v, _ => v = .pointer (some ⟨g, 0, none⟩)
  | 1, v, _ => v = .pointer (some ⟨g, 0, none⟩)
  | 2, v, _ => v = .pointer (some ⟨g, 0, none⟩)
  | 3, v, _ => v = .pointer (some ⟨g, 0, none⟩)
  | 4, v, _ => v = .pointer (some ⟨g, 0, none⟩)
  | 5, v, _ => v = .pointer (some ⟨g, 1, none⟩)
  | 6, v, _ => v = .pointer (some ⟨g, 0, none⟩)
  | 7, v, _ => v = .pointer (some ⟨g, 0, none⟩)
  | 8, v, _ => v = .pointer (some ⟨g, 2, none⟩)
  | 9, v, _ => v = .pointer (some ⟨g, 0, none⟩)
  | 10, v, _ => v = .pointer (some ⟨g, 0, none⟩)
  | 11, v, _ => v = .pointer (some ⟨g, 3, none⟩)
  | 12, v, _ => v = .pointer (some ⟨g, 3, none⟩)
  | 13, v, _ => v = .pointer (some ⟨g, 0, none⟩)
  | 14, v, _ => v = .pointer (some ⟨g, 0, none⟩)
  | 15, v, _ => v = .pointer (some ⟨g, 3, none⟩)
  | 16, v, _ => v = .pointer (some ⟨g, 4, none⟩)
  | 17, v, _ => v = .pointer (some ⟨g, 0, none⟩)
  | 18, v, _ => v = .pointer (some ⟨g, 0, none⟩)
  | 19, v, _ => v = .pointer (some ⟨g, 5, none⟩)
  | 20, v, _ => v = .pointer (some ⟨g, 0, none⟩)
  | 21, v, _ => v = .pointer (some ⟨g, 0, none⟩)
  | 22, v, _ => v = .pointer (some ⟨g, 7, none⟩)
  | 23, v, _ => v = .pointer (some ⟨g, 7, none⟩)
  | 24, v, _ => v = .pointer (some ⟨g, 0, none⟩)
  | 25, v, _ => v = .pointer (some ⟨g, 0, none⟩)
  | 26, v, _ => v = .pointer (some ⟨g, 7, none⟩)
  | 27, v, _ => v = .pointer (some ⟨g, 8, none⟩)
  | 28, v, _ => v = .pointer (some ⟨g, 0, none⟩)
  | 29, v, _ => v = .pointer (some ⟨g, 0, none⟩)
  | 30, v, _ => v = .pointer (some ⟨g, 9, none⟩)
  | 31, v, _ => v = .pointer (some ⟨g, 9, none⟩)
  | 32, v, _ => v = .pointer (some ⟨g, 0, none⟩)
  | 33, v, _ => v = .pointer (some ⟨g, 0, none⟩)
  | 34, v, _ => v = .pointer (some ⟨g, 9, none⟩)
  | 35, v, _ => v = .pointer (some ⟨g, 10, none⟩)
  | 36, v, _ => v = .agg #[.pointer (some ⟨g, 0, none⟩), .pointer (some ⟨g, 1, none⟩), .pointer (some ⟨g, 2, none⟩), .pointer (some ⟨g, 3, none⟩), .pointer (some ⟨g, 4, none⟩), .pointer (some ⟨g, 5, none⟩), .pointer (some ⟨g, 7, none⟩), .pointer (some ⟨g, 8, none⟩), .pointer (some ⟨g, 9, none⟩), .pointer (some ⟨g, 10, none⟩)]
  | _, _, _ => True
theorem S102_st {g : Nat} (j : Nat) (u : Value) (w w' : World) (h : S102 g j u w) : S102 g j u w' := by
  unfold S102 at h ⊢
  split at h <;> first | exact h | trivial
set_option maxHeartbeats 4000000 in
set_option maxRecDepth 100000 in
theorem nums102 (g : Nat) (w : World) : Calls Tryz.prog 102 #[.pointer (some ⟨g, 0, none⟩)] w fun e w' => e = .returned (.agg #[.pointer (some ⟨g, 0, none⟩), .pointer (some ⟨g, 1, none⟩), .pointer (some ⟨g, 2, none⟩), .pointer (some ⟨g, 3, none⟩), .pointer (some ⟨g, 4, none⟩), .pointer (some ⟨g, 5, none⟩), .pointer (some ⟨g, 7, none⟩), .pointer (some ⟨g, 8, none⟩), .pointer (some ⟨g, 9, none⟩), .pointer (some ⟨g, 10, none⟩)]) ∧ Below w.heap.size w w' := by
  go_enter Tryz.func102, Tryz.ntmps102
  go_wp2
  obtain ⟨w1, hw1⟩ : ∃ w1, w.alloc (.cells #[.pointer none, .pointer none, .pointer none, .pointer none, .pointer none, .pointer none, .pointer none, .pointer none, .pointer none, .pointer none] 206) = w1 := ⟨_, rfl⟩
  rw [hw1]
  rename_i a1
  refine any_last (by kernel_rfl) (c := 37) (by kernel_rfl) (by kernel_rfl) rfl rfl (by kernel_rfl) (S102 g) (fun _ => none) (fun W => Below w1.heap.size w1 W) (fun _ => True) 0 ⟨rfl, rfl, rfl, Nat.le_refl _, fun _ _ => rfl⟩ trivial (fun _ _ _ _ => trivial) (dsts_ok (by kernel_rfl)) (fun W W' hb h => h.trans ⟨hb.os, hb.tape, hb.output, hb.size, fun j hj => hb.block j (Nat.lt_of_lt_of_le hj h.size)⟩) (fun j u W W' _ => S102_st j u W W') ?step ?fin
  case step =>
    intro k o hk ho a W hJ hs hd hfr hS _
    obtain ⟨⟨l⟩, df⟩ := a
    simp only at hd
    subst hd
    obtain ⟨x0, x1, x2, x3, x4, x5, x6, x7, x8, x9, x10, x11, x12, x13, x14, x15, x16, x17, x18, x19, x20, x21, x22, x23, x24, x25, x26, x27, x28, x29, x30, x31, x32, x33, x34, x35, x36, x37, x38, x39, rfl⟩ := list40 l hs
    have e0 : x0 = .pointer (some ⟨g, 0, none⟩) := hfr 0 (by decide)
    have e2 : x2 = .pointer (some ⟨w.heap.size, 0, none⟩) := hfr 2 (by decide)
    subst e0 e2
    match k, hk, ho with
    | 0, _, ho =>
      cases ho
      refine wpOp_step rfl fun K' hK => ?_
      go_simp
      exact hK _ _ ⟨_, rfl, fun _ => rfl, .inl (Below.refl _ _)⟩
    | 1, _, ho =>
      cases ho
      have e : x3 = _ := hS 0 _ 3 rfl rfl rfl (.inl rfl)
      subst e
      refine wpOp_step rfl fun K' hK => ?_
      go_simp
      exact hK _ _ ⟨_, rfl, fun _ => rfl, .inl (Below.refl _ _)⟩
    | 2, _, ho =>
      cases ho
      have e : x4 = _ := hS 1 _ 4 rfl rfl rfl (.inl rfl)
      subst e
      refine wpOp_step rfl fun K' hK => ?_
      go_simp
      exact hK _ _ ⟨_, rfl, fun _ => rfl, .inl (Below.refl _ _)⟩
    | 3, _, ho =>
      cases ho
      refine wpOp_step rfl fun K' hK => ?_
      go_simp
      exact hK _ _ ⟨_, rfl, fun _ => rfl, .inl (Below.refl _ _)⟩
    | 4, _, ho =>
      cases ho
      have e : x6 = _ := hS 3 _ 6 rfl rfl rfl (.inl rfl)
      subst e
      refine wpOp_step rfl fun K' hK => ?_
      go_simp
      exact hK _ _ ⟨_, rfl, fun _ => rfl, .inl (Below.refl _ _)⟩
    | 5, _, ho =>
      cases ho
      have e : x7 = _ := hS 4 _ 7 rfl rfl rfl (.inl rfl)
      subst e
      refine wpOp_step rfl fun K' hK => ?_
      go_simp
      exact hK _ _ ⟨_, rfl, fun _ => rfl, .inl (Below.refl _ _)⟩
    | 6, _, ho =>
      cases ho
      refine wpOp_step rfl fun K' hK => ?_
      go_simp
      exact hK _ _ ⟨_, rfl, fun _ => rfl, .inl (Below.refl _ _)⟩
    | 7, _, ho =>
      cases ho
      have e : x9 = _ := hS 6 _ 9 rfl rfl rfl (.inl rfl)
      subst e
      refine wpOp_step rfl fun K' hK => ?_
      go_simp
      exact hK _ _ ⟨_, rfl, fun _ => rfl, .inl (Below.refl _ _)⟩
    | 8, _, ho =>
      cases ho
      have e : x10 = _ := hS 7 _ 10 rfl rfl rfl (.inl rfl)
      subst e
      refine wpOp_step rfl fun K' hK => ?_
      go_simp
      exact hK _ _ ⟨_, rfl, fun _ => rfl, .inl (Below.refl _ _)⟩
    | 9, _, ho =>
      cases ho
      refine wpOp_step rfl fun K' hK => ?_
      go_simp
      exact hK _ _ ⟨_, rfl, fun _ => rfl, .inl (Below.refl _ _)⟩
    | 10, _, ho =>
      cases ho
      have e : x12 = _ := hS 9 _ 12 rfl rfl rfl (.inl rfl)
      subst e
      refine wpOp_step rfl fun K' hK => ?_
      go_simp
      exact hK _ _ ⟨_, rfl, fun _ => rfl, .inl (Below.refl _ _)⟩
    | 11, _, ho =>
      cases ho
      have e : x13 = _ := hS 10 _ 13 rfl rfl rfl (.inl rfl)
      subst e
      refine wpOp_step rfl fun K' hK => ?_
      go_simp
      exact hK _ _ ⟨_, rfl, fun _ => rfl, .inl (Below.refl _ _)⟩
    | 12, _, ho =>
      cases ho
      have e : x14 = _ := hS 11 _ 14 rfl rfl rfl (.inl rfl)
      subst e
      refine wpOp_step rfl fun K' hK => ?_
      go_simp
      exact hK _ _ ⟨_, rfl, fun _ => rfl, .inl (Below.refl _ _)⟩
    | 13, _, ho =>
      cases ho
      refine wpOp_step rfl fun K' hK => ?_
      go_simp
      exact hK _ _ ⟨_, rfl, fun _ => rfl, .inl (Below.refl _ _)⟩
    | 14, _, ho =>
      cases ho
      have e : x16 = _ := hS 13 _ 16 rfl rfl rfl (.inl rfl)
      subst e
      refine wpOp_step rfl fun K' hK => ?_
      go_simp
      exact hK _ _ ⟨_, rfl, fun _ => rfl, .inl (Below.refl _ _)⟩
    | 15, _, ho =>
      cases ho
      have e : x17 = _ := hS 14 _ 17 rfl rfl rfl (.inl rfl)
      subst e
      refine wpOp_step rfl fun K' hK => ?_
      go_simp
      exact hK _ _ ⟨_, rfl, fun _ => rfl, .inl (Below.refl _ _)⟩
    | 16, _, ho =>
      cases ho
      have e : x18 = _ := hS 15 _ 18 rfl rfl rfl (.inl rfl)
      subst e
      refine wpOp_step rfl fun K' hK => ?_
      go_simp
      exact hK _ _ ⟨_, rfl, fun _ => rfl, .inl (Below.refl _ _)⟩
    | 17, _, ho =>
      cases ho
      refine wpOp_step rfl fun K' hK => ?_
      go_simp
      exact hK _ _ ⟨_, rfl, fun _ => rfl, .inl (Below.refl _ _)⟩
    | 18, _, ho =>
      cases ho
      have e : x20 = _ := hS 17 _ 20 rfl rfl rfl (.inl rfl)
      subst e
      refine wpOp_step rfl fun K' hK => ?_
      go_simp
      exact hK _ _ ⟨_, rfl, fun _ => rfl, .inl (Below.refl _ _)⟩
    | 19, _, ho =>
      cases ho
      have e : x21 = _ := hS 18 _ 21 rfl rfl rfl (.inl rfl)
      subst e
      refine wpOp_step rfl fun K' hK => ?_
      go_simp
      exact hK _ _ ⟨_, rfl, fun _ => rfl, .inl (Below.refl _ _)⟩
    | 20, _, ho =>
      cases ho
      refine wpOp_step rfl fun K' hK => ?_
      go_simp
      exact hK _ _ ⟨_, rfl, fun _ => rfl, .inl (Below.refl _ _)⟩
    | 21, _, ho =>
      cases ho
      have e : x23 = _ := hS 20 _ 23 rfl rfl rfl (.inl rfl)
      subst e
      refine wpOp_step rfl fun K' hK => ?_
      go_simp
      exact hK _ _ ⟨_, rfl, fun _ => rfl, .inl (Below.refl _ _)⟩
    | 22, _, ho =>
      cases ho
      have e : x24 = _ := hS 21 _ 24 rfl rfl rfl (.inl rfl)
      subst e
      refine wpOp_step rfl fun K' hK => ?_
      go_simp
      exact hK _ _ ⟨_, rfl, fun _ => rfl, .inl (Below.refl _ _)⟩
    | 23, _, ho =>
      cases ho
      have e : x25 = _ := hS 22 _ 25 rfl rfl rfl (.inl rfl)
      subst e
      refine wpOp_step rfl fun K' hK => ?_
      go_simp
      exact hK _ _ ⟨_, rfl, fun _ => rfl, .inl (Below.refl _ _)⟩
    | 24, _, ho =>
      cases ho
      refine wpOp_step rfl fun K' hK => ?_
      go_simp
      exact hK _ _ ⟨_, rfl, fun _ => rfl, .inl (Below.refl _ _)⟩
    | 25, _, ho =>
      cases ho
      have e : x27 = _ := hS 24 _ 27 rfl rfl rfl (.inl rfl)
      subst e
      refine wpOp_step rfl fun K' hK => ?_
      go_simp
      exact hK _ _ ⟨_, rfl, fun _ => rfl, .inl (Below.refl _ _)⟩
    | 26, _, ho =>
      cases ho
      have e : x28 = _ := hS 25 _ 28 rfl rfl rfl (.inl rfl)
      subst e
      refine wpOp_step rfl fun K' hK => ?_
      go_simp
      exact hK _ _ ⟨_, rfl, fun _ => rfl, .inl (Below.refl _ _)⟩
    | 27, _, ho =>
      cases ho
      have e : x29 = _ := hS 26 _ 29 rfl rfl rfl (.inl rfl)
      subst e
      refine wpOp_step rfl fun K' hK => ?_
      go_simp
      exact hK _ _ ⟨_, rfl, fun _ => rfl, .inl (Below.refl _ _)⟩
    | 28, _, ho =>
      cases ho
      refine wpOp_step rfl fun K' hK => ?_
      go_simp
      exact hK _ _ ⟨_, rfl, fun _ => rfl, .inl (Below.refl _ _)⟩
    | 29, _, ho =>
      cases ho
      have e : x31 = _ := hS 28 _ 31 rfl rfl rfl (.inl rfl)
      subst e
      refine wpOp_step rfl fun K' hK => ?_
      go_simp
      exact hK _ _ ⟨_, rfl, fun _ => rfl, .inl (Below.refl _ _)⟩
    | 30, _, ho =>
      cases ho
      have e : x32 = _ := hS 29 _ 32 rfl rfl rfl (.inl rfl)
      subst e
      refine wpOp_step rfl fun K' hK => ?_
      go_simp
      exact hK _ _ ⟨_, rfl, fun _ => rfl, .inl (Below.refl _ _)⟩
    | 31, _, ho =>
      cases ho
      have e : x33 = _ := hS 30 _ 33 rfl rfl rfl (.inl rfl)
      subst e
      refine wpOp_step rfl fun K' hK => ?_
      go_simp
      exact hK _ _ ⟨_, rfl, fun _ => rfl, .inl (Below.refl _ _)⟩
    | 32, _, ho =>
      cases ho
      refine wpOp_step rfl fun K' hK => ?_
      go_simp
      exact hK _ _ ⟨_, rfl, fun _ => rfl, .inl (Below.refl _ _)⟩
    | 33, _, ho =>
      cases ho
      have e : x35 = _ := hS 32 _ 35 rfl rfl rfl (.inl rfl)
      subst e
      refine wpOp_step rfl fun K' hK => ?_
      go_simp
      exact hK _ _ ⟨_, rfl, fun _ => rfl, .inl (Below.refl _ _)⟩
    | 34, _, ho =>
      cases ho
      have e : x36 = _ := hS 33 _ 36 rfl rfl rfl (.inl rfl)
      subst e
      refine wpOp_step rfl fun K' hK => ?_
      go_simp
      exact hK _ _ ⟨_, rfl, fun _ => rfl, .inl (Below.refl _ _)⟩
    | 35, _, ho =>
      cases ho
      have e : x37 = _ := hS 34 _ 37 rfl rfl rfl (.inl rfl)
      subst e
      refine wpOp_step rfl fun K' hK => ?_
      go_simp
      exact hK _ _ ⟨_, rfl, fun _ => rfl, .inl (Below.refl _ _)⟩
    | 36, _, ho =>
      cases ho
      have e : x5 = _ := hS 2 _ 5 rfl rfl rfl (.inl rfl)
      subst e
      have e : x8 = _ := hS 5 _ 8 rfl rfl rfl (.inl rfl)
      subst e
      have e : x11 = _ := hS 8 _ 11 rfl rfl rfl (.inl rfl)
      subst e
      have e : x15 = _ := hS 12 _ 15 rfl rfl rfl (.inl rfl)
      subst e
      have e : x19 = _ := hS 16 _ 19 rfl rfl rfl (.inl rfl)
      subst e
      have e : x22 = _ := hS 19 _ 22 rfl rfl rfl (.inl rfl)
      subst e
      have e : x26 = _ := hS 23 _ 26 rfl rfl rfl (.inl rfl)
      subst e
      have e : x30 = _ := hS 27 _ 30 rfl rfl rfl (.inl rfl)
      subst e
      have e : x34 = _ := hS 31 _ 34 rfl rfl rfl (.inl rfl)
      subst e
      have e : x38 = _ := hS 35 _ 38 rfl rfl rfl (.inl rfl)
      subst e
      refine wpOp_step rfl fun K' hK => ?_
      go_simp
      exact hK _ _ ⟨_, rfl, fun _ => rfl, .inl (Below.refl _ _)⟩
    | _ + 37, hk, _ => omega
  case fin =>
    intro a W hJ hs hd hfr hS
    obtain ⟨⟨l⟩, df⟩ := a
    simp only at hd
    subst hd
    obtain ⟨x0, x1, x2, x3, x4, x5, x6, x7, x8, x9, x10, x11, x12, x13, x14, x15, x16, x17, x18, x19, x20, x21, x22, x23, x24, x25, x26, x27, x28, x29, x30, x31, x32, x33, x34, x35, x36, x37, x38, x39, rfl⟩ := list40 l hs
    have e2 : x2 = .pointer (some ⟨w.heap.size, 0, none⟩) := hfr 2 (by decide)
    have e : x39 = _ := hS 36 _ 39 (by decide) rfl rfl rfl
    subst e2 e
    have hb : W.heap[w.heap.size]? = some (.cells #[.pointer none, .pointer none, .pointer none, .pointer none, .pointer none, .pointer none, .pointer none, .pointer none, .pointer none, .pointer none] 206 (0, 0)) := (hJ.block _ (by rw [← hw1, World.size_alloc]; omega)).trans (by rw [← hw1]; exact World.alloc_heap_new w _)
    have hst := run_storeCells_at Tryz.prog w.heap.size 0 206 [.pointer (some ⟨g, 0, none⟩), .pointer (some ⟨g, 1, none⟩), .pointer (some ⟨g, 2, none⟩), .pointer (some ⟨g, 3, none⟩), .pointer (some ⟨g, 4, none⟩), .pointer (some ⟨g, 5, none⟩), .pointer (some ⟨g, 7, none⟩), .pointer (some ⟨g, 8, none⟩), .pointer (some ⟨g, 9, none⟩), .pointer (some ⟨g, 10, none⟩)] 0 _ W hb (by simp) (by intro v hv; simp only [List.mem_cons, List.not_mem_nil, or_false] at hv; rcases hv with rfl | rfl | rfl | rfl | rfl | rfl | rfl | rfl | rfl | rfl <;> rfl)
    refine wpOp_step rfl fun K' hK => ?_
    have hrun : ∀ (o : Oper) (a : Act), o.op = .store 206 (.tmp 2) (.tmp 39) → a.eval (.tmp 2) = .pointer (some ⟨w.heap.size, 0, none⟩) → a.eval (.tmp 39) = .agg #[.pointer (some ⟨g, 0, none⟩), .pointer (some ⟨g, 1, none⟩), .pointer (some ⟨g, 2, none⟩), .pointer (some ⟨g, 3, none⟩), .pointer (some ⟨g, 4, none⟩), .pointer (some ⟨g, 5, none⟩), .pointer (some ⟨g, 7, none⟩), .pointer (some ⟨g, 8, none⟩), .pointer (some ⟨g, 9, none⟩), .pointer (some ⟨g, 10, none⟩)] → (execOp a.eval o).run Tryz.prog W = .ok .skip (W.setRow w.heap.size #[.pointer (some ⟨g, 0, none⟩), .pointer (some ⟨g, 1, none⟩), .pointer (some ⟨g, 2, none⟩), .pointer (some ⟨g, 3, none⟩), .pointer (some ⟨g, 4, none⟩), .pointer (some ⟨g, 5, none⟩), .pointer (some ⟨g, 7, none⟩), .pointer (some ⟨g, 8, none⟩), .pointer (some ⟨g, 9, none⟩), .pointer (some ⟨g, 10, none⟩)]) := fun o a h h2 h3 => by
      simp only [execOp, h, Instr.storeAt, Instr.sureAddr, storeVar, Sem.run_bind, Sem.run_pure, Tryz.sizeOf206, h2, h3, Result.andThen_ok]
      rw [show (Value.cells (.agg #[.pointer (some ⟨g, 0, none⟩), .pointer (some ⟨g, 1, none⟩), .pointer (some ⟨g, 2, none⟩), .pointer (some ⟨g, 3, none⟩), .pointer (some ⟨g, 4, none⟩), .pointer (some ⟨g, 5, none⟩), .pointer (some ⟨g, 7, none⟩), .pointer (some ⟨g, 8, none⟩), .pointer (some ⟨g, 9, none⟩), .pointer (some ⟨g, 10, none⟩)])).size = 10 from rfl, if_neg (by decide)]
      show (Result.andThen ((storeCells ⟨w.heap.size, 0, none⟩ [.pointer (some ⟨g, 0, none⟩), .pointer (some ⟨g, 1, none⟩), .pointer (some ⟨g, 2, none⟩), .pointer (some ⟨g, 3, none⟩), .pointer (some ⟨g, 4, none⟩), .pointer (some ⟨g, 5, none⟩), .pointer (some ⟨g, 7, none⟩), .pointer (some ⟨g, 8, none⟩), .pointer (some ⟨g, 9, none⟩), .pointer (some ⟨g, 10, none⟩)]).run Tryz.prog W) _) = _
      rw [hst]
      rfl
    refine step_skip_run rfl (fun c h => by cases h) (hrun _ _ rfl rfl rfl) (hK _ _ (a1 _ _ ?_))
    have hsz := (Array.getElem?_eq_some_iff.1 hb).1
    have hnew : (W.setRow w.heap.size #[.pointer (some ⟨g, 0, none⟩), .pointer (some ⟨g, 1, none⟩), .pointer (some ⟨g, 2, none⟩), .pointer (some ⟨g, 3, none⟩), .pointer (some ⟨g, 4, none⟩), .pointer (some ⟨g, 5, none⟩), .pointer (some ⟨g, 7, none⟩), .pointer (some ⟨g, 8, none⟩), .pointer (some ⟨g, 9, none⟩), .pointer (some ⟨g, 10, none⟩)]).heap[w.heap.size]? = some (.cells #[.pointer (some ⟨g, 0, none⟩), .pointer (some ⟨g, 1, none⟩), .pointer (some ⟨g, 2, none⟩), .pointer (some ⟨g, 3, none⟩), .pointer (some ⟨g, 4, none⟩), .pointer (some ⟨g, 5, none⟩), .pointer (some ⟨g, 7, none⟩), .pointer (some ⟨g, 8, none⟩), .pointer (some ⟨g, 9, none⟩), .pointer (some ⟨g, 10, none⟩)] 206 (0, 0)) := by
      simp only [World.setRow, Array.getElem?_modify, hb, if_true, Option.map_some]
    generalize hWn : W.setRow w.heap.size #[.pointer (some ⟨g, 0, none⟩), .pointer (some ⟨g, 1, none⟩), .pointer (some ⟨g, 2, none⟩), .pointer (some ⟨g, 3, none⟩), .pointer (some ⟨g, 4, none⟩), .pointer (some ⟨g, 5, none⟩), .pointer (some ⟨g, 7, none⟩), .pointer (some ⟨g, 8, none⟩), .pointer (some ⟨g, 9, none⟩), .pointer (some ⟨g, 10, none⟩)] = W2 at hnew ⊢
    have cs : ∀ j v, [.pointer (some ⟨g, 0, none⟩), .pointer (some ⟨g, 1, none⟩), .pointer (some ⟨g, 2, none⟩), .pointer (some ⟨g, 3, none⟩), .pointer (some ⟨g, 4, none⟩), .pointer (some ⟨g, 5, none⟩), .pointer (some ⟨g, 7, none⟩), .pointer (some ⟨g, 8, none⟩), .pointer (some ⟨g, 9, none⟩), .pointer (some ⟨g, 10, none⟩)][j]? = some v → W2.cell? ⟨w.heap.size, j, none⟩ = some v := fun j v hj => cell_at hnew (by simpa using hj)
    have hl : (loadVar 206 ⟨w.heap.size, 0, none⟩).run Tryz.prog W2 = .ok (.agg #[.pointer (some ⟨g, 0, none⟩), .pointer (some ⟨g, 1, none⟩), .pointer (some ⟨g, 2, none⟩), .pointer (some ⟨g, 3, none⟩), .pointer (some ⟨g, 4, none⟩), .pointer (some ⟨g, 5, none⟩), .pointer (some ⟨g, 7, none⟩), .pointer (some ⟨g, 8, none⟩), .pointer (some ⟨g, 9, none⟩), .pointer (some ⟨g, 10, none⟩)]) W2 := by
      have := run_loadCells_list (P := Tryz.prog) W2 ⟨w.heap.size, 0, none⟩ [.pointer (some ⟨g, 0, none⟩), .pointer (some ⟨g, 1, none⟩), .pointer (some ⟨g, 2, none⟩), .pointer (some ⟨g, 3, none⟩), .pointer (some ⟨g, 4, none⟩), .pointer (some ⟨g, 5, none⟩), .pointer (some ⟨g, 7, none⟩), .pointer (some ⟨g, 8, none⟩), .pointer (some ⟨g, 9, none⟩), .pointer (some ⟨g, 10, none⟩)] (fun j v hj => by rw [Addr.add_mk, Nat.zero_add]; exact cs j v hj)
      simp only [List.length_cons, List.length_nil, Nat.zero_add, Nat.reduceAdd] at this
      simp [loadVar, Sem.run_bind, Sem.run_pure, Tryz.isAgg206, Tryz.sizeOf206, this, Result.andThen_ok]
    go_wp2
    refine bodyPost_ret (results_cell (s := 2) (t := 206) (by kernel_rfl) rfl hl) rfl ⟨rfl, ?_⟩
    rw [← hWn]
    have hb1 : Below w.heap.size w w1 := by rw [← hw1]; exact (Below.refl _ w).alloc (Nat.le_refl _) _
    have hbW : Below w.heap.size w W := hb1.trans ⟨hJ.os, hJ.tape, hJ.output, hJ.size, fun j hj => hJ.block j (by have := hb1.size; omega)⟩
    exact ⟨hbW.os, hbW.tape, hbW.output, by simpa [World.setRow] using hbW.size, fun j hj => by
      rw [← hbW.block j hj]
      simp only [World.setRow, Array.getElem?_modify, if_neg (show w.heap.size ≠ j by omega)]⟩
theorem list21 {α : Type} : ∀ l : List α, l.length = 21 → ∃ x0 x1 x2 x3 x4 x5 x6 x7 x8 x9 x10 x11 x12 x13 x14 x15 x16 x17 x18 x19 x20, l = x0 :: x1 :: x2 :: x3 :: x4 :: x5 :: x6 :: x7 :: x8 :: x9 :: x10 :: x11 :: x12 :: x13 :: x14 :: x15 :: x16 :: x17 :: x18 :: x19 :: x20 :: []
  | x0 :: x1 :: x2 :: x3 :: x4 :: x5 :: x6 :: x7 :: x8 :: x9 :: x10 :: x11 :: x12 :: x13 :: x14 :: x15 :: x16 :: x17 :: x18 :: x19 :: x20 :: [], _ => ⟨_, _, _, _, _, _, _, _, _, _, _, _, _, _, _, _, _, _, _, _, _, rfl⟩
def S104 (g : Nat) : Nat → Value → World → Prop
  | 0, v, _ => v = .pointer (some ⟨g, 0, none⟩)
  | 1, v, _ => v = .pointer (some ⟨g, 0, none⟩)
  | 2, v, _ => v = .pointer (some ⟨g, 0, none⟩)
  | 3, v, _ => v = .pointer (some ⟨g, 0, none⟩)
  | 4, v, _ => v = .pointer (some ⟨g, 0, none⟩)
  | 5, v, _ => v = .pointer (some ⟨g, 1, none⟩)
  | 6, v, _ => v = .pointer (some ⟨g, 0, none⟩)
  | 7, v, _ => v = .pointer (some ⟨g, 0, none⟩)
  | 8, v, _ => v = .pointer (some ⟨g, 2, none⟩)
  | 9, v, _ => v = .pointer (some ⟨g, 0, none⟩)
  | 10, v, _ => v = .pointer (some ⟨g, 0, none⟩)
  | 11, v, _ => v = .pointer (some ⟨g, 3, none⟩)
  | 12, v, _ => v = .pointer (some ⟨g, 3, none⟩)
  | 13, v, _ => v = .pointer (some ⟨g, 0, none⟩)
  | 14, v, _ => v = .pointer (some ⟨g, 0, none⟩)
  | 15, v, _ => v = .pointer (some ⟨g, 3, none⟩)
  | 16, v, _ => v = .pointer (some ⟨g, 4, none⟩)
  | 17, v, _ => v = .agg #[.pointer (some ⟨g, 0, none⟩), .pointer (some ⟨g, 1, none⟩), .pointer (some ⟨g, 2, none⟩), .pointer (some ⟨g, 3, none⟩), .pointer (some ⟨g, 4, none⟩)]
  | _, _, _ => True
theorem S104_st {g : Nat} (j : Nat) (u : Value) (w w' : World) (h : S104 g j u w) : S104 g j u w' := by
  unfold S104 at h ⊢
  split at h <;> first | exact h | trivial
set_option maxHeartbeats 4000000 in
set_option maxRecDepth 100000 in
theorem nums104 (g : Nat) (w : World) : Calls Tryz.prog 104 #[.pointer (some ⟨g, 0, none⟩)] w fun e w' => e = .returned (.agg #[.pointer (some ⟨g, 0, none⟩), .pointer (some ⟨g, 1, none⟩), .pointer (some ⟨g, 2, none⟩), .pointer (some ⟨g, 3, none⟩), .pointer (some ⟨g, 4, none⟩)]) ∧ Below w.heap.size w w' := by
  go_enter Tryz.func104, Tryz.ntmps104
  go_wp2
  obtain ⟨w1, hw1⟩ : ∃ w1, w.alloc (.cells #[.pointer none, .pointer none, .pointer none, .pointer none, .pointer none] 211) = w1 := ⟨_, rfl⟩
  rw [hw1]
  rename_i a1
  refine any_last (by kernel_rfl) (c := 18) (by kernel_rfl) (by kernel_rfl) rfl rfl (by kernel_rfl) (S104 g) (fun _ => none) (fun W => Below w1.heap.size w1 W) (fun _ => True) 0 ⟨rfl, rfl, rfl, Nat.le_refl _, fun _ _ => rfl⟩ trivial (fun _ _ _ _ => trivial) (dsts_ok (by kernel_rfl)) (fun W W' hb h => h.trans ⟨hb.os, hb.tape, hb.output, hb.size, fun j hj => hb.block j (Nat.lt_of_lt_of_le hj h.size)⟩) (fun j u W W' _ => S104_st j u W W') ?step ?fin
  case step =>
    intro k o hk ho a W hJ hs hd hfr hS _
    obtain ⟨⟨l⟩, df⟩ := a
    simp only at hd
    subst hd
    obtain ⟨x0, x1, x2, x3, x4, x5, x6, x7, x8, x9, x10, x11, x12, x13, x14, x15, x16, x17, x18, x19, x20, rfl⟩ := list21 l hs
    have e0 : x0 = .pointer (some ⟨g, 0, none⟩) := hfr 0 (by decide)
    have e2 : x2 = .pointer (some ⟨w.heap.size, 0, none⟩) := hfr 2 (by decide)
    subst e0 e2
    match k, hk, ho with
    | 0, _, ho =>
      cases ho
      refine wpOp_step rfl fun K' hK => ?_
      go_simp
      exact hK _ _ ⟨_, rfl, fun _ => rfl, .inl (Below.refl _ _)⟩
    | 1, _, ho =>
      cases ho
      have e : x3 = _ := hS 0 _ 3 rfl rfl rfl (.inl rfl)
      subst e
      refine wpOp_step rfl fun K' hK => ?_
      go_simp
      exact hK _ _ ⟨_, rfl, fun _ => rfl, .inl (Below.refl _ _)⟩
    | 2, _, ho =>
      cases ho
      have e : x4 = _ := hS 1 _ 4 rfl rfl rfl (.inl rfl)
      subst e
      refine wpOp_step rfl fun K' hK => ?_
      go_simp
      exact hK _ _ ⟨_, rfl, fun _ => rfl, .inl (Below.refl _ _)⟩
    | 3, _, ho =>
      cases ho
      refine wpOp_step rfl fun K' hK => ?_
      go_simp
      exact hK _ _ ⟨_, rfl, fun _ => rfl, .inl (Below.refl _ _)⟩
    | 4, _, ho =>
      cases ho
      have e : x6 = _ := hS 3 _ 6 rfl rfl rfl (.inl rfl)
      subst e
      refine wpOp_step rfl fun K' hK => ?_
      go_simp
      exact hK _ _ ⟨_, rfl, fun _ => rfl, .inl (Below.refl _ _)⟩
    | 5, _, ho =>
      cases ho
      have e : x7 = _ := hS 4 _ 7 rfl rfl rfl (.inl rfl)
      subst e
      refine wpOp_step rfl fun K' hK => ?_
      go_simp
      exact hK _ _ ⟨_, rfl, fun _ => rfl, .inl (Below.refl _ _)⟩
    | 6, _, ho =>
      cases ho
      refine wpOp_step rfl fun K' hK => ?_
      go_simp
      exact hK _ _ ⟨_, rfl, fun _ => rfl, .inl (Below.refl _ _)⟩
    | 7, _, ho =>
      cases ho
      have e : x9 = _ := hS 6 _ 9 rfl rfl rfl (.inl rfl)
      subst e
      refine wpOp_step rfl fun K' hK => ?_
      go_simp
      exact hK _ _ ⟨_, rfl, fun _ => rfl, .inl (Below.refl _ _)⟩
    | 8, _, ho =>
      cases ho
      have e : x10 = _ := hS 7 _ 10 rfl rfl rfl (.inl rfl)
      subst e
      refine wpOp_step rfl fun K' hK => ?_
      go_simp
      exact hK _ _ ⟨_, rfl, fun _ => rfl, .inl (Below.refl _ _)⟩
    | 9, _, ho =>
      cases ho
      refine wpOp_step rfl fun K' hK => ?_
      go_simp
      exact hK _ _ ⟨_, rfl, fun _ => rfl, .inl (Below.refl _ _)⟩
    | 10, _, ho =>
      cases ho
      have e : x12 = _ := hS 9 _ 12 rfl rfl rfl (.inl rfl)
      subst e
      refine wpOp_step rfl fun K' hK => ?_
      go_simp
      exact hK _ _ ⟨_, rfl, fun _ => rfl, .inl (Below.refl _ _)⟩
    | 11, _, ho =>
      cases ho
      have e : x13 = _ := hS 10 _ 13 rfl rfl rfl (.inl rfl)
      subst e
      refine wpOp_step rfl fun K' hK => ?_
      go_simp
      exact hK _ _ ⟨_, rfl, fun _ => rfl, .inl (Below.refl _ _)⟩
    | 12, _, ho =>
      cases ho
      have e : x14 = _ := hS 11 _ 14 rfl rfl rfl (.inl rfl)
      subst e
      refine wpOp_step rfl fun K' hK => ?_
      go_simp
      exact hK _ _ ⟨_, rfl, fun _ => rfl, .inl (Below.refl _ _)⟩
    | 13, _, ho =>
      cases ho
      refine wpOp_step rfl fun K' hK => ?_
      go_simp
      exact hK _ _ ⟨_, rfl, fun _ => rfl, .inl (Below.refl _ _)⟩
    | 14, _, ho =>
      cases ho
      have e : x16 = _ := hS 13 _ 16 rfl rfl rfl (.inl rfl)
      subst e
      refine wpOp_step rfl fun K' hK => ?_
      go_simp
      exact hK _ _ ⟨_, rfl, fun _ => rfl, .inl (Below.refl _ _)⟩
    | 15, _, ho =>
      cases ho
      have e : x17 = _ := hS 14 _ 17 rfl rfl rfl (.inl rfl)
      subst e
      refine wpOp_step rfl fun K' hK => ?_
      go_simp
      exact hK _ _ ⟨_, rfl, fun _ => rfl, .inl (Below.refl _ _)⟩
    | 16, _, ho =>
      cases ho
      have e : x18 = _ := hS 15 _ 18 rfl rfl rfl (.inl rfl)
      subst e
      refine wpOp_step rfl fun K' hK => ?_
      go_simp
      exact hK _ _ ⟨_, rfl, fun _ => rfl, .inl (Below.refl _ _)⟩
    | 17, _, ho =>
      cases ho
      have e : x5 = _ := hS 2 _ 5 rfl rfl rfl (.inl rfl)
      subst e
      have e : x8 = _ := hS 5 _ 8 rfl rfl rfl (.inl rfl)
      subst e
      have e : x11 = _ := hS 8 _ 11 rfl rfl rfl (.inl rfl)
      subst e
      have e : x15 = _ := hS 12 _ 15 rfl rfl rfl (.inl rfl)
      subst e
      have e : x19 = _ := hS 16 _ 19 rfl rfl rfl (.inl rfl)
      subst e
      refine wpOp_step rfl fun K' hK => ?_
      go_simp
      exact hK _ _ ⟨_, rfl, fun _ => rfl, .inl (Below.refl _ _)⟩
    | _ + 18, hk, _ => omega
  case fin =>
    intro a W hJ hs hd hfr hS
    obtain ⟨⟨l⟩, df⟩ := a
    simp only at hd
    subst hd
    obtain ⟨x0, x1, x2, x3, x4, x5, x6, x7, x8, x9, x10, x11, x12, x13, x14, x15, x16, x17, x18, x19, x20, rfl⟩ := list21 l hs
    have e2 : x2 = .pointer (some ⟨w.heap.size, 0, none⟩) := hfr 2 (by decide)
    have e : x20 = _ := hS 17 _ 20 (by decide) rfl rfl rfl
    subst e2 e
    have hb : W.heap[w.heap.size]? = some (.cells #[.pointer none, .pointer none, .pointer none, .pointer none, .pointer none] 211 (0, 0)) := (hJ.block _ (by rw [← hw1, World.size_alloc]; omega)).trans (by rw [← hw1]; exact World.alloc_heap_new w _)
    have hst := run_storeCells_at Tryz.prog w.heap.size 0 211 [.pointer (some ⟨g, 0, none⟩), .pointer (some ⟨g, 1, none⟩), .pointer (some ⟨g, 2, none⟩), .pointer (some ⟨g, 3, none⟩), .pointer (some ⟨g, 4, none⟩)] 0 _ W hb (by simp) (by intro v hv; simp only [List.mem_cons, List.not_mem_nil, or_false] at hv; rcases hv with rfl | rfl | rfl | rfl | rfl <;> rfl)
    refine wpOp_step rfl fun K' hK => ?_
    have hrun : ∀ (o : Oper) (a : Act), o.op = .store 211 (.tmp 2) (.tmp 20) → a.eval (.tmp 2) = .pointer (some ⟨w.heap.size, 0, none⟩) → a.eval (.tmp 20) = .agg #[.pointer (some ⟨g, 0, none⟩), .pointer (some ⟨g, 1, none⟩), .pointer (some ⟨g, 2, none⟩), .pointer (some ⟨g, 3, none⟩), .pointer (some ⟨g, 4, none⟩)] → (execOp a.eval o).run Tryz.prog W = .ok .skip (W.setRow w.heap.size #[.pointer (some ⟨g, 0, none⟩), .pointer (some ⟨g, 1, none⟩), .pointer (some ⟨g, 2, none⟩), .pointer (some ⟨g, 3, none⟩), .pointer (some ⟨g, 4, none⟩)]) := fun o a h h2 h3 => by
      simp only [execOp, h, Instr.storeAt, Instr.sureAddr, storeVar, Sem.run_bind, Sem.run_pure, Tryz.sizeOf211, h2, h3, Result.andThen_ok]
      rw [show (Value.cells (.agg #[.pointer (some ⟨g, 0, none⟩), .pointer (some ⟨g, 1, none⟩), .pointer (some ⟨g, 2, none⟩), .pointer (some ⟨g, 3, none⟩), .pointer (some ⟨g, 4, none⟩)])).size = 5 from rfl, if_neg (by decide)]
      show (Result.andThen ((storeCells ⟨w.heap.size, 0, none⟩ [.pointer (some ⟨g, 0, none⟩), .pointer (some ⟨g, 1, none⟩), .pointer (some ⟨g, 2, none⟩), .pointer (some ⟨g, 3, none⟩), .pointer (some ⟨g, 4, none⟩)]).run Tryz.prog W) _) = _
      rw [hst]
      rfl
    refine step_skip_run rfl (fun c h => by cases h) (hrun _ _ rfl rfl rfl) (hK _ _ (a1 _ _ ?_))
    have hsz := (Array.getElem?_eq_some_iff.1 hb).1
    have hnew : (W.setRow w.heap.size #[.pointer (some ⟨g, 0, none⟩), .pointer (some ⟨g, 1, none⟩), .pointer (some ⟨g, 2, none⟩), .pointer (some ⟨g, 3, none⟩), .pointer (some ⟨g, 4, none⟩)]).heap[w.heap.size]? = some (.cells #[.pointer (some ⟨g, 0, none⟩), .pointer (some ⟨g, 1, none⟩), .pointer (some ⟨g, 2, none⟩), .pointer (some ⟨g, 3, none⟩), .pointer (some ⟨g, 4, none⟩)] 211 (0, 0)) := by
      simp only [World.setRow, Array.getElem?_modify, hb, if_true, Option.map_some]
    generalize hWn : W.setRow w.heap.size #[.pointer (some ⟨g, 0, none⟩), .pointer (some ⟨g, 1, none⟩), .pointer (some ⟨g, 2, none⟩), .pointer (some ⟨g, 3, none⟩), .pointer (some ⟨g, 4, none⟩)] = W2 at hnew ⊢
    have cs : ∀ j v, [.pointer (some ⟨g, 0, none⟩), .pointer (some ⟨g, 1, none⟩), .pointer (some ⟨g, 2, none⟩), .pointer (some ⟨g, 3, none⟩), .pointer (some ⟨g, 4, none⟩)][j]? = some v → W2.cell? ⟨w.heap.size, j, none⟩ = some v := fun j v hj => cell_at hnew (by simpa using hj)
    have hl : (loadVar 211 ⟨w.heap.size, 0, none⟩).run Tryz.prog W2 = .ok (.agg #[.pointer (some ⟨g, 0, none⟩), .pointer (some ⟨g, 1, none⟩), .pointer (some ⟨g, 2, none⟩), .pointer (some ⟨g, 3, none⟩), .pointer (some ⟨g, 4, none⟩)]) W2 := by
      have := run_loadCells_list (P := Tryz.prog) W2 ⟨w.heap.size, 0, none⟩ [.pointer (some ⟨g, 0, none⟩), .pointer (some ⟨g, 1, none⟩), .pointer (some ⟨g, 2, none⟩), .pointer (some ⟨g, 3, none⟩), .pointer (some ⟨g, 4, none⟩)] (fun j v hj => by rw [Addr.add_mk, Nat.zero_add]; exact cs j v hj)
      simp only [List.length_cons, List.length_nil, Nat.zero_add, Nat.reduceAdd] at this
      simp [loadVar, Sem.run_bind, Sem.run_pure, Tryz.isAgg211, Tryz.sizeOf211, this, Result.andThen_ok]
    go_wp2
    refine bodyPost_ret (results_cell (s := 2) (t := 211) (by kernel_rfl) rfl hl) rfl ⟨rfl, ?_⟩
    rw [← hWn]
    have hb1 : Below w.heap.size w w1 := by rw [← hw1]; exact (Below.refl _ w).alloc (Nat.le_refl _) _
    have hbW : Below w.heap.size w W := hb1.trans ⟨hJ.os, hJ.tape, hJ.output, hJ.size, fun j hj => hJ.block j (by have := hb1.size; omega)⟩
    exact ⟨hbW.os, hbW.tape, hbW.output, by simpa [World.setRow] using hbW.size, fun j hj => by
      rw [← hbW.block j hj]
      simp only [World.setRow, Array.getElem?_modify, if_neg (show w.heap.size ≠ j by omega)]⟩
end Go.Lift
