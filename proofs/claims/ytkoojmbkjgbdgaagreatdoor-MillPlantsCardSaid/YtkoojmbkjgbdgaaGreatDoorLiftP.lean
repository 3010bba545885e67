/-
  Calls that write blocks of the caller's.
-/
import Derived.Test.YtkoojmbkjgbdgaaGreatDoorLiftI
set_option linter.unusedSectionVars false
set_option linter.unusedVariables false
set_option linter.unusedSimpArgs false
set_option linter.unusedSectionVars false
namespace Go.Lift
open Go Go.RowKit
variable [Tab] [Mf]
variable {P : Program} {Γ : Ctx} {base : Nat} {κ κ' : Nat → Option Nat} {M M' : Mem} {σ τ : St} {a a' : Act} {w w' : World}
structure Fra (G : List Nat) (M : Mem) (w : World) (M' : Mem) (w' : World) : Prop where
  le : Mem.le M M'
  os : w'.os = w.os
  tape : w'.tape = w.tape
  output : w'.output = w.output
  size : w.heap.size ≤ w'.heap.size
  block : ∀ j, j < w.heap.size → j ∉ G → w'.heap[j]? = w.heap[j]?
  mem : ∀ j, j < w.heap.size → j ∉ G → M' j = M j
theorem Fra.refl {G : List Nat} : Fra G M w M w := ⟨Mem.le_refl _, rfl, rfl, rfl, Nat.le_refl _, fun _ _ _ => rfl, fun _ _ _ => rfl⟩
theorem Fra.trans {G : List Nat} {M2 : Mem} {w2 : World} (h : Fra G M w M' w') (k : Fra G M' w' M2 w2) : Fra G M w M2 w2 :=
  ⟨Mem.le_trans h.le k.le, k.os.trans h.os, k.tape.trans h.tape, k.output.trans h.output, Nat.le_trans h.size k.size, fun j hj hg => (k.block j (Nat.lt_of_lt_of_le hj h.size) hg).trans (h.block j hj hg), fun j hj hg => (k.mem j (Nat.lt_of_lt_of_le hj h.size) hg).trans (h.mem j hj hg)⟩
theorem Fra.sub {G H : List Nat} (h : Fra G M w M' w') (hs : ∀ g ∈ G, g ∈ H) : Fra H M w M' w' := ⟨h.le, h.os, h.tape, h.output, h.size, fun j hj hg => h.block j hj fun hm => hg (hs j hm), fun j hj hg => h.mem j hj fun hm => hg (hs j hm)⟩
theorem fra_grow {G : List Nat} (hg : Good M w) (h : Grow M w M' w') : Fra G M w M' w' := by
  refine ⟨fun b o v hv => ?_, h.below.os, h.below.tape, h.below.output, h.below.size, fun j hj _ => h.below.block j hj, fun j hj _ => h.mem j hj⟩
  have := World.block_lt_of_cell? w _ (hg.2 b o v hv)
  rw [h.mem b this]; exact hv
def BlkAt (P : Program) (M : Mem) (w : World) (g : Nat) (t : Ty) (x : t.den) : Prop := (∃ cur E, w.heap[g]? = some (.cells cur E (0, 0)) ∧ relC P t M x cur.toList) ∧ ∀ o, M g o = none
theorem BlkAt.keep {G : List Nat} {g : Nat} {t : Ty} {x : t.den} (h : BlkAt P M w g t x) (hF : Fra G M w M' w') (hg : g ∉ G) : BlkAt P M' w' g t x := by
  obtain ⟨⟨cur, E, h1, h2⟩, h3⟩ := h
  have hlt := (Array.getElem?_eq_some_iff.1 h1).1
  exact ⟨⟨cur, E, (hF.block g hlt hg).trans h1, relC_mono t hF.le _ _ h2⟩, fun o => by rw [hF.mem g hlt hg]; exact h3 o⟩
end Go.Lift
namespace Go.Lift
open Go Go.RowKit
variable [Tab] [Mf]
variable {P : Program} {Γ : Ctx} {base : Nat} {κ κ' : Nat → Option Nat} {M M' : Mem} {σ τ : St} {a a' : Act} {w w' : World}
end Go.Lift
set_option linter.unusedSectionVars false
namespace Go.Lift
open Go Go.RowKit
variable [Tab] [Mf]
variable {P : Program} {Γ : Ctx} {M M' : Mem} {a a' : Act} {w w' : World}
structure Pair2 where
  tid1 : TypeId
  t1 : Ty
  g1 : Nat
  tid2 : TypeId
  t2 : Ty
  g2 : Nat
variable (D : Pair2)
abbrev Pair2.bs (x : D.t1.den) (y : D.t2.den) : List (Nat × Box) := [(100, ⟨D.tid1, D.t1, x, [], false⟩), (101, ⟨D.tid2, D.t2, y, [], false⟩)]
def relS (P : Program) (D : Pair2) (M : Mem) : AVal → Value → Prop
  | .data t x own, u => relV P t M x u ∧ own = []
  | .raw v, u => u = v
  | .bptr b p, u => (b = 100 ∧ ∃ off, offV D.t1 p = some off ∧ u = .pointer (some ⟨D.g1, off, none⟩)) ∨ (b = 101 ∧ ∃ off, offV D.t2 p = some off ∧ u = .pointer (some ⟨D.g2, off, none⟩))
  | .tup ts x, u => ∃ vs : Array Value, u = .tuple vs ∧ relVs P M ts x vs.toList
  | _, _ => False
structure Two (P : Program) (D : Pair2) (M : Mem) (l : Slots) (x : D.t1.den) (y : D.t2.den) (a : Act) (w : World) : Prop where
  good : Good M w
  ne : D.g1 ≠ D.g2
  b1 : BlkAt P M w D.g1 D.t1 x
  b2 : BlkAt P M w D.g2 D.t2 y
  env : ∀ e ∈ l, relS P D M e.2 (a.tmps.getD e.1 undef)
variable {D}
theorem relS_mono (hM : Mem.le M M') {v : AVal} {u : Value} (h : relS P D M v u) : relS P D M' v u := by
  cases v with
  | data t x own => exact ⟨relV_mono hM h.1, h.2⟩
  | raw v => exact h
  | bptr _ _ => exact h
  | rowp _ => exact h
  | mapp _ => exact h
  | tup _ _ =>
    obtain ⟨vs, h1, h2⟩ := h
    exact ⟨vs, h1, relVs_mono hM _ _ _ h2⟩
  | clo _ _ => exact h
  | undef => exact h
  | iter _ _ _ => exact h
theorem Two.call {l : Slots} {x x' : D.t1.den} {y y' : D.t2.den} {d : Nat} {v : AVal} {u : Value} (h : Two P D M l x y a w) (hF : Fra [D.g1, D.g2] M w M' w') (hg : Good M' w') (h1 : BlkAt P M' w' D.g1 D.t1 x') (h2 : BlkAt P M' w' D.g2 D.t2 y') (hd : d < a.tmps.size) (hv : relS P D M' v u) (hl : l.all (fun e => !(Nat.beq e.1 d)) = true) :
    Two P D M' ((d, v) :: l) x' y' (a.put (some d) u) w' := by
  refine ⟨hg, h.ne, h1, h2, fun e he => ?_⟩
  rcases List.mem_cons.1 he with rfl | he
  · rw [put_same a d u hd]; exact hv
  · have := List.all_eq_true.1 hl e he
    rw [put_other a (some d) u e.1 (fun k => by
      simp only [Option.some.injEq] at k
      rw [← k, Nat.beq_refl] at this; cases this)]
    exact relS_mono hF.le (h.env e he)
theorem Two.sub {l m : Slots} {x : D.t1.den} {y : D.t2.den} (h : Two P D M l x y a w) (hs : ∀ e ∈ m, e ∈ l) : Two P D M m x y a w := ⟨h.good, h.ne, h.b1, h.b2, fun e he => h.env e (hs e he)⟩
end Go.Lift
