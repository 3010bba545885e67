/-
  Calls that write blocks of the caller's.
-/
import Derived.Test.YtbmclapepgfjhaaGreatLiftI
set_option linter.unusedSectionVars false
set_option linter.unusedVariables false
set_option linter.unusedSimpArgs false
namespace Go.Lift
open Go Go.RowKit
variable [Tab] [Mf]
variable {P : Program} {Γ : Ctx} {base : Nat} {κ κ' : Nat → Option Nat} {M M' : Mem} {σ τ : St} {a a' : Act} {w w' : World}
structure Fra (G : List Nat) (M : Mem) (w : World) (M' : Mem) (w' : World) : Prop where
 le : Mem.le M M'
 os : w'.os = w.os
 tape : w'.tape = w.tape
 output : w'.output = w.output
 size : w.heap.size ≤ w'.heap.size
 block : ∀ j, j < w.heap.size → j ∉ G → w'.heap[j]? = w.heap[j]?
 mem : ∀ j, j < w.heap.size → j ∉ G → M' j = M j
theorem Fra.refl {G : List Nat} : Fra G M w M w := ⟨Mem.le_refl _, rfl, rfl, rfl, Nat.le_refl _, fun _ _ _ => rfl, fun _ _ _ => rfl⟩
theorem Fra.trans {G : List Nat} {M2 : Mem} {w2 : World} (h : Fra G M w M' w') (k : Fra G M' w' M2 w2) : Fra G M w M2 w2 :=
 ⟨Mem.le_trans h.le k.le, k.os.trans h.os, k.tape.trans h.tape, k.output.trans h.output, Nat.le_trans h.size k.size, fun j hj hg => (k.block j (Nat.lt_of_lt_of_le hj h.size) hg).trans (h.block j hj hg), fun j hj hg => (k.mem j (Nat.lt_of_lt_of_le hj h.size) hg).trans (h.mem j hj hg)⟩
theorem Fra.sub {G H : List Nat} (h : Fra G M w M' w') (hs : ∀ g ∈ G, g ∈ H) : Fra H M w M' w' := ⟨h.le, h.os, h.tape, h.output, h.size, fun j hj hg => h.block j hj fun hm => hg (hs j hm), fun j hj hg => h.mem j hj fun hm => hg (hs j hm)⟩
theorem y1d {G : List Nat} (hg : Good M w) (h : Grow M w M' w') : Fra G M w M' w' := by
 refine ⟨fun b o v hv => ?_, h.below.os, h.below.tape, h.below.output, h.below.size, fun j hj _ => h.below.block j hj, fun j hj _ => h.mem j hj⟩
 have := World.block_lt_of_cell? w _ (hg.2 b o v hv)
 rw [h.mem b this]; exact hv
def y3f (P : Program) (M : Mem) (w : World) (g : Nat) (t : Ty) (x : t.den) : Prop := (∃ cur E, w.heap[g]? = some (.cells cur E (0, 0)) ∧ relC P t M x cur.toList) ∧ ∀ o, M g o = none
theorem y3f.keep {G : List Nat} {g : Nat} {t : Ty} {x : t.den} (h : y3f P M w g t x) (hF : Fra G M w M' w') (hg : g ∉ G) : y3f P M' w' g t x := by
 obtain ⟨⟨cur, E, h1, h2⟩, h3⟩ := h
 have hlt := (Array.getElem?_eq_some_iff.1 h1).1
 exact ⟨⟨cur, E, (hF.block g hlt hg).trans h1, z4b t hF.le _ _ h2⟩, fun o => by rw [hF.mem g hlt hg]; exact h3 o⟩
end Go.Lift
namespace Go.Lift
open Go Go.RowKit
variable [Tab] [Mf]
variable {P : Program} {Γ : Ctx} {base : Nat} {κ κ' : Nat → Option Nat} {M M' : Mem} {σ τ : St} {a a' : Act} {w w' : World}
end Go.Lift
