/-
  A slab, read and written; the law holds of the plain functions.
-/
import Derived.Test.YtggnjngdmadbaaaGreatDoorSlA
set_option linter.unusedSectionVars false
set_option linter.unusedVariables false
set_option linter.unusedSimpArgs false
namespace Go.Lift
open Go
end Go.Lift
namespace Go.Lift
open Go
theorem yk7 (n : Nat) : noC 32 (Lib.decDigits n) := fun b hb => by
 have := List.all_eq_true.1 (ykn n).1.2.1 b hb
 have h := yju.1 this
 intro e
 rw [e] at h
 exact absurd h.1 (by decide)
theorem ylt : ∀ {l : List Int} {i : Nat}, zp4 i l = true → ∀ c ∈ l, c ≠ 32
 | [], _, _, c, h => by cases h
 | x :: l, i, hn, c, h => by
  unfold zp4 at hn
  rw [Bool.and_eq_true] at hn
  rcases List.mem_cons.1 h with rfl | h
  ·have := hn.1
   unfold nameAt at this
   simp only [Bool.or_eq_true, Bool.and_eq_true, decide_eq_true_eq] at this
   omega
  ·exact ylt hn.2 c h
theorem yne {s : ByteArray} (h : zqt s = true) : noC 32 s.data.toList ∧ s.data.toList ≠ [] ∧ s.size ≤ 12 := by
 unfold zqt at h
 rw [Bool.and_eq_true, decide_eq_true_eq] at h
 refine ⟨fun b hb e => ?_, fun e => ?_, by omega⟩
 ·have hm : ((b.toNat : Nat) : Int) ∈ z3y s := by unfold z3y; exact List.mem_map.2 ⟨b, hb, rfl⟩
  refine ylt h.1 _ hm ?_
  rw [e]; rfl
 ·have := yjk s
  rw [e, List.length_nil] at this
  omega
theorem ylb : ∀ (k v : Nat), v < 10 ^ (k + 1) → (Lib.decDigits v).length ≤ k + 1
 | 0, v, h => by rw [Lib.decDigits_one (by simpa using h)]; exact Nat.le_refl _
 | k + 1, v, h => by
  by_cases h1 : v < 10
  ·rw [Lib.decDigits_one h1, List.length_singleton]; omega
  ·rw [Lib.decDigits, dif_neg h1, List.length_append, List.length_singleton]
   have := ylb k (v / 10) (by rw [Nat.pow_succ] at h; omega)
   omega
theorem yl0 {n : Int} {k : Nat} (h0 : 0 ≤ n) (h1 : n < 1000000) : ∃ v : Nat, n = (v : Int) ∧ Lib.itoa n = Lib.decDigits v ∧ numL (Lib.itoa n) = some v := by
 obtain ⟨v, rfl⟩ : ∃ v : Nat, n = (v : Int) := ⟨n.toNat, by omega⟩
 refine ⟨v, rfl, ykd v, ?_⟩
 rw [ykd]
 refine ylg.2 ⟨rfl, ?_⟩
 exact ylb 5 v (by show v < 1000000; omega)
theorem ylq (a : ByteArray) : seqb a a = true := by rw [ykc, beq_self_eq_true]
end Go.Lift
