/-
  Causes predict; evidence is a table of bits.
-/
import Derived.Test.YteobfadhflofpaaGreatPlainN
import Derived.Test.YteobfadhflofpaaGreatFunRe
import Derived.Test.YteobfadhflofpaaGreatPlainD
set_option linter.unusedSectionVars false
set_option linter.unusedVariables false
set_option linter.unusedSimpArgs false
namespace Go.Lift
open Go
theorem fE_zero {n : Int} {l : List Int} (h : firstE (n :: l) = 0) : n = 0 ∧ firstE l = 0 := by
  by_cases hn : n = 0
  · subst hn; rw [fE0] at h; exact ⟨rfl, h⟩
  · rw [fEn hn] at h; exact absurd h hn
theorem ratioQ_int {n : Int} (h : 0 ≤ n) : ratioQ (n : Rat) = (false, nd n.natAbs, [1]) := by
  unfold ratioQ
  rw [Rat.num_intCast, Rat.den_intCast, nd_one, dec_false (show ¬ n < 0 by omega)]
theorem floor_nat {q : Rat} (h : 0 ≤ q) : 0 ≤ q.num / (q.den : Int) ∧ (q.num / (q.den : Int)).natAbs = q.num.natAbs / q.den ∧ (q.num / (q.den : Int)).natAbs ≤ q.num.natAbs := by
  have hn := Rat.num_nonneg.2 h
  obtain ⟨k, hk⟩ : ∃ k : Nat, q.num = (k : Int) := ⟨q.num.toNat, by omega⟩
  have e : q.num / (q.den : Int) = ((k / q.den : Nat) : Int) := by rw [hk]; rfl
  rw [e, hk, Int.natAbs_natCast, Int.natAbs_natCast]
  exact ⟨Int.natCast_nonneg _, rfl, Nat.div_le_self _ _⟩
theorem tfloor_ok {q : Rat} {N : Nat} (h : 0 ≤ q) (hf : Fit N q) (hN : N ≤ 1073741000) : trace_ratio_floor (ratioQ q) = some (ratioQ ((q.num / (q.den : Int) : Int) : Rat)) ∧ Fit N ((q.num / (q.den : Int) : Int) : Rat) := by
  obtain ⟨h0, h1, h2⟩ := floor_nat h
  have hd := q.den_nz
  constructor
  · unfold trace_ratio_floor
    rw [show (ratioQ q).2.1 = nd q.num.natAbs from rfl, show (ratioQ q).2.2 = nd q.den from rfl, divided_ok hd (Nat.le_trans hf.1 (by omega)) (Nat.le_trans hf.2 (by omega)), Option.bind_some, ratioQ_int h0, h1]
  · refine ⟨?_, ?_⟩
    · rw [Rat.num_intCast]
      exact Nat.le_trans (wd_mono hW h2) hf.1
    · rw [Rat.den_intCast]
      exact Nat.le_trans (nw32 (by decide)) (Nat.le_trans (Nat.one_le_iff_ne_zero.2 fun e => hd ((wd_eq_zero hW).1 e)) hf.2)
end Go.Lift
namespace Go.Lift
open Go
abbrev r0 : Dapi_TraceReading := (0, (0, false))
theorem lget_mem {A : Type} {d : A} {l : List A} {i : Nat} (hi : i < l.length) : lget d l (i : Int) ∈ l := by rw [lget_getD hi]; exact List.getElem_mem hi
end Go.Lift
