/-
  The contracts of Itoa and Join.
-/
import Derived.Test.YteobfadhflofpaaGreatDoorFunT
import Derived.Test.YteobfadhflofpaaGreatDoorShelf
import Derived.Test.YteobfadhflofpaaGreatDoorLiftL
import Derived.Lib.AppendIntMem
set_option linter.unusedSectionVars false
set_option linter.unusedVariables false
set_option linter.unusedSimpArgs false
namespace Go.Lift
open Go Go.Proofs Go.RowKit Go.Sort
theorem m_strconv_Itoa : Has Tryz.prog sg_strconv_Itoa := by
 refine ⟨enters_of (by kernel_rfl), fun x r hr M w vs hg hvs => ?_⟩
 obtain ⟨v, rfl, hv⟩ := hvs
 have hv : v = .int .i64 x := relV_int.1 hv
 subst hv
 have hr : strconv_Itoa x = some r := hr
 unfold strconv_Itoa at hr
 cases hc : decide ((-9223372036854775808 : Int) ≤ x) && decide (x ≤ 9223372036854775807) with
 | false => rw [hc] at hr; cases hr
 | true =>
  rw [hc, cond_true, Option.some.injEq] at hr
  rw [Bool.and_eq_true, decide_eq_true_eq, decide_eq_true_eq] at hc
  have ht : Lib.TabIs Tryz.prog w "internal/strconv.uint64pow10" .u64 Lib.pow10Tab := (hg.1.1 _ (List.mem_singleton.2 rfl)).is hg.2 (by kernel_rfl)
  refine Calls.mono (Tryz.strconv_Itoa x hc.1 hc.2 w ht) fun e w' he => ?_
  obtain ⟨rfl, k, os, rfl⟩ := he
  have hb : Below w.heap.size w (grow (w.drewN k) os) := Lib.below_grow _ w (Nat.le_refl _) k os
  exact ⟨M, _, rfl, by rw [← hr]; exact relV_str.2 rfl, good_below hg hb, hb, fun _ _ => rfl⟩
theorem m_strings_Join : Has Tryz.prog sg_strings_Join := by
 refine ⟨enters_of (by kernel_rfl), fun x r hr M w vs hg hvs => ?_⟩
 obtain ⟨v, rest, rfl, hv, u, rfl, hu⟩ := hvs
 have hu : u = .string x.2 := relV_str.1 hu
 subst hu
 have hr : strings_Join x.1 x.2 = some r := hr
 unfold strings_Join at hr
 cases hc : decide (x.1.length ≤ 4294967296) && decide ((Lib.join (x.1.map (·.data.toList)) x.2.data.toList).length ≤ 4294967296) with
 | false => rw [hc] at hr; cases hr
 | true =>
  rw [hc, cond_true, Option.some.injEq] at hr
  rw [Bool.and_eq_true, decide_eq_true_eq, decide_eq_true_eq] at hc
  obtain ⟨v', hv1, hv2⟩ := relV_cells hv
  have hvv : v = v' := by
   have h := ofCells_cells hv
   rw [hv1] at h
   exact h.symm
  subst hvv
  have none_ : ∀ (a : Option Addr) (c : Nat), v = .slice a 0 c → x.1 = [] → CallsTo Tryz.prog sg_strings_Join.f #[v, .string x.2] M w fun M' v => relR Tryz.prog M' [.str] r v := by
   rintro a c rfl h0
   refine Calls.mono (Any.strings_Join_none Tryz.lays156 Tryz.Builder_Extra_156 a c x.2 w) fun e w' he => ?_
   obtain ⟨rfl, rfl⟩ := he
   refine ⟨M, _, rfl, ?_, hg, Below.refl _ _, fun _ _ => rfl⟩
   rw [← hr, h0]
   exact relV_str.2 rfl
  rcases hv2 with ⟨rfl, h0⟩ | ⟨b, off, cap, cells, rfl, h2, h3, h4, h5⟩ | ⟨a, cap, rfl, h0⟩
  ·exact none_ none 0 rfl h0
  ·by_cases hne : 0 < x.1.length
   ·have hcell : ∀ (j : Nat) s, x.1[j]? = some s → w.cell? ⟨b, off + j, none⟩ = some (.string s) := by
     intro j s hs
     obtain ⟨hj, hjs⟩ := List.getElem?_eq_some_iff.1 hs
     have h6 : (cells.drop (j * Ty.str.size)).take Ty.str.size = [Value.string x.1[j]] := h5 j hj
     have h7 : cells[j]? = some (.string s) := by
      have h8 := congrArg (·[0]?) h6
      simp only [Ty.size, Nat.mul_one, List.getElem?_take, List.getElem?_drop] at h8
      rw [hjs] at h8
      simpa using h8
     exact hg.2 _ _ _ (h4 j _ h7)
    have hb0 : b < w.heap.size := World.block_lt_of_cell? w _ (hcell 0 x.1[0] (List.getElem?_eq_getElem hne))
    refine Calls.mono (Tryz.strings_Join b off cap x.1 x.2 w hcell hb0 (Nat.le_trans hc.1 (by decide)) h2 (Nat.le_trans hc.2 (by decide))) fun e w' he => ?_
    obtain ⟨rfl, hb⟩ := he
    exact ⟨M, _, rfl, by rw [← hr]; exact relV_str.2 rfl, good_below hg hb, hb, fun _ _ => rfl⟩
   ·have h0 : x.1 = [] := List.length_eq_zero_iff.1 (by omega)
    exact none_ (some ⟨b, off, none⟩) cap (by rw [h0]; rfl) h0
  ·exact none_ (some a) cap rfl h0
end Go.Lift
