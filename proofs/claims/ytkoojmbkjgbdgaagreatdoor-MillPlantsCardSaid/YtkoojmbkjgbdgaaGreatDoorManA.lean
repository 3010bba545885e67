/-
  The contracts of the library's functions on strings.
-/
import Derived.Test.YtkoojmbkjgbdgaaGreatDoorFunT
import Derived.Test.YtkoojmbkjgbdgaaGreatDoorShelf
import Derived.Test.YtkoojmbkjgbdgaaGreatDoorLiftL
import Derived.Test.YtkoojmbkjgbdgaaGreatDoorLiftN
import Derived.Lib.AppendIntMem
set_option linter.unusedSectionVars false
set_option linter.unusedVariables false
set_option linter.unusedSimpArgs false
set_option linter.unusedSectionVars false
set_option linter.unusedSimpArgs false
set_option linter.unusedVariables false
namespace Go.Lift
open Go Go.Proofs Go.RowKit Go.Sort
theorem maxLen_cell {M : Mem} {w : World} (hg : Good M w) : ∃ m, w.cell? ⟨4, 0, none⟩ = some (.int .i64 m) := by
  obtain ⟨v, h1, m, rfl⟩ := hg.1.1.2 (4, false) (by simp)
  exact ⟨m, hg.2 _ _ _ h1⟩
theorem err_cell {M : Mem} {w : World} (hg : Good M w) {G : Nat} (h : (G, true) ∈ [(4, false), (6, true), (7, true)]) : ∃ v, w.cell? ⟨G, 0, none⟩ = some v ∧ (v = .nilIface ∨ ∃ t u, v = .iface t u) := by
  obtain ⟨v, h1, h2⟩ := hg.1.1.2 (G, true) h
  exact ⟨v, hg.2 _ _ _ h1, h2⟩
theorem m_strings_Cut : Has Tryz.prog sg_strings_Cut := by
  refine ⟨enters_of (by kernel_rfl), fun x r hr M w vs hg hvs => ?_⟩
  obtain ⟨v, rest, rfl, hv, u, rfl, hu⟩ := hvs
  obtain rfl : v = .string x.1 := relV_str.1 hv
  obtain rfl : u = .string x.2 := relV_str.1 hu
  have hr : cutF x.2 x.1 = some r := hr
  unfold cutF at hr
  cases hc : (x.2.size == 1) && decide (x.1.size ≤ 4294967280) with
  | false => rw [hc] at hr; cases hr
  | true =>
    rw [hc, cond_true, Option.some.injEq] at hr
    rw [Bool.and_eq_true, decide_eq_true_eq] at hc
    obtain ⟨m, hm⟩ := maxLen_cell hg
    refine Calls.mono (Tryz.strings_Cut x.1 x.2 m w (by omega) hm) fun e w' he => ?_
    obtain ⟨rfl, k, rfl⟩ := he
    have hb : Below w.heap.size w (w.drewN k) := ⟨rfl, rfl, rfl, Nat.le_refl _, fun _ _ => rfl⟩
    refine ⟨M, _, rfl, ?_, good_below hg hb, hb, fun _ _ => rfl⟩
    rw [← hr]
    exact ⟨_, rfl, _, _, rfl, relV_str.2 rfl, _, _, rfl, relV_str.2 rfl, _, rfl, rfl⟩
theorem m_strings_Split : Has Tryz.prog sg_strings_Split := by
  refine ⟨enters_of (by kernel_rfl), fun x r hr M w vs hg hvs => ?_⟩
  obtain ⟨v, rest, rfl, hv, u, rfl, hu⟩ := hvs
  obtain rfl : v = .string x.1 := relV_str.1 hv
  obtain rfl : u = .string x.2 := relV_str.1 hu
  have hr : splitF x.2 x.1 = some r := hr
  unfold splitF at hr
  cases hc : decide (1 ≤ x.2.size) && decide (x.1.size ≤ 4294967280) with
  | false => rw [hc] at hr; cases hr
  | true =>
    rw [hc, cond_true, Option.some.injEq] at hr
    rw [Bool.and_eq_true, decide_eq_true_eq, decide_eq_true_eq] at hc
    obtain ⟨m, hm⟩ := maxLen_cell hg
    refine Calls.mono (Tryz.strings_Split x.1 x.2 m w (by omega) hm (by omega)) fun e w' he => ?_
    obtain ⟨rfl, rfl⟩ := he
    have hlen : r.length = Lib.countB x.1 x.2 + 1 := by rw [← hr]; exact Lib.splitB_all x.2 (by omega) 0 _ x.1 rfl
    have hle : Lib.countB x.1 x.2 ≤ x.1.size := Lib.countB_le x.2 (by omega) x.1.size x.1 (Nat.le_refl _)
    rw [hr]
    have hb : Below w.heap.size w (w.alloc (.cells (r.map Value.string).toArray 9)) := (Below.refl _ w).alloc (Nat.le_refl _) _
    obtain ⟨M', g1, g2, g3⟩ := own_out (P := Tryz.prog) (e := .str) (x := r) (T := 9) (news := r.map Value.string) (v := .slice (some ⟨w.heap.size, 0, none⟩) (Lib.countB x.1 x.2 + 1) (Lib.countB x.1 x.2 + 1)) hg hb
      ⟨by rw [List.length_map]; exact (Nat.mul_one _).symm, .inr ⟨w.heap.size, Lib.countB x.1 x.2 + 1, (r.map Value.string).toArray, by rw [hlen], Nat.le_refl _, World.alloc_heap_new w _, by omega, Nat.le_trans (show Lib.countB x.1 x.2 + 1 ≤ 4294967296 by omega) (by decide), by
        rw [List.size_toArray, List.length_map, hlen]; exact (Nat.mul_one _).symm, by
        have e1 : r.length * Ty.str.size = (r.map Value.string).length := by rw [List.length_map]; exact Nat.mul_one _
        rw [e1, List.take_length]⟩⟩
      (fun i hi => by
        show (List.take 1 (List.drop (i * 1) (r.map Value.string))) = [Value.string r[i]]
        rw [Nat.mul_one, List.drop_eq_getElem_cons (by rw [List.length_map]; exact hi), List.getElem_map]
        rfl)
    exact ⟨M', _, rfl, g3, g1, g2⟩
theorem m_strconv_Atoi : Has Tryz.prog sg_strconv_Atoi := by
  refine ⟨enters_of (by kernel_rfl), fun x r hr M w vs hg hvs => ?_⟩
  obtain ⟨v, rfl, hv⟩ := hvs
  obtain rfl : v = .string x := relV_str.1 hv
  have hr : atoiF x = some r := hr
  unfold atoiF at hr
  cases hc : decide (ByteArray.size x ≤ 4294967280) with
  | false => rw [hc] at hr; cases hr
  | true =>
    rw [hc, cond_true, Option.some.injEq] at hr
    rw [decide_eq_true_eq] at hc
    obtain ⟨es, hs1, hs2⟩ := err_cell hg (G := 6) (by simp)
    obtain ⟨er, hr1, hr2⟩ := err_cell hg (G := 7) (by simp)
    unfold atoiN at hr
    cases hn : Lib.atoiAll x.data.toList
    · rename_i n
      refine Calls.mono (Tryz.strconv_Atoi_ok x (by omega) n hn w) fun e w' he => ?_
      obtain ⟨rfl, hw⟩ := he
      have hb : Below w.heap.size w w' := by
        rcases hw with rfl | ⟨t, rfl⟩
        · exact Below.refl _ _
        · exact Lib.bytesWorld_below w 5 t
      rw [hn] at hr
      refine ⟨M, _, rfl, ?_, good_below hg hb, hb, fun _ _ => rfl⟩
      rw [← hr]
      exact ⟨_, rfl, _, _, rfl, rfl, _, rfl, _, rfl, fun _ => rfl, fun h => (by cases h)⟩
    · refine Calls.mono (Any.strconv_Atoi_syntax Tryz.laysC172 x (by omega) hn es w hs1 hs2) fun e w' he => ?_
      obtain ⟨N, rfl, _, _, hb⟩ := he
      rw [hn] at hr
      refine ⟨M, _, rfl, ?_, good_below hg hb, hb, fun _ _ => rfl⟩
      rw [← hr]
      exact ⟨_, rfl, _, _, rfl, rfl, _, rfl, _, rfl, fun h => (by cases h), fun _ => ⟨_, _, rfl⟩⟩
    · refine Calls.mono (Tryz.strconv_Atoi_range x (by omega) hn er w hr1 hr2) fun e w' he => ?_
      obtain ⟨N, rfl, _, _, hb⟩ := he
      rw [hn] at hr
      refine ⟨M, _, rfl, ?_, good_below hg hb, hb, fun _ _ => rfl⟩
      rw [← hr]
      exact ⟨_, rfl, _, _, rfl, rfl, _, rfl, _, rfl, fun h => (by cases h), fun _ => ⟨_, _, rfl⟩⟩
theorem m_strconv_Itoa : Has Tryz.prog sg_strconv_Itoa := by
  refine ⟨enters_of (by kernel_rfl), fun x r hr M w vs hg hvs => ?_⟩
  obtain ⟨v, rfl, hv⟩ := hvs
  have hv : v = .int .i64 x := relV_int.1 hv
  subst hv
  have hr : strconv_Itoa x = some r := hr
  unfold strconv_Itoa at hr
  cases hc : decide ((-9223372036854775808 : Int) ≤ x) && decide (x ≤ 9223372036854775807) with
  | false => rw [hc] at hr; cases hr
  | true =>
    rw [hc, cond_true, Option.some.injEq] at hr
    rw [Bool.and_eq_true, decide_eq_true_eq, decide_eq_true_eq] at hc
    have ht : Lib.TabIs Tryz.prog w "internal/strconv.uint64pow10" .u64 Lib.pow10Tab := (hg.1.1.1 _ (List.mem_singleton.2 rfl)).is hg.2 (by kernel_rfl)
    refine Calls.mono (Tryz.strconv_Itoa x hc.1 hc.2 w ht) fun e w' he => ?_
    obtain ⟨rfl, k, os, rfl⟩ := he
    have hb : Below w.heap.size w (grow (w.drewN k) os) := Lib.below_grow _ w (Nat.le_refl _) k os
    exact ⟨M, _, rfl, by rw [← hr]; exact relV_str.2 rfl, good_below hg hb, hb, fun _ _ => rfl⟩
theorem m_strings_Join : Has Tryz.prog sg_strings_Join := by
  refine ⟨enters_of (by kernel_rfl), fun x r hr M w vs hg hvs => ?_⟩
  obtain ⟨v, rest, rfl, hv, u, rfl, hu⟩ := hvs
  have hu : u = .string x.2 := relV_str.1 hu
  subst hu
  have hr : strings_Join x.1 x.2 = some r := hr
  unfold strings_Join at hr
  cases hc : decide (x.1.length ≤ 4294967296) && decide ((Lib.join (x.1.map (·.data.toList)) x.2.data.toList).length ≤ 4294967296) with
  | false => rw [hc] at hr; cases hr
  | true =>
    rw [hc, cond_true, Option.some.injEq] at hr
    rw [Bool.and_eq_true, decide_eq_true_eq, decide_eq_true_eq] at hc
    obtain ⟨v', hv1, hv2⟩ := relV_cells hv
    have hvv : v = v' := by
      have h := ofCells_cells hv
      rw [hv1] at h
      exact h.symm
    subst hvv
    have none_ : ∀ (a : Option Addr) (c : Nat), v = .slice a 0 c → x.1 = [] → CallsTo Tryz.prog sg_strings_Join.f #[v, .string x.2] M w fun M' v => relR Tryz.prog M' [.str] r v := by
      rintro a c rfl h0
      refine Calls.mono (Any.strings_Join_none Tryz.lays156 Tryz.Builder_Extra_156 a c x.2 w) fun e w' he => ?_
      obtain ⟨rfl, rfl⟩ := he
      refine ⟨M, _, rfl, ?_, hg, Below.refl _ _, fun _ _ => rfl⟩
      rw [← hr, h0]
      exact relV_str.2 rfl
    rcases hv2 with ⟨rfl, h0⟩ | ⟨b, off, cap, cells, rfl, h2, h3, h4, h5⟩ | ⟨a, cap, rfl, h0⟩
    · exact none_ none 0 rfl h0
    · by_cases hne : 0 < x.1.length
      · have hcell : ∀ (j : Nat) s, x.1[j]? = some s → w.cell? ⟨b, off + j, none⟩ = some (.string s) := by
          intro j s hs
          obtain ⟨hj, hjs⟩ := List.getElem?_eq_some_iff.1 hs
          have h6 : (cells.drop (j * Ty.str.size)).take Ty.str.size = [Value.string x.1[j]] := h5 j hj
          have h7 : cells[j]? = some (.string s) := by
            have h8 := congrArg (·[0]?) h6
            simp only [Ty.size, Nat.mul_one, List.getElem?_take, List.getElem?_drop] at h8
            rw [hjs] at h8
            simpa using h8
          exact hg.2 _ _ _ (h4 j _ h7)
        have hb0 : b < w.heap.size := World.block_lt_of_cell? w _ (hcell 0 x.1[0] (List.getElem?_eq_getElem hne))
        refine Calls.mono (Tryz.strings_Join b off cap x.1 x.2 w hcell hb0 (Nat.le_trans hc.1 (by decide)) h2 (Nat.le_trans hc.2 (by decide))) fun e w' he => ?_
        obtain ⟨rfl, hb⟩ := he
        exact ⟨M, _, rfl, by rw [← hr]; exact relV_str.2 rfl, good_below hg hb, hb, fun _ _ => rfl⟩
      · have h0 : x.1 = [] := List.length_eq_zero_iff.1 (by omega)
        exact none_ (some ⟨b, off, none⟩) cap (by rw [h0]; rfl) h0
    · exact none_ (some a) cap rfl h0
end Go.Lift
