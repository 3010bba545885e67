/-
  The second contract of the function that copies readings.
-/
import Derived.Test.YteobfadhflofpaaGreatFunT
import Derived.Test.YteobfadhflofpaaGreatLiftL
import Derived.Laws.AppendOwnNone
import Derived.WalkKit
import Derived.Lib.Walk
import Derived.Deep.LoopGhost
import Derived.Lib.SliceRun
import Derived.TacticsInMore
set_option linter.unusedSectionVars false
set_option linter.unusedVariables false
set_option linter.unusedSimpArgs false
namespace Go.Lift
open Go Go.Proofs Go.RowKit
theorem row_new {P : Program} [Tab] {M : Mem} {w w' : World} {e : Ty} {l : List e.den} {T : TypeId} {v : Value} {news : List Value} (hg : Good M w) (hb : Below w.heap.size w w') (h : w'.ownsRow w.heap.size T e.size v l.length news) (hv : v ≠ .slice none 0 0)
    (hrel : ∀ i (hi : i < l.length), relC P e M l[i] ((news.drop (i * e.size)).take e.size)) :
    ∃ M' b cap cur E, (.returned v : Ending) = .returned (.slice (some ⟨b, 0, none⟩) l.length cap) ∧ Good M' w' ∧ Grow M w M' w' ∧ w.heap.size ≤ b ∧ w'.heap[b]? = some (.cells cur E (0, 0)) ∧
      relRowsL P e M' l cur.toList ∧ (∀ o, M' b o = none) ∧ l.length ≤ cap ∧ cap ≤ maxLen := by
  obtain ⟨hl, ⟨rfl, _⟩ | ⟨g, cap, cur, rfl, h1, h2, h3, h4, h5, h6⟩⟩ := h
  · exact absurd rfl hv
  · refine ⟨M, g, cap, cur, T, rfl, good_below hg hb, ⟨hb, fun _ _ => rfl⟩, h1, h2, ⟨?_, fun i hi => ?_⟩, fun o => mem_none hg h1 o, h3, h4⟩
    · have h7 : cur.toList.length = cap * e.size := by rw [← h5]; exact Array.length_toList
      rw [h7]; exact Nat.mul_le_mul_right _ h3
    · have := hrel i hi
      have hle : (i + 1) * e.size ≤ l.length * e.size := Nat.mul_le_mul_right _ hi
      simp only [Nat.add_mul, Nat.one_mul] at hle
      rw [← h6, List.drop_take, List.take_take, Nat.min_eq_left (by omega)] at this
      exact this
theorem copy_row (v : Value) (n : Nat) (news : List Value) (w : World) (hl : news.length = n * 3) (hn : n ≤ 4294967296) (h1 : ∀ u ∈ news, u.oneCell' = true)
    (hv : (v = .slice none 0 0 ∧ n = 0) ∨ ∃ a cap, v = .slice (some a) n cap ∧ ∀ j u, news[j]? = some u → w.cell? (a.add j) = some u) :
    Calls Tryz.prog 10 #[v] w fun e w' => ∃ v', e = .returned v' ∧ w'.ownsRow w.heap.size 41 3 v' n news ∧ v' ≠ .slice none 0 0 ∧ Below w.heap.size w w' := by
  obtain ⟨i0, hi, hz0, hz1, hz2⟩ := info_parts (show (Tryz.prog.info? 41).map (fun i => (i.zero, i.size, i.bytes)) = some (some (.agg #[.int .i64 0, .int .i64 0, .bool false]), 3, 24) by kernel_rfl)
  have t27 := Tryz.underlying27
  have u27 : ∀ w, Sem.run Tryz.prog (underlying 27) w = .ok (TypeDesc.slice 41) w := run_underlying t27
  rcases hv with ⟨rfl, rfl⟩ | ⟨a, cap, rfl, hc⟩
  · have hnil : news = [] := List.length_eq_zero_iff.1 (by omega)
    subst hnil
    go_enter Tryz.func10, Tryz.ntmps10
    go_wp2_with (at_builtin; refine wpList_append_own_none rfl _ _ 27 rfl w.heap.size 41 i0 3 t27 hi _ 0 [] rfl (World.ownsRow_made w #[] 0 (Nat.le_refl _) (Nat.zero_le _) (by simp)) rfl ?_)
    go_wp2
    go_ret
    exact ⟨_, rfl, World.ownsRow_made w #[] 0 (Nat.le_refl _) (Nat.zero_le _) (by simp), by simp, (Below.refl _ w).alloc (Nat.le_refl _) _⟩
  · have A : Aside (∀ j u, news[j]? = some u → w.cell? (a.add j) = some u) := hc
    clear hc
    go_enter Tryz.func10, Tryz.ntmps10
    go_wp2_with (at_builtin; refine wpList_append_own _ rfl _ _ 27 rfl w.heap.size 41 i0 (.agg #[.int .i64 0, .int .i64 0, .bool false]) 3 24 t27 hi hz0 hz1 hz2 rfl (by decide) _ 0 [] rfl (World.ownsRow_made w #[] 0 (Nat.le_refl _) (Nat.zero_le _) (by simp)) a n cap news rfl ?qc1 ?qc2 ?qc3 ?qc4 ?qc5 ?qc6 ?_)
    case qc1 => exact hl
    case qc2 =>
      intro j u hj
      exact Lib.cell?_alloc_some _ (A.out j u hj)
    case qc3 => exact h1
    case qc4 => rw [Nat.zero_add]; exact Nat.le_trans hn (by decide)
    case qc5 => rw [Nat.zero_add]; omega
    case qc6 => simp
    intro v' w1 hown hgrow hnil
    go_wp2
    go_ret
    refine ⟨v', rfl, by simpa using hown, hnil, ?_⟩
    · exact ((Below.refl _ w).alloc (Nat.le_refl _) _).grown hgrow (by simp) (by intro k hk; simp [Value.ownBlock] at hk; omega)
theorem n_r9_CopyReadings : FCn Tryz.prog sg_r9_CopyReadings := by
  intro e x l hl M w vs hg hvs
  unfold Sig.listRun at hl
  split at hl
  · rename_i h
    obtain rfl : Tapi_TraceReading = e := by
      have : [Ty.slice Tapi_TraceReading] = [Ty.slice e] := h
      simpa using this
    have hl : r9_CopyReadings x = some l := hl
    obtain ⟨v, rfl, hv⟩ := hvs
    unfold r9_CopyReadings app at hl
    split at hl
    · rename_i hle
      rw [List.nil_append, Option.bind_some, Option.some.injEq] at hl
      subst hl
      rw [List.length_nil, Nat.zero_add] at hle
      obtain ⟨v', hv1, hv2⟩ := relV_cells hv
      have hvv : v = v' := by
        have h := ofCells_cells hv
        rw [hv1] at h
        exact h.symm
      subst hvv
      have hone : ∀ (news : List Value), news.length = List.length x * 3 → (∀ i (hi : i < List.length x), relC Tryz.prog Tapi_TraceReading M x[i] ((news.drop (i * 3)).take 3)) → ∀ u ∈ news, u.oneCell' = true := by
        intro news h1 h2 u hu
        obtain ⟨i, hi, rfl⟩ := List.getElem_of_mem hu
        have hix : i / 3 < List.length x := by omega
        have h3 := h2 (i / 3) hix
        obtain ⟨c1, c2⟩ : ((news.drop (i / 3 * 3)).take 3).take 1 = [Value.int .i64 (x[i / 3]).1] ∧ ((news.drop (i / 3 * 3)).take 3).drop 1 = [Value.int .i64 (x[i / 3]).2.1, Value.bool (x[i / 3]).2.2] := by
          obtain ⟨a1, a2, a3⟩ := h3
          refine ⟨a1, ?_⟩
          have b1 : (((news.drop (i / 3 * 3)).take 3).drop 1).take 1 = [Value.int .i64 (x[i / 3]).2.1] := a2
          have b2 : (((news.drop (i / 3 * 3)).take 3).drop 1).drop 1 = [Value.bool (x[i / 3]).2.2] := a3
          rw [← List.take_append_drop 1 (((news.drop (i / 3 * 3)).take 3).drop 1), b1, b2]
          rfl
        have hall : ((news.drop (i / 3 * 3)).take 3) = [Value.int .i64 (x[i / 3]).1, Value.int .i64 (x[i / 3]).2.1, Value.bool (x[i / 3]).2.2] := by
          rw [← List.take_append_drop 1 ((news.drop (i / 3 * 3)).take 3), c1, c2]
          rfl
        have hmem : news[i] ∈ ((news.drop (i / 3 * 3)).take 3) := by
          rw [List.mem_iff_getElem?]
          refine ⟨i % 3, ?_⟩
          rw [List.getElem?_take, if_pos (by omega), List.getElem?_drop, show i / 3 * 3 + i % 3 = i by omega, List.getElem?_eq_getElem hi]
        rw [hall] at hmem
        simp only [List.mem_cons, List.not_mem_nil, or_false] at hmem
        rcases hmem with h | h | h <;> rw [h] <;> rfl
      have key : ∀ news : List Value, news.length = List.length x * 3 → (∀ i (hi : i < List.length x), relC Tryz.prog Tapi_TraceReading M x[i] ((news.drop (i * 3)).take 3)) →
          ((v = .slice none 0 0 ∧ List.length x = 0) ∨ ∃ a cap, v = .slice (some a) (List.length x) cap ∧ ∀ j u, news[j]? = some u → w.cell? (a.add j) = some u) → CallsNew Tryz.prog 10 #[v] M w Tapi_TraceReading x := by
        intro news h1 h2 h3
        refine Calls.mono (copy_row v (List.length x) news w h1 hle (hone news h1 h2) h3) fun e w' he => ?_
        obtain ⟨v', rfl, ho, hne, hb⟩ := he
        exact row_new (e := Tapi_TraceReading) hg hb ho hne h2
      rcases hv2 with ⟨rfl, h0⟩ | ⟨b, off, cap, cells, rfl, h2, h3, h4, h5⟩ | ⟨a, cap, rfl, h0⟩
      · subst h0
        exact key [] rfl (fun i hi => by simp at hi) (.inl ⟨rfl, rfl⟩)
      · exact key cells h3 h5 (.inr ⟨⟨b, off, none⟩, cap, rfl, fun j u hj => by rw [Addr.add_mk]; exact hg.2 _ _ _ (h4 j u hj)⟩)
      · subst h0
        exact key [] rfl (fun i hi => by simp at hi) (.inr ⟨a, cap, rfl, fun j u hj => by simp at hj⟩)
    · cases hl
  · cases hl
end Go.Lift
