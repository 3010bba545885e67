/-
  The contracts of Split, Cut, Atoi and SplitSeq.
-/
import Derived.Test.YteobfadhflofpaaGreatDoorManA
import Derived.Test.YteobfadhflofpaaGreatDoorLiftN
import Derived.RangeFuncFrom
import Derived.RangeFuncBound
import Derived.RangeFuncLeaves
import Derived.RangeFuncBox
import Derived.RangeFuncCalls
import Derived.RangeFuncWrites
import Derived.OwnWalkIn
import Derived.TacticsInMore
import Derived.WalkKit
import Derived.LoopNIn
import Derived.LoopIn
set_option linter.unusedSectionVars false
set_option linter.unusedVariables false
set_option linter.unusedSimpArgs false
namespace Go.Lift
open Go Go.Proofs Go.RowKit
theorem maxLen_cell {M : Mem} {w : World} (hg : Good M w) : ∃ m, w.cell? ⟨1, 0, none⟩ = some (.int .i64 m) := by
 obtain ⟨v, h1, m, rfl⟩ := hg.1.2 (1, false) (by simp)
 exact ⟨m, hg.2 _ _ _ h1⟩
theorem err_cell {M : Mem} {w : World} (hg : Good M w) {G : Nat} (h : (G, true) ∈ [(1, false), (4, true), (5, true)]) : ∃ v, w.cell? ⟨G, 0, none⟩ = some v ∧ (v = .nilIface ∨ ∃ t u, v = .iface t u) := by
 obtain ⟨v, h1, h2⟩ := hg.1.2 (G, true) h
 exact ⟨v, hg.2 _ _ _ h1, h2⟩
theorem m_strings_Cut : Has Tryz.prog sg_strings_Cut := by
 refine ⟨enters_of (by kernel_rfl), fun x r hr M w vs hg hvs => ?_⟩
 obtain ⟨v, rest, rfl, hv, u, rfl, hu⟩ := hvs
 obtain rfl : v = .string x.1 := relV_str.1 hv
 obtain rfl : u = .string x.2 := relV_str.1 hu
 have hr : cutF x.2 x.1 = some r := hr
 unfold cutF at hr
 cases hc : (x.2.size == 1) && decide (x.1.size ≤ 4294967280) with
 | false => rw [hc] at hr; cases hr
 | true =>
  rw [hc, cond_true, Option.some.injEq] at hr
  rw [Bool.and_eq_true, decide_eq_true_eq] at hc
  obtain ⟨m, hm⟩ := maxLen_cell hg
  refine Calls.mono (Tryz.strings_Cut x.1 x.2 m w (by omega) hm) fun e w' he => ?_
  obtain ⟨rfl, k, rfl⟩ := he
  have hb : Below w.heap.size w (w.drewN k) := ⟨rfl, rfl, rfl, Nat.le_refl _, fun _ _ => rfl⟩
  refine ⟨M, _, rfl, ?_, good_below hg hb, hb, fun _ _ => rfl⟩
  rw [← hr]
  exact ⟨_, rfl, _, _, rfl, relV_str.2 rfl, _, _, rfl, relV_str.2 rfl, _, rfl, rfl⟩
theorem m_strings_Split : Has Tryz.prog sg_strings_Split := by
 refine ⟨enters_of (by kernel_rfl), fun x r hr M w vs hg hvs => ?_⟩
 obtain ⟨v, rest, rfl, hv, u, rfl, hu⟩ := hvs
 obtain rfl : v = .string x.1 := relV_str.1 hv
 obtain rfl : u = .string x.2 := relV_str.1 hu
 have hr : splitF x.2 x.1 = some r := hr
 unfold splitF at hr
 cases hc : (x.2.size == 1) && decide (x.1.size ≤ 4294967280) with
 | false => rw [hc] at hr; cases hr
 | true =>
  rw [hc, cond_true, Option.some.injEq] at hr
  rw [Bool.and_eq_true, decide_eq_true_eq, beq_iff_eq] at hc
  obtain ⟨m, hm⟩ := maxLen_cell hg
  refine Calls.mono (Tryz.strings_Split x.1 x.2 m w (by omega) hm (by omega)) fun e w' he => ?_
  obtain ⟨rfl, rfl⟩ := he
  have hlen : r.length = Lib.countB x.1 x.2 + 1 := by rw [← hr]; exact Lib.splitB_all x.2 (by omega) 0 _ x.1 rfl
  have hle : Lib.countB x.1 x.2 ≤ x.1.size := Lib.countB_le x.2 (by omega) x.1.size x.1 (Nat.le_refl _)
  rw [hr]
  have hb : Below w.heap.size w (w.alloc (.cells (r.map Value.string).toArray 9)) := (Below.refl _ w).alloc (Nat.le_refl _) _
  obtain ⟨M', g1, g2, g3⟩ := own_out (P := Tryz.prog) (e := .str) (x := r) (T := 9) (news := r.map Value.string) (v := .slice (some ⟨w.heap.size, 0, none⟩) (Lib.countB x.1 x.2 + 1) (Lib.countB x.1 x.2 + 1)) hg hb
   ⟨by rw [List.length_map]; exact (Nat.mul_one _).symm, .inr ⟨w.heap.size, Lib.countB x.1 x.2 + 1, (r.map Value.string).toArray, by rw [hlen], Nat.le_refl _, World.alloc_heap_new w _, by omega, Nat.le_trans (show Lib.countB x.1 x.2 + 1 ≤ 4294967296 by omega) (by decide), by
    rw [List.size_toArray, List.length_map, hlen]; exact (Nat.mul_one _).symm, by
    have e1 : r.length * Ty.str.size = (r.map Value.string).length := by rw [List.length_map]; exact Nat.mul_one _
    rw [e1, List.take_length]⟩⟩
   (fun i hi => by
    show (List.take 1 (List.drop (i * 1) (r.map Value.string))) = [Value.string r[i]]
    rw [Nat.mul_one, List.drop_eq_getElem_cons (by rw [List.length_map]; exact hi), List.getElem_map]
    rfl)
  exact ⟨M', _, rfl, g3, g1, g2⟩
theorem m_strconv_Atoi : Has Tryz.prog sg_strconv_Atoi := by
 refine ⟨enters_of (by kernel_rfl), fun x r hr M w vs hg hvs => ?_⟩
 obtain ⟨v, rfl, hv⟩ := hvs
 obtain rfl : v = .string x := relV_str.1 hv
 have hr : atoiF x = some r := hr
 unfold atoiF at hr
 cases hc : decide (ByteArray.size x ≤ 4294967280) with
 | false => rw [hc] at hr; cases hr
 | true =>
  rw [hc, cond_true, Option.some.injEq] at hr
  rw [decide_eq_true_eq] at hc
  obtain ⟨es, hs1, hs2⟩ := err_cell hg (G := 4) (by simp)
  obtain ⟨er, hr1, hr2⟩ := err_cell hg (G := 5) (by simp)
  unfold atoiN at hr
  cases hn : Lib.atoiAll x.data.toList
  ·rename_i n
   refine Calls.mono (Tryz.strconv_Atoi_ok x (by omega) n hn w) fun e w' he => ?_
   obtain ⟨rfl, hw⟩ := he
   have hb : Below w.heap.size w w' := by
    rcases hw with rfl | ⟨t, rfl⟩
    ·exact Below.refl _ _
    ·exact Lib.bytesWorld_below w 5 t
   rw [hn] at hr
   refine ⟨M, _, rfl, ?_, good_below hg hb, hb, fun _ _ => rfl⟩
   rw [← hr]
   exact ⟨_, rfl, _, _, rfl, rfl, _, rfl, _, rfl, fun _ => rfl, fun h => (by cases h)⟩
  ·refine Calls.mono (Any.strconv_Atoi_syntax Tryz.laysC172 x (by omega) hn es w hs1 hs2) fun e w' he => ?_
   obtain ⟨N, rfl, _, _, hb⟩ := he
   rw [hn] at hr
   refine ⟨M, _, rfl, ?_, good_below hg hb, hb, fun _ _ => rfl⟩
   rw [← hr]
   exact ⟨_, rfl, _, _, rfl, rfl, _, rfl, _, rfl, fun h => (by cases h), fun _ => ⟨_, _, rfl⟩⟩
  ·refine Calls.mono (Tryz.strconv_Atoi_range x (by omega) hn er w hr1 hr2) fun e w' he => ?_
   obtain ⟨N, rfl, _, _, hb⟩ := he
   rw [hn] at hr
   refine ⟨M, _, rfl, ?_, good_below hg hb, hb, fun _ _ => rfl⟩
   rw [← hr]
   exact ⟨_, rfl, _, _, rfl, rfl, _, rfl, _, rfl, fun h => (by cases h), fun _ => ⟨_, _, rfl⟩⟩
end Go.Lift
namespace Go.Lift
open Go Go.Proofs Go.RowKit
attribute [local go_sem] Oper.semAt_some
noncomputable def pieces (sep r : ByteArray) : List ByteArray := Lib.splitB sep 0 (Lib.countB r sep) r
theorem pieces_miss {sep r : ByteArray} (h : Lib.indexB r sep = -1) : pieces sep r = [r] := by
 unfold pieces
 exact Lib.splitB_miss sep 0 _ r h
theorem pieces_hit {sep r : ByteArray} (h1 : 1 ≤ sep.size) {i : Nat} (h : Lib.indexB r sep = i) : pieces sep r = r.extract 0 i :: pieces sep (r.extract (i + sep.size) r.size) := by
 unfold pieces
 rw [Lib.countB_hit r sep i h1 h, Nat.add_comm 1, Lib.splitB_hit sep 0 _ r i h]
 rfl
def restLen (g : Nat) (W : World) : Nat := match W.cell? ⟨g, 0, none⟩ with
 | some (.string r) => r.size
 | _ => 0
theorem restLen_of {g : Nat} {W : World} {r : ByteArray} {E : TypeId} (h : W.heap[g]? = some (.cells #[.string r] E (0, 0))) : restLen g W = r.size := by
 have : W.cell? ⟨g, 0, none⟩ = some (.string r) := by simp [World.cell?, h]
 unfold restLen
 rw [this]
theorem own_setCell {g : Nat} {W : World} {r : ByteArray} {E : TypeId} (h : W.heap[g]? = some (.cells #[.string r] E (0, 0))) (r' : ByteArray) :
  (W.setCell ⟨g, 0, none⟩ (.string r')).heap[g]? = some (.cells #[.string r'] E (0, 0)) ∧ OwnStep g W (W.setCell ⟨g, 0, none⟩ (.string r')) := by
 have h1 : (W.setCell ⟨g, 0, none⟩ (.string r')).heap[g]? = some (.cells #[.string r'] E (0, 0)) := by simp [World.setCell, Array.getElem?_modify, h]
 exact ⟨h1, ⟨rfl, rfl, rfl, by simp [World.setCell], fun k hk => absurd hk (Nat.not_lt_zero _)⟩, by simp [World.setCell], fun j hj => by simp [World.setCell, Array.getElem?_modify, Ne.symm hj], r, r', E, h, h1⟩
set_option maxRecDepth 100000 in
set_option maxHeartbeats 2000000 in
theorem split_in (F : Fence) (hF : Open F) (hro : F.round = none) (nn l g B1 B3 : Nat) (sep s : ByteArray) (hsep : sep.size = 1) (hs : s.size ≤ 4294967280) (M : Mem) (m : Int) (E : TypeId)
  (m1 : M B1 0 = some (.string sep)) (m3 : M B3 0 = some (.int .i64 0)) (mm : M 1 0 = some (.int .i64 m)) (hMg : ∀ o, M g o = none)
  (J Jx : List ByteArray → World → Prop) (hJo : ∀ pre A B, J pre A → OwnStep g A B → J pre B)
  (hY : ∀ pre x W1, J pre W1 → pre ++ [x] <+: pieces sep s → YieldAt F (nn - 1) Tryz.prog l #[.string x] W1 fun e W' =>
   (e = .returned (.bool true) ∧ J (pre ++ [x]) W' ∧ KeepM M W1 W' ∧ W'.heap[g]? = W1.heap[g]?) ∨ (e = .returned (.bool false) ∧ Jx (pre ++ [x]) W'))
  (W : World) (hW : ∀ b o v, M b o = some v → W.cell? ⟨b, o, none⟩ = some v) (hg : W.heap[g]? = some (.cells #[.string s] E (0, 0))) (h0 : J [] W) :
  CallsIn F nn Tryz.prog 110 #[.func (.yield l) #[] #[], .pointer (some ⟨B1, 0, none⟩), .pointer (some ⟨g, 0, none⟩), .pointer (some ⟨B3, 0, none⟩)] W fun e W' => (∃ v, e = .returned v) ∧ (J (pieces sep s) W' ∨ ∃ pre, pre <+: pieces sep s ∧ Jx pre W') := by
 have hdd : ∀ k : Nat, (F.depth.isSome = true → 1 ≤ k) := fun k h => by rw [hF.depth] at h; cases h
 have hc1 : W.cell? ⟨B1, 0, none⟩ = some (.string sep) := hW _ _ _ m1
 have hl0 : ((sep.size : Int) == 0) = false := by rw [hsep]; rfl
 refine callsIn_of_wp Tryz.func110 rfl (hF.fn 110) ?_ hro
 simp only [Tryz.ntmps110, List.size_toArray, List.length_cons, List.length_nil, Nat.reduceAdd, Nat.reduceSub, Array.replicate_succ, Array.replicate_zero, List.push_toArray, List.append_toArray, List.nil_append, List.cons_append]
 gi_wp2
 gi_loopw [7] (fun p wr => ∃ pre r, pieces sep s = pre ++ pieces sep r ∧ r.size ≤ s.size ∧ wr.heap[g]? = some (.cells #[.string r] E (0, 0)) ∧ J pre wr ∧ ∀ b o v, M b o = some v → wr.cell? ⟨b, o, none⟩ = some v)
  (fun p wr => restLen g wr)
 case atStart => exact ⟨[], s, rfl, Nat.le_refl _, hg, h0, hW⟩
 case round =>
  obtain ⟨pre, r, hpc, hrs, hgr, hJ, hWr⟩ := hrel
  have k1 : wr.cell? ⟨B1, 0, none⟩ = some (.string sep) := hWr _ _ _ m1
  have k3 : wr.cell? ⟨B3, 0, none⟩ = some (.int .i64 0) := hWr _ _ _ m3
  have km : wr.cell? ⟨1, 0, none⟩ = some (.int .i64 m) := hWr _ _ _ mm
  have kg : wr.cell? ⟨g, 0, none⟩ = some (.string r) := by simp [World.cell?, hgr]
  have kf : wr.frozen? ⟨g, 0, none⟩ = false := by simp [World.frozen?, hgr]
  have hix := (hF.calls (n := nn - 1) (Tryz.strings_Index r sep m wr (by omega) km))
  rcases Lib.indexB_cases r sep with hi | ⟨i, hi, hroom⟩
  ·have hi' : Lib.index r.data.toList sep.data.toList = -1 := hi
   rw [hi'] at hix
   obtain ⟨fn, tmps, assign, body, hy, hR⟩ := hY pre r wr hJ (by rw [hpc, pieces_miss hi]; exact List.prefix_refl _)
   gi_wp2_with ((try refine ⟨hF.fn _, ?_⟩); (try refine ⟨hdd _, ?_⟩); first | (gi_at_call 109; refine hix.mono ?_; rintro e w' ⟨rfl, rfl⟩) | (refine hR.mono ?_; clear hR; rintro e W2 (⟨rfl, hJ2, hk2, hg2⟩ | ⟨rfl, hx2⟩)))
   ·go_end0
    refine ⟨⟨_, rfl⟩, .inl ?_⟩
    rw [hpc, pieces_miss hi]
    exact hJ2
   ·go_end0
    exact ⟨⟨_, rfl⟩, .inr ⟨pre ++ [r], by rw [hpc, pieces_miss hi]; exact List.prefix_refl _, hx2⟩⟩
  ·have hi' : Lib.index r.data.toList sep.data.toList = (i : Int) := hi
   rw [hi'] at hix
   have hpcs := pieces_hit (by omega : 1 ≤ sep.size) hi
   obtain ⟨fn, tmps, assign, body, hy, hR⟩ := hY pre (r.extract 0 i) wr hJ (by rw [hpc, hpcs]; exact ⟨pieces sep (r.extract (i + sep.size) r.size), by simp⟩)
   have hR2 := hR.mono (R' := fun e W2 => (e = .returned (.bool true) ∧ J (pre ++ [r.extract 0 i]) W2 ∧ KeepM M wr W2 ∧ W2.heap[g]? = wr.heap[g]? ∧ W2.cell? ⟨g, 0, none⟩ = some (.string r) ∧ W2.frozen? ⟨g, 0, none⟩ = false ∧ W2.cell? ⟨B1, 0, none⟩ = some (.string sep)) ∨
     (e = .returned (.bool false) ∧ Jx (pre ++ [r.extract 0 i]) W2)) (fun e W2 h => h.imp (fun ⟨a, b, c, d⟩ => ⟨a, b, c, d, by simp [World.cell?, d, hgr], by simp [World.frozen?, d, hgr], c _ _ _ m1 k1⟩) id)
   clear hR
   gi_wp2_with ((try refine ⟨hF.fn _, ?_⟩); (try refine ⟨hdd _, ?_⟩); first | (gi_at_call 109; refine hix.mono ?_; rintro e w' ⟨rfl, rfl⟩) | (refine hR2.mono ?_; clear hR2; rintro e W2 (⟨rfl, hJ2, hk2, hg2, q1, q2, q3⟩ | ⟨rfl, hx2⟩)))
   ·have hb2 : W2.heap[g]? = some (.cells #[.string r] E (0, 0)) := hg2.trans hgr
    have hst := own_setCell hb2 (r.extract (i + 1) r.size)
    have hsz : (r.extract (i + 1) r.size).size = r.size - (i + 1) := by rw [ByteArray.size_extract]; omega
    obtain ⟨hn, hs2⟩ := hst
    refine ⟨⟨pre ++ [r.extract 0 i], r.extract (i + 1) r.size, ?_, by omega, hn, hJo _ _ _ hJ2 hs2, fun b o v hv => ?_⟩, ?_⟩
    ·rw [hpc, hpcs, hsep]; simp
    ·have hne : b ≠ g := fun e => by rw [e, hMg] at hv; cases hv
     exact (World.cell?_of_block (w := W2) (hs2.same b hne)).trans (hk2 b o v hv (hWr b o v hv))
    ·rw [restLen_of hn, restLen_of hgr, hsz]
     omega
   ·refine bodyPost_ret (results_none rfl _ _ _) rfl ?_
    exact ⟨⟨_, rfl⟩, .inr ⟨pre ++ [r.extract 0 i], by rw [hpc, hpcs]; exact ⟨pieces sep (r.extract (i + sep.size) r.size), by simp⟩, hx2⟩⟩
set_option maxHeartbeats 1000000 in
theorem splitSeq_in (F : Fence) (nn : Nat) (hF : ∀ f, F.fn f) (hro : F.round = none) (s sep : ByteArray) (w : World) :
  CallsIn F nn Tryz.prog 70 #[.string s, .string sep, .int .i64 0] w fun e w' => e = .returned (.func (.func 110) #[] #[.pointer (some ⟨w.heap.size + 1, 0, none⟩), .pointer (some ⟨w.heap.size, 0, none⟩), .pointer (some ⟨w.heap.size + 1 + 1, 0, none⟩)]) ∧
   w' = ((w.alloc (.cells #[.string s] 9)).alloc (.cells #[.string sep] 9)).alloc (.cells #[.int .i64 0] 3) := by
 refine callsIn_of_wp Tryz.func70 rfl (hF 70) ?_ hro
 simp only [Tryz.ntmps70, List.size_toArray, List.length_cons, List.length_nil, Nat.reduceAdd, Nat.reduceSub, Array.replicate_succ, Array.replicate_zero, List.push_toArray, List.append_toArray, List.nil_append, List.cons_append]
 gi_wp2
 go_ret
 exact ⟨rfl, rfl⟩
set_option maxHeartbeats 1000000 in
theorem SplitSeq_in (F : Fence) (nn : Nat) (hd : F.depth = none) (hF : ∀ f, F.fn f) (hro : F.round = none) (s sep : ByteArray) (w : World) :
  CallsIn F nn Tryz.prog 31 #[.string s, .string sep] w fun e w' => e = .returned (.func (.func 110) #[] #[.pointer (some ⟨w.heap.size + 1, 0, none⟩), .pointer (some ⟨w.heap.size, 0, none⟩), .pointer (some ⟨w.heap.size + 1 + 1, 0, none⟩)]) ∧
   w' = ((w.alloc (.cells #[.string s] 9)).alloc (.cells #[.string sep] 9)).alloc (.cells #[.int .i64 0] 3) := by
 have hdd : ∀ k : Nat, (F.depth.isSome = true → 1 ≤ k) := fun k h => by rw [hd] at h; cases h
 refine callsIn_of_wp Tryz.func31 rfl (hF 31) ?_ hro
 simp only [Tryz.ntmps31, List.size_toArray, List.length_cons, List.length_nil, Nat.reduceAdd, Nat.reduceSub, Array.replicate_succ, Array.replicate_zero, List.push_toArray, List.append_toArray, List.nil_append, List.cons_append]
 gi_wp2_with ((try refine ⟨hF _, ?_⟩); (try refine ⟨hdd _, ?_⟩); fail)
 gi_at_call 70
 refine (splitSeq_in F (nn - 1) hF hro s sep w).mono ?_
 rintro e w' ⟨rfl, rfl⟩
 gi_wp2
 go_ret
 exact ⟨rfl, rfl⟩
theorem i_strings_SplitSeq : FCi Tryz.prog 31 it_strings_SplitSeq := by
 refine ⟨enters_of (by kernel_rfl), fun s sep M w hg => ?_⟩
 refine Calls.mono ((callsIn_wide (n := 3)).1 (SplitSeq_in Fence.wide 3 rfl (fun _ => trivial) rfl s sep w)) fun e w' he => ?_
 obtain ⟨rfl, rfl⟩ := he
 obtain ⟨W1, hW1⟩ : ∃ W1, w.alloc (.cells #[.string s] 9) = W1 := ⟨_, rfl⟩
 obtain ⟨W2, hW2⟩ : ∃ W2, W1.alloc (.cells #[.string sep] 9) = W2 := ⟨_, rfl⟩
 obtain ⟨W3, hW3⟩ : ∃ W3, W2.alloc (.cells #[.int .i64 0] 3) = W3 := ⟨_, rfl⟩
 rw [hW1, hW2, hW3]
 have z1 : W1.heap.size = w.heap.size + 1 := by rw [← hW1, World.size_alloc]
 have z2 : W2.heap.size = w.heap.size + 2 := by rw [← hW2, World.size_alloc, z1]
 have z3 : W3.heap.size = w.heap.size + 3 := by rw [← hW3, World.size_alloc, z2]
 have b1 : Below w.heap.size w W1 := by rw [← hW1]; exact (Below.refl _ w).alloc (Nat.le_refl _) _
 have b2 : Below W1.heap.size W1 W2 := by rw [← hW2]; exact (Below.refl _ W1).alloc (Nat.le_refl _) _
 have b3 : Below W2.heap.size W2 W3 := by rw [← hW3]; exact (Below.refl _ W2).alloc (Nat.le_refl _) _
 have hb : Below w.heap.size w W3 := b1.trans ((b2.mono (by omega)).trans (b3.mono (by omega)))
 have h1 : W3.heap[w.heap.size]? = some (.cells #[.string s] 9 (0, 0)) := by
  rw [b3.block _ (by omega), b2.block _ (by omega), ← hW1]; exact World.alloc_heap_new w _
 have h2 : W3.heap[w.heap.size + 1]? = some (.cells #[.string sep] 9 (0, 0)) := by
  rw [b3.block _ (by omega), ← z1, ← hW2]; exact World.alloc_heap_new W1 _
 have h3 : W3.heap[w.heap.size + 1 + 1]? = some (.cells #[.int .i64 0] 3 (0, 0)) := by
  rw [show w.heap.size + 1 + 1 = w.heap.size + 2 from rfl, ← z2, ← hW3]; exact World.alloc_heap_new W2 _
 have hg3 := good_below hg hb
 obtain ⟨N, hN⟩ : ∃ N : Mem, N = fun b o => if b = w.heap.size + 1 then (if o = 0 then some (.string sep) else none) else if b = w.heap.size + 1 + 1 then (if o = 0 then some (.int .i64 0) else none) else M b o := ⟨_, rfl⟩
 have hle : Mem.le M N := by
  intro b o x hx
  have n1 : b ≠ w.heap.size + 1 := fun e => by rw [e, mem_none hg (by omega)] at hx; cases hx
  have n2 : b ≠ w.heap.size + 1 + 1 := fun e => by rw [e, mem_none hg (by omega)] at hx; cases hx
  rw [hN]
  simp only [if_neg n1, if_neg n2]
  exact hx
 have hNc : ∀ b o v, N b o = some v → W3.cell? ⟨b, o, none⟩ = some v := by
  intro b o x hx
  rw [hN] at hx
  simp only at hx
  split at hx
  ·rename_i e1
   subst e1
   split at hx
   ·rename_i e2; subst e2; cases hx
    simp [World.cell?, h2]
   ·cases hx
  ·split at hx
   ·rename_i e1
    subst e1
    split at hx
    ·rename_i e2; subst e2; cases hx
     simp [World.cell?, h3]
    ·cases hx
   ·exact hg3.2 b o x hx
 have hgN : Good N W3 := ⟨Tab.keep hle (SameSizes.refl W3) hg3.1, hNc⟩
 have hno : ∀ o, N w.heap.size o = none := fun o => by
  rw [hN]
  simp only [if_neg (show w.heap.size ≠ w.heap.size + 1 by omega), if_neg (show w.heap.size ≠ w.heap.size + 1 + 1 by omega)]
  exact mem_none hg (Nat.le_refl _) o
 obtain ⟨v, c1, m, rfl⟩ := hgN.1.2 (1, false) (by simp)
 refine ⟨N, w.heap.size, 9, 110, _, rfl, hgN, ⟨hb, fun b hlt => ?_⟩, Nat.le_refl _, h1, hno, Go.Proofs.enters_of Tryz.func110 (by kernel_rfl) rfl, ?_⟩
 ·funext o
  rw [hN]
  simp only [if_neg (show b ≠ w.heap.size + 1 by omega), if_neg (show b ≠ w.heap.size + 1 + 1 by omega)]
 ·intro r xs hr F n l J Jx W E hd hfn hal hro hW hgr hMg _ _ hJo hY h0
  have hr : splitF sep r = some xs := hr
  unfold splitF at hr
  cases hc : (sep.size == 1) && decide (r.size ≤ 4294967280) with
  | false => rw [hc] at hr; cases hr
  | true =>
   rw [hc, cond_true, Option.some.injEq] at hr
   rw [Bool.and_eq_true, decide_eq_true_eq, beq_iff_eq] at hc
   have hr : pieces sep r = xs := hr
   subst hr
   exact split_in F ⟨hfn, hd, hal⟩ hro n l w.heap.size (w.heap.size + 1) (w.heap.size + 1 + 1) sep r hc.1 hc.2 N m E (by rw [hN]; simp) (by rw [hN]; simp) c1 hMg J Jx hJo hY W hW hgr h0
end Go.Lift
