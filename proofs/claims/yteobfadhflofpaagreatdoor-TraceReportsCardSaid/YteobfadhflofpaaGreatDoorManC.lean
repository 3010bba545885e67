/-
  The iterator over all sets of causes.
-/
import Derived.Test.YteobfadhflofpaaGreatDoorManB
import Derived.RangeFuncFrom
import Derived.RangeFuncBound
import Derived.RangeFuncLeaves
import Derived.RangeFuncBox
import Derived.RangeFuncCalls
import Derived.RangeFuncWrites
import Derived.OwnWalkIn
import Derived.TacticsInMore
import Derived.WalkKit
import Derived.LoopNIn
import Derived.LoopIn
set_option linter.unusedSectionVars false
set_option linter.unusedVariables false
set_option linter.unusedSimpArgs false
namespace Go.Lift
open Go Go.Proofs Go.RowKit
attribute [local go_sem] Oper.semAt_some
theorem room_of_none {F : Fence} (hd : F.depth = none) (k : Nat) : F.room k := fun d h => by rw [hd] at h; cases h
theorem round_anyDepth {F : Fence} (hd : F.depth = none) {m m' : Nat} {P : Program} {l : Nat} {f : FuncId} {tmps : Array Value} {assign body : Code} {w : World} {R : Ending → World → Prop}
  (h : RoundIn F m P l f tmps assign body w R) : RoundIn F m' P l f tmps assign body w R := ⟨h.1, fun c cs _ => h.2 c cs (room_of_none hd _)⟩
theorem yield_anyDepth {F : Fence} (hd : F.depth = none) {m : Nat} (m' : Nat) {P : Program} {l : Nat} {args : Array Value} {W : World} {R : Ending → World → Prop} (h : YieldAt F m P l args W R) : YieldAt F m' P l args W R := by
 obtain ⟨fn, tmps, assign, body, hy, hR⟩ := h
 exact ⟨fn, tmps, assign, body, hy, round_anyDepth hd hR⟩
def extFrom (m : Nat) (s i n : Int) : List Int := ((List.range (n - i).toNat).map fun (j : Nat) => extL m (ior .u64 s (ishl .u64 1 (i + (j : Int)))) (i + (j : Int) + 1) n).flatten
theorem extFrom_nil {m : Nat} {s i n : Int} (h : n ≤ i) : extFrom m s i n = [] := by
 unfold extFrom
 rw [show (n - i).toNat = 0 by omega]; rfl
theorem extFrom_cons {m : Nat} {s i n : Int} (h : i < n) : extFrom m s i n = extL m (ior .u64 s (ishl .u64 1 i)) (i + 1) n ++ extFrom m s (i + 1) n := by
 unfold extFrom
 rw [show (n - i).toNat = (n - (i + 1)).toNat + 1 by omega, List.range_succ_eq_map, List.map_cons, List.flatten_cons, List.map_map]
 congr 1
 ·congr 2 <;> simp
 ·congr 1
  apply List.map_congr_left
  intro j _
  simp only [Function.comp]
  have h1 : i + (((j + 1 : Nat)) : Int) = i + 1 + (j : Int) := by omega
  rw [Nat.succ_eq_add_one, h1]
theorem extL_succ (m : Nat) (s i n : Int) : extL (m + 1) s i n = extFrom m s i n := rfl
set_option maxRecDepth 100000 in
set_option maxHeartbeats 2000000 in
theorem ext_in (F : Fence) (hd : F.depth = none) (hF : ∀ f, F.fn f) (hro : F.round = none) (Kp : World → World → Prop) (kr : ∀ W, Kp W W) (kt : ∀ A B C, Kp A B → Kp B C → Kp A C) (l : Nat) (L : List Int) (J Jx : List Int → World → Prop)
  (hY : ∀ m pre x W, pre ++ [x] <+: L → J pre W → YieldAt F m Tryz.prog l #[.int .u64 x] W fun e W' =>
   (e = .returned (.bool true) ∧ J (pre ++ [x]) W' ∧ Kp W W') ∨ (e = .returned (.bool false) ∧ Jx (pre ++ [x]) W')) (n : Int) (hn : 0 ≤ n ∧ n ≤ 8) (m : Nat) :
  ∀ (nn : Nat) (s at_ : Int) (pre : List Int) (W : World), 0 ≤ at_ → at_ ≤ 9 → m ≤ 9 → J pre W → pre ++ extL m s at_ n <+: L →
   CallsIn F nn Tryz.prog 142 #[.int .u64 s, .int .i64 at_, .int .i64 n, .int .i64 m, .func (.yield l) #[] #[]] W fun e W' =>
    (e = .returned (.bool true) ∧ J (pre ++ extL m s at_ n) W' ∧ Kp W W') ∨ (e = .returned (.bool false) ∧ ∃ q, q <+: extL m s at_ n ∧ Jx (pre ++ q) W') := by
 have hdd : ∀ k : Nat, (F.depth.isSome = true → 1 ≤ k) := fun k h => by rw [hd] at h; cases h
 induction m with
 | zero =>
  intro nn s at_ pre W h0 h9 hm hJ hN
  obtain ⟨fn, tmps, assign, body, hy, hR⟩ := hY (nn - 1) pre s W hN hJ
  refine callsIn_of_wp Tryz.func142 rfl (hF 142) ?_ hro
  simp only [Tryz.ntmps142, List.size_toArray, List.length_cons, List.length_nil, Nat.reduceAdd, Nat.reduceSub, Array.replicate_succ, Array.replicate_zero, List.push_toArray, List.append_toArray, List.nil_append, List.cons_append]
  gi_wp2_with ((try refine ⟨hdd _, ?_⟩); refine hR.mono ?_; clear hR; rintro e W2 (⟨rfl, hJ2, hb2⟩ | ⟨rfl, hx2⟩))
  ·go_ret
   exact .inl ⟨rfl, hJ2, hb2⟩
  ·go_ret
   exact .inr ⟨rfl, [s], List.prefix_refl _, hx2⟩
 | succ m ih =>
  intro nn s at_ pre W h0 h9 hm hJ hN
  obtain ⟨mm, hmm⟩ : ∃ mm : Int, mm - (m : Int) = 1 := ⟨(m : Int) + 1, by omega⟩
  rw [show ((m + 1 : Nat) : Int) = mm by omega]
  have hm0 : (mm == 0) = false := by rw [beq_eq_false_iff_ne]; omega
  refine callsIn_of_wp Tryz.func142 rfl (hF 142) ?_ hro
  simp only [Tryz.ntmps142, List.size_toArray, List.length_cons, List.length_nil, Nat.reduceAdd, Nat.reduceSub, Array.replicate_succ, Array.replicate_zero, List.push_toArray, List.append_toArray, List.nil_append, List.cons_append]
  gi_wp2
  gi_loopw [11] (fun p wr => ∃ (i : Int) (pd : List Int), p = .int .i64 i ∧ at_ ≤ i ∧ i ≤ 9 ∧ extFrom m s at_ n = pd ++ extFrom m s i n ∧ J (pre ++ pd) wr ∧ Kp W wr)
   (fun p wr => (9 - intOf p).toNat)
  case atStart =>
   exact ⟨at_, [], rfl, Int.le_refl _, h9, rfl, by rw [List.append_nil]; exact hJ, kr _⟩
  case round =>
   obtain ⟨i, pd, rfl, hi, hi9, he, hJs, hbs⟩ := hrel
   by_cases hin : i < n
   ·have hbits : bits BinOp.or IntKind.u64 s (IntKind.u64.wrap (2 ^ i.toNat)) = ior .u64 s (ishl .u64 1 i) := by
     unfold ior ishl
     rw [Int.one_mul, Nat.min_eq_left (show i.toNat ≤ IntKind.u64.bits by show i.toNat ≤ 64; omega)]
     rfl
    rw [extL_succ, he, extFrom_cons hin] at hN
    have ih1 := ih (nn - 1) (ior .u64 s (ishl .u64 1 i)) (i + 1) (pre ++ pd) wr (by omega) (by omega) (by omega) hJs (List.IsPrefix.trans ⟨extFrom m s (i + 1) n, by simp only [List.append_assoc]⟩ hN)
    rw [show (m : Int) = mm - 1 by omega] at ih1
    gi_wp2_with ((try refine ⟨hdd _, ?_⟩); gi_at_call 142; refine ih1.mono ?_; clear ih1; rintro e W1 (⟨rfl, hJ1, hb1⟩ | ⟨rfl, q, hq, hx⟩))
    ·go_roundw
     case rel =>
      refine ⟨i + 1, pd ++ extL m (ior .u64 s (ishl .u64 1 i)) (i + 1) n, rfl, by omega, by omega, ?_, ?_, kt _ _ _ hbs hb1⟩
      ·rw [he, extFrom_cons hin, List.append_assoc]
      ·rw [← List.append_assoc]; exact hJ1
     case measure =>
      simp only [intOf]
      omega
    ·go_ret
     refine .inr ⟨rfl, pd ++ q, ?_, by rw [← List.append_assoc]; exact hx⟩
     rw [extL_succ, he, extFrom_cons hin]
     obtain ⟨r, hr⟩ := hq
     exact ⟨r ++ extFrom m s (i + 1) n, by rw [← hr]; simp only [List.append_assoc]⟩
   ·gi_wp2
    go_ret
    rw [extFrom_nil (by omega : n ≤ i), List.append_nil] at he
    exact .inl ⟨rfl, by rw [extL_succ, he]; exact hJs, hbs⟩
def keepB (Bt : Nat) (n : Int) (A B : World) : Prop := A.cell? ⟨Bt, 0, none⟩ = some (.int .i64 n) → B.cell? ⟨Bt, 0, none⟩ = some (.int .i64 n)
theorem keepB_refl (Bt : Nat) (n : Int) (W : World) : keepB Bt n W W := id
theorem keepB_trans (Bt : Nat) (n : Int) (A B C : World) (h : keepB Bt n A B) (k : keepB Bt n B C) : keepB Bt n A C := fun x => k (h x)
def setsUpto (n : Int) (k : Nat) : List Int := ((List.range k).map fun m => extL m 0 0 n).flatten
theorem setsUpto_succ (n : Int) (k : Nat) : setsUpto n (k + 1) = setsUpto n k ++ extL k 0 0 n := by
 unfold setsUpto
 rw [List.range_succ, List.map_append, List.flatten_append]
 simp
theorem setsUpto_prefix (n : Int) {k j : Nat} (h : k ≤ j) : setsUpto n k <+: setsUpto n j := by
 induction h with
 | refl => exact List.prefix_refl _
 | step _ ih => exact ih.trans (by rw [setsUpto_succ]; exact List.prefix_append _ _)
set_option maxRecDepth 100000 in
set_option maxHeartbeats 2000000 in
theorem sets1_in (F : Fence) (hd : F.depth = none) (nn : Nat) (hF : ∀ f, F.fn f) (hro : F.round = none) (l Bt : Nat) (n : Int) (hn : 0 ≤ n ∧ n ≤ 8) (J Jx : List Int → World → Prop)
  (hY : ∀ pre x W, pre ++ [x] <+: setsL n → J pre W → YieldAt F (nn - 1) Tryz.prog l #[.int .u64 x] W fun e W' =>
   (e = .returned (.bool true) ∧ J (pre ++ [x]) W' ∧ keepB Bt n W W') ∨ (e = .returned (.bool false) ∧ Jx (pre ++ [x]) W'))
  (W : World) (hc : W.cell? ⟨Bt, 0, none⟩ = some (.int .i64 n)) (h0 : J [] W) :
  CallsIn F nn Tryz.prog 141 #[.func (.yield l) #[] #[], .pointer (some ⟨Bt, 0, none⟩)] W fun e W' => (∃ v, e = .returned v) ∧
   ((∃ ys, ys = setsL n ∧ J ys W') ∨ (∃ pre, pre <+: setsL n ∧ Jx pre W')) := by
 have hdd : ∀ k : Nat, (F.depth.isSome = true → 1 ≤ k) := fun k h => by rw [hd] at h; cases h
 have hL : setsL n = setsUpto n (n.toNat + 1) := rfl
 refine callsIn_of_wp Tryz.func141 rfl (hF 141) ?_ hro
 simp only [Tryz.ntmps141, List.size_toArray, List.length_cons, List.length_nil, Nat.reduceAdd, Nat.reduceSub, Array.replicate_succ, Array.replicate_zero, List.push_toArray, List.append_toArray, List.nil_append, List.cons_append]
 gi_wp2
 gi_loopw [6] (fun p wr => ∃ k : Nat, p = .int .i64 (k : Int) ∧ (k : Int) ≤ n + 1 ∧ J (setsUpto n k) wr ∧ keepB Bt n W wr)
  (fun p wr => (9 - intOf p).toNat)
 case atStart =>
  exact ⟨0, rfl, by omega, h0, keepB_refl _ _ _⟩
 case round =>
  obtain ⟨k, rfl, hk, hJs, hbs⟩ := hrel
  by_cases hin : (k : Int) < n + 1
  ·have hp : setsUpto n (k + 1) <+: setsL n := by rw [hL]; exact setsUpto_prefix n (by omega)
   have ih1 := ext_in F hd hF hro (keepB Bt n) (keepB_refl Bt n) (keepB_trans Bt n) l (setsL n) J Jx (fun m pre x W hj hl => yield_anyDepth hd m (hY pre x W hj hl)) n hn k (nn - 1) 0 0 (setsUpto n k) wr (by omega) (by omega) (by omega) hJs (by rw [← setsUpto_succ]; exact hp)
   have hc2 : wr.cell? ⟨Bt, 0, none⟩ = some (.int .i64 n) := hbs hc
   gi_wp2_with ((try refine ⟨hdd _, ?_⟩); gi_at_call 142; refine ih1.mono ?_; clear ih1; rintro e W1 (⟨rfl, hJ1, hb1⟩ | ⟨rfl, q, hq, hx⟩))
   ·refine ⟨⟨k + 1, by simp, by omega, by rw [setsUpto_succ]; exact hJ1, keepB_trans _ _ _ _ _ hbs hb1⟩, ?_⟩
    simp only [intOf]
    omega
   ·refine bodyPost_ret (results_none rfl _ _ _) rfl ?_
    refine ⟨⟨_, rfl⟩, .inr ⟨setsUpto n k ++ q, ?_, hx⟩⟩
    obtain ⟨r, hr⟩ := hq
    refine List.IsPrefix.trans ⟨r, ?_⟩ hp
    rw [setsUpto_succ, ← hr, List.append_assoc]
  ·gi_wp2
   go_end0
   refine ⟨⟨_, rfl⟩, .inl ?_⟩
   rw [← show k = n.toNat + 1 by omega]
   exact hJs
set_option maxHeartbeats 1000000 in
theorem sets_in (F : Fence) (nn : Nat) (hF : ∀ f, F.fn f) (hro : F.round = none) (n : Int) (w : World) :
  CallsIn F nn Tryz.prog 100 #[.int .i64 n] w fun e w' => e = .returned (.func (.func 141) #[] #[.pointer (some ⟨w.heap.size, 0, none⟩)]) ∧ w' = w.alloc (.cells #[.int .i64 n] 3) := by
 refine callsIn_of_wp Tryz.func100 rfl (hF 100) ?_ hro
 simp only [Tryz.ntmps100, List.size_toArray, List.length_cons, List.length_nil, Nat.reduceAdd, Nat.reduceSub, Array.replicate_succ, Array.replicate_zero, List.push_toArray, List.append_toArray, List.nil_append, List.cons_append]
 gi_wp2
 go_ret
 exact ⟨rfl, rfl⟩
theorem sets_stops (F : Fence) (hd : F.depth = none) (nn : Nat) (hF : ∀ f, F.fn f) (hro : F.round = none) (Bt : Nat) (n : Int) (hn : 0 ≤ n ∧ n ≤ 8) (w : World) (hBt : Bt < w.heap.size) (hc : w.cell? ⟨Bt, 0, none⟩ = some (.int .i64 n)) :
  SeqStopsK F nn Tryz.prog 141 #[.pointer (some ⟨Bt, 0, none⟩)] (fun x : {x : Int // x ∈ setsL n} => #[Value.int .u64 x.1]) (keepB Bt n) (fun ys => ys.map (·.1) = setsL n) (fun pre => pre.map (·.1) <+: setsL n) (setsL n).length w := by
 intro l J Jx W hW hJ hJx hY h0
 refine (sets1_in F hd nn hF hro l Bt n hn (fun pre W => ∃ p : List {x : Int // x ∈ setsL n}, p.map (·.1) = pre ∧ J p W) (fun pre W => ∃ p : List {x : Int // x ∈ setsL n}, p.map (·.1) = pre ∧ Jx p W) ?_ W ((hW.cell (p := ⟨Bt, 0, none⟩) hBt).trans hc) ⟨[], rfl, h0⟩).mono ?_
 ·rintro pre x W1 hp ⟨p, rfl, hj⟩
  have hx : x ∈ setsL n := hp.subset (List.mem_append_right _ (List.mem_singleton_self x))
  have hlen : p.length < (setsL n).length := by
   have := hp.length_le
   rw [List.length_append, List.length_map, List.length_singleton] at this
   omega
  refine YieldAt.mono (hY p ⟨x, hx⟩ W1 hj hlen) ?_
  rintro e W' (⟨rfl, h1, h2⟩ | ⟨rfl, h1⟩)
  ·exact .inl ⟨rfl, ⟨p ++ [⟨x, hx⟩], by simp, h1⟩, h2⟩
  ·exact .inr ⟨rfl, ⟨p ++ [⟨x, hx⟩], by simp, h1⟩⟩
 ·rintro e W' ⟨hv, ⟨ys, rfl, p, hp, hj⟩ | ⟨pre, hpre, p, rfl, hj⟩⟩
  ·exact ⟨hv, .inl ⟨p, hp, hj⟩⟩
  ·exact ⟨hv, .inr ⟨p, hpre, hj⟩⟩
end Go.Lift
