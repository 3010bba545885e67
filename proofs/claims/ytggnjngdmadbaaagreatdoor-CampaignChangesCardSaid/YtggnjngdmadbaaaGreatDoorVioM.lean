/-
  The walk of the sequence of all violations, and its contract.
-/
import Derived.Test.YtggnjngdmadbaaaGreatDoorManB
import Derived.Test.YtggnjngdmadbaaaGreatDoorFunH
import Derived.Test.YtggnjngdmadbaaaGreatDoorVioF
import Derived.Test.YtggnjngdmadbaaaGreatDoorManD
import Derived.Test.YtggnjngdmadbaaaGreatDoorLiftP
import Derived.Test.YtggnjngdmadbaaaGreatDoorManC
set_option linter.unusedSectionVars false
set_option linter.unusedVariables false
set_option linter.unusedSimpArgs false
namespace Go.Lift
open Go Go.Proofs Go.RowKit
attribute [local go_sem] Oper.semAt_some
def vioV (x : Int × Int) : Value := .agg #[.int .i64 x.1, .int .i64 x.2]
theorem yb9 {M : Mem} (x : Int × Int) : z0z (Ty.pair (.int .i64) (.int .i64)).agg (relC Tryz.prog (.pair (.int .i64) (.int .i64)) M x) (vioV x) := ⟨_, rfl, rfl, rfl⟩
theorem zw2 {F : Fence} (hF : Open F) (n : Nat) {M : Mem} {w : World} (hg : Good M w) {r : z05} {s : List Int} {p : Int} {f : Nat → Bool} {rv sv : Value} (hr : relV Tryz.prog z0a M r rv) (hs : relV Tryz.prog (.slice (.int .i64)) M s sv) (h : z1a r s p = some f) :
  CallsIn F n Tryz.prog 181 #[rv, sv, .int .i64 p] w fun e w' => ∃ M', e = .returned (.agg #[.bool (f 0), .bool (f 1), .bool (f 2), .bool (f 3), .bool (f 4)]) ∧ Good M' w' ∧ Grow M w M' w' :=
 (hF.calls (za3.2 (r, s, p) f h M w [rv, sv, .int .i64 p] hg ⟨_, _, rfl, hr, _, _, rfl, hs, _, rfl, z2m.2 rfl⟩)).mono (by
  rintro e w' ⟨M', v, rfl, hv, hg', hgr⟩
  obtain ⟨cs, rfl, hl, hc⟩ : ∃ cs : Array Value, v = .agg cs ∧ cs.toList.length = 5 * 1 ∧ ∀ i, i < 5 → relC Tryz.prog .bool M' (f i) ((cs.toList.drop (i * 1)).take 1) := hv
  refine ⟨M', ?_, hg', hgr⟩
  obtain ⟨l⟩ := cs
  match l, hl with
  | [a, b, c, d, e], _ =>
   have h0 : [a] = [Value.bool (f 0)] := hc 0 (by omega)
   have h1 : [b] = [Value.bool (f 1)] := hc 1 (by omega)
   have h2 : [c] = [Value.bool (f 2)] := hc 2 (by omega)
   have h3 : [d] = [Value.bool (f 3)] := hc 3 (by omega)
   have h4 : [e] = [Value.bool (f 4)] := hc 4 (by omega)
   simp only [List.cons.injEq, and_true] at h0 h1 h2 h3 h4
   rw [h0, h1, h2, h3, h4])
theorem y2t {M : Mem} {r : z05} {cs : List Value} (h : relC Tryz.prog z0a M r cs) : ∃ p n c, cs = [.int .i64 r.1.1, .int .i64 r.1.2.1, .int .i64 r.1.2.2.1, .int .i64 r.1.2.2.2.1, .int .i64 r.1.2.2.2.2.1, .int .i64 r.1.2.2.2.2.2.1, .int .i64 r.1.2.2.2.2.2.2.1, .int .i64 r.1.2.2.2.2.2.2.2.1, .int .i64 r.1.2.2.2.2.2.2.2.2, .slice p n c] := by
 have hl := z1n z0a M r cs h
 match cs, hl with
 | [a1, a2, a3, a4, a5, a6, a7, a8, a9, a10], _ =>
  obtain ⟨⟨h1, h2, h3, h4, h5, h6, h7, h8, h9⟩, v, h10, h11⟩ := h
  simp only [relC, List.take, List.drop, Ty.size, List.cons.injEq, and_true] at h1 h2 h3 h4 h5 h6 h7 h8 h9 h10
  subst h1 h2 h3 h4 h5 h6 h7 h8 h9 h10
  rcases h11 with ⟨rfl, _⟩ | ⟨_, _, _, _, rfl, _⟩ | ⟨_, _, rfl, _⟩ <;> exact ⟨_, _, _, rfl⟩
theorem y07 {e : Ty} {M : Mem} {x : List e.den} {v : Value} (h : relV Tryz.prog (.slice e) M x v) : ∃ p c, v = .slice p x.length c := by
 obtain ⟨v', h1, h2⟩ : relC Tryz.prog (.slice e) M x [v] := h
 simp only [List.cons.injEq, and_true] at h1
 subst h1
 rcases h2 with ⟨h2, h3⟩ | ⟨_, _, _, _, h2, _⟩ | ⟨_, _, h2, h3⟩
 ·subst h3; exact ⟨_, _, h2⟩
 ·exact ⟨_, _, h2⟩
 ·subst h3; exact ⟨_, _, h2⟩
theorem und237 : Tryz.prog.underlying 237 = some (.array 5 4) := by kernel_rfl
theorem y6z (W : World) (f : Nat → Bool) {k : Nat} (hk : k < 5) : (Instr.index 237 (.agg #[.bool (f 0), .bool (f 1), .bool (f 2), .bool (f 3), .bool (f 4)]) (.int .i64 (k : Int))).run Tryz.prog W = .ok (.bool (f k)) W := by
 obtain ⟨i, d, hi⟩ := z1j (show fits Tryz.prog .bool (.inl 4) = true by kernel_rfl)
 have hb : (0 : Int) ≤ (k : Int) ∧ (k : Int) < ((5 : Nat) : Int) := by omega
 have hrun := zig (P := Tryz.prog) (u := .bool) (T := 4) (by kernel_rfl) (M := fun _ _ => none) (y := f k) (cs := [.bool (f 0), .bool (f 1), .bool (f 2), .bool (f 3), .bool (f 4)]) (off := k) (by
  obtain rfl | rfl | rfl | rfl | rfl : k = 0 ∨ k = 1 ∨ k = 2 ∨ k = 3 ∨ k = 4 := by omega
  all_goals rfl) (by simp only [Ty.size, List.length_cons, List.length_nil]; omega) W
 have hres : z9o .bool ((([.bool (f 0), .bool (f 1), .bool (f 2), .bool (f 3), .bool (f 4)] : List Value).drop k).take Ty.bool.size) = .bool (f k) := by
  obtain rfl | rfl | rfl | rfl | rfl : k = 0 ∨ k = 1 ∨ k = 2 ∨ k = 3 ∨ k = 4 := by omega
  all_goals rfl
 rw [hres] at hrun
 simp only [Instr.index, Sem.run_bind, zag, Result.andThen_ok, run_underlying und237, hb, and_self, if_true, z27 hi, Int.toNat_natCast]
 rw [show k * Ty.bool.size = k from Nat.mul_one k]
 exact hrun
def zne (f : Nat → Bool) (p : Int) (k : Nat) : List (Int × Int) := (((List.range k).filter f).map fun (j : Nat) => (j : Int)).map fun k => (p, k)
theorem zlm (f : Nat → Bool) (p : Int) (k : Nat) : zne f p (k + 1) = zne f p k ++ (if f k then [(p, (k : Int))] else []) := by
 unfold zne
 rw [List.range_succ, List.filter_append, List.map_append, List.map_append]
 cases hf : f k <;> simp [hf]
theorem y66 (f : Nat → Bool) (p : Int) : zne f p 5 = (zoh f).map fun k => (p, k) := rfl
theorem zzx (f : Nat → Bool) (p : Int) {k : Nat} (hk : k ≤ 5) : zne f p k <+: zne f p 5 := by
  induction h : 5 - k generalizing k with
  | zero => obtain rfl : k = 5 := by omega
            exact List.prefix_refl _
  | succ d ih => exact List.IsPrefix.trans ⟨_, (zlm f p k).symm⟩ (ih (k := k + 1) (by omega) (by omega))
set_option maxRecDepth 100000 in
set_option maxHeartbeats 8000000 in
theorem vio_in (F : Fence) (hF : Open F) (hro : F.round = none) (nn l g3 o3 g2 o2 : Nat) (M : Mem) (r : z05) (s : List Int) (xs : List (Int × Int)) (hlen : s.length ≤ 1000000) (hxs : zid r s s.length 0 = some xs) (sv : Value) (cells : List Value) (hsv : relV Tryz.prog (.slice (.int .i64)) M s sv) (m3 : M g3 o3 = some sv) (hr : relC Tryz.prog z0a M r cells) (m2 : M.has g2 o2 cells)
  (J Jx : List (Int × Int) → Mem → World → Prop) (M0 : Mem) (hM : Mem.le M M0) (hJg : ∀ pre N W, J pre N W → Good N W) (hJc : z9d J)
  (hY : ∀ pre x N W1, J pre N W1 → pre ++ [x] <+: xs → YieldAt F (nn - 1) Tryz.prog l #[vioV x] W1 fun e W' =>
   ∃ N', Mem.le N N' ∧ ((e = .returned (.bool true) ∧ J (pre ++ [x]) N' W') ∨ (e = .returned (.bool false) ∧ Jx (pre ++ [x]) N' W')))
  (W : World) (h0 : J [] M0 W) :
  CallsIn F nn Tryz.prog 191 #[.func (.yield l) #[] #[], .pointer (some ⟨g3, o3, none⟩), .pointer (some ⟨g2, o2, none⟩)] W fun e W' => (∃ v, e = .returned v) ∧ ∃ N', Mem.le M0 N' ∧ (J xs N' W' ∨ ∃ pre, pre <+: xs ∧ Jx pre N' W') := by
 have hdd : ∀ k : Nat, (F.depth.isSome = true → 1 ≤ k) := fun k h => by rw [hF.depth] at h; cases h
 obtain ⟨sp, sc, rfl⟩ := y07 hsv
 obtain ⟨ip, il, ic, rfl⟩ := y2t hr
 have hc3 : ∀ {N : Mem} {A : World}, Mem.le M0 N → Good N A → A.cell? ⟨g3, o3, none⟩ = some (.slice sp s.length sc) := fun hle hg => hg.2 _ _ _ (hle _ _ _ (hM _ _ _ m3))
 have c0 := hc3 (Mem.le_refl M0) (hJg _ _ _ h0)
 refine callsIn_of_wp Tryz.func191 rfl (hF.fn 191) ?_ hro
 simp only [Tryz.ntmps191, List.size_toArray, List.length_cons, List.length_nil, Nat.reduceAdd, Nat.reduceSub, Array.replicate_succ, Array.replicate_zero, List.push_toArray, List.append_toArray, List.nil_append, List.cons_append]
 gi_wp2
 gi_loopw [9] (fun q wr => ∃ (p : Nat) (N : Mem) (pre rest : List (Int × Int)), q = .int .i64 (p : Int) ∧ p ≤ s.length ∧ Mem.le M0 N ∧ J pre N wr ∧ pre ++ rest = xs ∧ zid r s (s.length - p) (p : Int) = some rest) (fun q wr => (s.length - (RowKit.intOf q).toNat))
 case atStart => exact ⟨0, M0, [], xs, rfl, Nat.zero_le _, Mem.le_refl M0, h0, rfl, hxs⟩
 case round =>
  obtain ⟨p, N, pre, rest, rfl, hp, hle, hJ, hpx, hv⟩ := hrel
  have hg := hJg _ _ _ hJ
  by_cases hlt : p < s.length
  ·obtain ⟨d, hd⟩ : ∃ d, s.length - p = d + 1 := ⟨s.length - p - 1, by omega⟩
   rw [hd] at hv
   simp only [zid] at hv
   obtain ⟨f, hf, hv⟩ := Option.bind_eq_some_iff.1 hv
   obtain ⟨rest', hrest', hv⟩ := Option.bind_eq_some_iff.1 hv
   simp only [Option.some.injEq] at hv
   have k3 := hc3 hle hg
   have hm : ∀ j u, ([.int .i64 r.1.1, .int .i64 r.1.2.1, .int .i64 r.1.2.2.1, .int .i64 r.1.2.2.2.1, .int .i64 r.1.2.2.2.2.1, .int .i64 r.1.2.2.2.2.2.1, .int .i64 r.1.2.2.2.2.2.2.1, .int .i64 r.1.2.2.2.2.2.2.2.1, .int .i64 r.1.2.2.2.2.2.2.2.2, .slice ip il ic] : List Value)[j]? = some u → wr.cell? ⟨g2, o2 + j, none⟩ = some u := fun j u hj => hg.2 _ _ _ (hle _ _ _ (hM _ _ _ (m2 j u hj)))
   have e0 := hm 0 _ rfl
   rw [Nat.add_zero] at e0
   have e1 := hm 1 _ rfl
   have e2 := hm 2 _ rfl
   have e3 := hm 3 _ rfl
   have e4 := hm 4 _ rfl
   have e5 := hm 5 _ rfl
   have e6 := hm 6 _ rfl
   have e7 := hm 7 _ rfl
   have e8 := hm 8 _ rfl
   have e9 := hm 9 _ rfl
   clear hm
   have cc := zw2 hF (nn - 1) hg (z2o (z5p _ (Mem.le_trans hM hle) _ _ hr)) (z4x (Mem.le_trans hM hle) hsv) hf
   have hlt' : (p : Int) < (s.length : Int) := by omega
   gi_wp2_with ((try refine ⟨hF.fn _, ?_⟩); (try refine ⟨hdd _, ?_⟩); gi_at_call 181; refine cc.mono ?_; clear cc; rintro e w2 ⟨M2, rfl, hg2, hgr2⟩)
   have hJ2 := hJc _ _ _ _ _ hJ hg2 hgr2
   have hle2 : Mem.le M0 M2 := Mem.le_trans hle (z1p (G := []) hg hgr2).le
   have hxs2 : xs = pre ++ (zne f (p : Int) 5 ++ rest') := by rw [← hpx, ← hv, y66]
   gi_loopw [16] (fun q wr => ∃ (k : Nat) (N : Mem), q = .int .i64 (k : Int) ∧ k ≤ 5 ∧ Mem.le M0 N ∧ J (pre ++ zne f (p : Int) k) N wr) (fun q wr => (5 - (RowKit.intOf q).toNat))
   case atStart => exact ⟨0, M2, rfl, by omega, hle2, by simpa [zne] using hJ2⟩
   case round =>
    clear hJ hJ2 hle2 hg2 hgr2 hg k3 e0 e1 e2 e3 e4 e5 e6 e7 e8 e9
    obtain ⟨k, N, rfl, hk5, hle2, hJ⟩ := hrel
    by_cases hk : k < 5
    ·have hpre : ∀ (h : f k = true), (pre ++ zne f (p : Int) k) ++ [((p : Int), (k : Int))] <+: xs := fun h => by
      have h1 := zlm f (p : Int) k
      rw [if_pos h] at h1
      rw [List.append_assoc, ← h1, hxs2]
      exact List.prefix_append_right_inj pre |>.2 (List.IsPrefix.trans (zzx f (p : Int) (by omega)) (List.prefix_append _ _))
     have fin0 : f k = false → J (pre ++ zne f (p : Int) (k + 1)) N wr := fun h => by
      have h1 := zlm f (p : Int) k
      rw [h1, h]; simpa using hJ
     have fin1 : f k = true → pre ++ zne f (p : Int) (k + 1) = (pre ++ zne f (p : Int) k) ++ [((p : Int), (k : Int))] := fun h => by
      rw [zlm f (p : Int) k, if_pos h, List.append_assoc]
     have hYk := fun h => hY (pre ++ zne f (p : Int) k) ((p : Int), (k : Int)) N wr hJ (hpre h)
     unfold vioV at hYk
     have hidx := y6z wr f hk
     cases hfk : f k with
     | false =>
      have hj := fin0 hfk
      rw [hfk] at hidx
      clear hYk hpre fin0 fin1
      have hng : ∀ (f : FuncId), none = some f → F.fn f := fun _ h => by cases h
      gi_wp2_with (with_reducible refine ⟨hng, ?_⟩)
      exact ⟨⟨k + 1, N, by simp, by omega, hle2, hj⟩, by simp only [RowKit.intOf]; omega⟩
     | true =>
      rw [hfk] at hidx
      have e1 := fin1 hfk
      obtain ⟨fn, tmps, assign, body, hy, hR⟩ := hYk hfk
      have hpr := hpre hfk
      clear hYk hpre fin0 fin1
      gi_wp2_with ((try refine ⟨hdd _, ?_⟩); refine hR.mono ?_; clear hR; rintro e W2 ⟨N', hN', ⟨rfl, hJ2⟩ | ⟨rfl, hx2⟩⟩)
      ·exact ⟨⟨k + 1, N', by simp, by omega, Mem.le_trans hle2 hN', by rw [e1]; exact hJ2⟩, by simp only [RowKit.intOf]; omega⟩
      ·refine bodyPost_ret (results_none rfl _ _ _) rfl ?_
       exact ⟨⟨_, rfl⟩, N', Mem.le_trans hle2 hN', .inr ⟨_, hpr, hx2⟩⟩
    ·obtain rfl : k = 5 := by omega
     gi_wp2_with fail
     refine ⟨⟨p + 1, N, pre ++ zne f (p : Int) 5, rest', by simp, by omega, hle2, hJ, by rw [hxs2, List.append_assoc], ?_⟩, by simp only [RowKit.intOf]; omega⟩
     rw [show s.length - (p + 1) = d by omega, show ((p + 1 : Nat) : Int) = (p : Int) + 1 by omega]
     exact hrest'
  ·gi_wp2
   go_end0
   have h0 : s.length - p = 0 := by omega
   rw [h0] at hv
   simp only [zid, Option.some.injEq] at hv
   subst hv
   rw [List.append_nil] at hpx
   subst hpx
   exact ⟨⟨_, rfl⟩, N, hle, .inl hJ⟩
end Go.Lift
namespace Go.Lift
open Go Go.Proofs Go.RowKit
noncomputable def c156 : Code := Tryz.f156.body.getD .skip
theorem e156 (r : z05) (i : List Int) : z1w (cx [] []) c156 (.seq .nil (.seq (.frz 2 (.frz 3 .nil)) .nil)) (stOf [(0, .data z0a r []), (1, .data TI i [])]) obsC = some (191, [.inr ⟨TI, i⟩, .inr ⟨z0a, r⟩]) := by kernel_rfl
theorem seq191 {r : z05} {i : List Int} {L : List (Int × Int)} (hil : i.length ≤ 1000000) (hL : zid r i i.length 0 = some L) {M : Mem} {u v : Value} (hu : relV Tryz.prog (.ptr TI) M i u) (hv : relV Tryz.prog (.ptr z0a) M r v) :
  zwj Tryz.prog (fun M' x v => z0z (Ty.pair (.int .i64) (.int .i64)).agg (relC Tryz.prog (.pair (.int .i64) (.int .i64)) M' x) v) M L 191 #[u, v] := by
 obtain ⟨g3, o3, cs3, h3, hs, m3⟩ : relC Tryz.prog (.ptr TI) M i [u] := hu
 obtain ⟨g2, o2, cs2, h2, hr, m2⟩ : relC Tryz.prog (.ptr z0a) M r [v] := hv
 simp only [List.cons.injEq, and_true] at h3 h2
 subst h3 h2
 obtain ⟨sv, rfl, _⟩ := id hs
 refine ⟨Go.Proofs.enters_of Tryz.func191 (by kernel_rfl) rfl, ?_⟩
 intro F n l J Jx M0 W hM hd hF hal hro hJg hJxg hJc hJx hY h0
 exact vio_in F ⟨hF, hd, hal⟩ hro n l g3 o3 g2 o2 M r i L hil hL sv cs2 hs (m3 0 _ rfl) hr m2 J Jx M0 hM hJg hJc (fun pre x N W1 hj hp => hY pre x N W1 _ hj hp (yb9 x)) W h0
set_option maxHeartbeats 1000000 in
theorem z0h : Has Tryz.prog z2k := by
 refine ⟨enters_of (by kernel_rfl), fun x L hr M w vs hg hvs => ?_⟩
 obtain ⟨r, i⟩ := x
 obtain ⟨rv, _, rfl, hrv, iv, rfl, hiv⟩ := hvs
 have hr : z39 r i = some L := hr
 unfold z39 at hr
 cases hc : decide (i.length ≤ 1000000) with
 | false => rw [hc] at hr; cases hr
 | true =>
 rw [hc, cond_true] at hr
 rw [decide_eq_true_eq] at hc
 refine (callsIn_wide (n := 3)).1 ?_
 refine callsIn_of_wp (c := c156) Tryz.func156 (by kernel_rfl) True.intro ?_ rfl
 obtain ⟨a0, ha0⟩ : ∃ a0 : Act, a0 = { tmps := #[rv, iv] ++ Array.replicate (Tryz.f156.ntmps - (#[rv, iv] : Array Value).size) undef, defers := [] } := ⟨_, rfl⟩
 show c156.wpIn _ _ _ _ { tmps := #[rv, iv] ++ Array.replicate (Tryz.f156.ntmps - (#[rv, iv] : Array Value).size) undef, defers := [] } w
 rw [← ha0]
 have hs0 : a0.tmps.size = 6 := by rw [ha0, Tryz.ntmps156]; simp
 have hd0 : a0.defers = [] := by rw [ha0]
 have hT0 : Thin Tryz.prog M [(0, .data z0a r []), (1, .data TI i [])] a0 w := by
  rw [ha0]
  refine zar hg fun e he => ?_
  simp only [List.mem_cons, List.not_mem_nil, or_false] at he
  rcases he with rfl | rfl
  ·exact ⟨by show 0 < 2; omega, hrv, rfl⟩
  ·exact ⟨by show 1 < 2; omega, hiv, rfl⟩
 refine z5k z04 z16 z8m c156 (.inr (by kernel_rfl)) (e156 r i) (by rw [hs0]; kernel_rfl) (zd9 hT0) fun e κ' M' σ' a' w' hR' hF' hk => ?_
 have hk' := zkp hF' (z6p (by kernel_rfl))
 unfold obsC at hk
 split at hk
 ·split at hk
  ·rename_i g caps hev
   simp only [Option.some.injEq, Prod.mk.injEq] at hk
   obtain ⟨rfl, rfl⟩ := hk
   obtain ⟨cs, hcv, v1, r1, hcs, h1, v2, r2, hcs2, h2, hcs3⟩ := hR'.env 4 _ hev
   subst hcs3 hcs2
   have hcs' : cs = #[v1, v2] := Array.ext' hcs
   subst hcs'
   refine bodyPost_ret (results_tmp (t := 4) (by kernel_rfl) _ _ _) (hk'.defers.trans hd0) ?_
   refine ⟨M', _, rfl, ?_, hR'.good, hk'.grow⟩
   show relV Tryz.prog (.seq (.pair (.int .i64) (.int .i64))) M' L (a'.tmps.getD 4 undef)
   rw [hcv]
   exact ⟨191, #[v1, v2], rfl, seq191 hc hr h1 h2⟩
  ·cases hk
 ·cases hk
end Go.Lift
