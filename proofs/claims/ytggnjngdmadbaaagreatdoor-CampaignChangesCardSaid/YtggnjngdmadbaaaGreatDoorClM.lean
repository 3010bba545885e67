/-
  The walk of the iterator over all sets, and its contract.
-/
import Derived.Test.YtggnjngdmadbaaaGreatDoorManC
import Derived.Test.YtggnjngdmadbaaaGreatDoorClK
set_option linter.unusedSectionVars false
set_option linter.unusedVariables false
set_option linter.unusedSimpArgs false
namespace Go.Lift
open Go Go.Proofs Go.RowKit
noncomputable def c158 : Code := Tryz.f158.body.getD .skip
noncomputable abbrev y9s : Code := Code.snd c158
noncomputable abbrev ydh : Code := Code.snd y9s
noncomputable abbrev ydg : Code := Code.snd ydh
noncomputable abbrev y9r : Code := Code.snd ydg
noncomputable abbrev yde : Code := Code.fst (Code.fst y9s)
noncomputable abbrev zow : Code := Code.fst (Code.fst (Code.snd (Code.fst y9s)))
noncomputable abbrev ydd : Code := Code.fst ydh
noncomputable abbrev ydc : Code := Code.fst ydg
noncomputable abbrev ydb : Code := Code.fst (Code.fst y9r)
noncomputable def znq : Code := Code.fst (Code.fst (Code.snd (Code.fst y9r)))
noncomputable abbrev ycl : Code := Code.snd y9r
noncomputable def y4l : Code := Code.fst (Code.fst (Code.snd znq))
noncomputable abbrev yda : Code := Code.fst (Code.fst znq)
noncomputable abbrev y90 : Code := Code.snd (Code.snd znq)
noncomputable abbrev zot : Code := Code.fst y4l
noncomputable abbrev y32 : Code := Code.fst (Code.snd y4l)
noncomputable def y0y : Oper := (opsOf zow).getD 2 default
noncomputable def y53 : Oper := (opsOf zot).getD 8 default
abbrev NI : Ty := .int .i64
noncomputable abbrev cx158 : Ctx := y1w zw3 y11 y1v [] [135] [y8d]
abbrev l158 (b : List Int) (m c : Int) (v : Value) : z4b := [(0, .data TI b []), (1, .data NI m []), (2, .data NI c []), (3, .raw v)]
abbrev zr0 (b : List Int) (m c : Int) (v : Value) (p : Int) : z4b := [(0, .data TI b []), (1, .data NI m []), (2, .data NI c []), (3, .raw v), (10, .data NI p [])]
abbrev y6x (b : List Int) (m c : Int) (v : Value) (p : Int) : z4b := [(0, .data TI b []), (1, .data NI m []), (2, .data NI c []), (3, .raw v), (9, .data NI p [])]
def y7c (b : List Int) : Option Int := bif decide ((b.length : Int) > 0) then chk (decide ((0 : Int) ≤ wi64 ((b.length : Int) - 1)) && decide (wi64 ((b.length : Int) - 1) < (b.length : Int))) (some (wi64 (lget 0 b (wi64 ((b.length : Int) - 1)) + 1))) else some 0
section
variable (b : List Int) (m c : Int) (v : Value) (p : Int) (t : Bool)
theorem e0_158 : z1w (cx [] []) (Code.fst c158) .nil (stOf (l158 b m c v)) (obsK [] [0, 1, 2, 3]) = some (.normal, l158 b m c v) := by kernel_rfl
theorem e1_158 : z1w (cx [] []) yde .nil (stOf (l158 b m c v)) (obsK [] [0, 1, 2, 3, 14]) = some (.normal, l158 b m c v ++ [(14, .data .bool ((b.length : Int) == c) [])]) := by kernel_rfl
theorem e2_158 : z2u (cx [] []) (opsOf zow).toList (List.range' 0 2) (stOf (l158 b m c v)) [] (obsT [] [15, 16]) = some [(15, .raw v), (16, .data TI b [])] := by kernel_rfl
theorem yez : z2u (cx [] []) (opsOf zow).toList (List.range' 3 1) (stOf [(17, .data .bool t [])]) [] (obsT [] [8]) = some [(8, .data .bool t [])] := by kernel_rfl
theorem e3_158 : z1w (cx [] []) ydd .nil (stOf (l158 b m c v)) (obsK [] [0, 1, 2, 3, 9]) = some (.normal, y6x b m c v 0) := by kernel_rfl
theorem e4_158 : z1w (cx [] []) ydc (.seq .nil (.cond .nil .nil)) (stOf (y6x b m c v 0)) (obsK [] [0, 1, 2, 3, 9]) = (y7c b).bind fun f => some (.normal, y6x b m c v f) := by
 refine Eq.trans (b := bif decide ((b.length : Int) > 0) then chk (decide ((0 : Int) ≤ wi64 ((b.length : Int) - 1)) && decide (wi64 ((b.length : Int) - 1) < (b.length : Int))) (some (.normal, y6x b m c v (wi64 (lget 0 b (wi64 ((b.length : Int) - 1)) + 1)))) else some (.normal, y6x b m c v 0)) (by kernel_rfl) ?_
 unfold y7c
 cases decide ((b.length : Int) > 0) with
 | false => rfl
 | true =>
  simp only [cond_true]
  cases decide ((0 : Int) ≤ wi64 ((b.length : Int) - 1)) && decide (wi64 ((b.length : Int) - 1) < (b.length : Int)) <;> rfl
theorem e6_158 : z1w (cx [] []) ydb .nil (stOf (y6x b m c v p)) (obsK [] [0, 1, 2, 3, 10]) = some (.normal, zr0 b m c v p) := by kernel_rfl
theorem ydr : z1w (cx [] []) yda .nil (stOf (zr0 b m c v p)) (obsK [] [0, 1, 2, 3, 10, 31]) = some (.normal, zr0 b m c v p ++ [(31, .data .bool (decide (p < m)) [])]) := by kernel_rfl
theorem e8_158 : z1w (cx [] []) y90 .nil (stOf (zr0 b m c v p)) (obsK [] [0, 1, 2, 3, 10]) = some (.normal, zr0 b m c v (wi64 (p + 1))) := by kernel_rfl
theorem e9_158 : z2u cx158 (opsOf zot).toList (List.range' 0 8) (stOf (zr0 b m c v p)) [] (obsT [] [0, 1, 2, 3, 10, 38, 39, 40, 41]) =
 (app [] b).bind fun d => (app d [p]).bind fun g => some (zr0 b m c v p ++ [(38, .data TI g []), (39, .data NI m []), (40, .data NI c []), (41, .raw v)]) := by kernel_rfl
theorem yey : z2u (cx [] []) (opsOf zot).toList (List.range' 9 1) (stOf (zr0 b m c v p ++ [(42, .data .bool t [])])) [] (obsT [] [0, 1, 2, 3, 10, 43]) = some (zr0 b m c v p ++ [(43, .data .bool (!t) [])]) := by kernel_rfl
theorem yf3 : z1w (cx [] []) y32 .nil (stOf (zr0 b m c v p)) (obsK [] [8]) = some (.ret, [(8, .data .bool false [])]) := by kernel_rfl
theorem yf1 : z1w (cx [] []) ycl .nil (stOf (zr0 b m c v p)) (obsK [] [8]) = some (.ret, [(8, .data .bool true [])]) := by kernel_rfl
end
theorem ycs : c158 = .seq (Code.fst c158) (.seq (.seq yde (.cond (.tmp 14) (.seq zow .ret) .skip)) (.seq ydd (.seq ydc (.seq (.seq ydb (.block 0 (.loop znq))) ycl)))) := by kernel_rfl
theorem y5e : znq = .seq (.seq yda (.cond (.tmp 31) .skip (.exit 0))) (.seq (.block 1 (.seq zot (.cond (.tmp 43) y32 .skip))) y90) := by kernel_rfl
theorem ybr : zow = .region 2 (opsOf zow) false := by kernel_rfl
theorem ybq : zot = .region 9 (opsOf zot) false := by kernel_rfl
theorem zt8 : (opsOf zow).size = 4 := by kernel_rfl
theorem zt7 : (opsOf zot).size = 10 := by kernel_rfl
theorem yay : (z6y y0y).args = #[.tmp 16] := by kernel_rfl
theorem yax : (z6y y53).args = #[.tmp 38, .tmp 39, .tmp 40, .tmp 41] := by kernel_rfl
end Go.Lift
namespace Go.Lift
open Go Go.Proofs Go.RowKit
theorem cok158 : COk Tryz.prog cx158 := zz8 (zpv z0s z0t z0u (all_cons ydl all_nil)) (zli (fun _ => ydo) zt0)
theorem yac {t : Bool} {M' : Mem} {l' : z4b} {a' : Act} {w' : World} {R : Ending → World → Prop} (hT : Thin Tryz.prog M' l' a' w') (hm : (8, AVal.data .bool t []) ∈ l') (hdf : a'.defers = []) (hR : R (.returned (.bool t)) w') : bodyPost Tryz.prog Tryz.f158 R .ret a' w' := by
 refine bodyPost_ret (results_tmp (t := 8) (by kernel_rfl) _ _ _) hdf ?_
 have := z1v.1 (hT.data hm)
 have e : a'.tmps.getD 8 undef = .bool t := this
 rw [e]; exact hR
theorem ya7 : y7c [] = some 0 := rfl
theorem y7b {b : List Int} {p : Int} (hb : b.length ≤ 1000000) (h0 : 0 ≤ p) (h1 : p < 1000000) : y7c (b ++ [p]) = some (p + 1) := by
 have hl : (b ++ [p]).length = b.length + 1 := by simp
 unfold y7c
 rw [hl, z0j (x := ((b.length + 1 : Nat) : Int) - 1) (by omega) (by omega), show ((b.length + 1 : Nat) : Int) - 1 = (b.length : Int) by omega]
 rw [show decide (((b.length + 1 : Nat) : Int) > 0) = true from decide_eq_true (by omega), cond_true, show decide ((0 : Int) ≤ (b.length : Int)) = true from decide_eq_true (by omega), show decide ((b.length : Int) < ((b.length + 1 : Nat) : Int)) = true from decide_eq_true (by omega)]
 have hg : lget 0 (b ++ [p]) (b.length : Int) = p := by
  unfold lget
  rw [Int.toNat_natCast]
  simp
 rw [hg, z0j (by omega) (by omega)]
 rfl
def subK (m : Int) (k : Nat) (b : List Int) (p : Int) (q : Nat) : List (List Int) := ((List.range q).map fun (j : Nat) => subL m k (b ++ [p + (j : Int)]) (p + (j : Int) + 1)).flatten
theorem y86 (m : Int) (k : Nat) (b : List Int) (p : Int) (q : Nat) : subK m k b p (q + 1) = subL m k (b ++ [p]) (p + 1) ++ subK m k b (p + 1) q := by
 unfold subK
 rw [List.range_succ_eq_map, List.map_cons, List.flatten_cons, List.map_map]
 have : ((fun (j : Nat) => subL m k (b ++ [p + (j : Int)]) (p + (j : Int) + 1)) ∘ Nat.succ) = fun (j : Nat) => subL m k (b ++ [p + 1 + (j : Int)]) (p + 1 + (j : Int) + 1) := by
  funext j
  show subL m k (b ++ [p + ((j + 1 : Nat) : Int)]) (p + ((j + 1 : Nat) : Int) + 1) = _
  rw [show p + ((j + 1 : Nat) : Int) = p + 1 + (j : Int) by omega]
 rw [this]
 simp
section walk
variable {F : Fence} (hd : F.depth = none) (hF : ∀ f, F.fn f) (hal : F.alive = false) (hro : F.round = none) {n0 l : Nat} {xs : List (List Int)} {J Jx : List (List Int) → Mem → World → Prop}
 (hJg : ∀ pre N W, J pre N W → Good N W) (hJxg : ∀ pre N W, Jx pre N W → Good N W) (hJc : z9d J) (hJx : z9d Jx)
 (hY : ∀ pre x N W1 v, J pre N W1 → pre ++ [x] <+: xs → relV Tryz.prog TI N x v → YieldAt F n0 Tryz.prog l #[v] W1 fun e W' =>
  ∃ N', Mem.le N N' ∧ ((e = .returned (.bool true) ∧ J (pre ++ [x]) N' W') ∨ (e = .returned (.bool false) ∧ Jx (pre ++ [x]) N' W')))
def zzs (F : Fence) (l : Nat) (xs : List (List Int)) (J Jx : List (List Int) → Mem → World → Prop) (mm c : Int) (k : Nat) : Prop :=
 ∀ (b : List Int) (fr : Int), y7c b = some fr → 0 ≤ fr → fr ≤ 100000 → (b.length : Int) + k = c → ∀ (n : Nat) (pre : List (List Int)) (M : Mem) (W : World) (bv mv cv : Value),
  J pre M W → relV Tryz.prog TI M b bv → relV Tryz.prog NI M mm mv → relV Tryz.prog NI M c cv → pre ++ subL mm k b fr <+: xs →
  CallsIn F n Tryz.prog 158 #[bv, mv, cv, .func (.yield l) #[] #[]] W (zpn J Jx xs pre (subL mm k b fr) M)
set_option maxHeartbeats 2000000 in
include hd hF hal hro hJg hJxg hJc hJx in
theorem y8j {mm c : Int} {k : Nat} (hmm : mm ≤ 1000) (hcc : c ≤ 1000) (hC : zzs F l xs J Jx mm c k) {b : List Int} (hlen : (b.length : Int) + (k + 1 : Nat) = c) {n : Nat} {pre L : List (List Int)} {M : Mem} (hpre : pre ++ L <+: xs) {R : Ending → World → Prop} (hR : ∀ e w, zpn J Jx xs pre L M e w → R e w) :
  ∀ (q : Nat) (p : Int), 0 ≤ p → p ≤ 100000 → q = (mm - p).toNat → ∀ (D : List (List Int)), D ++ subK mm k b p q = L →
   ∀ (M4 : Mem) (a4 : Act) (w4 : World), Mem.le M M4 → Thin Tryz.prog M4 (zr0 b mm c (.func (.yield l) #[] #[]) p) a4 w4 → a4.tmps.size = 44 → a4.defers = [] → J (pre ++ D) M4 w4 →
   Code.roundsIn F n Tryz.prog znq (Exit.inBlock 0 (Exit.then (fun a w => ycl.wpIn F n Tryz.prog (bodyPost Tryz.prog Tryz.f158 R) a w) (bodyPost Tryz.prog Tryz.f158 R))) (q + 1) a4 w4 := by
 have hop : Open F := ⟨hF, hd, hal⟩
 intro q
 induction q with
 | zero =>
  intro p hp0 hp1 hq D hDL M4 a4 w4 hle4 hT4 hs4 hd4 hJ4
  have hDL' : D = L := by rw [← hDL]; unfold subK; simp
  subst hDL'
  rw [roundsIn_succ, y5e]
  refine wpIn_seq (wpIn_seq (z4c z04 z16 hop _ (.inr (by kernel_rfl)) (ydr b mm c (.func (.yield l) #[] #[]) p) (by rw [hs4]; kernel_rfl) (by kernel_rfl) hT4 fun M5 a5 w5 hT5 hK5 => ?_))
  have hJ5 := hJc _ _ _ _ _ hJ4 hT5.1 hK5.grow
  have hs5 : a5.tmps.size = 44 := hK5.size.trans hs4
  have hd5 : a5.defers = [] := hK5.defers.trans hd4
  refine wpIn_cond_split (z1v.1 (hT5.data (s := 31) (t := .bool) (x := decide (p < mm)) (by simp))) (fun ht => ?_) (fun ht => wpIn_exit ?_)
  ·have := of_decide_eq_true ht; omega
  ·show ycl.wpIn F n Tryz.prog _ a5 w5
   refine z4c z04 z16 hop _ (.inr (by kernel_rfl)) (yf1 b mm c (.func (.yield l) #[] #[]) p) (by rw [hs5]; kernel_rfl) (by kernel_rfl) (hT5.sub (by simp)) fun M6 a6 w6 hT6 hK6 => ?_
   exact yac hT6 (t := true) (by simp) (hK6.defers.trans hd5) (hR _ _ ⟨M6, Mem.le_trans hle4 (Mem.le_trans hK5.le hK6.le), .inl ⟨rfl, hJc _ _ _ _ _ hJ5 hT6.1 hK6.grow⟩⟩)
 | succ q ihq =>
  intro p hp0 hp1 hq D hDL M4 a4 w4 hle4 hT4 hs4 hd4 hJ4
  have hpm : p < mm := by omega
  rw [y86] at hDL
  obtain ⟨L3, hL3⟩ : ∃ L3, L3 = subL mm k (b ++ [p]) (p + 1) := ⟨_, rfl⟩
  rw [← hL3] at hDL
  rw [roundsIn_succ, y5e]
  refine wpIn_seq (wpIn_seq (z4c z04 z16 hop _ (.inr (by kernel_rfl)) (ydr b mm c (.func (.yield l) #[] #[]) p) (by rw [hs4]; kernel_rfl) (by kernel_rfl) hT4 fun M5 a5 w5 hT5 hK5 => ?_))
  have hJ5 := hJc _ _ _ _ _ hJ4 hT5.1 hK5.grow
  have hs5 : a5.tmps.size = 44 := hK5.size.trans hs4
  have hd5 : a5.defers = [] := hK5.defers.trans hd4
  have hle5 := Mem.le_trans hle4 hK5.le
  refine wpIn_cond_split (z1v.1 (hT5.data (s := 31) (t := .bool) (x := decide (p < mm)) (by simp))) (fun ht => wpIn_skip ?_) (fun ht => absurd hpm (of_decide_eq_false ht))
  refine wpIn_seq (wpIn_block (wpIn_seq ?_))
  have happ1 : app [] b = some b := by unfold app; rw [if_pos (by simp; omega), List.nil_append]
  have happ2 : app b [p] = some (b ++ [p]) := by unfold app; rw [if_pos (by simp; omega)]
  rw [ybq]
  refine wpIn_region ?_
  refine zdg (n0 := 44) cok158 hop 0 8 (by rw [Nat.sub_zero, List.range_eq_range']) (by rw [zt7]; decide) ((e9_158 b mm c (.func (.yield l) #[] #[]) p).trans (by rw [happ1, Option.bind_some, happ2, Option.bind_some])) hs5 (by kernel_rfl) (by kernel_rfl) (hT5.sub (by simp)) fun M6 a6 w6 hT6 hK6 => ?_
  have hJ6 := hJc _ _ _ _ _ hJ5 hT6.1 hK6.grow
  have hs6 : a6.tmps.size = 44 := hK6.size.trans hs5
  have hd6 : a6.defers = [] := hK6.defers.trans hd5
  have hle6 := Mem.le_trans hle5 hK6.le
  rw [show List.range' (0 + 8) ((opsOf zot).size - (0 + 8)) = 8 :: List.range' 9 1 from by rw [zt7]; rfl, wpOpsIn_cons]
  refine zh3 hop (o := y53) (cc := z6y y53) (f := 158) (by kernel_rfl) (z6f (by kernel_rfl)) (by kernel_rfl) (by kernel_rfl) (enters_of (by kernel_rfl)) (R := zpn J Jx xs (pre ++ D) L3 M6) ?_ ?_
  ·rw [yax]
   simp only [List.map_toArray, List.map_cons, List.map_nil]
   rw [hT6.raw (s := 41) (v := .func (.yield l) #[] #[]) (by simp), hL3]
   exact hC (b ++ [p]) (p + 1) (y7b (by omega) hp0 (by omega)) (by omega) (by omega) (by rw [List.length_append, List.length_singleton]; omega) (n - 1) (pre ++ D) M6 w6 _ _ _ hJ6 (hT6.data (s := 38) (t := TI) (x := b ++ [p]) (by simp)) (hT6.data (s := 39) (t := NI) (x := mm) (by simp)) (hT6.data (s := 40) (t := NI) (x := c) (by simp)) (by
    refine List.IsPrefix.trans ?_ hpre
    rw [← hDL, ← hL3]
    exact ⟨subK mm k b (p + 1) q, by simp⟩)
  ·rintro e w8 ⟨M8, hle8, hc⟩
   have hw : ∃ t, e = .returned (.bool t) ∧ Good M8 w8 ∧ ((t = true ∧ J (pre ++ D ++ L3) M8 w8) ∨ (t = false ∧ ∃ p, p <+: xs ∧ Jx p M8 w8)) := by
    rcases hc with ⟨rfl, h⟩ | ⟨rfl, q, hq, h⟩
    ·exact ⟨true, rfl, hJg _ _ _ h, .inl ⟨rfl, h⟩⟩
    ·exact ⟨false, rfl, hJxg _ _ _ h, .inr ⟨rfl, q, hq, h⟩⟩
   obtain ⟨t, rfl, hg8, hend⟩ := hw
   refine ⟨_, rfl, ?_⟩
   rw [show y53.dst = some 42 from by kernel_rfl]
   have hT8 : Thin Tryz.prog M8 ((42, .data .bool t []) :: zr0 b mm c (.func (.yield l) #[] #[]) p) (a6.put (some 42) (.bool t)) w8 :=
    Thin.put ((hT6.turn hg8 hle8).sub (by simp)) (by rw [hs6]; decide) ⟨z1v.2 rfl, rfl⟩ rfl
   refine zdg (n0 := 44) z16 hop 9 1 (by rw [zt7]) (by rw [zt7]; decide) (yey b mm c (.func (.yield l) #[] #[]) p t) (by rw [z4f]; exact hs6) (by kernel_rfl) (by kernel_rfl) (hT8.sub (by simp)) fun M9 a9 w9 hT9 hK9 => ?_
   have hs9 : a9.tmps.size = 44 := hK9.size.trans ((z4f _ _ _).trans hs6)
   have hd9 : a9.defers = [] := hK9.defers.trans ((put_defers _ _ _).trans hd6)
   have hle9 := Mem.le_trans hle6 (Mem.le_trans hle8 hK9.le)
   rw [show List.range' (9 + 1) ((opsOf zot).size - (9 + 1)) = [] from by rw [zt7]; rfl]
   show (Code.cond (.tmp 43) y32 .skip).wpIn F n Tryz.prog _ a9 w9
   refine wpIn_cond_split (z1v.1 (hT9.data (s := 43) (t := .bool) (x := !t) (by simp))) (fun ht => ?_) (fun ht => wpIn_skip ?_)
   ·
    have ht : t = false := by simpa using ht
    subst ht
    obtain ⟨q', hq', hx⟩ : ∃ q, q <+: xs ∧ Jx q M8 w8 := by
     rcases hend with ⟨h, _⟩ | ⟨_, h⟩
     ·cases h
     ·exact h
    refine z4c z04 z16 hop _ (.inr (by kernel_rfl)) (yf3 b mm c (.func (.yield l) #[] #[]) p) (by rw [hs9]; kernel_rfl) (by kernel_rfl) (hT9.sub (by simp)) fun M10 a10 w10 hT10 hK10 => ?_
    refine yac hT10 (t := false) (by simp) (hK10.defers.trans hd9) (hR _ _ ⟨M10, Mem.le_trans hle9 hK10.le, .inr ⟨rfl, q', hq', ?_⟩⟩)
    exact hJx _ _ _ _ _ (hJx _ _ _ _ _ hx hT9.1 hK9.grow) hT10.1 hK10.grow
   ·have ht : t = true := by simpa using ht
    subst ht
    have hJ8 : J (pre ++ D ++ L3) M8 w8 := by
     rcases hend with ⟨_, h⟩ | ⟨h, _⟩
     ·exact h
     ·cases h
    have hJ9 : J (pre ++ (D ++ L3)) M9 w9 := by rw [← List.append_assoc]; exact hJc _ _ _ _ _ hJ8 hT9.1 hK9.grow
    show y90.wpIn F n Tryz.prog _ a9 w9
    refine z4c z04 z16 hop _ (.inr (by kernel_rfl)) (e8_158 b mm c (.func (.yield l) #[] #[]) p) (by rw [hs9]; kernel_rfl) (by kernel_rfl) (hT9.sub (by simp)) fun M10 a10 w10 hT10 hK10 => ?_
    show Code.roundsIn F n Tryz.prog znq _ (q + 1) a10 w10
    rw [z0j (by omega) (by omega)] at hT10
    exact ihq (p + 1) (by omega) (by omega) (by omega) (D ++ L3) (by rw [List.append_assoc]; exact hDL) M10 a10 w10 (Mem.le_trans hle9 hK10.le) hT10 (hK10.size.trans hs9) (hK10.defers.trans hd9) (hJc _ _ _ _ _ hJ9 hT10.1 hK10.grow)
set_option maxHeartbeats 2000000 in
include hd hF hal hro hJg hJxg hJc hJx hY in
theorem y87 {mm c : Int} (hmm : mm ≤ 1000) (hcc : c ≤ 1000) {k : Nat} (ih : ∀ k', k = k' + 1 → zzs F l xs J Jx mm c k') : zzs F l xs J Jx mm c k := by
 intro b fr hfr hf0 hf1 hlen n pre M W bv mv cv hJ hb hm hcv hpre
 have hop : Open F := ⟨hF, hd, hal⟩
 refine callsIn_of_wp (c := c158) Tryz.func158 (by kernel_rfl) (hF 158) ?_ hro
 obtain ⟨a0, ha0⟩ : ∃ a0 : Act, a0 = { tmps := #[bv, mv, cv, .func (.yield l) #[] #[]] ++ Array.replicate (Tryz.f158.ntmps - (#[bv, mv, cv, .func (.yield l) #[] #[]] : Array Value).size) undef, defers := [] } := ⟨_, rfl⟩
 rw [← ha0]
 have hs0 : a0.tmps.size = 44 := by rw [ha0, Tryz.ntmps158]; simp
 have hd0 : a0.defers = [] := by rw [ha0]
 have hT0 : Thin Tryz.prog M (l158 b mm c (.func (.yield l) #[] #[])) a0 W := by
  rw [ha0]
  refine zar (hJg _ _ _ hJ) fun e he => ?_
  simp only [List.mem_cons, List.not_mem_nil, or_false] at he
  rcases he with rfl | rfl | rfl | rfl
  ·exact ⟨by show 0 < 4; omega, hb, rfl⟩
  ·exact ⟨by show 1 < 4; omega, hm, rfl⟩
  ·exact ⟨by show 2 < 4; omega, hcv, rfl⟩
  ·exact ⟨by show 3 < 4; omega, rfl⟩
 rw [ycs]
 refine wpIn_seq (z4c z04 z16 hop _ (.inr (by kernel_rfl)) (e0_158 b mm c (.func (.yield l) #[] #[])) (by rw [hs0]; kernel_rfl) (by kernel_rfl) hT0 fun M1 a1 w1 hT1 hK1 => ?_)
 have hJ1 := hJc _ _ _ _ _ hJ hT1.1 hK1.grow
 have hs1 : a1.tmps.size = 44 := hK1.size.trans hs0
 have hd1 : a1.defers = [] := hK1.defers.trans hd0
 refine wpIn_seq (wpIn_seq (z4c z04 z16 hop _ (.inr (by kernel_rfl)) (e1_158 b mm c (.func (.yield l) #[] #[])) (by rw [hs1]; kernel_rfl) (by kernel_rfl) hT1 fun M3 a3 w3 hT3 hK3 => ?_))
 have hJ3 := hJc _ _ _ _ _ hJ1 hT3.1 hK3.grow
 have hs3 : a3.tmps.size = 44 := hK3.size.trans hs1
 have hd3 : a3.defers = [] := hK3.defers.trans hd1
 have hle3 := Mem.le_trans hK1.le hK3.le
 refine wpIn_cond_split (z1v.1 (hT3.data (s := 14) (t := .bool) (x := ((b.length : Int) == c)) (by simp))) (fun ht => ?_) (fun ht => wpIn_skip ?_)
 ·
  have hk : k = 0 := by have := eq_of_beq ht; omega
  subst hk
  refine wpIn_seq ?_
  rw [ybr]
  refine wpIn_region ?_
  refine zdg z16 hop 0 2 (by rw [Nat.sub_zero, List.range_eq_range']) (by rw [zt8]; decide) (e2_158 b mm c (.func (.yield l) #[] #[])) hs3 (by kernel_rfl) (by kernel_rfl) (hT3.sub (by simp)) fun M4 a4 w4 hT4 hK4 => ?_
  have hJ4 := hJc _ _ _ _ _ hJ3 hT4.1 hK4.grow
  have hs4 : a4.tmps.size = 44 := hK4.size.trans hs3
  have hd4 : a4.defers = [] := hK4.defers.trans hd3
  have hle4 := Mem.le_trans hle3 hK4.le
  rw [show List.range' (0 + 2) ((opsOf zow).size - (0 + 2)) = 2 :: List.range' 3 1 from by rw [zt8]; rfl]
  refine y50 hop hro (o := y0y) (cc := z6y y0y) (s := 15) (l := l) (by kernel_rfl) (by kernel_rfl) (by kernel_rfl) (by kernel_rfl) (hT4.raw (by simp))
   (R := fun e W' => ∃ N', Mem.le M4 N' ∧ ((e = .returned (.bool true) ∧ J (pre ++ [b]) N' W') ∨ (e = .returned (.bool false) ∧ Jx (pre ++ [b]) N' W'))) ?_ ?_
  ·rw [show (z6y y0y).args.map a4.eval = #[a4.eval (.tmp 16)] from by rw [yay]; simp only [List.map_toArray, List.map_cons, List.map_nil]]
   exact zmu hd _ (hY pre b M4 w4 _ hJ4 hpre (hT4.data (by simp)))
  ·rintro e W5 ⟨N5, hle5, hc⟩
   have hw : ∃ t, e = .returned (.bool t) ∧ Good N5 W5 ∧ ((Ending.returned (.bool t) = .returned (.bool true) ∧ J (pre ++ [b]) N5 W5) ∨ (Ending.returned (.bool t) = .returned (.bool false) ∧ ∃ p, p <+: xs ∧ Jx p N5 W5)) := by
    rcases hc with ⟨rfl, h⟩ | ⟨rfl, h⟩
    ·exact ⟨true, rfl, hJg _ _ _ h, .inl ⟨rfl, h⟩⟩
    ·exact ⟨false, rfl, hJxg _ _ _ h, .inr ⟨rfl, _, hpre, h⟩⟩
   obtain ⟨t, rfl, hg5, hend⟩ := hw
   refine ⟨_, rfl, ?_⟩
   rw [show y0y.dst = some 17 from by kernel_rfl]
   have hT5 : Thin Tryz.prog N5 [(17, .data .bool t [])] (a4.put (some 17) (.bool t)) W5 := Thin.put (l := []) ⟨hg5, fun e he => by cases he⟩ (by rw [hs4]; decide) ⟨z1v.2 rfl, rfl⟩ rfl
   refine zdg (n0 := 44) z16 hop 3 1 (by rw [zt8]) (by rw [zt8]; decide) (yez t) (by rw [z4f]; exact hs4) (by kernel_rfl) (by kernel_rfl) hT5 fun M6 a6 w6 hT6 hK6 => ?_
   rw [show List.range' (3 + 1) ((opsOf zow).size - (3 + 1)) = [] from by rw [zt8]; rfl]
   show Code.ret.wpIn F n Tryz.prog _ a6 w6
   refine wpIn_ret ?_
   exact yac hT6 (t := t) (by simp) ((hK6.defers.trans (put_defers _ _ _)).trans hd4) (zuu hJc hJx ⟨N5, Mem.le_trans hle4 hle5, hK6.le, hend, hT6.1, hK6.grow⟩)
 ·have hne := ne_of_beq_false ht
  cases k with
  | zero => exact absurd (by omega) hne
  | succ k =>
  refine wpIn_seq (z4c z04 z16 hop _ (.inr (by kernel_rfl)) (e3_158 b mm c (.func (.yield l) #[] #[])) (by rw [hs3]; kernel_rfl) (by kernel_rfl) (hT3.sub (by simp)) fun M4 a4 w4 hT4 hK4 => ?_)
  have hJ4 := hJc _ _ _ _ _ hJ3 hT4.1 hK4.grow
  have hs4 : a4.tmps.size = 44 := hK4.size.trans hs3
  have hd4 : a4.defers = [] := hK4.defers.trans hd3
  have hle4 := Mem.le_trans hle3 hK4.le
  refine wpIn_seq (z4c z04 z16 hop _ (.inr (by kernel_rfl)) ((e4_158 b mm c (.func (.yield l) #[] #[])).trans (by rw [hfr]; rfl)) (by rw [hs4]; kernel_rfl) (by kernel_rfl) hT4 fun M5 a5 w5 hT5 hK5 => ?_)
  have hJ5 := hJc _ _ _ _ _ hJ4 hT5.1 hK5.grow
  have hs5 : a5.tmps.size = 44 := hK5.size.trans hs4
  have hd5 : a5.defers = [] := hK5.defers.trans hd4
  have hle5 := Mem.le_trans hle4 hK5.le
  refine wpIn_seq (wpIn_seq (z4c z04 z16 hop _ (.inr (by kernel_rfl)) (e6_158 b mm c (.func (.yield l) #[] #[]) fr) (by rw [hs5]; kernel_rfl) (by kernel_rfl) hT5 fun M6 a6 w6 hT6 hK6 => ?_))
  refine wpIn_block (wpIn_loop_rounds ((mm - fr).toNat + 1) ?_)
  exact y8j hd hF hal hro hJg hJxg hJc hJx hmm hcc (ih k rfl) (by omega) hpre (fun _ _ h => h) (mm - fr).toNat fr hf0 hf1 rfl [] (by rw [List.nil_append]; rfl) M6 a6 w6 (Mem.le_trans hle5 hK6.le) hT6 (hK6.size.trans hs5) (hK6.defers.trans hd5) (by rw [List.append_nil]; exact hJc _ _ _ _ _ hJ5 hT6.1 hK6.grow)
include hd hF hal hro hJg hJxg hJc hJx hY in
theorem yah {mm c : Int} (hmm : mm ≤ 1000) (hcc : c ≤ 1000) : ∀ k, zzs F l xs J Jx mm c k
 | 0 => y87 hd hF hal hro hJg hJxg hJc hJx hY hmm hcc fun k' h => by cases h
 | k + 1 => y87 hd hF hal hro hJg hJxg hJc hJx hY hmm hcc fun k' h => by cases h; exact yah hmm hcc k
end walk
end Go.Lift
namespace Go.Lift
open Go Go.Proofs Go.RowKit
noncomputable def c112 : Code := Tryz.f112.body.getD .skip
noncomputable def c157 : Code := Tryz.f157.body.getD .skip
theorem e112 (mm c : Int) : z1w (cx [] []) c112 (.seq .nil (.seq (.frz 2 (.frz 3 .nil)) .nil)) (stOf [(0, .data NI mm []), (1, .data NI c [])]) obsC = some (157, [.inr ⟨NI, mm⟩, .inr ⟨NI, c⟩]) := by kernel_rfl
theorem e157 (mm c : Int) (v : Value) : z2u (cx [] []) (opsOf c157).toList (List.range' 0 3) (stOf [(0, .raw v), (1, .data (.ptr NI) mm []), (2, .data (.ptr NI) c [])]) [] (obsT [] [4, 5, 6]) = some [(4, .data NI mm []), (5, .data NI c []), (6, .raw v)] := by kernel_rfl
noncomputable def o157 : Oper := (opsOf c157).getD 3 default
theorem yfd : (z6y o157).args = #[.const (.slice none 0 0), .tmp 4, .tmp 5, .tmp 6] := by kernel_rfl
set_option maxHeartbeats 1000000 in
theorem seq157 {mm c : Int} (hmm : mm ≤ 1000) (hcc : c ≤ 1000) (hc0 : 0 ≤ c) {M : Mem} {u v : Value} (hu : relV Tryz.prog (.ptr NI) M mm u) (hv : relV Tryz.prog (.ptr NI) M c v) :
  zwj Tryz.prog (fun M' x v => z0z TI.agg (relC Tryz.prog TI M' x) v) M (subL mm c.toNat [] 0) 157 #[u, v] := by
 refine ⟨Go.Proofs.enters_of Tryz.func157 (by kernel_rfl) rfl, ?_⟩
 intro F n l J Jx M0 W hM hd hF hal hro hJg hJxg hJc hJx hY h0
 have hop : Open F := ⟨hF, hd, hal⟩
 show CallsIn F n Tryz.prog 157 #[.func (.yield l) #[] #[], u, v] W _
 refine callsIn_of_wp (c := c157) Tryz.func157 (by kernel_rfl) (hF 157) ?_ hro
 obtain ⟨a0, ha0⟩ : ∃ a0 : Act, a0 = { tmps := #[.func (.yield l) #[] #[], u, v] ++ Array.replicate (Tryz.f157.ntmps - (#[.func (.yield l) #[] #[], u, v] : Array Value).size) undef, defers := [] } := ⟨_, rfl⟩
 rw [← ha0]
 have hs0 : a0.tmps.size = 8 := by rw [ha0, Tryz.ntmps157]; simp
 have hd0 : a0.defers = [] := by rw [ha0]
 have hT0 : Thin Tryz.prog M0 [(0, .raw (.func (.yield l) #[] #[])), (1, .data (.ptr NI) mm []), (2, .data (.ptr NI) c [])] a0 W := by
  rw [ha0]
  refine zar (hJg _ _ _ h0) fun e he => ?_
  simp only [List.mem_cons, List.not_mem_nil, or_false] at he
  rcases he with rfl | rfl | rfl
  ·exact ⟨by show 0 < 3; omega, rfl⟩
  ·exact ⟨by show 1 < 3; omega, z4x hM hu, rfl⟩
  ·exact ⟨by show 2 < 3; omega, z4x hM hv, rfl⟩
 rw [show c157 = .region 0 (opsOf c157) false from by kernel_rfl]
 refine wpIn_region ?_
 have hsz : (opsOf c157).size = 4 := by kernel_rfl
 refine zdg (n0 := 8) z16 hop 0 3 (by rw [Nat.sub_zero, List.range_eq_range']) (by rw [hsz]; decide) (e157 mm c (.func (.yield l) #[] #[])) hs0 (by kernel_rfl) (by kernel_rfl) hT0 fun M1 a1 w1 hT1 hK1 => ?_
 have hJ1 := hJc _ _ _ _ _ h0 hT1.1 hK1.grow
 rw [show List.range' (0 + 3) ((opsOf c157).size - (0 + 3)) = [3] from by rw [hsz]; rfl, wpOpsIn_cons]
 refine zh3 hop (o := o157) (cc := z6y o157) (f := 158) (by kernel_rfl) (z6f (by kernel_rfl)) (by kernel_rfl) (by kernel_rfl) (enters_of (by kernel_rfl)) (R := zpn J Jx (subL mm c.toNat [] 0) [] (subL mm c.toNat [] 0) M1) ?_ ?_
 ·rw [yfd]
  simp only [List.map_toArray, List.map_cons, List.map_nil]
  rw [hT1.raw (s := 6) (v := .func (.yield l) #[] #[]) (by simp)]
  exact yah (n0 := n - 1) hd hF hal hro hJg hJxg hJc hJx hY hmm hcc c.toNat [] 0 ya7 (by omega) (by omega) (by simp; omega) (n - 1) [] M1 w1 _ _ _ hJ1 yd4 (hT1.data (s := 4) (t := NI) (x := mm) (by simp)) (hT1.data (s := 5) (t := NI) (x := c) (by simp)) (by simp)
 ·rintro e w2 ⟨M2, hle2, hc⟩
  have hend : ∃ t, e = .returned (.bool t) := by
   rcases hc with ⟨rfl, _⟩ | ⟨rfl, _⟩ <;> exact ⟨_, rfl⟩
  obtain ⟨t, rfl⟩ := hend
  refine ⟨_, rfl, ?_⟩
  refine bodyPost_end (results_none (by kernel_rfl) _ _ _) (by rw [put_defers]; exact hK1.defers.trans hd0) ?_
  refine ⟨⟨_, rfl⟩, M2, Mem.le_trans hK1.le hle2, ?_⟩
  rcases hc with ⟨_, h⟩ | ⟨_, q, hq, h⟩
  ·exact .inl (by simpa using h)
  ·exact .inr ⟨q, hq, h⟩
theorem z4q : Has Tryz.prog zaf := by
 refine ⟨enters_of (by kernel_rfl), fun x L hr M w vs hg hvs => ?_⟩
 obtain ⟨mm, c⟩ := x
 obtain ⟨rv, _, rfl, hrv, iv, rfl, hiv⟩ := hvs
 have hr : z7o mm c = some L := hr
 unfold z7o at hr
 cases hc : (decide ((0 : Int) ≤ mm) && decide (mm ≤ 1000) && decide ((0 : Int) ≤ c) && decide (c ≤ 1000)) with
 | false => rw [hc] at hr; cases hr
 | true =>
 rw [hc, cond_true] at hr
 simp only [Bool.and_eq_true, decide_eq_true_eq] at hc
 cases hr
 refine (callsIn_wide (n := 3)).1 ?_
 refine callsIn_of_wp (c := c112) Tryz.func112 (by kernel_rfl) True.intro ?_ rfl
 obtain ⟨a0, ha0⟩ : ∃ a0 : Act, a0 = { tmps := #[rv, iv] ++ Array.replicate (Tryz.f112.ntmps - (#[rv, iv] : Array Value).size) undef, defers := [] } := ⟨_, rfl⟩
 show c112.wpIn _ _ _ _ { tmps := #[rv, iv] ++ Array.replicate (Tryz.f112.ntmps - (#[rv, iv] : Array Value).size) undef, defers := [] } w
 rw [← ha0]
 have hs0 : a0.tmps.size = 6 := by rw [ha0, Tryz.ntmps112]; simp
 have hd0 : a0.defers = [] := by rw [ha0]
 have hT0 : Thin Tryz.prog M [(0, .data NI mm []), (1, .data NI c [])] a0 w := by
  rw [ha0]
  refine zar hg fun e he => ?_
  simp only [List.mem_cons, List.not_mem_nil, or_false] at he
  rcases he with rfl | rfl
  ·exact ⟨by show 0 < 2; omega, hrv, rfl⟩
  ·exact ⟨by show 1 < 2; omega, hiv, rfl⟩
 refine z5k z04 z16 z8m c112 (.inr (by kernel_rfl)) (e112 mm c) (by rw [hs0]; kernel_rfl) (zd9 hT0) fun e κ' M' σ' a' w' hR' hF' hk => ?_
 have hk' := zkp hF' (z6p (by kernel_rfl))
 unfold obsC at hk
 split at hk
 ·split at hk
  ·rename_i g caps hev
   simp only [Option.some.injEq, Prod.mk.injEq] at hk
   obtain ⟨rfl, rfl⟩ := hk
   obtain ⟨cs, hcv, v1, r1, hcs, h1, v2, r2, hcs2, h2, hcs3⟩ := hR'.env 4 _ hev
   subst hcs3 hcs2
   have hcs' : cs = #[v1, v2] := Array.ext' hcs
   subst hcs'
   refine bodyPost_ret (results_tmp (t := 4) (by kernel_rfl) _ _ _) (hk'.defers.trans hd0) ?_
   refine ⟨M', _, rfl, ?_, hR'.good, hk'.grow⟩
   show relV Tryz.prog (.seq TI) M' (subL mm c.toNat [] 0) (a'.tmps.getD 4 undef)
   rw [hcv]
   exact ⟨157, #[v1, v2], rfl, seq157 hc.1.1.2 hc.2 hc.1.2 h1 h2⟩
  ·cases hk
 ·cases hk
end Go.Lift
