/-
  The walk of InsertedAt, and its contract; the reference's.
-/
import Derived.Test.YtggnjngdmadbaaaGreatDoorCaK
import Derived.Test.YtggnjngdmadbaaaGreatDoorChM
import Derived.Test.YtggnjngdmadbaaaGreatDoorManC
import Derived.Test.YtggnjngdmadbaaaGreatDoorManF
import Derived.Shelf.Lays2
import Derived.Shelf.Spec.SlicesInsert
import Derived.Shelf.Spec.SlicesInsertGrow
import Derived.Test.YtggnjngdmadbaaaGreatDoorManD
import Derived.Test.YtggnjngdmadbaaaGreatDoorVioM
import Derived.Test.YtggnjngdmadbaaaGreatDoorClM
set_option linter.unusedSectionVars false
set_option linter.unusedVariables false
set_option linter.unusedSimpArgs false
namespace Go.Lift
open Go Go.Proofs
set_option maxRecDepth 100000
def ygh : Ann := (.seq .nil (.seq .nil (.seq .nil (.seq .nil (.seq (.seq .nil (.blk (.loopB ⟨[⟨false, 9, 0, (.int .i64), [], false⟩, ⟨false, 10, 0, (.int .i64), [], false⟩, ⟨false, 11, 0, (.int .i64), [], false⟩], [3]⟩ ⟨[⟨false, 9, 0, (.int .i64), [], false⟩], [3]⟩ 0 (.seq .nil (.seq (.blk (.seq .nil (.seq .nil (.seq .nil (.join ⟨[⟨false, 9, 0, (.int .i64), [], false⟩, ⟨false, 10, 0, (.int .i64), [], false⟩], [3, 13, 32, 37]⟩ .nil .nil))))) .nil))))) .nil)))))
noncomputable abbrev cx74 : Ctx := y1w zw3 y11 y1v [] [27] [z5c, zlq, zf7, ztj]
theorem yhh (r : z02) (l : List z00) (s : List Int) : funK cx74 Tryz.f74 ygh [z06, (.slice z03), (.slice (.int .i64))] [(.int .i64), (.int .i64)] (r, l, s) = yg5 r l s := by kernel_rfl
theorem yg2 : Has Tryz.prog yg8 :=
 yel z04 z0s z0t z0u (own := []) (owns := [27]) (all_cons zbq (all_cons zuo (all_cons zn3 (all_cons y5l all_nil)))) (zli (fun _ => zyr) (zli (fun h => by cases h) (zli (fun h => by cases h) (zli (fun h => by cases h) zt0)))) (n := ygh) Tryz.func74 (by kernel_rfl) fun x => yhh x.1 x.2.1 x.2.2
end Go.Lift
namespace Go.Proofs
open Go
def Tryz.lays2n21_ren : Go.Shelf.Ren := ⟨fun | 21 => 134 | 27 => 178 | 28 => 179 | 35 => 211 | 39 => 242 | n => n, fun | 22 => 41 | 3 => 3 | 4 => 4 | 0 => 0 | n => n, fun | n => n⟩
theorem Tryz.lays2n21 : Go.Proofs.Lays2.n21 Tryz.prog Tryz.lays2n21_ren := {
 mixed := by kernel_rfl
 f21 := Tryz.func134.trans (congrArg some (by kernel_rfl))
 f27 := Tryz.func178.trans (congrArg some (by kernel_rfl))
 f28 := Tryz.func179.trans (congrArg some (by kernel_rfl))
 f35 := Tryz.func211.trans (congrArg some (by kernel_rfl))
 f39 := Tryz.func242.trans (congrArg some (by kernel_rfl))
 t0 := Tryz.underlying0
 a0 := Tryz.isAgg0
 z0 := Tryz.sizeOf0
 v0 := Tryz.zeroValue0
 t3 := Tryz.underlying3
 a3 := Tryz.isAgg3
 z3 := Tryz.sizeOf3
 v3 := Tryz.zeroValue3
 t4 := Tryz.underlying4
 a4 := Tryz.isAgg4
 z4 := Tryz.sizeOf4
 v4 := Tryz.zeroValue4
 t22 := Tryz.underlying41
 a22 := Tryz.isAgg41
 z22 := Tryz.sizeOf41
 v22 := Tryz.zeroValue41
 i3 := by kernel_rfl
}
end Go.Proofs
namespace Go.Lift
open Go Go.Proofs Go.RowKit
def insL (l : List Int) (i : Nat) (x : Int) : List Int := l.take i ++ x :: l.drop i
def yfq (l : List Int) : List Value := l.map fun n => .int .i64 n
def ygj (M : Mem) (b : Nat) (vs : List Value) : Mem := fun b' o => if b' = b then vs[o]? else M b' o
theorem good_row {M : Mem} {w w' : World} {n0 b : Nat} {vs : List Value} (hg : Good M w) (hM : ∀ b, n0 ≤ b → ∀ o, M b o = none) (hn : n0 ≤ w.heap.size) (hb : n0 ≤ b) (hbel : Below n0 w w') (hsz : ze5 w w')
  (hc : ∀ j, j < vs.length → w'.cell? ⟨b, j, none⟩ = vs[j]?) : Mem.le M (ygj M b vs) ∧ Good (ygj M b vs) w' ∧ (∀ b', b' < n0 → ygj M b vs b' = M b') := by
 have hle : Mem.le M (ygj M b vs) := fun b' o u hu => by
  unfold ygj
  by_cases e : b' = b
  ·subst e; rw [hM _ hb] at hu; cases hu
  ·rw [if_neg e]; exact hu
 refine ⟨hle, ⟨Tab.keep hle hsz hg.1, fun b' o u hu => ?_⟩, fun b' h => ?_⟩
 ·unfold ygj at hu
  by_cases e : b' = b
  ·subst e
   rw [if_pos rfl] at hu
   rw [hc o (List.getElem?_eq_some_iff.1 hu).1]
   exact hu
  ·rw [if_neg e] at hu
   have h1 := hg.2 _ _ _ hu
   have hlt : b' < n0 := Nat.lt_of_not_le fun h => by rw [hM _ h] at hu; cases hu
   rw [hbel.cell hlt]; exact h1
 ·funext o; unfold ygj; rw [if_neg (by omega)]
theorem yhl {M : Mem} {b cap : Nat} {l : List Int} (hcap : l.length ≤ cap) : relV Tryz.prog TI (ygj M b (yfq l)) l (.slice (some ⟨b, 0, none⟩) l.length cap) := by
 unfold relV z0z
 simp only [Ty.agg, Bool.false_eq_true, if_false]
 refine ⟨_, rfl, .inr (.inl ⟨b, 0, cap, yfq l, rfl, hcap, by simp [yfq, Ty.size], fun j u hj => ?_, fun i hi => ?_⟩)⟩
 ·unfold ygj
  rw [if_pos rfl, Nat.zero_add]
  exact hj
 ·show ((yfq l).drop (i * 1)).take 1 = [.int .i64 l[i]]
  rw [Nat.mul_one, List.take_one, List.head?_drop]
  unfold yfq
  rw [List.getElem?_map, List.getElem?_eq_getElem hi]
  rfl
theorem yfv (w : World) : ze5 w w.drew := fun j c t fr h => ⟨c, fr, h, rfl⟩
theorem ze5.trans' {a b c : World} (h : ze5 a b) (k : ze5 b c) : ze5 a c := fun j cs t fr hj => by
 obtain ⟨c1, f1, h1, e1⟩ := h j cs t fr hj
 obtain ⟨c2, f2, h2, e2⟩ := k j c1 t f1 h1
 exact ⟨c2, f2, h2, e2.trans e1⟩
theorem ygn (w : World) (p : Addr) (u : Value) : ze5 w (w.setCell p u) := fun j c t fr h => by
 by_cases e : j = p.block
 ·subst e
  simp only [World.setCell, Array.getElem?_modify, if_pos, h, Option.map_some]
  split <;> first | exact ⟨_, _, rfl, by simp⟩ | exact ⟨_, _, rfl, rfl⟩
 ·exact ⟨c, fr, by rw [Below.heap_setCell _ _ _ _ e]; exact h, rfl⟩
theorem yfo (b : Nat) : ∀ (vs : List Value) (o : Nat) (w : World), ze5 w (w.setCells b o vs)
 | [], _, w => ze5.refl w
 | v :: vs, o, w => (ygn w ⟨b, o, none⟩ v).trans' (yfo b vs (o + 1) _)
theorem yg4 (w : World) (o : Obj) : ze5 w (w.alloc o) := fun j c t fr h => ⟨c, fr, by rw [Below.heap_alloc _ _ _ (Array.getElem?_eq_some_iff.1 h).1]; exact h, rfl⟩
theorem yfz {B : Nat} {a : World} (b : Nat) (hb : B ≤ b) : ∀ (vs : List Value) (o : Nat) {w : World}, Below B a w → Below B a (w.setCells b o vs)
 | [], _, _, h => h
 | v :: vs, o, w, h => yfz b hb vs (o + 1) (h.setCell (p := ⟨b, o, none⟩) hb v)
theorem yi9 (l : List Int) {i : Nat} (hi : i ≤ l.length) (x : Int) : (insL l i x).length = l.length + 1 := by
 unfold insL
 simp
 omega
theorem ygk (l : List Int) (i : Nat) (x : Int) : yfq (insL l i x) = (yfq l).take i ++ .int .i64 x :: (yfq l).drop i := by
 unfold insL yfq
 simp
theorem ygc (l : List Int) : (yfq l).length = l.length := by simp [yfq]
theorem yhm {l : List Int} {v : Value} (h : v ∈ yfq l) : v.oneCell' = true := by
 unfold yfq at h
 obtain ⟨n, _, rfl⟩ := List.mem_map.1 h
 rfl
theorem yfw {w : World} {b o : Nat} {vs : List Value} (hsp : ∀ j, j < vs.length → (w.cell? ⟨b, o + j, none⟩).isSome = true) {k : Nat} : (w.setCells b o vs).cell? ⟨b, k, none⟩ = if o ≤ k ∧ k - o < vs.length then vs[k - o]? else w.cell? ⟨b, k, none⟩ := by
 by_cases h : o ≤ k ∧ k - o < vs.length
 ·rw [if_pos h]
  have := World.cell?_setCells_in b vs o w hsp (k - o) h.2
  rw [show o + (k - o) = k by omega] at this
  rw [this, List.getElem?_eq_getElem h.2]
 ·rw [if_neg h]
  exact World.cell?_setCells_out b vs o w ⟨b, k, none⟩ fun _ _ => by show k < o ∨ o + vs.length ≤ k; omega
set_option maxHeartbeats 1000000 in
theorem yhd {F : Fence} (hF : Open F) (n : Nat) {M : Mem} {w : World} {n0 : Nat} (hg : Good M w) (hn : n0 ≤ w.heap.size) (hM : ∀ b, n0 ≤ b → ∀ o, M b o = none) {l : List Int} {i : Nat} {x : Int} (hl : l.length ≤ 1000) (hi : i ≤ l.length) {v : Value} {vb : Nat} {Tv : TypeId}
  (hv : (v = .slice none 0 0 ∧ l = []) ∨ ∃ b cap cur E, n0 ≤ b ∧ v = .slice (some ⟨b, 0, none⟩) l.length cap ∧ w.heap[b]? = some (.cells cur E (0, 0)) ∧ cur.size = cap ∧ l.length ≤ cap ∧ cap ≤ maxLen ∧ vb ≠ b ∧ ∀ j (h : j < l.length), w.cell? ⟨b, j, none⟩ = some (.int .i64 l[j]))
  (hvb : w.heap[vb]? = some (.cells #[.int .i64 x] Tv (0, 0))) :
  CallsIn F n Tryz.prog 134 #[v, .int .i64 i, .slice (some ⟨vb, 0, none⟩) 1 1] w fun e w' => ∃ M' u, e = .returned u ∧ Mem.le M M' ∧ Good M' w' ∧ Below n0 w w' ∧ (∀ b, b < n0 → M' b = M b) ∧ relV Tryz.prog TI M' (insL l i x) u := by
 have hx : w.cell? ⟨vb, 0, none⟩ = some (.int .i64 x) := by rw [z63 hvb]; rfl
 have hvs : ∀ j v, [Value.int .i64 x][j]? = some v → w.cell? ⟨vb, 0 + j, none⟩ = some v := fun j v hj => by
  cases j with
  | zero => simp only [List.getElem?_cons_zero, Option.some.injEq] at hj; subst hj; exact hx
  | succ j => simp at hj
 have h1v : ∀ v ∈ [Value.int .i64 x], v.oneCell' = true := fun v hv => by rw [List.mem_singleton.1 hv]; rfl
 have hil := yi9 l hi x
 have newRow : ∀ (w' : World) (cap : Nat), l.length + 1 ≤ cap → Below n0 w w' → ze5 w w' → n0 ≤ w.heap.size → (∀ j, j < (yfq (insL l i x)).length → w'.cell? ⟨w.heap.size, j, none⟩ = (yfq (insL l i x))[j]?) →
   ∃ M' u, Ending.returned (.slice (some ⟨w.heap.size, 0, none⟩) (l.length + 1) cap) = .returned u ∧ Mem.le M M' ∧ Good M' w' ∧ Below n0 w w' ∧ (∀ b, b < n0 → M' b = M b) ∧ relV Tryz.prog TI M' (insL l i x) u := fun w' cap hcap hbel hsz hnn hc => by
  obtain ⟨h1, h2, h3⟩ := good_row (vs := yfq (insL l i x)) hg hM hn hnn hbel hsz hc
  exact ⟨_, _, rfl, h1, h2, hbel, h3, by rw [← hil]; exact yhl (by omega)⟩
 rcases hv with ⟨rfl, rfl⟩ | ⟨b, cap, cur, E, hb, rfl, hbk, hcur, hcap, hmax, hne, hcs⟩
 ·
  have hi0 : i = 0 := by simpa using hi
  subst hi0
  refine hF.calls (Calls.mono (Any2.slices_Insert_int_end_grow Tryz.lays2n21 none 0 0 vb 0 1 1 [] [.int .i64 x] w (by omega) (by omega) (by omega) (by omega) rfl rfl (fun _ => rfl) (fun a ha => by cases ha) hvs h1v) fun e w' he => ?_)
  obtain ⟨rfl, rfl⟩ := he
  have hgc : 1 ≤ grownCap w (0 + 1) 0 (Tryz.lays2n21_ren.t 3) := grownCap_ge ..
  refine newRow _ _ hgc (((Below.refl _ _).drew).alloc hn _) ((yfv w).trans' (yg4 _ _)) hn fun j hj => ?_
  rw [z63 (g := w.heap.size) (World.alloc_heap_new w.drew _)]
  have : j = 0 := by simp [yfq, insL] at hj; omega
  subst this
  rw [Array.getElem?_append_left (by simp)]
  rfl
 have hlv := ygc l
 have hfr : ∀ o, w.frozen? ⟨b, o, none⟩ = false := fun o => by simp only [World.frozen?, hbk]; rfl
 have hfv : ∀ o, w.frozen? ⟨vb, o, none⟩ = false := fun o => by simp only [World.frozen?, hvb]; rfl
 have hsp : ∀ j, j < cap → (w.cell? ⟨b, j, none⟩).isSome = true := fun j hj => by
  rw [z63 hbk, Array.getElem?_eq_getElem (by omega)]; rfl
 have hcs' : ∀ j v, (yfq l)[j]? = some v → w.cell? ⟨b, 0 + j, none⟩ = some v := fun j v hj => by
  obtain ⟨ho, rfl⟩ := List.getElem?_eq_some_iff.1 hj
  rw [Nat.zero_add, hcs j (by omega)]
  simp [yfq]
 have hcc : ∀ j, j < l.length → w.cell? ⟨b, j, none⟩ = (yfq l)[j]? := fun j hj => by
  rw [hcs j hj]; simp [yfq, hj]
 by_cases hroom : l.length + 1 ≤ cap
 ·
  have fin : ∀ w' : World, Below n0 w w' → ze5 w w' → (∀ j, j < (yfq (insL l i x)).length → w'.cell? ⟨b, j, none⟩ = (yfq (insL l i x))[j]?) →
    ∃ M' u, Ending.returned (.slice (some ⟨b, 0, none⟩) (l.length + 1) cap) = .returned u ∧ Mem.le M M' ∧ Good M' w' ∧ Below n0 w w' ∧ (∀ b, b < n0 → M' b = M b) ∧ relV Tryz.prog TI M' (insL l i x) u := fun w' hbel hsz hc => by
   obtain ⟨h1, h2, h3⟩ := good_row (vs := yfq (insL l i x)) hg hM hn hb hbel hsz hc
   exact ⟨_, _, rfl, h1, h2, hbel, h3, by rw [← hil]; exact yhl (by omega)⟩
  by_cases hin : i = l.length
  ·refine hF.calls (Calls.mono (by rw [hin]; exact Any2.slices_Insert_int_end_room Tryz.lays2n21 b 0 l.length cap vb 0 1 1 [.int .i64 x] w (by omega) hroom (Nat.le_trans hmax (by decide)) rfl (fun j hj => by rw [Nat.zero_add]; exact hsp _ (by omega)) (fun j hj => hfr _) hvs h1v) fun e w' he => ?_)
   obtain ⟨rfl, rfl⟩ := he
   refine fin _ (yfz b hb _ _ (Below.refl _ _)) (yfo _ _ _ _) fun j hj => ?_
   rw [yfw (fun j hj => by simp at hj; exact hsp _ (by omega))]
   rw [ygc, hil] at hj
   have hget : (yfq (insL l i x))[j]? = if j < l.length then (yfq l)[j]? else some (.int .i64 x) := by
    rw [ygk, hin, List.take_of_length_le (by omega), List.drop_of_length_le (by omega)]
    split
    ·rw [List.getElem?_append_left (by omega)]
    ·rw [List.getElem?_append_right (by omega), show j - (yfq l).length = 0 by omega]; rfl
   by_cases hj2 : j < l.length
   ·rw [if_neg (by omega), hcc j hj2, hget, if_pos hj2]
   ·rw [if_pos (by simp; omega), hget, if_neg hj2, show j - (0 + l.length) = 0 by omega]; rfl
  ·have hlt : i < l.length := by omega
   refine hF.calls (Calls.mono (Any2.slices_Insert_int_shift Tryz.lays2n21 b 0 l.length cap i vb 0 1 1 (yfq l) [.int .i64 x] w hlt (by omega) hroom (Nat.le_trans hmax (by decide)) hne hlv rfl hcs' (fun j hj => by rw [Nat.zero_add]; exact hsp _ (by omega)) (fun j hj => hfr _) hvs (fun v hv => yhm hv) h1v
    Tv E 1 cap (by simp only [World.shape?, hvb]; rfl) (by simp only [World.shape?, hbk, hcur]) (by omega) (hfv _) (hfv _)) fun e w' he => ?_)
   obtain ⟨rfl, rfl⟩ := he
   have hd1 : ∀ j, (w.drew.cell? ⟨b, j, none⟩) = w.cell? ⟨b, j, none⟩ := fun j => rfl
   have hdl : ((yfq l).drop i).length = l.length - i := by rw [List.length_drop, hlv]
   refine fin _ (yfz b hb _ _ (yfz b hb _ _ (Below.refl _ _).drew)) (((yfv w).trans' (yfo _ _ _ _)).trans' (yfo _ _ _ _)) fun j hj => ?_
   rw [ygc, hil] at hj
   have hsp1 : ∀ k, k < ((yfq l).drop i).length → (w.drew.cell? ⟨b, 0 + (i + 1) + k, none⟩).isSome = true := fun k hk => by rw [hd1]; exact hsp _ (by omega)
   have hsp2 : ∀ k, k < [Value.int .i64 x].length → ((w.drew.setCells b (0 + (i + 1)) ((yfq l).drop i)).cell? ⟨b, 0 + i + k, none⟩).isSome = true := fun k hk => by
    rw [yfw hsp1]
    split
    ·rename_i h; rw [List.getElem?_eq_getElem h.2]; rfl
    ·rw [hd1]; simp at hk; exact hsp _ (by omega)
   rw [yfw hsp2, yfw hsp1, hd1]
   have hget : (yfq (insL l i x))[j]? = if j < i then (yfq l)[j]? else if j = i then some (.int .i64 x) else (yfq l)[j - 1]? := by
    rw [ygk]
    by_cases h1 : j < i
    ·rw [if_pos h1, List.getElem?_append_left (by rw [List.length_take]; omega), List.getElem?_take, if_pos h1]
    ·rw [if_neg h1, List.getElem?_append_right (by rw [List.length_take]; omega), List.length_take, show min i (yfq l).length = i by omega]
     by_cases h2 : j = i
     ·rw [if_pos h2, h2, Nat.sub_self]; rfl
     ·rw [if_neg h2, show j - i = (j - i - 1) + 1 by omega, List.getElem?_cons_succ, List.getElem?_drop, show i + (j - i - 1) = j - 1 by omega]
   by_cases h1 : j < i
   ·rw [if_neg (by omega), if_neg (by omega), hcc j (by omega), hget, if_pos h1]
   ·by_cases h2 : j = i
    ·rw [if_pos (by simp; omega), hget, if_neg h1, if_pos h2, show j - (0 + i) = 0 by omega]; rfl
    ·rw [if_neg (by simp; omega), if_pos (by rw [hdl]; omega), hget, if_neg h1, if_neg h2, List.getElem?_drop]
     congr 1; omega
 ·
  have hgc : l.length + 1 ≤ grownCap w (l.length + 1) cap (Tryz.lays2n21_ren.t 3) := grownCap_ge ..
  by_cases hin : i = l.length
  ·refine hF.calls (Calls.mono (by rw [hin]; exact Any2.slices_Insert_int_end_grow Tryz.lays2n21 (some ⟨b, 0, none⟩) l.length cap vb 0 1 1 (yfq l) [.int .i64 x] w (by omega) hcap (by omega) (by omega) hlv rfl (fun h => by cases h) (fun a ha j v hj => by cases ha; rw [Addr.add_mk]; exact hcs' j v hj) hvs h1v) fun e w' he => ?_)
   obtain ⟨rfl, rfl⟩ := he
   refine newRow _ _ hgc (((Below.refl _ _).drew).alloc hn _) ((yfv w).trans' (yg4 _ _)) hn fun j hj => ?_
   rw [z63 (g := w.heap.size) (World.alloc_heap_new w.drew _)]
   rw [ygc, hil] at hj
   rw [ygk, hin, List.take_of_length_le (by omega), List.drop_of_length_le (by omega)]
   rw [Array.getElem?_append_left (by simp [hlv]; omega)]
   simp
  ·have hlt : i < l.length := by omega
   refine hF.calls (Calls.mono (Any2.slices_Insert_int_grow Tryz.lays2n21 b 0 l.length cap i vb 0 1 1 (yfq l) [.int .i64 x] w hlt (by omega) hcap (by omega) (by omega) hlv rfl hcs' hvs (fun v hv => yhm hv) h1v) fun e w' he => ?_)
   obtain ⟨rfl, rfl⟩ := he
   obtain ⟨w1, hw1⟩ : ∃ w1, w1 = w.alloc (.cells (((yfq l).take i).toArray ++ Builtin.zeroCells (Value.int .i64 0).cells (l.length + 1 - i) ++ Builtin.zeroCells (Value.int .i64 0).cells (grownCap w (l.length + 1) cap (Tryz.lays2n21_ren.t 3) - (l.length + 1))) (Tryz.lays2n21_ren.t 3)) := ⟨_, rfl⟩
   rw [← hw1]
   have hz : ∀ n, (Builtin.zeroCells (Value.int .i64 0).cells n).size = n := fun n => by simp [Builtin.zeroCells, Value.cells]
   have hc1 : ∀ j, w1.cell? ⟨w.heap.size, j, none⟩ = (((yfq l).take i).toArray ++ Builtin.zeroCells (Value.int .i64 0).cells (l.length + 1 - i) ++ Builtin.zeroCells (Value.int .i64 0).cells (grownCap w (l.length + 1) cap (Tryz.lays2n21_ren.t 3) - (l.length + 1)))[j]? := fun j => by
    rw [hw1]; exact z63 (g := w.heap.size) (World.alloc_heap_new w _)
   have hti : ((yfq l).take i).length = i := by rw [List.length_take, hlv]; omega
   have hsome : ∀ j, j < l.length + 1 → (w1.cell? ⟨w.heap.size, j, none⟩).isSome = true := fun j hj => by
    rw [hc1, Array.getElem?_eq_getElem (by simp only [Array.size_append, hz, List.size_toArray, hti]; omega)]; rfl
   have hlow : ∀ j, j < i → w1.cell? ⟨w.heap.size, j, none⟩ = (yfq l)[j]? := fun j hj => by
    rw [hc1, Array.getElem?_append_left (by simp only [Array.size_append, hz, List.size_toArray, hti]; omega), Array.getElem?_append_left (by simp only [List.size_toArray, hti]; omega)]
    rw [List.getElem?_toArray, List.getElem?_take, if_pos hj]
   have hdl : ((yfq l).drop i).length = l.length - i := by rw [List.length_drop, hlv]
   have hb1 : Below n0 w w1 := by rw [hw1]; exact (Below.refl _ _).alloc hn _
   have hs1 : ze5 w w1 := by rw [hw1]; exact yg4 _ _
   refine newRow _ _ hgc (yfz _ hn _ _ (yfz _ hn _ _ hb1.drew).drew) ((((hs1.trans' (yfv w1)).trans' (yfo _ _ _ _)).trans' (yfv _)).trans' (yfo _ _ _ _)) hn fun j hj => ?_
   rw [ygc, hil] at hj
   have hsp1 : ∀ k, k < [Value.int .i64 x].length → (w1.drew.cell? ⟨w.heap.size, i + k, none⟩).isSome = true := fun k hk => by simp at hk; exact hsome _ (by omega)
   have hat1 : ∀ k, (w1.drew.setCells w.heap.size i [Value.int .i64 x]).drew.cell? ⟨w.heap.size, k, none⟩ = if i ≤ k ∧ k - i < [Value.int .i64 x].length then [Value.int .i64 x][k - i]? else w1.cell? ⟨w.heap.size, k, none⟩ := fun k => yfw hsp1
   have hsp2 : ∀ k, k < ((yfq l).drop i).length → ((w1.drew.setCells w.heap.size i [Value.int .i64 x]).drew.cell? ⟨w.heap.size, i + 1 + k, none⟩).isSome = true := fun k hk => by
    rw [hat1, if_neg (by simp; omega)]
    exact hsome _ (by omega)
   rw [yfw hsp2, hat1]
   have hget : (yfq (insL l i x))[j]? = if j < i then (yfq l)[j]? else if j = i then some (.int .i64 x) else (yfq l)[j - 1]? := by
    rw [ygk]
    by_cases h1 : j < i
    ·rw [if_pos h1, List.getElem?_append_left (by rw [List.length_take]; omega), List.getElem?_take, if_pos h1]
    ·rw [if_neg h1, List.getElem?_append_right (by rw [List.length_take]; omega), List.length_take, show min i (yfq l).length = i by omega]
     by_cases h2 : j = i
     ·rw [if_pos h2, h2, Nat.sub_self]; rfl
     ·rw [if_neg h2, show j - i = (j - i - 1) + 1 by omega, List.getElem?_cons_succ, List.getElem?_drop, show i + (j - i - 1) = j - 1 by omega]
   by_cases h1 : j < i
   ·rw [if_neg (by omega), if_neg (by omega), hlow j h1, hget, if_pos h1]
   ·by_cases h2 : j = i
    ·rw [if_neg (by omega), if_pos (by simp; omega), hget, if_neg h1, if_pos h2, h2, Nat.sub_self]; rfl
    ·rw [if_pos (by rw [hdl]; omega), hget, if_neg h1, if_neg h2, List.getElem?_drop]
     congr 1; omega
end Go.Lift
namespace Go.Lift
open Go Go.Proofs Go.RowKit
noncomputable def c72 : Code := Tryz.f72.body.getD .skip
noncomputable abbrev q72 (n : Nat) : Code := Nat.rec c72 (fun _ c => Code.snd c) n
noncomputable abbrev d72 : Code := Code.fst (q72 3)
noncomputable abbrev r7_72 : Code := Code.fst (Code.fst (q72 5))
noncomputable def ygx : Code := Code.fst (Code.fst (Code.snd (Code.fst (q72 5))))
noncomputable abbrev yha : Code := Code.snd (q72 5)
noncomputable abbrev r8_72 : Code := Code.fst ygx
noncomputable def yh6 : Code := Code.fst (Code.fst (Code.snd (Code.snd ygx)))
noncomputable abbrev yhx : Code := Code.snd (Code.snd (Code.snd ygx))
noncomputable abbrev r9_72 : Code := Code.fst yh6
noncomputable abbrev ygg : Code := Code.fst (Code.snd yh6)
noncomputable abbrev yie : Code := Code.fst (Code.snd (Code.snd yh6))
noncomputable abbrev yhy : Code := Code.snd (Code.snd (Code.snd yh6))
abbrev TL : Ty := .slice z03
abbrev TR8 : Ty := .ptr z0a
abbrev s1_72 (l : List z00) (s : List Int) (r : z02) : z4b := [(1, .data TL l []), (2, .data TI s []), (3, .data (.ptr z06) r [])]
abbrev s2_72 (l : List z00) (s : List Int) (x : z05) (e : Int) : z4b := [(1, .data TL l []), (2, .data TI s []), (8, .data TR8 x []), (9, .data NI e [])]
abbrev s3_72 (s : List Int) (x : z05) (e n : Int) : z4b := [(2, .data TI s []), (8, .data TR8 x []), (9, .data NI e []), (10, .data NI n [])]
abbrev yi6 (s : List Int) (x : z05) (n : Int) : z4b := [(2, .data TI s []), (8, .data TR8 x []), (10, .data NI n [])]
abbrev s5_72 (s : List Int) (x : z05) (n : Int) (st : Int × Int) : z4b := [(2, .data TI s []), (8, .data TR8 x []), (10, .data NI n []), (11, .data NI st.1 []), (12, .data NI st.2 [])]
abbrev kl72 (s : List Int) (x : z05) (n : Int) (st : Int × Int) (p : Int) : z4b := [(2, .data TI s []), (8, .data TR8 x []), (10, .data NI n []), (11, .data NI st.1 []), (12, .data NI st.2 []), (39, .data NI (wi64 ((s.length : Int) + 1)) []), (40, .data NI p [])]
abbrev km72 (s : List Int) (x : z05) (n : Int) (st : Int × Int) (p : Int) : z4b := kl72 s x n st p ++ [(13, .data NI p [])]
abbrev kn72 (s : List Int) (x : z05) (n : Int) (st : Int × Int) (p : Int) (t : List Int) : z4b := km72 s x n st p ++ [(14, .data TI t [])]
abbrev ko72 (s : List Int) (x : z05) (n : Int) (st : Int × Int) (p : Int) (t : List Int) (c : Int) : z4b := kn72 s x n st p t ++ [(15, .data NI c [])]
abbrev yii : List Ty := [NI, NI]
noncomputable abbrev cxD : Ctx := cx [] [z5w, z1z, z2e]
noncomputable def K72 (e : Ex) (τ : St) : Option (z4b ⊕ (Int × Int)) := match e with
 | .normal => some (.inl (obs [2, 8, 10] τ))
 | .ret => match results cxD τ yii Tryz.f72.results.toList with
  | some x => some (.inr x)
  | none => none
 | .exit _ => none
noncomputable def E72 (e : Ex) (τ : St) : Option (Int × Int) := match e with
 | .ret => results cxD τ yii Tryz.f72.results.toList
 | _ => none
section
variable (r : z02) (l : List z00) (s t : List Int) (x : z05) (e n p c : Int) (st : Int × Int) (h : Bool)
theorem a72 : z1w (cx [] []) (Code.fst c72) .nil (stOf [(0, .data z06 r []), (1, .data TL l []), (2, .data TI s [])]) (obsK [3] [1, 2, 3]) = some (.normal, s1_72 l s r) := by kernel_rfl
theorem b72 : z1w (cx [] [z6m]) (Code.fst (q72 1)) .nil (stOf (s1_72 l s r)) (obsK [8] [1, 2, 8, 9]) = (z3m r l s).bind fun x => some (.normal, s2_72 l s x.1 x.2) := by kernel_rfl
theorem cc72 : z1w (cx [] []) (Code.fst (q72 2)) .nil (stOf (s2_72 l s x e)) (obsK [] [2, 8, 9, 10]) = some (.normal, s3_72 s x e (wi64 ((l.length : Int) - 1))) := by kernel_rfl
theorem dd72 : z1w cxD d72 (.seq .nil (.seq .nil (.cond (.seq .nil .nil) .nil))) (stOf (s3_72 s x e n)) K72 = (slices_Contains_int s n).bind fun t => (z0l (!t) 23).bind fun u => (z1t [e, u]).bind fun e => bif e != 0 then some (.inr (0, e)) else some (.inl (yi6 s x n)) := by kernel_rfl
theorem f72 : z1w (cx [] []) (Code.fst (q72 4)) .nil (stOf (yi6 s x n)) (obsK [] [2, 8, 10, 11, 12]) = some (.normal, s5_72 s x n (-1, 0)) := by kernel_rfl
theorem g72 : z1w (cx [] []) r7_72 .nil (stOf (s5_72 s x n st)) (obsK [] [2, 8, 10, 11, 12, 39, 40]) = some (.normal, kl72 s x n st 0) := by kernel_rfl
theorem h72 : z1w (cx [] []) r8_72 .nil (stOf (kl72 s x n st p)) (obsK [] [2, 8, 10, 11, 12, 39, 40, 41]) = some (.normal, kl72 s x n st p ++ [(41, .data .bool (decide (p < wi64 ((s.length : Int) + 1))) [])]) := by kernel_rfl
theorem i72 : z1w (cx [] []) r9_72 .nil (stOf (kl72 s x n st p)) (obsK [] [2, 8, 10, 11, 12, 39, 40, 13]) = some (.normal, km72 s x n st p) := by kernel_rfl
theorem k72 : z1w (cx [] [z74]) yie .nil (stOf (kn72 s x n st p t)) (obsK [] [2, 8, 10, 11, 12, 39, 40, 13, 14, 15]) = (z19 x t).bind fun c => some (.normal, ko72 s x n st p t c) := by kernel_rfl
theorem l72 : z1w (cx [] [yfp]) yhy (.seq .nil (.cond .nil .nil)) (stOf (ko72 s x n st p t c)) (obsK [] [2, 8, 10, 11, 12, 39, 40]) = (yfm x t).bind fun h => bif (bif h then (bif decide (st.1 < 0) then true else decide (c < st.2)) else false) then some (.normal, kl72 s x n (p, c) p) else some (.normal, kl72 s x n st p) := by kernel_rfl
theorem m72 : z1w (cx [] []) yhx .nil (stOf (kl72 s x n st p)) (obsK [] [2, 8, 10, 11, 12, 39, 40]) = some (.normal, kl72 s x n st (wi64 (p + 1))) := by kernel_rfl
theorem t72 : z1w cxD yha (.seq (.seq .nil (.cond (.seq .nil .nil) .nil)) (.seq .nil .nil)) (stOf (kl72 s x n st p)) E72 = bif decide (st.1 < 0) then some (0, 12) else some (st.1, 0) := by kernel_rfl
end
end Go.Lift
namespace Go.Lift
open Go Go.Proofs Go.RowKit
theorem yi1 (l : List Int) {i : Nat} (x : Int) : insI l (i : Int) x = insL l i x := by unfold insI insL; rw [Int.toNat_natCast]
noncomputable def yfx (k : Nat) : Oper := (opsOf ygg).getD k default
theorem yi8 : ygg = .region 10 (opsOf ygg) false := by kernel_rfl
theorem ygu : (opsOf ygg).size = 7 := by kernel_rfl
theorem body72 : c72 = .seq (Code.fst c72) (.seq (Code.fst (q72 1)) (.seq (Code.fst (q72 2)) (.seq d72 (.seq (Code.fst (q72 4)) (.seq (.seq r7_72 (.block 0 (.loop ygx))) yha))))) := by kernel_rfl
theorem yi0 : ygx = .seq r8_72 (.seq (.cond (.tmp 41) .skip (.exit 0)) (.seq (.block 1 (.seq r9_72 (.seq ygg (.seq yie yhy)))) yhx)) := by kernel_rfl
theorem j0_72 (s : List Int) (x : z05) (n : Int) (st : Int × Int) (p : Int) : z2u (cx [] []) (opsOf ygg).toList (List.range' 0 1) (stOf (km72 s x n st p)) [] (obsT [] [2, 8, 10, 11, 12, 39, 40, 13, 43]) = some (km72 s x n st p ++ [(43, .data TI s [])]) := by kernel_rfl
theorem j6_72 (s : List Int) (x : z05) (n : Int) (st : Int × Int) (p : Int) (t : List Int) : z2u (cx [] []) (opsOf ygg).toList (List.range' 6 1) (stOf ((48, .data TI t []) :: km72 s x n st p)) [] (obsT [] [2, 8, 10, 11, 12, 39, 40, 13, 14]) = some (kn72 s x n st p t) := by kernel_rfl
theorem yic : (z6y (yfx 1)).args = #[.tmp 43] := by kernel_rfl
theorem yib : (z6y (yfx 5)).args = #[.tmp 44, .tmp 45, .tmp 47] := by kernel_rfl
theorem yih : (yfx 2).op = .move (.tmp 13) := by kernel_rfl
theorem yig : (yfx 3).op = .move (.tmp 10) := by kernel_rfl
theorem yif : (yfx 4).op = .buildSlice 41 1 #[(0, .tmp 46)] := by kernel_rfl
theorem yh7 {P : Program} {F : Fence} (hF : Open F) {n c : Nat} {ops : Array Oper} {o : Oper} {a : Act} {w w' : World} {v : Value} (ho : ops[c]? = some o) (hw : Region.wanted o (yielded ops a.tmps) = true) (hno : ∀ c', o.op ≠ .defer c')
  {Q : Exit → Act → World → Prop} {K : Act → World → Prop} (hrun : (execOp a.eval o).run P w = .ok (.value v) w') (hK : K (a.put o.dst v) w') : wpOpIn F n P ops Q c K a w := by
 refine zk2 ho ?_
 rw [hw, if_pos rfl]
 refine ⟨fun f _ => hF.fn f, ?_⟩
 rw [Oper.semAt_eq _ _ _ (fun c' hc => absurd hc (hno c'))]
 rw [hrun, Oper.uponIn_value]
 exact hK
structure Kp (base : Nat) (M : Mem) (a : Act) (w : World) (M' : Mem) (a' : Act) (w' : World) : Prop where
 le : Mem.le M M'
 below : Below base w w'
 mem : ∀ b, b < base → M' b = M b
 size : a'.tmps.size = a.tmps.size
 defers : a'.defers = a.defers
theorem yg9 {B B' : Nat} {w w' : World} (h : Below B w w') (hB : B' ≤ B) : Below B' w w' := ⟨h.os, h.tape, h.output, h.size, fun k hk => h.block k (by omega)⟩
theorem Kp.refl {base : Nat} {M : Mem} {a : Act} {w : World} : Kp base M a w M a w := ⟨Mem.le_refl _, Below.refl _ _, fun _ _ => rfl, rfl, rfl⟩
theorem Kp.trans {base : Nat} {M M1 M2 : Mem} {a a1 a2 : Act} {w w1 w2 : World} (h : Kp base M a w M1 a1 w1) (k : Kp base M1 a1 w1 M2 a2 w2) : Kp base M a w M2 a2 w2 :=
 ⟨Mem.le_trans h.le k.le, h.below.trans k.below, fun b hb => (k.mem b hb).trans (h.mem b hb), k.size.trans h.size, k.defers.trans h.defers⟩
theorem Kp.of {base : Nat} {M M1 : Mem} {a a1 : Act} {w w1 : World} (h : Keep M a w M1 a1 w1) (hb : base ≤ w.heap.size) : Kp base M a w M1 a1 w1 :=
 ⟨h.le, yg9 h.grow.below hb, fun b hlt => h.grow.mem b (by omega), h.size, h.defers⟩
theorem Kp.next {base : Nat} {M M1 M2 : Mem} {a a1 a2 : Act} {w w1 w2 : World} (h : Kp base M a w M1 a1 w1) (k : Keep M1 a1 w1 M2 a2 w2) (hb : base ≤ w.heap.size) : Kp base M a w M2 a2 w2 :=
 h.trans (.of k (Nat.le_trans hb h.below.size))
set_option maxRecDepth 100000 in
set_option maxHeartbeats 1000000 in
theorem yhs {F : Fence} (hF : Open F) {nn : Nat} {M : Mem} {a : Act} {w : World} {s : List Int} {x : z05} {n : Int} {st : Int × Int} {p : Nat} (hs : s.length ≤ 1000) (hp : p ≤ s.length) (hT : Thin Tryz.prog M (km72 s x n st p) a w) (hsz : a.tmps.size = 70) {Q : Exit → Act → World → Prop}
  (hQ : ∀ M' a' w', Thin Tryz.prog M' (kn72 s x n st p (insI s p n)) a' w' → Kp w.heap.size M a w M' a' w' → Q .normal a' w') : ygg.wpIn F nn Tryz.prog Q a w := by
 rw [yi8]
 refine wpIn_region ?_
 refine zdg (n0 := 70) z16 hF 0 1 (by rw [Nat.sub_zero, List.range_eq_range']) (by rw [ygu]; decide) (j0_72 s x n st p) hsz (by kernel_rfl) (by kernel_rfl) hT fun M1 a1 w1 hT1 hK1 => ?_
 have hk1 : Kp w.heap.size M a w M1 a1 w1 := .of hK1 (Nat.le_refl _)
 have hs1 : a1.tmps.size = 70 := hK1.size.trans hsz
 have hb1 := hk1.below.size
 rw [show List.range' (0 + 1) ((opsOf ygg).size - (0 + 1)) = 1 :: List.range' 2 5 from by rw [ygu]; rfl, wpOpsIn_cons]
 have hcl : zae Tryz.prog 135 #[a1.eval (.tmp 43)] M1 w1 NI s := ydo NI s s (by
  show Sig.listRun y8d NI s = some s
  unfold Sig.listRun
  rw [dif_pos rfl]
  show app [] s = some s
  unfold app; rw [if_pos (by simp; omega), List.nil_append]) M1 w1 [a1.eval (.tmp 43)] hT1.1 ⟨_, rfl, hT1.data (s := 43) (t := TI) (x := s) (by simp)⟩
 unfold zae at hcl
 refine zh3 hF (o := yfx 1) (cc := z6y (yfx 1)) (f := 135) (by kernel_rfl) (z6f (by kernel_rfl)) (by kernel_rfl) (by kernel_rfl) (enters_of (by kernel_rfl)) (hcall := by
  rw [yic]
  simp only [List.map_toArray, List.map_cons, List.map_nil]
  exact hF.calls hcl) ?_
 rintro e w2 ⟨M2, v, rfl, hg2, hgr2, hv2, hown⟩
 refine ⟨v, rfl, ?_⟩
 rw [show (yfx 1).dst = some 44 from by kernel_rfl]
 have hg2' : Good M1 w2 := z2g hT1.1 hgr2.below
 have hT2 : Thin Tryz.prog M1 ((44, .raw v) :: km72 s x n st p) (a1.put (some 44) v) w2 := Thin.put ((hT1.turn hg2' (Mem.le_refl _)).sub (by simp)) (by rw [hs1]; decide) rfl rfl
 rw [show List.range' 2 5 = 2 :: 3 :: 4 :: 5 :: List.range' 6 1 from rfl, wpOpsIn_cons]
 have mv : ∀ (o : Oper) (q : Nat), o.op = .move (.tmp q) → ∀ (ρ : Operand → Value) (W : World), (execOp ρ o).run Tryz.prog W = .ok (.value (ρ (.tmp q))) W := fun o q ho ρ W => by simp [execOp, ho]
 refine yh7 hF (o := yfx 2) (by kernel_rfl) (z6f (by kernel_rfl)) (fun c' h => by rw [yih] at h; cases h) (mv _ 13 yih _ _) ?_
 rw [show (yfx 2).dst = some 45 from by kernel_rfl, wpOpsIn_cons]
 have hT2a : Thin Tryz.prog M1 ((45, .data NI (p : Int) []) :: (44, .raw v) :: km72 s x n st p) ((a1.put (some 44) v).put (some 45) ((a1.put (some 44) v).eval (.tmp 13))) w2 := Thin.put hT2 (by rw [z4f, hs1]; decide) ⟨hT2.data (s := 13) (t := NI) (x := (p : Int)) (by simp), rfl⟩ rfl
 refine yh7 hF (o := yfx 3) (by kernel_rfl) (z6f (by kernel_rfl)) (fun c' h => by rw [yig] at h; cases h) (mv _ 10 yig _ _) ?_
 rw [show (yfx 3).dst = some 46 from by kernel_rfl, wpOpsIn_cons]
 obtain ⟨a3, ha3⟩ : ∃ a3, a3 = ((a1.put (some 44) v).put (some 45) ((a1.put (some 44) v).eval (.tmp 13))).put (some 46) (((a1.put (some 44) v).put (some 45) ((a1.put (some 44) v).eval (.tmp 13))).eval (.tmp 10)) := ⟨_, rfl⟩
 rw [← ha3]
 have hT3 : Thin Tryz.prog M1 ((46, .data NI n []) :: (45, .data NI (p : Int) []) :: (44, .raw v) :: km72 s x n st p) a3 w2 := by
  rw [ha3]
  exact Thin.put hT2a (by rw [z4f, z4f, hs1]; decide) ⟨hT2a.data (s := 10) (t := NI) (x := n) (by simp), rfl⟩ rfl
 have hs3 : a3.tmps.size = 70 := by rw [ha3, z4f, z4f, z4f]; exact hs1
 have hd3 : a3.defers = a1.defers := by rw [ha3, put_defers, put_defers, put_defers]
 have hfx : z8y Tryz.prog (fun _ => none) M1 w2 (stOf ((46, .data NI n []) :: (45, .data NI (p : Int) []) :: (44, .raw v) :: km72 s x n st p)) a3 (yfx 4) (eff (cx [] []) (yfx 4) (stOf ((46, .data NI n []) :: (45, .data NI (p : Int) []) :: (44, .raw v) :: km72 s x n st p))) := zyo (zd9 hT3) z16 yif
 rw [show eff (cx [] []) (yfx 4) (stOf ((46, .data NI n []) :: (45, .data NI (p : Int) []) :: (44, .raw v) :: km72 s x n st p)) = .fresh true NI [n] from by kernel_rfl] at hfx
 obtain ⟨cells, E, hrun, hrel, _⟩ := hfx rfl
 have hcells : cells = #[.int .i64 n] := by
  have h1 := hrel.2 0 (by simp)
  have h0 := hrel.1
  have h1 : ((cells.toList.drop (0 * 1)).take 1) = [.int .i64 n] := h1
  have h0 : cells.toList.length = 1 * 1 := h0
  apply Array.ext'
  rw [Nat.zero_mul, List.drop_zero, List.take_of_length_le (by omega)] at h1
  exact h1
 subst hcells
 refine yh7 hF (o := yfx 4) (v := .slice (some ⟨w2.heap.size, 0, none⟩) 1 1) (by kernel_rfl) (z6f (by kernel_rfl)) (fun c' h => by rw [yif] at h; cases h) hrun ?_
 rw [show (yfx 4).dst = some 47 from by kernel_rfl, wpOpsIn_cons]
 obtain ⟨w4, hw4⟩ : ∃ w4, w4 = w2.alloc (.cells #[.int .i64 n] E) := ⟨_, rfl⟩
 rw [← hw4]
 have hbel4 : Below w1.heap.size w1 w4 := by
  rw [hw4]
  exact hgr2.below.alloc hgr2.below.size _
 have hg4 : Good M1 w4 := z2g hT1.1 hbel4
 have hvb : w4.heap[w2.heap.size]? = some (.cells #[.int .i64 n] E (0, 0)) := by rw [hw4]; exact World.alloc_heap_new w2 _
 have hblk : ∀ b ob, w2.heap[b]? = some ob → w4.heap[b]? = some ob := fun b ob h => by
  rw [hw4, Below.heap_alloc _ _ _ (Array.getElem?_eq_some_iff.1 h).1]
  exact h
 have hcase : (v = .slice none 0 0 ∧ s = []) ∨ ∃ b cap cur E, w1.heap.size ≤ b ∧ v = .slice (some ⟨b, 0, none⟩) s.length cap ∧ w4.heap[b]? = some (.cells cur E (0, 0)) ∧ cur.size = cap ∧ s.length ≤ cap ∧ cap ≤ maxLen ∧ w2.heap.size ≠ b ∧ ∀ j (h : j < s.length), w4.cell? ⟨b, j, none⟩ = some (.int .i64 s[j]) := by
  obtain ⟨u, hu, hc⟩ : ∃ u, [v] = [u] ∧ ((u = .slice none 0 0 ∧ s = []) ∨ (∃ b off cap cells, u = .slice (some ⟨b, off, none⟩) s.length cap ∧ s.length ≤ cap ∧ cells.length = s.length * 1 ∧ Mem.has M2 b off cells ∧ (∀ i (h : i < s.length), relC Tryz.prog NI M2 s[i] ((cells.drop (i * 1)).take 1))) ∨ ∃ a cap, u = .slice (some a) 0 cap ∧ s = []) := hv2
  injection hu with hu _
  subst hu
  rcases hown with rfl | ⟨b, m, cap, rfl, hbb, cur, E', hh, hcs, hmc, hcm, _⟩
  ·left
   rcases hc with ⟨_, h⟩ | ⟨b, off, cap, cells, h, _⟩ | ⟨a, cap, h, _⟩
   ·exact ⟨rfl, h⟩
   ·cases h
   ·cases h
  ·right
   have hlen : m = s.length := by
    rcases hc with ⟨h, _⟩ | ⟨b, off, cap, cells, h, _⟩ | ⟨a, cap, h, h2⟩
    ·cases h
    ·injection h
    ·injection h with _ h _; rw [h, h2]; rfl
   subst hlen
   have hlt : b < w2.heap.size := (Array.getElem?_eq_some_iff.1 hh).1
   refine ⟨b, cap, cur, E', hbb, rfl, hblk b _ hh, by rw [hcs]; exact Nat.mul_one _, hmc, hcm, by omega, fun j hj => ?_⟩
   rcases hc with ⟨h, _⟩ | ⟨b', off, cap', cells, h, _, hl, hm, hr⟩ | ⟨a, cap, h, h2⟩
   ·cases h
   ·injection h with h1 h2 h3
    injection h1 with h1
    injection h1 with h4 h5 h6
    subst h4 h5 h3
    have hcell : cells[j]? = some (.int .i64 s[j]) := by
     have : ((cells.drop (j * 1)).take 1) = [.int .i64 s[j]] := hr j hj
     rw [Nat.mul_one, List.take_one, List.head?_drop] at this
     cases hcj : cells[j]? with
     | none => rw [hcj] at this; cases this
     | some u => rw [hcj] at this; injection this with h1; rw [h1]
    have := hg2.2 _ _ _ (hm j _ hcell)
    rw [Nat.zero_add] at this
    rw [z63 hh] at this
    rw [z63 (hblk b _ hh)]
    exact this
   ·rw [h2] at hj; simp at hj
 have hM1 : ∀ b, w1.heap.size ≤ b → ∀ o, M1 b o = none := fun b hb o => zad hT1.1 hb o
 have hT4 : Thin Tryz.prog M1 ((47, .raw (.slice (some ⟨w2.heap.size, 0, none⟩) 1 1)) :: (46, .data NI n []) :: (45, .data NI (p : Int) []) :: (44, .raw v) :: km72 s x n st p) (a3.put (some 47) (.slice (some ⟨w2.heap.size, 0, none⟩) 1 1)) w4 := Thin.put (hT3.turn hg4 (Mem.le_refl _)) (by rw [hs3]; decide) rfl rfl
 refine zh3 hF (o := yfx 5) (cc := z6y (yfx 5)) (f := 134) (by kernel_rfl) (z6f (by kernel_rfl)) (by kernel_rfl) (by kernel_rfl) (enters_of (by kernel_rfl)) (R := fun e w' => ∃ M' u, e = .returned u ∧ Mem.le M1 M' ∧ Good M' w' ∧ Below w1.heap.size w4 w' ∧ (∀ b, b < w1.heap.size → M' b = M1 b) ∧ relV Tryz.prog TI M' (insL s p n) u) ?_ ?_
 ·rw [yib]
  simp only [List.map_toArray, List.map_cons, List.map_nil]
  rw [hT4.raw (s := 44) (v := v) (by simp), hT4.raw (s := 47) (v := .slice (some ⟨w2.heap.size, 0, none⟩) 1 1) (by simp), z2m.1 (hT4.data (s := 45) (t := NI) (x := (p : Int)) (by simp))]
  exact yhd hF (nn - 1) hg4 hbel4.size hM1 hs hp hcase hvb
 ·rintro e w5 ⟨M5, u, rfl, hle5, hg5, hbel5, hm5, hu5⟩
  refine ⟨u, rfl, ?_⟩
  rw [show (yfx 5).dst = some 48 from by kernel_rfl]
  have hT5 : Thin Tryz.prog M5 ((48, .data TI (insL s p n) []) :: (47, .raw (.slice (some ⟨w2.heap.size, 0, none⟩) 1 1)) :: (46, .data NI n []) :: (45, .data NI (p : Int) []) :: (44, .raw v) :: km72 s x n st p) ((a3.put (some 47) (.slice (some ⟨w2.heap.size, 0, none⟩) 1 1)).put (some 48) u) w5 := Thin.put (hT4.turn hg5 hle5) (by rw [z4f, hs3]; decide) ⟨hu5, rfl⟩ rfl
  refine zdg (n0 := 70) z16 hF 6 1 (by rw [ygu]) (by rw [ygu]; decide) (j6_72 s x n st p (insL s p n)) (by rw [z4f, z4f]; exact hs3) (by kernel_rfl) (by kernel_rfl) (hT5.sub (by simp)) fun M6 a6 w6 hT6 hK6 => ?_
  rw [show List.range' (6 + 1) ((opsOf ygg).size - (6 + 1)) = [] from by rw [ygu]; rfl]
  refine hQ M6 a6 w6 (by rw [yi1]; exact hT6) ?_
  refine (hk1.trans (M1 := M1) (M2 := M5) (a2 := (a3.put (some 47) (.slice (some ⟨w2.heap.size, 0, none⟩) 1 1)).put (some 48) u) (w2 := w5) ⟨hle5, yg9 (hbel4.trans hbel5) hb1, fun b hb => hm5 b (by omega), by rw [z4f, z4f, hs3, hs1], by rw [put_defers, put_defers, hd3]⟩).next hK6 (Nat.le_refl _)
end Go.Lift
namespace Go.Lift
open Go Go.Proofs Go.RowKit
theorem bb_or (a b h : Bool) : (bif h then (bif a then true else b) else false) = (h && (a || b)) := by cases a <;> cases b <;> cases h <;> rfl
theorem cok72c : COk Tryz.prog (cx [] [z74]) := zpv z0s z0t z0u (all_cons zck all_nil)
theorem cok72h : COk Tryz.prog (cx [] [yfp]) := zpv z0s z0t z0u (all_cons (ygb z0h) all_nil)
theorem cok72o : COk Tryz.prog (cx [] [z6m]) := zpv z0s z0t z0u (all_cons zbl all_nil)
theorem yhq : COk Tryz.prog cxD := zpv z0s z0t z0u (all_cons z8q (all_cons z2f (all_cons z3c all_nil)))
set_option maxRecDepth 100000 in
set_option maxHeartbeats 2000000 in
theorem yi7 {F : Fence} (hF : Open F) (hro : F.round = none) {nn : Nat} {M0 : Mem} {a0 : Act} {w0 : World} {s : List Int} {x : z05} {n : Int} (hs : s.length ≤ 1000) {res : Int × Int} {Q : Exit → Act → World → Prop} (ha0 : a0.tmps.size = 70)
  (hQ : ∀ M' a' w', Thin Tryz.prog M' (kl72 s x n res ((s.length + 1 : Nat) : Int)) a' w' → Kp w0.heap.size M0 a0 w0 M' a' w' → yha.wpIn F nn Tryz.prog Q a' w') :
  ∀ (k p : Nat) (st : Int × Int), p + k = s.length + 1 → ygo x s n k (p : Int) st = some res → ∀ (M : Mem) (a : Act) (w : World), Thin Tryz.prog M (kl72 s x n st (p : Int)) a w → Kp w0.heap.size M0 a0 w0 M a w →
   Code.roundsIn F nn Tryz.prog ygx (Exit.inBlock 0 (Exit.then (fun a w => yha.wpIn F nn Tryz.prog Q a w) Q)) (k + 1) a w := by
 have hw1 : wi64 ((s.length : Int) + 1) = ((s.length + 1 : Nat) : Int) := by rw [z0j (by omega) (by omega)]; rfl
 intro k
 induction k with
 | zero =>
  intro p st hp hi M a w hT hk
  injection hi with hi
  subst hi
  have hsz : a.tmps.size = 70 := hk.size.trans ha0
  rw [roundsIn_succ, yi0]
  refine wpIn_seq (z4c z04 z16 hF _ (.inr (by kernel_rfl)) (h72 s x n (p : Int) st) (by rw [hsz]; kernel_rfl) (by kernel_rfl) hT fun M1 a1 w1 hT1 hK1 => ?_)
  refine wpIn_seq (wpIn_cond_split (z1v.1 (hT1.data (s := 41) (t := .bool) (x := decide ((p : Int) < wi64 ((s.length : Int) + 1))) (by simp))) (fun ht => ?_) (fun ht => wpIn_exit ?_))
  ·have := of_decide_eq_true ht; rw [hw1] at this; omega
  ·show yha.wpIn F nn Tryz.prog Q a1 w1
   refine hQ M1 a1 w1 ?_ (hk.next hK1 (Nat.le_refl _))
   rw [← show p = s.length + 1 by omega]
   exact hT1.sub (by simp)
 | succ k ih =>
  intro p st hp hi M a w hT hk
  unfold ygo at hi
  obtain ⟨st', hst, hi⟩ := Option.bind_eq_some_iff.1 hi
  unfold yh8 at hst
  obtain ⟨c, hc, hst⟩ := Option.bind_eq_some_iff.1 hst
  obtain ⟨h, hh, hst⟩ := Option.bind_eq_some_iff.1 hst
  injection hst with hst
  have hsz : a.tmps.size = 70 := hk.size.trans ha0
  rw [roundsIn_succ, yi0]
  refine wpIn_seq (z4c z04 z16 hF _ (.inr (by kernel_rfl)) (h72 s x n (p : Int) st) (by rw [hsz]; kernel_rfl) (by kernel_rfl) hT fun M1 a1 w1 hT1 hK1 => ?_)
  have hk1 := hk.next hK1 (Nat.le_refl _)
  have hs1 : a1.tmps.size = 70 := hk1.size.trans ha0
  refine wpIn_seq (wpIn_cond_split (z1v.1 (hT1.data (s := 41) (t := .bool) (x := decide ((p : Int) < wi64 ((s.length : Int) + 1))) (by simp))) (fun ht => wpIn_skip ?_) (fun ht => ?_))
  rotate_left
  ·have := of_decide_eq_false ht; rw [hw1] at this; omega
  refine wpIn_seq (wpIn_block (wpIn_seq (z4c z04 z16 hF _ (.inr (by kernel_rfl)) (i72 s x n (p : Int) st) (by rw [hs1]; kernel_rfl) (by kernel_rfl) (hT1.sub (by simp)) fun M2 a2 w2 hT2 hK2 => ?_)))
  have hk2 := hk1.next hK2 (Nat.le_refl _)
  have hs2 : a2.tmps.size = 70 := hk2.size.trans ha0
  refine wpIn_seq (yhs hF hs (show p ≤ s.length by omega) hT2 hs2 fun M3 a3 w3 hT3 hK3 => ?_)
  have hk3 : Kp w0.heap.size M0 a0 w0 M3 a3 w3 := hk2.trans ⟨hK3.le, yg9 hK3.below hk2.below.size, fun b hb => hK3.mem b (by have := hk2.below.size; omega), hK3.size, hK3.defers⟩
  have hs3 : a3.tmps.size = 70 := hk3.size.trans ha0
  refine wpIn_seq (z4c z04 cok72c hF _ (.inr (by kernel_rfl)) ((k72 s (insI s (p : Int) n) x n (p : Int) st).trans (by rw [hc]; rfl)) (by rw [hs3]; kernel_rfl) (by kernel_rfl) hT3 fun M4 a4 w4 hT4 hK4 => ?_)
  have hk4 := hk3.next hK4 (Nat.le_refl _)
  have hs4 : a4.tmps.size = 70 := hk4.size.trans ha0
  have hl := l72 s (insI s (p : Int) n) x n (p : Int) c st
  rw [hh, Option.bind_some, bb_or] at hl
  have hl' : z1w (cx [] [yfp]) yhy (.seq .nil (.cond .nil .nil)) (stOf (ko72 s x n st (p : Int) (insI s (p : Int) n) c)) (obsK [] [2, 8, 10, 11, 12, 39, 40]) = some (.normal, kl72 s x n st' (p : Int)) := by
   rw [hl, ← hst]
   cases (h && (decide (st.1 < 0) || decide (c < st.2))) <;> rfl
  refine z4c z04 cok72h hF _ (.inr (by kernel_rfl)) hl' (by rw [hs4]; kernel_rfl) (by kernel_rfl) hT4 fun M5 a5 w5 hT5 hK5 => ?_
  have hk5 := hk4.next hK5 (Nat.le_refl _)
  have hs5 : a5.tmps.size = 70 := hk5.size.trans ha0
  show yhx.wpIn F nn Tryz.prog _ a5 w5
  refine z4c z04 z16 hF _ (.inr (by kernel_rfl)) (m72 s x n (p : Int) st') (by rw [hs5]; kernel_rfl) (by kernel_rfl) hT5 fun M6 a6 w6 hT6 hK6 => ?_
  show Code.roundsIn F nn Tryz.prog ygx _ (k + 1) a6 w6
  have hw : wi64 ((p : Int) + 1) = ((p + 1 : Nat) : Int) := by rw [z0j (by omega) (by omega)]; rfl
  rw [hw] at hT6
  exact ih (p + 1) st' (by omega) hi M6 a6 w6 hT6 (hk5.next hK6 (Nat.le_refl _))
set_option maxRecDepth 100000 in
set_option maxHeartbeats 2000000 in
theorem yfs : Has Tryz.prog yfr := by
 refine ⟨enters_of (by kernel_rfl), fun x res hr M w vs hg hvs => ?_⟩
 obtain ⟨r, l, s⟩ := x
 have hr : yfn r l s = some res := hr
 unfold yfn at hr
 cases hsl : decide (s.length ≤ 1000) with
 | false => rw [hsl] at hr; cases hr
 | true =>
 rw [hsl, cond_true] at hr
 have hs := of_decide_eq_true hsl
 obtain ⟨x, hopen, hr⟩ := Option.bind_eq_some_iff.1 hr
 obtain ⟨t, ht, hr⟩ := Option.bind_eq_some_iff.1 hr
 obtain ⟨u, hu, hr⟩ := Option.bind_eq_some_iff.1 hr
 obtain ⟨e, he, hr⟩ := Option.bind_eq_some_iff.1 hr
 unfold zoe
 refine (callsIn_wide (n := 3)).1 (callsIn_of_wp_marks (c := c72) Tryz.func72 (by kernel_rfl) True.intro ?_ rfl)
 obtain ⟨rv, _, rfl, hrv, lv, _, rfl, hlv, sv, rfl, hsv⟩ := hvs
 obtain ⟨a0, ha0⟩ : ∃ a0 : Act, a0 = { tmps := #[rv, lv, sv] ++ Array.replicate (Tryz.f72.ntmps - (#[rv, lv, sv] : Array Value).size) undef, defers := [] } := ⟨_, rfl⟩
 show c72.wpIn _ _ _ _ { tmps := #[rv, lv, sv] ++ Array.replicate (Tryz.f72.ntmps - (#[rv, lv, sv] : Array Value).size) undef, defers := [] } w
 rw [← ha0]
 have hs0 : a0.tmps.size = 70 := by rw [ha0, Tryz.ntmps72]; simp
 have hd0 : a0.defers = [] := by rw [ha0]
 have hT0 : Thin Tryz.prog M [(0, .data z06 r []), (1, .data TL l []), (2, .data TI s [])] a0 w := by
  rw [ha0]
  refine zar hg fun e he => ?_
  simp only [List.mem_cons, List.not_mem_nil, or_false] at he
  rcases he with rfl | rfl | rfl
  ·exact ⟨by show 0 < 3; omega, hrv, rfl⟩
  ·exact ⟨by show 1 < 3; omega, hlv, rfl⟩
  ·exact ⟨by show 2 < 3; omega, hsv, rfl⟩
 have hop := z8m
 obtain ⟨Q, hQ⟩ : ∃ Q : Exit → Act → World → Prop, Q = bodyPostM Fence.wide 3 Tryz.prog Tryz.f72 fun e w' => ∃ M' v, e = .returned v ∧ relR Tryz.prog M' yfr.rts res v ∧ Good M' w' ∧ Grow M w M' w' := ⟨_, rfl⟩
 rw [← hQ]
 have fin : ∀ κ' M2 σ' a2 w2 M' a' w' (hR' : Rel Tryz.prog w2.heap.size κ' M' σ' a' w') (hk2 : Kp w.heap.size M a0 w M2 a2 w2) (hF' : Below w2.heap.size w2 w' ∧ (∀ b, b < w2.heap.size → M' b = M2 b)) (hd' : a'.defers = a2.defers), results cxD σ' yii Tryz.f72.results.toList = some res → Q .ret a' w' := fun κ' M2 σ' a2 w2 M' a' w' hR' hk2 hF' hd' hres => by
  rw [hQ]
  show LeavesInM Fence.wide 3 Tryz.prog Tryz.f72 a'.tmps _ a'.defers .returning w'
  rw [show a'.defers = [] from hd'.trans (hk2.defers.trans hd0)]
  refine zgi [] w' List.nodup_nil (fun D hD => by cases hD) fun w3 hs3 hrel hbl => ?_
  have hR2 := hrel _ _ _ _ _ hR'
  obtain ⟨v, h4, h5⟩ := y8m yhq hR2 hres
  refine ⟨v, h4, M', v, rfl, h5, hR2.good, ?_, fun b hb => ?_⟩
  ·exact (hk2.below.trans (yg9 hF'.1 hk2.below.size)).trans (yg9 (hbl w2.heap.size (fun D hD => by cases hD) hF'.1.size) hk2.below.size)
  ·rw [hF'.2 b (Nat.lt_of_lt_of_le hb hk2.below.size), hk2.mem b hb]
 rw [body72]
 refine wpIn_seq (z4c z04 z16 hop _ (.inr (by kernel_rfl)) (a72 r l s) (by rw [hs0]; kernel_rfl) (by kernel_rfl) hT0 fun M1 a1 w1 hT1 hK1 => ?_)
 have hk1 : Kp w.heap.size M a0 w M1 a1 w1 := .of hK1 (Nat.le_refl _)
 have hs1 : a1.tmps.size = 70 := hk1.size.trans hs0
 refine wpIn_seq (z4c z04 cok72o hop _ (.inr (by kernel_rfl)) ((b72 r l s).trans (by rw [hopen]; rfl)) (by rw [hs1]; kernel_rfl) (by kernel_rfl) hT1 fun M2 a2 w2 hT2 hK2 => ?_)
 have hk2 := hk1.next hK2 (Nat.le_refl _)
 have hs2 : a2.tmps.size = 70 := hk2.size.trans hs0
 refine wpIn_seq (z4c z04 z16 hop _ (.inr (by kernel_rfl)) (cc72 l s x.1 x.2) (by rw [hs2]; kernel_rfl) (by kernel_rfl) hT2 fun M3 a3 w3 hT3 hK3 => ?_)
 have hk3 := hk2.next hK3 (Nat.le_refl _)
 have hs3 : a3.tmps.size = 70 := hk3.size.trans hs0
 have hdd := dd72 s x.1 x.2 (wi64 ((l.length : Int) - 1))
 rw [ht, Option.bind_some, hu, Option.bind_some, he, Option.bind_some] at hdd
 cases hne : (e != 0) with
 | true =>
  rw [hne, cond_true] at hdd hr
  injection hr with hr
  subst hr
  refine wpIn_seq (z5k z04 yhq hop _ (.inr (by kernel_rfl)) hdd (by rw [hs3]; kernel_rfl) (zd9 hT3) fun e' κ' M' σ' a' w' hR' hF' hk => ?_)
  have hkk := zkp hF' (z6p (by kernel_rfl))
  cases e' with
  | exit i => cases hk
  | normal => cases hk
  | ret =>
   unfold K72 at hk
   simp only at hk
   split at hk
   ·rename_i z hz
    simp only [Option.some.injEq, Sum.inr.injEq] at hk
    subst hk
    exact fin κ' M3 σ' a3 w3 M' a' w' hR' hk3 ⟨hkk.grow.below, hkk.grow.mem⟩ hkk.defers hz
   ·cases hk
 | false =>
  rw [hne, cond_false] at hdd hr
  obtain ⟨b, hb, hr⟩ := Option.bind_eq_some_iff.1 hr
  refine wpIn_seq (z5k z04 yhq hop _ (.inr (by kernel_rfl)) hdd (by rw [hs3]; kernel_rfl) (zd9 hT3) fun e' κ' M4 σ' a4 w4 hR' hF' hk => ?_)
  have hkk := zkp hF' (z6p (by kernel_rfl))
  cases e' with
  | exit i => cases hk
  | ret =>
   unfold K72 at hk
   simp only at hk
   split at hk
   ·cases hk
   ·cases hk
  | normal =>
   have hk' : some (Sum.inl (obs [2, 8, 10] σ')) = some (Sum.inl (β := Int × Int) (yi6 s x.1 (wi64 ((l.length : Int) - 1)))) := hk
   simp only [Option.some.injEq, Sum.inl.injEq] at hk'
   have hT4 : Thin Tryz.prog M4 (yi6 s x.1 (wi64 ((l.length : Int) - 1))) a4 w4 := by rw [← hk']; exact zol hR' _
   have hk4 := hk3.next hkk (Nat.le_refl _)
   have hs4 : a4.tmps.size = 70 := hk4.size.trans hs0
   show (Code.seq (Code.fst (q72 4)) _).wpIn _ _ _ Q a4 w4
   refine wpIn_seq (z4c z04 z16 hop _ (.inr (by kernel_rfl)) (f72 s x.1 (wi64 ((l.length : Int) - 1))) (by rw [hs4]; kernel_rfl) (by kernel_rfl) hT4 fun M5 a5 w5 hT5 hK5 => ?_)
   have hk5 := hk4.next hK5 (Nat.le_refl _)
   have hs5 : a5.tmps.size = 70 := hk5.size.trans hs0
   refine wpIn_seq (wpIn_seq (z4c z04 z16 hop _ (.inr (by kernel_rfl)) (g72 s x.1 (wi64 ((l.length : Int) - 1)) (-1, 0)) (by rw [hs5]; kernel_rfl) (by kernel_rfl) hT5 fun M6 a6 w6 hT6 hK6 => ?_))
   have hk6 := hk5.next hK6 (Nat.le_refl _)
   refine wpIn_block (wpIn_loop_rounds (s.length + 1 + 1) ?_)
   refine yi7 hop rfl hs hs0 (fun M7 a7 w7 hT7 hk7 => ?_) (s.length + 1) 0 (-1, 0) (by omega) hb M6 a6 w6 hT6 hk6
   have hs7 : a7.tmps.size = 70 := hk7.size.trans hs0
   refine z5k z04 yhq hop _ (.inr (by kernel_rfl)) ((t72 s x.1 (wi64 ((l.length : Int) - 1)) ((s.length + 1 : Nat) : Int) b).trans hr) (by rw [hs7]; kernel_rfl) (zd9 hT7) fun e' κ' M8 σ' a8 w8 hR' hF' hk => ?_
   have hkk := zkp hF' (z6p (by kernel_rfl))
   cases e' with
   | exit i => cases hk
   | normal => cases hk
   | ret => exact fin κ' M7 σ' a7 w7 M8 a8 w8 hR' hk7 ⟨hkk.grow.below, hkk.grow.mem⟩ hkk.defers hk
end Go.Lift
