/-
  The search for a plan, region by region.
-/
import Derived.Test.YtbmclapepgfjhaaGreatPlN
import Derived.Test.YtbmclapepgfjhaaGreatManP
import Derived.Test.YtbmclapepgfjhaaGreatLiftP
set_option linter.unusedSectionVars false
set_option linter.unusedVariables false
set_option linter.unusedSimpArgs false
namespace Go.Lift
open Go Go.Proofs Go.RowKit
attribute [local go_sem] Oper.semAt_some
theorem seq175 {M : Mem} {y : List (List ByteArray)} {xs : List (Int × Int)} {yv : Value} (hyv : relV Tryz.prog TYd M y yv) (hx : zqq y = some xs) : y61 Tryz.prog (fun M' x v => relV Tryz.prog z00 M' x v) M xs 86 #[yv] #[] := by
 unfold zqq at hx
 cases hc : decide (y.length ≤ 1000) with
 | false => rw [hc] at hx; cases hx
 | true =>
 rw [hc, cond_true] at hx
 rw [decide_eq_true_eq] at hc
 refine ⟨Go.Proofs.enters_of Tryz.func86 (by kernel_rfl) rfl, ?_⟩
 intro F n l J Jx M0 W hM hd hF hal hro hJg hJxg hJc hJx hY h0
 exact y4i F ⟨hF, hd, hal⟩ hro n l M y xs hc hx yv hyv J Jx M0 hM hJg hJc (fun pre x N W1 hj hp => hY pre x N W1 _ hj hp (y3j x)) W h0
end Go.Lift
namespace Go.Lift
open Go Go.Proofs Go.RowKit
attribute [local go_sem] Oper.semAt_some run_store_func
theorem zyq {w : World} {g : Nat} {v : Value} {E : TypeId} (h : w.heap[g]? = some (.cells #[v] E (0, 0))) : w.setCell ⟨g, 0, none⟩ v = w := by
 have : (w.setCell ⟨g, 0, none⟩ v).heap = w.heap := by
  apply Array.ext_getElem?
  intro i
  by_cases e : i = g
  ·subst e; rw [z8n h, h]; rfl
  ·simp [World.setCell, Array.getElem?_modify, Ne.symm e]
 cases w
 simp only [World.setCell] at this ⊢
 rw [this]
theorem y1a {M : Mem} {w w1 w2 w3 w4 w5 : World} {v : Value} (hg : Good M w) (hw1 : w.alloc (.map #[] 0) = w1) (hw2 : w1.alloc (.map #[] 0) = w2)
  (hw3 : w2.alloc (.cells #[.map (some (w.heap.size + 1))] 124) = w3) (hw4 : w3.alloc (.cells #[.int .i64 0] 3) = w4) (hw5 : w4.alloc (.cells #[v] 127) = w5) :
  PSt w M (w.heap.size + 2) (w.heap.size + 1) (w.heap.size + 3) w.heap.size [] [] [] M w5 := by
 have z1 : w1.heap.size = w.heap.size + 1 := by rw [← hw1, World.size_alloc]
 have z2 : w2.heap.size = w.heap.size + 2 := by rw [← hw2, World.size_alloc, z1]
 have z3 : w3.heap.size = w.heap.size + 3 := by rw [← hw3, World.size_alloc, z2]
 have z4 : w4.heap.size = w.heap.size + 4 := by rw [← hw4, World.size_alloc, z3]
 have b1 : Below w.heap.size w w1 := by rw [← hw1]; exact (Below.refl _ w).alloc (Nat.le_refl _) _
 have b2 : Below (w.heap.size + 1) w1 w2 := by rw [← hw2]; exact (Below.refl _ w1).alloc (by omega) _
 have b3 : Below (w.heap.size + 2) w2 w3 := by rw [← hw3]; exact (Below.refl _ w2).alloc (by omega) _
 have b4 : Below (w.heap.size + 3) w3 w4 := by rw [← hw4]; exact (Below.refl _ w3).alloc (by omega) _
 have b5 : Below (w.heap.size + 4) w4 w5 := by rw [← hw5]; exact (Below.refl _ w4).alloc (by omega) _
 have lo : ∀ {n m : Nat} {W W' : World}, m ≤ n → Below n W W' → Below m W W' := fun h b => ⟨b.os, b.tape, b.output, b.size, fun j hj => b.block j (by omega)⟩
 have hb : Below w.heap.size w w5 := (((b1.trans (lo (by omega) b2)).trans (lo (by omega) b3)).trans (lo (by omega) b4)).trans (lo (by omega) b5)
 have e1 : w5.heap[w.heap.size]? = some (.map #[] 0) := by
  rw [b5.block _ (by omega), b4.block _ (by omega), b3.block _ (by omega), b2.block _ (by omega), ← hw1]; exact World.alloc_heap_new w _
 have e2 : w5.heap[w.heap.size + 1]? = some (.map #[] 0) := by
  rw [b5.block _ (by omega), b4.block _ (by omega), b3.block _ (by omega), ← hw2, ← z1]; exact World.alloc_heap_new w1 _
 have e3 : w5.heap[w.heap.size + 2]? = some (.cells #[.map (some (w.heap.size + 1))] 124 (0, 0)) := by
  rw [b5.block _ (by omega), b4.block _ (by omega), ← hw3, ← z2]; exact World.alloc_heap_new w2 _
 have e4 : w5.heap[w.heap.size + 3]? = some (.cells #[.int .i64 0] 3 (0, 0)) := by
  rw [b5.block _ (by omega), ← hw4, ← z3]; exact World.alloc_heap_new w3 _
 have lt : ∀ b o u, M b o = some u → b < w.heap.size := fun b o u h => by
  have h0 := hg.2 b o u h
  rcases Nat.lt_or_ge b w.heap.size with hl | hl
  ·exact hl
  ·simp [World.cell?, Array.getElem?_eq_none hl] at h0
 have hc : ∀ b o u, M b o = some u → w5.cell? ⟨b, o, none⟩ = some u := fun b o u h => by
  have hl := lt b o u h
  have h0 := hg.2 b o u h
  have hbk := hb.block b hl
  simp only [World.cell?, hbk] at h0 ⊢
  exact h0
 have hn : ∀ b o, w.heap.size ≤ b → M b o = none := fun b o h => by
  cases e : M b o with
  | none => rfl
  | some u => exact absurd (lt b o u e) (by omega)
 exact ⟨hg, zhc hg (Mem.le_refl M) hb hc, Mem.le_refl M, fun _ _ => rfl, hb, e3, e4, ⟨_, _, e1, rfl⟩,
  ⟨⟨_, _, e2, rfl⟩, fun k => ⟨[], World.ownsRow_nil _ _ _ _, rfl, fun i hi => absurd hi (Nat.not_lt_zero _)⟩, fun _ _ _ => .inl rfl, fun k b o h => by cases h⟩,
  fun o => hn _ o (by omega), by omega, by omega, by omega⟩
end Go.Lift
namespace Go.Lift
open Go Go.Proofs Go.RowKit
attribute [local go_sem] Oper.semAt_some run_store_func
set_option maxRecDepth 100000 in
theorem zdv {α : Type} : ∀ l : List α, l.length = 65 → ∃ x0 x1 x2 x3 x4 x5 x6 x7 x8 x9 x10 x11 x12 x13 x14 x15 x16 x17 x18 x19 x20 x21 x22 x23 x24 x25 x26 x27 x28 x29 x30 x31 x32 x33 x34 x35 x36 x37 x38 x39 x40 x41 x42 x43 x44 x45 x46 x47 x48 x49 x50 x51 x52 x53 x54 x55 x56 x57 x58 x59 x60 x61 x62 x63 x64, l = x0 :: x1 :: x2 :: x3 :: x4 :: x5 :: x6 :: x7 :: x8 :: x9 :: x10 :: x11 :: x12 :: x13 :: x14 :: x15 :: x16 :: x17 :: x18 :: x19 :: x20 :: x21 :: x22 :: x23 :: x24 :: x25 :: x26 :: x27 :: x28 :: x29 :: x30 :: x31 :: x32 :: x33 :: x34 :: x35 :: x36 :: x37 :: x38 :: x39 :: x40 :: x41 :: x42 :: x43 :: x44 :: x45 :: x46 :: x47 :: x48 :: x49 :: x50 :: x51 :: x52 :: x53 :: x54 :: x55 :: x56 :: x57 :: x58 :: x59 :: x60 :: x61 :: x62 :: x63 :: x64 :: []
 | x0 :: x1 :: x2 :: x3 :: x4 :: x5 :: x6 :: x7 :: x8 :: x9 :: x10 :: x11 :: x12 :: x13 :: x14 :: x15 :: x16 :: x17 :: x18 :: x19 :: x20 :: x21 :: x22 :: x23 :: x24 :: x25 :: x26 :: x27 :: x28 :: x29 :: x30 :: x31 :: x32 :: x33 :: x34 :: x35 :: x36 :: x37 :: x38 :: x39 :: x40 :: x41 :: x42 :: x43 :: x44 :: x45 :: x46 :: x47 :: x48 :: x49 :: x50 :: x51 :: x52 :: x53 :: x54 :: x55 :: x56 :: x57 :: x58 :: x59 :: x60 :: x61 :: x62 :: x63 :: x64 :: [], _ => ⟨_, _, _, _, _, _, _, _, _, _, _, _, _, _, _, _, _, _, _, _, _, _, _, _, _, _, _, _, _, _, _, _, _, _, _, _, _, _, _, _, _, _, _, _, _, _, _, _, _, _, _, _, _, _, _, _, _, _, _, _, _, _, _, _, _, rfl⟩
noncomputable def c129 : Code := Tryz.f54.body.getD .skip
noncomputable def zew : Code := Code.fst (Code.fst (Code.snd (Code.fst (Code.snd (Code.snd (Code.snd (Code.snd (Code.snd (Code.snd c129)))))))))
noncomputable def zil : Code := Code.fst (Code.fst (Code.snd (Code.fst (Code.fst (Code.snd zew)))))
noncomputable abbrev h129 : Code := Code.fst zil
structure F129 (bq b8 gd b9 : Nat) (df : List Deferred) (k : Int) (a : Act) : Prop where
 size : a.tmps.size = 65
 defers : a.defers = df
 t4 : a.tmps.getD 4 undef = .slice none 0 0
 t5 : a.tmps.getD 5 undef = .bool false
 t6 : a.tmps.getD 6 undef = .map (some gd)
 t7 : a.tmps.getD 7 undef = .pointer (some ⟨bq, 0, none⟩)
 t8 : a.tmps.getD 8 undef = .pointer (some ⟨b8, 0, none⟩)
 t9 : a.tmps.getD 9 undef = .pointer (some ⟨b9, 0, none⟩)
 t10 : a.tmps.getD 10 undef = .int .i64 k
set_option maxHeartbeats 1000000 in
set_option maxRecDepth 100000 in
theorem zs9 {M : Mem} {w : World} {bq gm b8 gd b9 : Nat} {ps : PutL} {done : List ByteArray} {l : List (Int × Value)} {M' : Mem} {W : World} (h : PSt w M bq gm b8 gd ps done l M' W) {df : List Deferred} {k : Int} {i : Nat} {a : Act} (ha : F129 bq b8 gd b9 df k a) (hi : a.tmps.getD 11 undef = .int .i64 (i : Int)) {Q : Exit → Act → World → Prop}
  (hlt : i < (z2j ps k).length → ∀ a', F129 bq b8 gd b9 df k a' → a'.tmps.getD 11 undef = .int .i64 (i : Int) → Q .normal a' W)
  (hge : (z2j ps k).length ≤ i → ∀ a', F129 bq b8 gd b9 df k a' → Q (.exit 2) a' W) :
  Code.wpIn Fence.wide 4 Tryz.prog h129 Q a W := by
 obtain ⟨⟨xs⟩, ds⟩ := a
 obtain ⟨hs, hd, t4, t5, t6, t7, t8, t9, t10⟩ := ha
 obtain ⟨es, cl, q1, q2⟩ := h.qs.map
 obtain ⟨cells, o1, o2⟩ := h.qs.row k
 have hlk := zj8 q1 q2 k
 obtain ⟨qa, qn, qc, e1⟩ := zcp o1
 obtain rfl : qn = (z2j ps k).length := by
  rcases o1.2 with ⟨e, e'⟩ | ⟨g, cap, cur, e, _⟩
  ·rw [e] at e1; cases e1; omega
  ·rw [e] at e1; cases e1; rfl
 rw [e1] at hlk
 have kq : W.cell? ⟨bq, 0, none⟩ = some (.map (some gm)) := z0b h.cq rfl
 have fq : W.frozen? ⟨bq, 0, none⟩ = false := z34 h.cq
 simp only [List.size_toArray] at hs
 obtain ⟨x0, x1, x2, x3, x4, x5, x6, x7, x8, x9, x10, x11, x12, x13, x14, x15, x16, x17, x18, x19, x20, x21, x22, x23, x24, x25, x26, x27, x28, x29, x30, x31, x32, x33, x34, x35, x36, x37, x38, x39, x40, x41, x42, x43, x44, x45, x46, x47, x48, x49, x50, x51, x52, x53, x54, x55, x56, x57, x58, x59, x60, x61, x62, x63, x64, rfl⟩ := zdv xs hs
 simp only at hd t4 t5 t6 t7 t8 t9 t10 hi
 subst hd
 obtain rfl : x4 = _ := t4
 obtain rfl : x5 = _ := t5
 obtain rfl : x6 = _ := t6
 obtain rfl : x7 = _ := t7
 obtain rfl : x8 = _ := t8
 obtain rfl : x9 = _ := t9
 obtain rfl : x10 = _ := t10
 obtain rfl : x11 = _ := hi
 clear h
 simp only [h129, zil, zew, c129, Tryz.f54, Option.getD_some, Code.fst, Code.snd]
 gi_wp2
 ·rename_i hc
  exact hlt (by simpa using hc) _ ⟨rfl, rfl, rfl, rfl, rfl, rfl, rfl, rfl, rfl⟩ rfl
 ·rename_i hc
  exact hge (by simpa using hc) _ ⟨rfl, rfl, rfl, rfl, rfl, rfl, rfl, rfl, rfl⟩
end Go.Lift
namespace Go.Lift
open Go Go.Proofs Go.RowKit
attribute [local go_sem] Oper.semAt_some run_store_func
noncomputable abbrev zj5 : Code := Code.fst (Code.fst (Code.snd zil))
noncomputable abbrev r12 : Code := Code.fst zj5
theorem y1y {M : Mem} {n : z2c} {cs : List Value} (h : relC Tryz.prog z07 M n cs) : ∃ yv lv mv, cs = [yv, lv, mv, .int .i64 n.2.2.2] ∧ relV Tryz.prog TYd M n.1 yv ∧ relV Tryz.prog TWt M n.2.1 lv ∧ relV Tryz.prog TMv M n.2.2.1 mv := by
 obtain ⟨yv, lv, mv, e, h1, h2, h3⟩ := zi5 (v := .agg cs.toArray) ⟨_, rfl, by simpa using h⟩
 injection e with e
 have := congrArg Array.toList e
 exact ⟨yv, lv, mv, by simpa using this, h1, h2, h3⟩
set_option maxHeartbeats 1000000 in
set_option maxRecDepth 100000 in
theorem zvz {M : Mem} {w : World} {bq gm b8 gd b9 : Nat} {ps : PutL} {done : List ByteArray} {l : List (Int × Value)} {M' : Mem} {W : World} (h : PSt w M bq gm b8 gd ps done l M' W) {df : List Deferred} {k : Int} {i : Nat} {n : z2c} (hn : (z2j ps k)[i]? = some n) {a : Act} (ha : F129 bq b8 gd b9 df k a) (hi : a.tmps.getD 11 undef = .int .i64 (i : Int)) {Q : Exit → Act → World → Prop}
  (hQ : ∀ yv lv mv a', relV Tryz.prog TYd M' n.1 yv → relV Tryz.prog TWt M' n.2.1 lv → relV Tryz.prog TMv M' n.2.2.1 mv → F129 bq b8 gd b9 df k a' → a'.tmps.getD 11 undef = .int .i64 (i : Int) → a'.tmps.getD 12 undef = .pointer (some ⟨W.heap.size, 0, none⟩) → Q .normal a' (W.alloc (.cells #[yv, lv, mv, .int .i64 n.2.2.2] 102))) :
  Code.wpIn Fence.wide 4 Tryz.prog r12 Q a W := by
 obtain ⟨⟨xs⟩, ds⟩ := a
 obtain ⟨hs, hd, t4, t5, t6, t7, t8, t9, t10⟩ := ha
 obtain ⟨es, cl, q1, q2⟩ := h.qs.map
 obtain ⟨cells, o1, o2⟩ := h.qs.row k
 have hlk := zj8 q1 q2 k
 obtain ⟨hil, hin⟩ := List.getElem?_eq_some_iff.1 hn
 obtain ⟨g, cap, cur, e1, hg1, hg2, hg3, hg4, hg5, hg6⟩ : ∃ g cap cur, iget l k = .slice (some ⟨g, 0, none⟩) (z2j ps k).length cap ∧ w.heap.size ≤ g ∧ W.heap[g]? = some (.cells cur 102 (0, 0)) ∧ (z2j ps k).length ≤ cap ∧ cap ≤ maxLen ∧ cur.size = cap * 4 ∧ cur.toList.take ((z2j ps k).length * 4) = cells := by
  rcases o1.2 with ⟨e, e'⟩ | he
  ·omega
  ·exact he
 rw [e1] at hlk
 have hcs := o1.cells (g := g) (by rw [e1]; rfl)
 have hc0 := o2.2 i hil
 rw [hin] at hc0
 obtain ⟨yv, lv, mv, hcv, r1, r2, r3⟩ := y1y hc0
 obtain ⟨ya, yc, rfl⟩ := z32 r1
 obtain ⟨la, lc, rfl⟩ := z32 r2
 obtain ⟨ma, mc, rfl⟩ := z32 r3
 have hix : ∀ j u, [.slice ya n.1.length yc, .slice la n.2.1.length lc, .slice ma n.2.2.1.length mc, Value.int .i64 n.2.2.2][j]? = some u → W.cell? ⟨g, i * 4 + j, none⟩ = some u := by
  intro j u hj
  have hj4 : j < 4 := by simpa using (List.getElem?_eq_some_iff.1 hj).1
  rw [← hcv, List.getElem?_take_of_lt hj4, List.getElem?_drop] at hj
  have := hcs (i * 4 + j) u hj
  have e : (⟨g, 0, none⟩ : Addr).add (i * 4 + j) = ⟨g, i * 4 + j, none⟩ := by unfold Addr.add; split <;> simp_all
  rw [← e]
  exact this
 have n0 : W.cell? ⟨g, i * 4, none⟩ = some (.slice ya n.1.length yc) := hix 0 _ rfl
 have n1 := hix 1 _ rfl
 have n2 := hix 2 _ rfl
 have n3 := hix 3 _ rfl
 have fz : ∀ o, W.frozen? ⟨g, o, none⟩ = false := fun o => z34 hg2
 have kq : W.cell? ⟨bq, 0, none⟩ = some (.map (some gm)) := z0b h.cq rfl
 have fq : W.frozen? ⟨bq, 0, none⟩ = false := z34 h.cq
 simp only [List.size_toArray] at hs
 obtain ⟨x0, x1, x2, x3, x4, x5, x6, x7, x8, x9, x10, x11, x12, x13, x14, x15, x16, x17, x18, x19, x20, x21, x22, x23, x24, x25, x26, x27, x28, x29, x30, x31, x32, x33, x34, x35, x36, x37, x38, x39, x40, x41, x42, x43, x44, x45, x46, x47, x48, x49, x50, x51, x52, x53, x54, x55, x56, x57, x58, x59, x60, x61, x62, x63, x64, rfl⟩ := zdv xs hs
 simp only at hd t4 t5 t6 t7 t8 t9 t10 hi
 subst hd
 obtain rfl : x4 = _ := t4
 obtain rfl : x5 = _ := t5
 obtain rfl : x6 = _ := t6
 obtain rfl : x7 = _ := t7
 obtain rfl : x8 = _ := t8
 obtain rfl : x9 = _ := t9
 obtain rfl : x10 = _ := t10
 obtain rfl : x11 = _ := hi
 clear h hcs hix
 simp only [r12, zj5, zil, zew, c129, Tryz.f54, Option.getD_some, Code.fst, Code.snd]
 gi_wp2
 exact hQ _ _ _ _ r1 r2 r3 ⟨rfl, rfl, rfl, rfl, rfl, rfl, rfl, rfl, rfl⟩ rfl rfl
end Go.Lift
namespace Go.Lift
open Go Go.Proofs Go.RowKit
attribute [local go_sem] Oper.semAt_some run_store_func
noncomputable abbrev g129 : Code := Code.fst (Code.snd zj5)
noncomputable abbrev y129 : Code := Code.fst (Code.snd (Code.snd zj5))
set_option maxHeartbeats 1000000 in
set_option maxRecDepth 100000 in
theorem zwf {M' : Mem} {W : World} {n : z2c} {df : List Deferred} {k : Int} {i bq b8 gd b9 bn : Nat} {yv lv mv : Value} (hb : W.heap[bn]? = some (.cells #[yv, lv, mv, .int .i64 n.2.2.2] 102 (0, 0))) (r1 : relV Tryz.prog TYd M' n.1 yv) (r2 : relV Tryz.prog TWt M' n.2.1 lv) (r3 : relV Tryz.prog TMv M' n.2.2.1 mv) {a : Act} (ha : F129 bq b8 gd b9 df k a) (hi : a.tmps.getD 11 undef = .int .i64 (i : Int)) (hn : a.tmps.getD 12 undef = .pointer (some ⟨bn, 0, none⟩)) {Q : Exit → Act → World → Prop}
  (h0 : n.2.1 = [] → ∀ a', a'.tmps.size = 65 → a'.defers = df → a'.tmps.getD 4 undef = mv → a'.tmps.getD 5 undef = .bool true → Q .ret a' W)
  (h1 : n.2.1 ≠ [] → ∀ a', F129 bq b8 gd b9 df k a' → a'.tmps.getD 11 undef = .int .i64 (i : Int) → a'.tmps.getD 12 undef = .pointer (some ⟨bn, 0, none⟩) → Q .normal a' W) :
  Code.wpIn Fence.wide 4 Tryz.prog g129 Q a W := by
 obtain ⟨ya, yc, rfl⟩ := z32 r1
 obtain ⟨la, lc, rfl⟩ := z32 r2
 obtain ⟨ma, mc, rfl⟩ := z32 r3
 have n1 : W.cell? ⟨bn, 1, none⟩ = some (.slice la n.2.1.length lc) := z0b hb rfl
 have n2 : W.cell? ⟨bn, 2, none⟩ = some (.slice ma n.2.2.1.length mc) := z0b hb rfl
 have fz : ∀ o, W.frozen? ⟨bn, o, none⟩ = false := fun o => z34 hb
 obtain ⟨⟨xs⟩, ds⟩ := a
 obtain ⟨hs, hd, t4, t5, t6, t7, t8, t9, t10⟩ := ha
 simp only [List.size_toArray] at hs
 obtain ⟨x0, x1, x2, x3, x4, x5, x6, x7, x8, x9, x10, x11, x12, x13, x14, x15, x16, x17, x18, x19, x20, x21, x22, x23, x24, x25, x26, x27, x28, x29, x30, x31, x32, x33, x34, x35, x36, x37, x38, x39, x40, x41, x42, x43, x44, x45, x46, x47, x48, x49, x50, x51, x52, x53, x54, x55, x56, x57, x58, x59, x60, x61, x62, x63, x64, rfl⟩ := zdv xs hs
 simp only at hd t4 t5 t6 t7 t8 t9 t10 hi hn
 subst hd
 obtain rfl : x4 = _ := t4
 obtain rfl : x5 = _ := t5
 obtain rfl : x6 = _ := t6
 obtain rfl : x7 = _ := t7
 obtain rfl : x8 = _ := t8
 obtain rfl : x9 = _ := t9
 obtain rfl : x10 = _ := t10
 obtain rfl : x11 = _ := hi
 obtain rfl : x12 = _ := hn
 clear hb
 simp only [g129, zj5, zil, zew, c129, Tryz.f54, Option.getD_some, Code.fst, Code.snd]
 gi_wp2
 ·rename_i hc
  exact h0 (List.eq_nil_of_length_eq_zero (by simpa using hc)) _ rfl rfl rfl rfl
 ·rename_i hc
  exact h1 (fun e => by rw [e] at hc; cases hc) _ ⟨rfl, rfl, rfl, rfl, rfl, rfl, rfl, rfl, rfl⟩ rfl rfl
set_option maxHeartbeats 1000000 in
set_option maxRecDepth 100000 in
theorem y5u {M' : Mem} {W : World} (hg : Good M' W) {n : z2c} {s : ByteArray} (hs : z3b n = some s) {df : List Deferred} {k : Int} {i bq b8 gd b9 bn : Nat} {yv lv mv : Value} (hb : W.heap[bn]? = some (.cells #[yv, lv, mv, .int .i64 n.2.2.2] 102 (0, 0))) (r1 : relV Tryz.prog TYd M' n.1 yv) (r2 : relV Tryz.prog TWt M' n.2.1 lv) (r3 : relV Tryz.prog TMv M' n.2.2.1 mv) {a : Act} (ha : F129 bq b8 gd b9 df k a) (hi : a.tmps.getD 11 undef = .int .i64 (i : Int)) (hn : a.tmps.getD 12 undef = .pointer (some ⟨bn, 0, none⟩)) {Q : Exit → Act → World → Prop}
  (h1 : ∀ a' W' M2, Good M2 W' → Grow M' W M2 W' → Mem.le M' M2 → F129 bq b8 gd b9 df k a' → a'.tmps.getD 11 undef = .int .i64 (i : Int) → a'.tmps.getD 12 undef = .pointer (some ⟨bn, 0, none⟩) → a'.tmps.getD 13 undef = .string s → Q .normal a' W') :
  Code.wpIn Fence.wide 4 Tryz.prog y129 Q a W := by
 obtain ⟨ya, yc, rfl⟩ := z32 r1
 obtain ⟨la, lc, rfl⟩ := z32 r2
 obtain ⟨ma, mc, rfl⟩ := z32 r3
 have n0 : W.cell? ⟨bn, 0, none⟩ = some (.slice ya n.1.length yc) := z0b hb rfl
 have n1 : W.cell? ⟨bn, 1, none⟩ = some (.slice la n.2.1.length lc) := z0b hb rfl
 have n2 : W.cell? ⟨bn, 2, none⟩ = some (.slice ma n.2.2.1.length mc) := z0b hb rfl
 have n3 : W.cell? ⟨bn, 3, none⟩ = some (.int .i64 n.2.2.2) := z0b hb rfl
 have fz : ∀ o, W.frozen? ⟨bn, o, none⟩ = false := fun o => z34 hb
 obtain ⟨⟨xs⟩, ds⟩ := a
 obtain ⟨hz, hd, t4, t5, t6, t7, t8, t9, t10⟩ := ha
 simp only [List.size_toArray] at hz
 obtain ⟨x0, x1, x2, x3, x4, x5, x6, x7, x8, x9, x10, x11, x12, x13, x14, x15, x16, x17, x18, x19, x20, x21, x22, x23, x24, x25, x26, x27, x28, x29, x30, x31, x32, x33, x34, x35, x36, x37, x38, x39, x40, x41, x42, x43, x44, x45, x46, x47, x48, x49, x50, x51, x52, x53, x54, x55, x56, x57, x58, x59, x60, x61, x62, x63, x64, rfl⟩ := zdv xs hz
 simp only at hd t4 t5 t6 t7 t8 t9 t10 hi hn
 subst hd
 obtain rfl : x4 = _ := t4
 obtain rfl : x5 = _ := t5
 obtain rfl : x6 = _ := t6
 obtain rfl : x7 = _ := t7
 obtain rfl : x8 = _ := t8
 obtain rfl : x9 = _ := t9
 obtain rfl : x10 = _ := t10
 obtain rfl : x11 = _ := hi
 obtain rfl : x12 = _ := hn
 have hcall : CallsIn Fence.wide 3 Tryz.prog 85 #[.agg #[.slice ya n.1.length yc, .slice la n.2.1.length lc, .slice ma n.2.2.1.length mc, .int .i64 n.2.2.2]] W fun e W' => ∃ M2, e = .returned (.string s) ∧ Good M2 W' ∧ Grow M' W M2 W' := by
  refine Open.calls z7x (((zjl zan).2 n s hs M' W [_] hg ⟨_, rfl, zkk r1 r2 r3⟩).mono fun e W3 => ?_)
  rintro ⟨M3, u, rfl, hu, hg3, hgr⟩
  have hu2 : relV Tryz.prog .str M3 s u := hu
  obtain rfl : u = .string s := by simpa [relV, z0h, Ty.agg, relC, encS] using hu2
  exact ⟨M3, rfl, hg3, hgr⟩
 clear hb
 simp only [y129, zj5, zil, zew, c129, Tryz.f54, Option.getD_some, Code.fst, Code.snd]
 gi_wp2_with ((try refine ⟨trivial, ?_⟩); gi_at_call 85; refine hcall.mono ?_; rintro e W1 ⟨M2, rfl, hg2, hgr2⟩)
 exact h1 _ _ M2 hg2 hgr2 (zdz (G := []) hg hgr2).le ⟨rfl, rfl, rfl, rfl, rfl, rfl, rfl, rfl, rfl⟩ rfl rfl rfl
end Go.Lift
namespace Go.Lift
open Go Go.Proofs Go.RowKit
attribute [local go_sem] Oper.semAt_some run_store_func
noncomputable abbrev k129 : Code := Code.fst (Code.snd (Code.snd (Code.snd zj5)))
theorem zvg {P : Program} {w : World} {k v : Ty} (hk : k.scal = true) (hv : v.scal = true) {T : TypeId} (ht : fits P (.mapT k v) (.inl T) = true) {g : Nat} {es : Array MapEntry} {cl : Nat} {l : List (k.den × v.den)} (hb : w.heap[g]? = some (.map es cl)) (hl : zeu k v l es) (j : k.den) :
  (Instr.lookup T (.map (some g)) (encS k j) false).run P w = .ok (encS v (mget k v l j)) w := by
 obtain ⟨K, V, hu, _, _, hfk, hfv, iv, hiv, hz⟩ := zoj ht
 obtain ⟨ik, dk, hik⟩ := z0o hfk
 have hck := MapKept.run_checkKey (w := w) hik.und (zhx hk hfk hik.und j) es.isEmpty 9999
 rcases zl2 hk hfk hik.und j es.toList l 0 hl with ⟨g1, _, g3⟩ | ⟨n, pre, p, post, g1, g2, g3, g4, _, g5⟩
 ·have hfind := MapKept.run_findKey (w := w) hik.und g1
  have hm : mget k v l j = v.dflt := by unfold mget; rw [g3]
  rw [hm]
  simp only [Instr.lookup, Sem.run_bind, run_underlying hu, Result.andThen_ok, MapKept.run_getObj_map hb, Sem.run_pure, hck, hfind, zt4 hiv hz]
  rfl
 ·have hfind := MapKept.run_findKey (w := w) hik.und g1
  have hm : mget k v l j = p.2 := by unfold mget; rw [g5]
  rw [hm]
  simp only [Instr.lookup, Sem.run_bind, run_underlying hu, Result.andThen_ok, MapKept.run_getObj_map hb, Sem.run_pure, hck, hfind]
  rfl
theorem zy6 (s : ByteArray) : ∀ done : List ByteArray, mget .str .bool (done.map fun s => (s, true)) s = done.any fun t => seqb s t
 | [] => rfl
 | t :: done => by
  have ih := zy6 s done
  unfold mget at ih ⊢
  rw [List.map_cons, List.find?_cons, List.any_cons]
  cases e : seqb s t with
  | true =>
   have : Ty.str.eqb s t = true := e
   simp only [this]
   rfl
  | false =>
   have : Ty.str.eqb s t = false := e
   simp only [this]
   rw [Bool.false_or]
   exact ih
set_option maxHeartbeats 1000000 in
set_option maxRecDepth 100000 in
theorem y27 {W : World} {done : List ByteArray} {s : ByteArray} {df : List Deferred} {k : Int} {i bq b8 gd b9 bn : Nat} (hdn : ∃ es cl, W.heap[gd]? = some (.map es cl) ∧ zeu .str .bool (done.reverse.map fun s => (s, true)) es) {a : Act} (ha : F129 bq b8 gd b9 df k a) (hi : a.tmps.getD 11 undef = .int .i64 (i : Int)) (hn : a.tmps.getD 12 undef = .pointer (some ⟨bn, 0, none⟩)) (hk : a.tmps.getD 13 undef = .string s) {Q : Exit → Act → World → Prop}
  (h1 : ∀ a', F129 bq b8 gd b9 df k a' → a'.tmps.getD 11 undef = .int .i64 (i : Int) → a'.tmps.getD 12 undef = .pointer (some ⟨bn, 0, none⟩) → a'.tmps.getD 13 undef = .string s → a'.tmps.getD 53 undef = .bool (!(done.any fun t => seqb s t)) → Q .normal a' W) :
  Code.wpIn Fence.wide 4 Tryz.prog k129 Q a W := by
 obtain ⟨es, cl, q1, q2⟩ := hdn
 have hlk : (Instr.lookup 123 (.map (some gd)) (.string s) false).run Tryz.prog W = .ok (.bool (done.any fun t => seqb s t)) W := by
  have := zvg (P := Tryz.prog) (k := .str) (v := .bool) rfl rfl (T := 123) (by kernel_rfl) q1 q2 s
  rw [zy6, List.any_reverse] at this
  exact this
 obtain ⟨⟨xs⟩, ds⟩ := a
 obtain ⟨hz, hd, t4, t5, t6, t7, t8, t9, t10⟩ := ha
 simp only [List.size_toArray] at hz
 obtain ⟨x0, x1, x2, x3, x4, x5, x6, x7, x8, x9, x10, x11, x12, x13, x14, x15, x16, x17, x18, x19, x20, x21, x22, x23, x24, x25, x26, x27, x28, x29, x30, x31, x32, x33, x34, x35, x36, x37, x38, x39, x40, x41, x42, x43, x44, x45, x46, x47, x48, x49, x50, x51, x52, x53, x54, x55, x56, x57, x58, x59, x60, x61, x62, x63, x64, rfl⟩ := zdv xs hz
 simp only at hd t4 t5 t6 t7 t8 t9 t10 hi hn hk
 subst hd
 obtain rfl : x4 = _ := t4
 obtain rfl : x5 = _ := t5
 obtain rfl : x6 = _ := t6
 obtain rfl : x7 = _ := t7
 obtain rfl : x8 = _ := t8
 obtain rfl : x9 = _ := t9
 obtain rfl : x10 = _ := t10
 obtain rfl : x11 = _ := hi
 obtain rfl : x12 = _ := hn
 obtain rfl : x13 = _ := hk
 clear q1 q2
 simp only [k129, zj5, zil, zew, c129, Tryz.f54, Option.getD_some, Code.fst, Code.snd]
 gi_wp2
 exact h1 _ ⟨rfl, rfl, rfl, rfl, rfl, rfl, rfl, rfl, rfl⟩ rfl rfl rfl rfl
end Go.Lift
namespace Go.Lift
open Go Go.Proofs Go.RowKit
theorem PSt.alloc {w : World} {M : Mem} {bq gm b8 gd : Nat} {ps : PutL} {done : List ByteArray} {l : List (Int × Value)} {M' : Mem} {W : World} (h : PSt w M bq gm b8 gd ps done l M' W) (cs : Array Value) (T : TypeId) :
  PSt w M bq gm b8 gd ps done l (z4y M' W.heap.size cs.toList) (W.alloc (.cells cs T)) ∧ Mem.le M' (z4y M' W.heap.size cs.toList) := by
 obtain ⟨a, b, c⟩ := zw3 (cs := cs) (T := T) h.good
 exact ⟨h.kept a b c, c⟩
theorem PSt.cell {w : World} {M : Mem} {bq gm b8 gd : Nat} {ps : PutL} {done : List ByteArray} {l : List (Int × Value)} {M' M2 : Mem} {W : World} (h : PSt w M bq gm b8 gd ps done l M2 W) (hle : Mem.le M' M2) {b o : Nat} {v : Value} (hv : M' b o = some v) : W.cell? ⟨b, o, none⟩ = some v := h.good.2 b o v (hle b o v hv)
theorem y4y {s : ByteArray} {done : List ByteArray} (hs : (done.any fun t => seqb s t) = false) : mput .str .bool (done.reverse.map fun s => (s, true)) s true = ((s :: done).reverse.map fun s => (s, true)) := by
 rw [zkl, List.reverse_cons, List.map_append]
 ·rfl
 ·rw [List.any_map, List.any_reverse]
  exact hs
end Go.Lift
namespace Go.Lift
open Go Go.Proofs Go.RowKit
theorem znt {P : Program} {w : World} {k v : Ty} (hk : k.scal = true) {T : TypeId} (ht : fits P (.mapT k v) (.inl T) = true) {g : Nat} {es : Array MapEntry} {cl : Nat} {l : List (k.den × v.den)} (hb : w.heap[g]? = some (.map es cl)) (hl : zeu k v l es) (j : k.den) (z : v.den) (hn : (l.any fun p => k.eqb j p.1) = false) :
  ∃ es' cl', (Instr.mapUpdate T (.map (some g)) (encS k j) (encS v z)).run P w = .ok () { w with heap := w.heap.setIfInBounds g (.map es' cl') } ∧ zeu k v (mput k v l j z) es' := by
 obtain ⟨K, V, hu, _, _, hfk, hfv, _⟩ := zoj ht
 obtain ⟨ik, dk, hik⟩ := z0o hfk
 have hck := MapKept.run_checkKey (w := w) hik.und (zhx hk hfk hik.und j) false 9999
 rcases zl2 hk hfk hik.und j es.toList l 0 hl with ⟨g1, g2, g3⟩ | ⟨n, pre, p, post, g1, g2, g3, g4, g6, g5⟩
 ·have hfind := MapKept.run_findKey (w := w) hik.und g1
  refine ⟨es.push { key := encS k j, val := encS v z, born := cl }, cl + 1, ?_, ?_⟩
  ·simp only [Instr.mapUpdate, Sem.run_bind, run_underlying hu, Result.andThen_ok, MapKept.run_getObj_map hb, hck, hfind, MapKept.run_setObj_map _ hb, Sem.run_pure]
  ·rw [zkl hn]
   unfold zeu at hl ⊢
   rw [Array.toList_push, List.map_append, List.map_append, hl]
   rfl
 ·exfalso
  have hp : k.eqb j p.1 = true := by
   have := List.find?_some g5
   exact this
  rw [g2, List.any_append, List.any_cons, hp] at hn
  simp at hn
theorem PSt.did {w : World} {M : Mem} {bq gm b8 gd : Nat} {ps : PutL} {done : List ByteArray} {l : List (Int × Value)} {M' : Mem} {W : World} (h : PSt w M bq gm b8 gd ps done l M' W) {s : ByteArray} (hs : (done.any fun t => seqb s t) = false) (hgd : w.heap.size ≤ gd) :
  ∃ W', (Instr.mapUpdate 123 (.map (some gd)) (.string s) (.bool true)).run Tryz.prog W = .ok () W' ∧ PSt w M bq gm b8 gd ps (s :: done) l M' W' := by
 obtain ⟨es, cl, d1, d2⟩ := h.cd
 obtain ⟨es', cl', e1, e2⟩ := znt (P := Tryz.prog) (k := .str) (v := .bool) rfl (T := 123) (by kernel_rfl) d1 d2 s true (by rw [List.any_map, List.any_reverse]; exact hs)
 rw [y4y hs] at e2
 refine ⟨_, e1, ?_⟩
 have hl := (Array.getElem?_eq_some_iff.1 d1).1
 have other : ∀ j, j ≠ gd → (W.heap.setIfInBounds gd (.map es' cl'))[j]? = W.heap[j]? := fun j hj => Array.getElem?_setIfInBounds_ne (Ne.symm hj)
 have nc : ∀ {j : Nat} {o : Obj}, W.heap[j]? = some o → (∀ es cl, o ≠ .map es cl) → j ≠ gd := fun hj ho e => by
  rw [e, d1] at hj
  exact ho _ _ (Option.some.inj hj).symm
 have hbel : Below w.heap.size w { W with heap := W.heap.setIfInBounds gd (.map es' cl') } :=
  ⟨h.below.os, h.below.tape, h.below.output, by simpa using h.below.size, fun j hj => (other j (by omega)).trans (h.below.block j hj)⟩
 have hcell : ∀ b o v, M' b o = some v → ({ W with heap := W.heap.setIfInBounds gd (.map es' cl') } : World).cell? ⟨b, o, none⟩ = some v := fun b o v hv => by
  have hc := h.good.2 b o v hv
  have hne : b ≠ gd := fun e => by subst e; simp [World.cell?, d1] at hc
  have := other b hne
  simp only [World.cell?, this] at hc ⊢
  exact hc
 have hkeep : W.grownBy { W with heap := W.heap.setIfInBounds gd (.map es' cl') } (some gd) := ⟨rfl, rfl, rfl, by simp, fun j hj hne => other j (by simpa using hne)⟩
 have hrow : ∀ k, (iget l k).ownBlock = none ∨ (iget l k).ownBlock ≠ some gd := fun k => by
  obtain ⟨cells, o1, _⟩ := h.qs.row k
  rcases o1.2 with ⟨e, _⟩ | ⟨g, cap, cur, e, _, hg, _⟩
  ·left; rw [e]; rfl
  ·right; rw [e]
   intro e2
   exact nc hg (fun _ _ => by simp) (Option.some.inj e2)
 obtain ⟨es2, cl2, m1, m2⟩ := h.qs.map
 exact ⟨h.g0, zhc h.g0 h.le hbel hcell, h.le, h.mem, hbel, (other _ (nc h.cq (fun _ _ => by simp))).trans h.cq, (other _ (nc h.c8 (fun _ _ => by simp))).trans h.c8,
  ⟨es', cl', by simp [Array.getElem?_setIfInBounds, hl], e2⟩,
  ⟨⟨es2, cl2, (other _ h.ne).trans m1, m2⟩, fun k => (h.qs.row k).imp fun cells hc => ⟨hc.1.kept hkeep (hrow k), hc.2⟩, h.qs.apart, h.qs.mem⟩, h.m8, h.n8, h.nm, h.ne⟩
end Go.Lift
namespace Go.Lift
open Go Go.Proofs Go.RowKit
attribute [local go_sem] Oper.semAt_some run_store_func
noncomputable abbrev t129 : Code := Code.fst (Code.snd (Code.snd (Code.snd (Code.snd zj5))))
noncomputable abbrev u129 : Code := Code.fst t129
noncomputable abbrev v129 : Code := Code.fst (Code.snd t129)
set_option maxHeartbeats 1000000 in
set_option maxRecDepth 100000 in
theorem did129 {W W' : World} {s : ByteArray} {df : List Deferred} {k : Int} {i bq b8 gd b9 bn : Nat} (hrun : (Instr.mapUpdate 123 (.map (some gd)) (.string s) (.bool true)).run Tryz.prog W = .ok () W') {a : Act} (ha : F129 bq b8 gd b9 df k a) (hi : a.tmps.getD 11 undef = .int .i64 (i : Int)) (hn : a.tmps.getD 12 undef = .pointer (some ⟨bn, 0, none⟩)) (hk : a.tmps.getD 13 undef = .string s) {Q : Exit → Act → World → Prop}
  (h1 : ∀ a', F129 bq b8 gd b9 df k a' → a'.tmps.getD 11 undef = .int .i64 (i : Int) → a'.tmps.getD 12 undef = .pointer (some ⟨bn, 0, none⟩) → Q .normal a' W') :
  Code.wpIn Fence.wide 4 Tryz.prog u129 Q a W := by
 obtain ⟨⟨xs⟩, ds⟩ := a
 obtain ⟨hz, hd, t4, t5, t6, t7, t8, t9, t10⟩ := ha
 simp only [List.size_toArray] at hz
 obtain ⟨x0, x1, x2, x3, x4, x5, x6, x7, x8, x9, x10, x11, x12, x13, x14, x15, x16, x17, x18, x19, x20, x21, x22, x23, x24, x25, x26, x27, x28, x29, x30, x31, x32, x33, x34, x35, x36, x37, x38, x39, x40, x41, x42, x43, x44, x45, x46, x47, x48, x49, x50, x51, x52, x53, x54, x55, x56, x57, x58, x59, x60, x61, x62, x63, x64, rfl⟩ := zdv xs hz
 simp only at hd t4 t5 t6 t7 t8 t9 t10 hi hn hk
 subst hd
 obtain rfl : x4 = _ := t4
 obtain rfl : x5 = _ := t5
 obtain rfl : x6 = _ := t6
 obtain rfl : x7 = _ := t7
 obtain rfl : x8 = _ := t8
 obtain rfl : x9 = _ := t9
 obtain rfl : x10 = _ := t10
 obtain rfl : x11 = _ := hi
 obtain rfl : x12 = _ := hn
 obtain rfl : x13 = _ := hk
 simp only [u129, t129, zj5, zil, zew, c129, Tryz.f54, Option.getD_some, Code.fst, Code.snd]
 gi_wp2
 exact h1 _ ⟨rfl, rfl, rfl, rfl, rfl, rfl, rfl, rfl, rfl⟩ rfl rfl
set_option maxHeartbeats 1000000 in
set_option maxRecDepth 100000 in
theorem y6y {W : World} {yv : Value} {df : List Deferred} {k : Int} {i bq b8 gd b9 bn : Nat} (hy : W.cell? ⟨bn, 0, none⟩ = some yv) {a : Act} (ha : F129 bq b8 gd b9 df k a) (hi : a.tmps.getD 11 undef = .int .i64 (i : Int)) (hn : a.tmps.getD 12 undef = .pointer (some ⟨bn, 0, none⟩)) {Q : Exit → Act → World → Prop}
  (h1 : ∀ a', F129 bq b8 gd b9 df k a' → a'.tmps.getD 11 undef = .int .i64 (i : Int) → a'.tmps.getD 12 undef = .pointer (some ⟨bn, 0, none⟩) → a'.tmps.getD 58 undef = .func (.func 86) #[yv] #[] → Q .normal a' W) :
  Code.wpIn Fence.wide 4 Tryz.prog v129 Q a W := by
 obtain ⟨⟨xs⟩, ds⟩ := a
 obtain ⟨hz, hd, t4, t5, t6, t7, t8, t9, t10⟩ := ha
 simp only [List.size_toArray] at hz
 obtain ⟨x0, x1, x2, x3, x4, x5, x6, x7, x8, x9, x10, x11, x12, x13, x14, x15, x16, x17, x18, x19, x20, x21, x22, x23, x24, x25, x26, x27, x28, x29, x30, x31, x32, x33, x34, x35, x36, x37, x38, x39, x40, x41, x42, x43, x44, x45, x46, x47, x48, x49, x50, x51, x52, x53, x54, x55, x56, x57, x58, x59, x60, x61, x62, x63, x64, rfl⟩ := zdv xs hz
 simp only at hd t4 t5 t6 t7 t8 t9 t10 hi hn
 subst hd
 obtain rfl : x4 = _ := t4
 obtain rfl : x5 = _ := t5
 obtain rfl : x6 = _ := t6
 obtain rfl : x7 = _ := t7
 obtain rfl : x8 = _ := t8
 obtain rfl : x9 = _ := t9
 obtain rfl : x10 = _ := t10
 obtain rfl : x11 = _ := hi
 obtain rfl : x12 = _ := hn
 simp only [v129, t129, zj5, zil, zew, c129, Tryz.f54, Option.getD_some, Code.fst, Code.snd]
 gi_wp2
 exact h1 _ ⟨rfl, rfl, rfl, rfl, rfl, rfl, rfl, rfl, rfl⟩ rfl rfl rfl
end Go.Lift
namespace Go.Lift
open Go Go.Proofs Go.RowKit
attribute [local go_sem] Oper.semAt_some run_store_func
noncomputable abbrev i129 : Code := Code.snd (Code.snd zil)
noncomputable abbrev o129 : Code := Code.fst zew
noncomputable abbrev z129 : Code := Code.fst (Code.fst (Code.fst (Code.snd zew)))
noncomputable abbrev a129 : Code := Code.snd (Code.snd zew)
set_option maxHeartbeats 1000000 in
set_option maxRecDepth 100000 in
theorem y0f {W : World} {df : List Deferred} {k : Int} {i bq b8 gd b9 : Nat} (hw : wrap64 ((i : Int) + 1) = ((i + 1 : Nat) : Int)) {a : Act} (ha : F129 bq b8 gd b9 df k a) (hi : a.tmps.getD 11 undef = .int .i64 (i : Int)) {Q : Exit → Act → World → Prop}
  (h1 : ∀ a', F129 bq b8 gd b9 df k a' → a'.tmps.getD 11 undef = .int .i64 ((i + 1 : Nat) : Int) → Q .normal a' W) :
  Code.wpIn Fence.wide 4 Tryz.prog i129 Q a W := by
 obtain ⟨⟨xs⟩, ds⟩ := a
 obtain ⟨hz, hd, t4, t5, t6, t7, t8, t9, t10⟩ := ha
 simp only [List.size_toArray] at hz
 obtain ⟨x0, x1, x2, x3, x4, x5, x6, x7, x8, x9, x10, x11, x12, x13, x14, x15, x16, x17, x18, x19, x20, x21, x22, x23, x24, x25, x26, x27, x28, x29, x30, x31, x32, x33, x34, x35, x36, x37, x38, x39, x40, x41, x42, x43, x44, x45, x46, x47, x48, x49, x50, x51, x52, x53, x54, x55, x56, x57, x58, x59, x60, x61, x62, x63, x64, rfl⟩ := zdv xs hz
 simp only at hd t4 t5 t6 t7 t8 t9 t10 hi
 subst hd
 obtain rfl : x4 = _ := t4
 obtain rfl : x5 = _ := t5
 obtain rfl : x6 = _ := t6
 obtain rfl : x7 = _ := t7
 obtain rfl : x8 = _ := t8
 obtain rfl : x9 = _ := t9
 obtain rfl : x10 = _ := t10
 obtain rfl : x11 = _ := hi
 simp only [i129, zil, zew, c129, Tryz.f54, Option.getD_some, Code.fst, Code.snd]
 gi_wp2
 exact h1 _ ⟨rfl, rfl, rfl, rfl, rfl, rfl, rfl, rfl, rfl⟩ (congrArg (Value.int .i64) hw)
set_option maxHeartbeats 1000000 in
set_option maxRecDepth 100000 in
theorem y06 {W : World} {df : List Deferred} {k : Int} {bq b8 gd b9 : Nat} {a : Act} (ha : F129 bq b8 gd b9 df k a) {Q : Exit → Act → World → Prop}
  (h1 : ∀ a', F129 bq b8 gd b9 df k a' → a'.tmps.getD 11 undef = .int .i64 ((0 : Nat) : Int) → Q .normal a' W) :
  Code.wpIn Fence.wide 4 Tryz.prog z129 Q a W := by
 obtain ⟨⟨xs⟩, ds⟩ := a
 obtain ⟨hz, hd, t4, t5, t6, t7, t8, t9, t10⟩ := ha
 simp only [List.size_toArray] at hz
 obtain ⟨x0, x1, x2, x3, x4, x5, x6, x7, x8, x9, x10, x11, x12, x13, x14, x15, x16, x17, x18, x19, x20, x21, x22, x23, x24, x25, x26, x27, x28, x29, x30, x31, x32, x33, x34, x35, x36, x37, x38, x39, x40, x41, x42, x43, x44, x45, x46, x47, x48, x49, x50, x51, x52, x53, x54, x55, x56, x57, x58, x59, x60, x61, x62, x63, x64, rfl⟩ := zdv xs hz
 simp only at hd t4 t5 t6 t7 t8 t9 t10
 subst hd
 obtain rfl : x4 = _ := t4
 obtain rfl : x5 = _ := t5
 obtain rfl : x6 = _ := t6
 obtain rfl : x7 = _ := t7
 obtain rfl : x8 = _ := t8
 obtain rfl : x9 = _ := t9
 obtain rfl : x10 = _ := t10
 simp only [z129, zew, c129, Tryz.f54, Option.getD_some, Code.fst, Code.snd]
 gi_wp2
 exact h1 _ ⟨rfl, rfl, rfl, rfl, rfl, rfl, rfl, rfl, rfl⟩ rfl
set_option maxHeartbeats 1000000 in
set_option maxRecDepth 100000 in
theorem zru {W : World} {df : List Deferred} {k m : Int} {bq b8 gd b9 : Nat} (h8 : W.heap[b8]? = some (.cells #[.int .i64 m] 3 (0, 0))) {a : Act} (ha : F129 bq b8 gd b9 df k a) {Q : Exit → Act → World → Prop}
  (h1 : k ≤ m → ∀ a', F129 bq b8 gd b9 df k a' → Q .normal a' W) (h2 : m < k → ∀ a', F129 bq b8 gd b9 df k a' → Q (.exit 0) a' W) :
  Code.wpIn Fence.wide 4 Tryz.prog o129 Q a W := by
 have k8 : W.cell? ⟨b8, 0, none⟩ = some (.int .i64 m) := z0b h8 rfl
 obtain ⟨⟨xs⟩, ds⟩ := a
 obtain ⟨hz, hd, t4, t5, t6, t7, t8, t9, t10⟩ := ha
 simp only [List.size_toArray] at hz
 obtain ⟨x0, x1, x2, x3, x4, x5, x6, x7, x8, x9, x10, x11, x12, x13, x14, x15, x16, x17, x18, x19, x20, x21, x22, x23, x24, x25, x26, x27, x28, x29, x30, x31, x32, x33, x34, x35, x36, x37, x38, x39, x40, x41, x42, x43, x44, x45, x46, x47, x48, x49, x50, x51, x52, x53, x54, x55, x56, x57, x58, x59, x60, x61, x62, x63, x64, rfl⟩ := zdv xs hz
 simp only at hd t4 t5 t6 t7 t8 t9 t10
 subst hd
 obtain rfl : x4 = _ := t4
 obtain rfl : x5 = _ := t5
 obtain rfl : x6 = _ := t6
 obtain rfl : x7 = _ := t7
 obtain rfl : x8 = _ := t8
 obtain rfl : x9 = _ := t9
 obtain rfl : x10 = _ := t10
 clear h8
 simp only [o129, zew, c129, Tryz.f54, Option.getD_some, Code.fst, Code.snd]
 gi_wp2
 ·rename_i hc
  exact h1 (by simpa using hc) _ ⟨rfl, rfl, rfl, rfl, rfl, rfl, rfl, rfl, rfl⟩
 ·rename_i hc
  exact h2 (by simpa using hc) _ ⟨rfl, rfl, rfl, rfl, rfl, rfl, rfl, rfl, rfl⟩
set_option maxHeartbeats 1000000 in
set_option maxRecDepth 100000 in
theorem y6t {W : World} {df : List Deferred} {k : Int} {bq b8 gd b9 : Nat} (hw : wrap64 (k + 1) = k + 1) {a : Act} (ha : F129 bq b8 gd b9 df k a) {Q : Exit → Act → World → Prop}
  (hQ : True → ∀ a', F129 bq b8 gd b9 df (k + 1) a' → Q .normal a' W) :
  Code.wpIn Fence.wide 4 Tryz.prog a129 Q a W := by
 obtain ⟨⟨xs⟩, ds⟩ := a
 obtain ⟨hz, hd, t4, t5, t6, t7, t8, t9, t10⟩ := ha
 simp only [List.size_toArray] at hz
 obtain ⟨x0, x1, x2, x3, x4, x5, x6, x7, x8, x9, x10, x11, x12, x13, x14, x15, x16, x17, x18, x19, x20, x21, x22, x23, x24, x25, x26, x27, x28, x29, x30, x31, x32, x33, x34, x35, x36, x37, x38, x39, x40, x41, x42, x43, x44, x45, x46, x47, x48, x49, x50, x51, x52, x53, x54, x55, x56, x57, x58, x59, x60, x61, x62, x63, x64, rfl⟩ := zdv xs hz
 simp only at hd t4 t5 t6 t7 t8 t9 t10
 subst hd
 obtain rfl : x4 = _ := t4
 obtain rfl : x5 = _ := t5
 obtain rfl : x6 = _ := t6
 obtain rfl : x7 = _ := t7
 obtain rfl : x8 = _ := t8
 obtain rfl : x9 = _ := t9
 obtain rfl : x10 = _ := t10
 simp only [a129, zew, c129, Tryz.f54, Option.getD_some, Code.fst, Code.snd]
 gi_wp2
 exact hQ trivial _ ⟨rfl, rfl, rfl, rfl, rfl, rfl, rfl, rfl, congrArg (Value.int .i64) hw⟩
end Go.Lift
