/-
  A move in a yard (walk), and the contract of the program's.
-/
import Derived.Test.YtbmclapepgfjhaaGreatYaM
import Derived.Test.YtbmclapepgfjhaaGreatManP
import Derived.Deep.RegionWith
import Derived.Deep.RegionLaw
import Derived.Test.YtbmclapepgfjhaaGreatYaA
set_option linter.unusedSectionVars false
set_option linter.unusedVariables false
set_option linter.unusedSimpArgs false
namespace Go.Lift
open Go Go.Proofs Go.RowKit
attribute [local go_sem] Oper.semAt_some
theorem y5j {w : World} {base g cap i : Nat} {ys : List (List ByteArray)} {rvs : List Value} {p : List ByteArray} (h : z18 w base (.slice (some ⟨g, 0, none⟩) ys.length cap) ys rvs) (hp : ys[i]? = some p) (hpos : 0 < p.length) (hl : ys.length ≤ 1000) (hlp : p.length ≤ 1000) :
  Calls Tryz.prog 56 #[.slice (some ⟨g, 0, none⟩) ys.length cap, .int .i64 (i : Int)] w fun e w' => e = .returned (.string (p.getD (p.length - 1) ByteArray.empty)) ∧ w' = w.drew := by
 obtain ⟨r, q1, q2⟩ := h.rows i p hp
 have hi : i < ys.length := (List.getElem?_eq_some_iff.1 hp).1
 have hc1 : w.cell? ⟨g, i, none⟩ = some r := by
  have := h.outer.cells (g := g) rfl i r q1
  rwa [Addr.add_mk, Nat.zero_add] at this
 obtain ⟨b, c, rfl⟩ : ∃ b c, r = .slice (some ⟨b, 0, none⟩) p.length c := by
  rcases q2.2 with ⟨_, h0⟩ | ⟨b, c, _, h1, _⟩
  ·omega
  ·exact ⟨b, c, h1⟩
 obtain ⟨m, hm⟩ : ∃ m, p.length = m + 1 := ⟨p.length - 1, by omega⟩
 have hs : p[m]? = some (p.getD (p.length - 1) ByteArray.empty) := by
  rw [show p.length - 1 = m by omega, List.getD_eq_getElem?_getD]
  cases e : p[m]? with
  | none => rw [List.getElem?_eq_none_iff] at e; omega
  | some x => rfl
 have hc2 : w.cell? ⟨b, m, none⟩ = some (.string (p.getD (p.length - 1) ByteArray.empty)) := by
  have := q2.cells (g := b) rfl m (.string (p.getD (p.length - 1) ByteArray.empty)) (by
   unfold strCells
   rw [List.getElem?_map, hs]
   rfl)
  rwa [Addr.add_mk, Nat.zero_add] at this
 generalize p.getD (p.length - 1) ByteArray.empty = s at hc2 ⊢
 have e1 : ((m : Int) + 1 - 1) = (m : Int) := by omega
 rw [hm] at hc1
 go_enter Tryz.func56, Tryz.ntmps56
 go_wp2
 go_region
 all_goals
  go_wp2
  go_ret
  exact ⟨rfl, rfl⟩
end Go.Lift
namespace Go.Lift
open Go Go.Proofs Go.RowKit
attribute [local go_sem] Oper.semAt_some
theorem z18.shape {w : World} {base : Nat} {v : Value} {ys : List (List ByteArray)} {rvs : List Value} (h : z18 w base v ys rvs) (hp : 0 < ys.length) : ∃ g cap, v = .slice (some ⟨g, 0, none⟩) ys.length cap ∧ base ≤ g ∧ g < w.heap.size := by
 rcases h.outer.2 with ⟨_, h0⟩ | ⟨b, c, cur, h1, h2, h3, _⟩
 ·omega
 ·exact ⟨b, c, h1, h2, (Array.getElem?_eq_some_iff.1 h3).1⟩
theorem z18.row {w : World} {base g cap i : Nat} {ys : List (List ByteArray)} {rvs : List Value} {p : List ByteArray} (h : z18 w base (.slice (some ⟨g, 0, none⟩) ys.length cap) ys rvs) (hp : ys[i]? = some p) : ∃ r, rvs[i]? = some r ∧ w.ownsRow base 9 1 r p.length (strCells p) ∧ w.cell? ⟨g, i, none⟩ = some r ∧ w.frozen? ⟨g, i, none⟩ = false := by
 obtain ⟨r, q1, q2⟩ := h.rows i p hp
 refine ⟨r, q1, q2, ?_, ?_⟩
 ·have := h.outer.cells (g := g) rfl i r q1
  rwa [Addr.add_mk, Nat.zero_add] at this
 ·rcases h.outer.2 with ⟨h1, _⟩ | ⟨b, c, cur, h1, _, h3, _⟩
  ·cases h1
  ·simp only [Value.slice.injEq, Option.some.injEq, Addr.mk.injEq, and_true, true_and] at h1
   obtain ⟨rfl, rfl⟩ := h1
   exact z34 h3
theorem y1m {w : World} {base g n m cap e : Nat} {xs : List Value} (h : w.ownsRow base e 1 (.slice (some ⟨g, 0, none⟩) n cap) n xs) (hm : m ≤ n) : w.ownsRow base e 1 (.slice (some ⟨g, 0, none⟩) m cap) m (xs.take m) := by
 rcases h.2 with ⟨h1, _⟩ | ⟨b, c, cur, h1, h2, h3, h4, h5, h6, h7⟩
 ·cases h1
 ·simp only [Value.slice.injEq, Option.some.injEq, Addr.mk.injEq, and_true, true_and] at h1
  obtain ⟨rfl, rfl⟩ := h1
  refine ⟨by rw [List.length_take, h.1]; omega, .inr ⟨g, cap, cur, rfl, h2, h3, by omega, h5, h6, ?_⟩⟩
  rw [← h7, List.take_take]
  congr 1
  omega
theorem z18.drew {w : World} {base : Nat} {v : Value} {ys : List (List ByteArray)} {rvs : List Value} (h : z18 w base v ys rvs) : z18 w.drew base v ys rvs := h.kept ⟨rfl, rfl, rfl, Nat.le_refl _, fun _ _ _ => rfl⟩
theorem zcc {P : Program} {ops : Array Oper} {o : Oper} {a : Act} {w w' : World} {K : Act → World → Prop} {Q : Exit → Act → World → Prop} {E : Prop}
  (hg : o.guard = none) (s x : Operand) (t : TypeId) (hop : o.op = Op.call { callee := Callee.builtin Builtin.append, args := #[s, x], argTypes := #[t, t] })
  (v sl v' : Value) (hs : a.eval s = v) (hx : a.eval x = sl) (hrun : (Builtin.append_ #[t, t] o.type #[v, sl]).run P w = .ok v' w') (hK : K (a.put o.dst v') w') :
  if Region.wanted o (yielded ops a.tmps) = true then Oper.wp P o a w K Q else E := by
 have hw : Region.wanted o (yielded ops a.tmps) = true := by simp [Region.wanted, hg]
 rw [if_pos hw]
 unfold Oper.wp
 simp [execOp, hop, resolve, invoke, builtin, hs, hx, hrun, Result.andThen]
 exact hK
theorem zqj (tmps : Array Value) (w : World) : (Go.results Tryz.f60 tmps).run Tryz.prog w = .ok (.tuple #[]) w := by
 have hrs : Tryz.f60.results = #[] := by kernel_rfl
 simp only [Go.results, hrs, Sem.run_bind, List.mapM_toArray, List.mapM_nil, Sem.run_pure, Result.andThen_ok, Sem.run_map]
 rfl
set_option maxHeartbeats 4000000 in
set_option maxRecDepth 100000 in
theorem zw2 {w : World} {base g cap i : Nat} {ys : List (List ByteArray)} {rvs : List Value} {p : List ByteArray} (h : z18 w base (.slice (some ⟨g, 0, none⟩) ys.length cap) ys rvs) (hp : ys[i]? = some p) (hpos : 0 < p.length) (hl : ys.length ≤ 1000) (hlp : p.length ≤ 1000) :
  Calls Tryz.prog 60 #[.slice (some ⟨g, 0, none⟩) ys.length cap, .agg #[.int .i64 (i : Int), .int .i64 (-1)]] w fun e w' => ∃ rvs', e = .returned (.tuple #[]) ∧ z18 w' base (.slice (some ⟨g, 0, none⟩) (ys.set i (p.take (p.length - 1))).length cap) (ys.set i (p.take (p.length - 1))) rvs' ∧ Outside (.slice (some ⟨g, 0, none⟩) ys.length cap) rvs w w' := by
 obtain ⟨w1, hw1⟩ : ∃ w1, w.alloc (.cells #[.int .i64 (i : Int), .int .i64 (-1)] 64) = w1 := ⟨_, rfl⟩
 have h1 : z18 w1 base (.slice (some ⟨g, 0, none⟩) ys.length cap) ys rvs := by rw [← hw1]; exact h.kept (World.grownBy_alloc w _ none)
 obtain ⟨r, q1, q2, hc1, hc1'⟩ := h1.row hp
 have hi : i < ys.length := (List.getElem?_eq_some_iff.1 hp).1
 obtain ⟨b, c, rfl⟩ : ∃ b c, r = .slice (some ⟨b, 0, none⟩) p.length c := by
  rcases q2.2 with ⟨_, h0⟩ | ⟨b, c, _, h1, _⟩
  ·omega
  ·exact ⟨b, c, h1⟩
 obtain ⟨m, hm⟩ : ∃ m, p.length = m + 1 := ⟨p.length - 1, by omega⟩
 have hmc : m + 1 ≤ c := by
  rcases q2.2 with ⟨h0, _⟩ | ⟨_, _, _, h1, _, _, h2, _⟩
  ·cases h0
  ·cases h1; omega
 have htop := y5j h1 hp hpos hl hlp
 have hw := (World.alloc_heap_new w (.cells #[.int .i64 (i : Int), .int .i64 (-1)] 64))
 rw [hw1] at hw
 have k0 : w1.cell? ⟨w.heap.size, 0, none⟩ = some (.int .i64 (i : Int)) := z0b hw rfl
 have k1 : w1.cell? ⟨w.heap.size, 1, none⟩ = some (.int .i64 (-1)) := z0b hw rfl
 have hgw : g ≠ w.heap.size := by
  have := h.shape (by omega)
  obtain ⟨g', cap', e, _, hlt⟩ := this
  simp only [Value.slice.injEq, Option.some.injEq, Addr.mk.injEq, and_true, true_and] at e
  omega
 have e1 : ((m : Int) + 1 - 1) = (m : Int) := by omega
 have hturn := h1.turn (r1 := .slice (some ⟨b, 0, none⟩) m c) (y1 := p.take (p.length - 1)) q1 ⟨rfl, rfl, rfl, Nat.le_refl _, fun _ _ _ => rfl⟩ (by
  have := y1m q2 (m := m) (by omega)
  rw [List.length_take, show min (p.length - 1) p.length = m by omega, show p.length - 1 = m by omega]
  have e2 : (strCells p).take m = strCells (p.take m) := by unfold strCells; rw [List.map_take]
  rw [e2] at this
  exact this) (.inl rfl)
 generalize p.getD (p.length - 1) ByteArray.empty = s at htop
 rw [hm] at hc1
 go_enter Tryz.func60, Tryz.ntmps60
 go_wp2_with (go_at_call 56; refine htop.mono ?_; clear htop; rintro e w2 ⟨rfl, rfl⟩)
 have k0' : (w1.setCell ⟨g, i, none⟩ (.slice (some ⟨b, 0, none⟩) m c)).cell? ⟨w.heap.size, 0, none⟩ = some (.int .i64 (i : Int)) := (World.cell?_of_block (by simp [World.setCell, Array.getElem?_modify, hgw])).trans k0
 have k1' : (w1.setCell ⟨g, i, none⟩ (.slice (some ⟨b, 0, none⟩) m c)).cell? ⟨w.heap.size, 1, none⟩ = some (.int .i64 (-1)) := (World.cell?_of_block (by simp [World.setCell, Array.getElem?_modify, hgw])).trans k1
 have hout := zgv (w := w1) (w1 := w1) (g := g) (cap := cap) (n := ys.length) (r1 := .slice (some ⟨b, 0, none⟩) m c) q1 ⟨rfl, rfl, rfl, Nat.le_refl _, fun _ _ _ => rfl⟩
 have hfin : z18 (w1.setCell ⟨g, i, none⟩ (.slice (some ⟨b, 0, none⟩) m c)).drew.drew base (.slice (some ⟨g, 0, none⟩) (ys.set i (p.take (p.length - 1))).length cap) (ys.set i (p.take (p.length - 1))) (rvs.set i (.slice (some ⟨b, 0, none⟩) m c)) ∧ Outside (.slice (some ⟨g, 0, none⟩) ys.length cap) rvs w (w1.setCell ⟨g, i, none⟩ (.slice (some ⟨b, 0, none⟩) m c)).drew.drew := by
  refine ⟨hturn.drew.drew, ⟨?_, ?_, ?_, ?_, fun k hk hv hr => ?_⟩⟩
  ·rw [← hw1]; rfl
  ·rw [← hw1]; rfl
  ·rw [← hw1]; rfl
  ·have := hout.size; rw [← hw1] at this ⊢; simp only [World.size_alloc] at this; simp only [World.drew]; omega
  ·refine (hout.block k (by rw [← hw1, World.size_alloc]; omega) hv hr).trans ?_
   rw [← hw1]
   exact Below.heap_alloc w _ k hk
 go_region
 all_goals
  go_wp2
  exact bodyPost_end (zqj _ _) rfl ⟨_, rfl, hfin.1, hfin.2⟩
theorem Outside.trans {v v' : Value} {rvs rvs' : List Value} {w w1 w2 : World} (h : Outside v rvs w w1) (k : Outside v' rvs' w1 w2) (hv : v'.ownBlock = v.ownBlock) (hr : ∀ r ∈ rvs', r.ownBlock = none ∨ ∃ s ∈ rvs, s.ownBlock = r.ownBlock) : Outside v rvs w w2 :=
 ⟨k.os.trans h.os, k.tape.trans h.tape, k.output.trans h.output, Nat.le_trans h.size k.size, fun j hj h1 h2 => (k.block j (Nat.lt_of_lt_of_le hj h.size) (by rw [hv]; exact h1) fun r hm => by
  rcases hr r hm with e | ⟨s, hs, e⟩
  ·rw [e]; simp
  ·rw [← e]; exact h2 s hs).trans (h.block j hj h1 h2)⟩
set_option maxHeartbeats 4000000 in
set_option maxRecDepth 100000 in
theorem zzh {w : World} {base g cap i k : Nat} {ys : List (List ByteArray)} {rvs : List Value} {p q : List ByteArray} (h : z18 w base (.slice (some ⟨g, 0, none⟩) ys.length cap) ys rvs) (hb : base ≤ w.heap.size) (hp : ys[i]? = some p) (hpos : 0 < p.length) (hl : ys.length ≤ 1000) (hlp : p.length ≤ 1000) (hq : ys[k]? = some q) (hlq : q.length ≤ 1000) (hik : i ≠ k) :
  Calls Tryz.prog 60 #[.slice (some ⟨g, 0, none⟩) ys.length cap, .agg #[.int .i64 (i : Int), .int .i64 (k : Int)]] w fun e w' => ∃ rvs', e = .returned (.tuple #[]) ∧ z18 w' base (.slice (some ⟨g, 0, none⟩) ys.length cap) ((ys.set i (p.take (p.length - 1))).set k (q ++ [p.getD (p.length - 1) ByteArray.empty])) rvs' ∧ Outside (.slice (some ⟨g, 0, none⟩) ys.length cap) rvs w w' := by
 obtain ⟨w1, hw1⟩ : ∃ w1, w.alloc (.cells #[.int .i64 (i : Int), .int .i64 (k : Int)] 64) = w1 := ⟨_, rfl⟩
 have h1 : z18 w1 base (.slice (some ⟨g, 0, none⟩) ys.length cap) ys rvs := by rw [← hw1]; exact h.kept (World.grownBy_alloc w _ none)
 obtain ⟨r, q1, q2, hc1, hc1'⟩ := h1.row hp
 have hi : i < ys.length := (List.getElem?_eq_some_iff.1 hp).1
 have hk : k < ys.length := (List.getElem?_eq_some_iff.1 hq).1
 obtain ⟨b, c, rfl⟩ : ∃ b c, r = .slice (some ⟨b, 0, none⟩) p.length c := by
  rcases q2.2 with ⟨_, h0⟩ | ⟨b, c, _, h1, _⟩
  ·omega
  ·exact ⟨b, c, h1⟩
 obtain ⟨m, hm⟩ : ∃ m, p.length = m + 1 := ⟨p.length - 1, by omega⟩
 have hmc : m + 1 ≤ c := by
  rcases q2.2 with ⟨h0, _⟩ | ⟨_, _, _, h1, _, _, h2, _⟩
  ·cases h0
  ·cases h1; omega
 have htop := y5j h1 hp hpos hl hlp
 have hw := (World.alloc_heap_new w (.cells #[.int .i64 (i : Int), .int .i64 (k : Int)] 64))
 rw [hw1] at hw
 have hz1 : w1.heap.size = w.heap.size + 1 := by rw [← hw1, World.size_alloc]
 have k0 : w1.cell? ⟨w.heap.size, 0, none⟩ = some (.int .i64 (i : Int)) := z0b hw rfl
 have k1 : w1.cell? ⟨w.heap.size, 1, none⟩ = some (.int .i64 (k : Int)) := z0b hw rfl
 have hgw : g ≠ w.heap.size := by
  have := h.shape (by omega)
  obtain ⟨g', cap', e, _, hlt⟩ := this
  simp only [Value.slice.injEq, Option.some.injEq, Addr.mk.injEq, and_true, true_and] at e
  omega
 have e1 : ((m : Int) + 1 - 1) = (m : Int) := by omega
 have hturn := h1.turn (r1 := .slice (some ⟨b, 0, none⟩) m c) (y1 := p.take (p.length - 1)) q1 ⟨rfl, rfl, rfl, Nat.le_refl _, fun _ _ _ => rfl⟩ (by
  have := y1m q2 (m := m) (by omega)
  rw [List.length_take, show min (p.length - 1) p.length = m by omega, show p.length - 1 = m by omega]
  have e2 : (strCells p).take m = strCells (p.take m) := by unfold strCells; rw [List.map_take]
  rw [e2] at this
  exact this) (.inl rfl)
 generalize hsv : p.getD (p.length - 1) ByteArray.empty = s at htop ⊢
 rw [hm] at hc1
 have k0' : (w1.setCell ⟨g, i, none⟩ (.slice (some ⟨b, 0, none⟩) m c)).cell? ⟨w.heap.size, 0, none⟩ = some (.int .i64 (i : Int)) := (World.cell?_of_block (by simp [World.setCell, Array.getElem?_modify, hgw])).trans k0
 have k1' : (w1.setCell ⟨g, i, none⟩ (.slice (some ⟨b, 0, none⟩) m c)).cell? ⟨w.heap.size, 1, none⟩ = some (.int .i64 (k : Int)) := (World.cell?_of_block (by simp [World.setCell, Array.getElem?_modify, hgw])).trans k1
 have hout := zgv (w := w1) (w1 := w1) (g := g) (cap := cap) (n := ys.length) (r1 := .slice (some ⟨b, 0, none⟩) m c) q1 ⟨rfl, rfl, rfl, Nat.le_refl _, fun _ _ _ => rfl⟩
 obtain ⟨w2, hw2⟩ : ∃ w2, w1.setCell ⟨g, i, none⟩ (.slice (some ⟨b, 0, none⟩) m c) = w2 := ⟨_, rfl⟩
 rw [hw2] at k0' k1' hturn hout
 have hz2 : w2.heap.size = w.heap.size + 1 := by rw [← hw2]; simpa [World.setCell] using hz1
 obtain ⟨w3, hw3⟩ : ∃ w3, (w2.alloc (.cells #[.string s] 9)).drew.drew.drew = w3 := ⟨_, rfl⟩
 have h3 : z18 w3 base (.slice (some ⟨g, 0, none⟩) (ys.set i (p.take (p.length - 1))).length cap) (ys.set i (p.take (p.length - 1))) (rvs.set i (.slice (some ⟨b, 0, none⟩) m c)) := by rw [← hw3]; exact (hturn.kept (World.grownBy_alloc _ _ none)).drew.drew.drew
 have hq' : (ys.set i (p.take (p.length - 1)))[k]? = some q := by rw [List.getElem?_set_ne hik]; exact hq
 obtain ⟨r3, x1, x2, x3, x3'⟩ := h3.row hq'
 obtain ⟨r2, y1, y2, y3, y3'⟩ := hturn.row hq'
 obtain rfl : r3 = r2 := by rw [x1] at y1; exact Option.some.inj y1
 obtain ⟨i0, d0, hi0⟩ := z0o fits9
 obtain ⟨z, hz, hz1', _⟩ := hi0.zero (by rfl)
 have hby := hi0.bytes
 have hzs : z.cells.size = 1 := by have := z0s .str (fun _ _ => none) _ _ (hz1' _); exact (by simpa using this : z.cells.size = Ty.str.size)
 have hz3 : w3.heap.size = w.heap.size + 2 := by rw [← hw3]; show (w2.alloc _).heap.size = _; rw [World.size_alloc]; omega
 obtain ⟨r4, w4, hrun, z1, z2, z3, z4⟩ := run_append_own_at (P := Tryz.prog) w3 base 47 47 9 i0 z 1 i0.bytes u61 hi0.info hz hi0.size rfl hzs (by decide) r3 q.length (strCells q) x2 ⟨w2.heap.size, 0, none⟩ 1 1 [.string s] rfl (by
  rw [← hw3]; exact cell_one_new w2 (.string s) 9) (by intro u hu; rw [List.mem_singleton.1 hu]; rfl) (by unfold maxLen; omega) (by
  have := Nat.mul_le_mul (show q.length + 1 ≤ 1001 by omega) hby
  omega) (by omega)
 rw [hz2] at hrun
 obtain ⟨p4, n4, c4, rfl⟩ := zcp z1
 have hturn4 := h3.turn (r1 := .slice p4 n4 c4) (y1 := q ++ [s]) x1 z2 (by
  rw [List.length_append, List.length_singleton]
  have : strCells (q ++ [s]) = strCells q ++ [.string s] := by unfold strCells; rw [List.map_append]; rfl
  rw [this]; exact z1) z4
 have k3 : w3.cell? ⟨w.heap.size, 1, none⟩ = some (.int .i64 (k : Int)) := by rw [← hw3]; exact (World.cell?_of_block (z5p w2 _ _ (by show w.heap.size < w2.heap.size; omega))).trans k1'
 have hr3 : rvs[k]? = some r3 := by rw [List.getElem?_set_ne hik] at x1; exact x1
 have hn1 : some w.heap.size ≠ r3.ownBlock := fun e => by
  have := h.lt r3 (List.mem_of_getElem? hr3) _ e.symm
  omega
 have hn2 : some g ≠ r3.ownBlock := by
  rcases zad h3.outer x2 (by decide) with e | e
  ·rw [e]; simp
  ·simp only [Value.ownBlock, ne_eq] at e ⊢; exact fun h => e h.symm
 have hlt1 : w.heap.size < w3.heap.size := by omega
 have hlt2 : g < w3.heap.size := World.block_lt_of_cell? w3 _ x3
 have k4 : w4.cell? ⟨w.heap.size, 1, none⟩ = some (.int .i64 (k : Int)) := (World.cell?_of_block (z2.block _ hlt1 hn1)).trans k3
 have k5 : w4.cell? ⟨g, k, none⟩ = some r3 := (World.cell?_of_block (z2.block _ hlt2 hn2)).trans x3
 have k6 : w4.frozen? ⟨g, k, none⟩ = false := (World.frozen?_of_block (z2.block _ hlt2 hn2)).trans x3'
 have hout4 := zgv (w := w3) (w1 := w4) (g := g) (cap := cap) (n := (ys.set i (p.take (p.length - 1))).length) (r1 := .slice p4 n4 c4) x1 z2
 have hfin : z18 (w4.setCell ⟨g, k, none⟩ (.slice p4 n4 c4)) base (.slice (some ⟨g, 0, none⟩) ys.length cap) ((ys.set i (p.take (p.length - 1))).set k (q ++ [s])) ((rvs.set i (.slice (some ⟨b, 0, none⟩) m c)).set k (.slice p4 n4 c4)) ∧ Outside (.slice (some ⟨g, 0, none⟩) ys.length cap) rvs w (w4.setCell ⟨g, k, none⟩ (.slice p4 n4 c4)) := by
  refine ⟨by rw [List.length_set, List.length_set] at hturn4; exact hturn4, ⟨?_, ?_, ?_, ?_, fun j hj hv hr => ?_⟩⟩
  ·refine hout4.os.trans (Eq.trans ?_ (hout.os.trans ?_))
   ·rw [← hw3]; rfl
   ·rw [← hw1]; rfl
  ·refine hout4.tape.trans (Eq.trans ?_ (hout.tape.trans ?_))
   ·rw [← hw3]; rfl
   ·rw [← hw1]; rfl
  ·refine hout4.output.trans (Eq.trans ?_ (hout.output.trans ?_))
   ·rw [← hw3]; rfl
   ·rw [← hw1]; rfl
  ·have := hout4.size; omega
  ·have e4 := hout4.block j (by omega) hv fun r hm => by
    rcases List.mem_or_eq_of_mem_set hm with hm | rfl
    ·exact hr r hm
    ·have := hr _ (List.mem_of_getElem? q1); exact this
   have e3 : w3.heap[j]? = w2.heap[j]? := by rw [← hw3]; exact z5p w2 _ _ (by omega)
   have e2 := hout.block j (by omega) hv hr
   have e1 : w1.heap[j]? = w.heap[j]? := by rw [← hw1]; exact Below.heap_alloc w _ j hj
   exact e4.trans (e3.trans (e2.trans e1))
 go_enter Tryz.func60, Tryz.ntmps60
 go_wp2_with (go_at_call 56; refine htop.mono ?_; clear htop; rintro e w2 ⟨rfl, rfl⟩)
 go_region
 all_goals
  go_wp2
  go_region_law (refine zcc rfl (.tmp 36) (.tmp 38) 47 rfl r3 (.slice (some ⟨w.heap.size + 1, 0, none⟩) 1 1) (.slice p4 n4 c4) (by simp [Act.eval, Act.put]) (by simp [Act.eval, Act.put]) hrun ?_)
  all_goals
   go_wp2
   exact bodyPost_end (zqj _ _) rfl ⟨_, rfl, hfin.1, hfin.2⟩
end Go.Lift
namespace Go.Lift
open Go Go.Proofs Go.RowKit
attribute [local go_sem] Oper.semAt_some
theorem zs3 {A : Type} {d x : A} {l : List A} {i : Nat} (h : l[i]? = some x) : lget d l (i : Int) = x := by
 unfold lget
 rw [Int.toNat_natCast, List.getD_eq_getElem?_getD, h]
 rfl
theorem zse {A : Type} (d : A) {l : List A} {i : Int} (h : (decide ((0 : Int) ≤ i) && decide (i < (l.length : Int))) = true) : ∃ (j : Nat) (x : A), i = (j : Int) ∧ l[j]? = some x ∧ lget d l i = x := by
 rw [Bool.and_eq_true, decide_eq_true_eq, decide_eq_true_eq] at h
 refine ⟨i.toNat, l[i.toNat]'(by omega), by omega, List.getElem?_eq_getElem (by omega), ?_⟩
 unfold lget
 rw [List.getD_eq_getElem?_getD, List.getElem?_eq_getElem (by omega)]
 rfl
theorem zzg {y : List (List ByteArray)} {m : Int × Int} (h : zac y m = 0) : ∃ (i : Nat) (p : List ByteArray), m.1 = (i : Int) ∧ y[i]? = some p ∧ 0 < p.length ∧ (m.2 = -1 ∨ ∃ (k : Nat) (q : List ByteArray), m.2 = (k : Int) ∧ y[k]? = some q ∧ q.length < 6 ∧ i ≠ k) := by
 unfold zac inR at h
 by_cases h1 : 0 ≤ m.1 ∧ m.1 ≤ (y.length : Int) - 1
 ·rw [z01 h1, Bool.not_true, Bool.false_or] at h
  obtain ⟨i, p, e1, e2, e3⟩ := zse (l := y) [] (i := m.1) (z0g (z01 h1.1) (z01 (by omega)))
  refine ⟨i, p, e1, e2, ?_⟩
  rw [e3] at h
  cases hc : !decide (0 ≤ m.2 ∧ m.2 ≤ (y.length : Int) - 1) && m.2 != -1 with
  | true => rw [hc] at h; cases h
  | false =>
   rw [hc, cond_false] at h
   cases hp : ((p.length : Int) == 0) with
   | true => rw [hp] at h; cases h
   | false =>
    rw [hp, cond_false] at h
    have hpos : 0 < p.length := by
     rw [beq_eq_false_iff_ne] at hp
     omega
    refine ⟨hpos, ?_⟩
    cases he : m.1 == m.2 with
    | true => rw [he] at h; cases h
    | false =>
     rw [he, cond_false] at h
     by_cases hm : m.2 = -1
     ·exact .inl hm
     ·right
      have hm' : (m.2 != -1) = true := by rw [bne_iff_ne]; exact hm
      rw [hm', Bool.and_true, Bool.not_eq_false', decide_eq_true_eq] at hc
      obtain ⟨k, q, f1, f2, f3⟩ := zse (l := y) [] (i := m.2) (z0g (z01 hc.1) (z01 (by omega)))
      rw [hm', Bool.true_and, f3] at h
      refine ⟨k, q, f1, f2, ?_, fun e => ?_⟩
      ·by_cases h6 : (q.length : Int) ≥ 6
       ·rw [z01 h6] at h; cases h
       ·omega
      ·rw [beq_eq_false_iff_ne] at he
       omega
 ·rw [z09 h1] at h
  cases h
theorem zze {y : List (List ByteArray)} {i : Nat} {p : List ByteArray} (h : y[i]? = some p) : zbl y ((i : Int), -1) = some (y.set i (p.take (p.length - 1))) := by
 unfold zbl lset
 simp only [zs3 (d := ([] : List ByteArray)) h, Int.toNat_natCast]
 rfl
theorem y22 {y : List (List ByteArray)} {i k : Nat} {p q : List ByteArray} (h : y[i]? = some p) (hq : y[k]? = some q) (hik : i ≠ k) (hl : q.length ≤ 1000) : zbl y ((i : Int), (k : Int)) = some ((y.set i (p.take (p.length - 1))).set k (q ++ [p.getD (p.length - 1) ByteArray.empty])) := by
 have hq' : (y.set i (p.take (p.length - 1)))[k]? = some q := by rw [List.getElem?_set_ne hik]; exact hq
 have ht : lget ByteArray.empty p ((p.length : Int) - 1) = p.getD (p.length - 1) ByteArray.empty := by
  unfold lget
  rw [show ((p.length : Int) - 1).toNat = p.length - 1 by omega]
 unfold zbl lset
 simp only [zs3 (d := ([] : List ByteArray)) h, Int.toNat_natCast, zs3 (d := ([] : List ByteArray)) hq', ht]
 rw [show (((k : Int)) != -1) = true by rw [bne_iff_ne]; omega, cond_true, zhm (by rw [List.length_singleton]; omega)]
 rfl
theorem zoi {w : World} {base : Nat} {v : Value} {ys ns : List (List ByteArray)} {rvs : List Value} {m : Int × Int} (h : z18 w base v ys rvs) (hb : base ≤ w.heap.size) (hW : zc9 ys = true) {i : Nat} {p : List ByteArray} (e1 : m.1 = (i : Int)) (e2 : ys[i]? = some p) (hpos : 0 < p.length) (hk : m.2 = -1 ∨ ∃ (k : Nat) (q : List ByteArray), m.2 = (k : Int) ∧ ys[k]? = some q ∧ i ≠ k) (hn : zbl ys m = some ns) :
  Calls Tryz.prog 60 #[v, .agg #[.int .i64 m.1, .int .i64 m.2]] w fun e w' => ∃ rvs', e = .returned (.tuple #[]) ∧ z18 w' base v ns rvs' ∧ Outside v rvs w w' := by
 unfold zc9 at hW
 rw [Bool.and_eq_true, decide_eq_true_eq, List.all_eq_true] at hW
 have hrow : ∀ (j : Nat) (q : List ByteArray), ys[j]? = some q → q.length ≤ 999 := fun j q hq => by simpa using hW.2 q (List.mem_of_getElem? hq)
 have hi : i < ys.length := (List.getElem?_eq_some_iff.1 e2).1
 obtain ⟨g, cap, rfl, _, _⟩ := h.shape (by omega)
 obtain ⟨m1, m2⟩ := m
 simp only at e1 hk hn ⊢
 subst e1
 have hp := hrow i p e2
 rcases hk with rfl | ⟨k, q, rfl, f2, f3⟩
 ·rw [zze e2, Option.some.injEq] at hn
  subst hn
  refine (zw2 h e2 hpos hW.1 (by omega)).mono fun e w' => ?_
  rintro ⟨rvs', h1, h2, h3⟩
  rw [List.length_set] at h2
  exact ⟨rvs', h1, h2, h3⟩
 ·have hq := hrow k q f2
  rw [y22 e2 f2 f3 (by omega), Option.some.injEq] at hn
  subst hn
  exact zzh h hb e2 hpos hW.1 (by omega) f2 (by omega) f3
theorem znf {M : Mem} {y : List (List ByteArray)} {v : Value} (hv : relV Tryz.prog TYd M y v) (hy : 0 < y.length) : ∃ b off cap, v = .slice (some ⟨b, off, none⟩) y.length cap ∧ ∀ j p, y[j]? = some p → ∃ r, M b (off + j) = some r ∧ relV Tryz.prog TWt M p r := by
 obtain ⟨v', h1, h2⟩ : relC Tryz.prog TYd M y [v] := hv
 simp only [List.cons.injEq, and_true] at h1
 subst h1
 rcases h2 with ⟨rfl, rfl⟩ | ⟨b, off, cap, cells, rfl, hcap, hlen, hm, hel⟩ | ⟨a, c, rfl, rfl⟩
 ·cases hy
 ·refine ⟨b, off, cap, rfl, fun j p hj => ?_⟩
  obtain ⟨hlt, hs⟩ := List.getElem?_eq_some_iff.1 hj
  have h3 : relC Tryz.prog TWt M y[j] ((cells.drop (j * 1)).take 1) := hel j hlt
  rw [hs, Nat.mul_one, List.take_one, List.head?_drop] at h3
  have hlt2 : j < cells.length := by rw [hlen]; simpa [Ty.size] using hlt
  rw [List.getElem?_eq_getElem hlt2] at h3
  exact ⟨cells[j], hm j _ (List.getElem?_eq_getElem hlt2), h3⟩
 ·cases hy
theorem zte {M : Mem} {m : (Int × Int)} {u : Value} (h : relV Tryz.prog z00 M m u) : u = .agg #[.int .i64 m.1, .int .i64 m.2] := by
 obtain ⟨cs, rfl, h1, h2⟩ : ∃ cs : Array Value, u = .agg cs ∧ relC Tryz.prog z00 M m cs.toList := h
 have hl := z0s z00 M m _ ⟨h1, h2⟩
 obtain ⟨l⟩ := cs
 match l, hl with
 | [a, b], _ =>
  simp only [relC, List.take, List.drop, Ty.size, List.cons.injEq, and_true] at h1 h2
  subst h1 h2
  rfl
theorem zle {v : Value} {rvs : List Value} {w w' : World} {B : Nat} {ys : List (List ByteArray)} (h : z18 w B v ys rvs) (hB : B ≤ w.heap.size) (ho : Outside v rvs w w') : Below B w w' := by
 refine ⟨ho.os, ho.tape, ho.output, ho.size, fun k hk => ho.block k (by omega) (fun e => ?_) fun r hr e => ?_⟩
 ·have := (h.outer.lt k e.symm).1; omega
 ·obtain ⟨j, hj, rfl⟩ := List.mem_iff_getElem.1 hr
  have hl : rvs.length = ys.length := by have := h.outer.1; omega
  obtain ⟨r, h1, h2⟩ := h.rows j ys[j] (List.getElem?_eq_getElem (by omega))
  rw [List.getElem?_eq_getElem hj, Option.some.injEq] at h1
  rw [← h1] at h2
  have := (h2.lt k e.symm).1
  omega
set_option maxHeartbeats 4000000 in
set_option maxRecDepth 100000 in
theorem zzf {M : Mem} {w : World} (hg : Good M w) {y n : List (List ByteArray)} {m : (Int × Int)} {v : Value} {k : Int} (hv : relV Tryz.prog TYd M y v) (hW : zc9 y = true) (hk : z15 y = some (k, 0)) (hme : z0w y m = some 0) (hn : zbl y m = some n) :
    Calls Tryz.prog 28 #[v, .agg #[.int .i64 m.1, .int .i64 m.2]] w fun e w' => ∃ M' u, e = .returned (.tuple #[u, .int .i64 0]) ∧ relV Tryz.prog TYd M' n u ∧ Good M' w' ∧ Grow M w M' w' := by
  have hW' := hW
  unfold zc9 at hW'
  rw [Bool.and_eq_true, decide_eq_true_eq, List.all_eq_true] at hW'
  have hz : zac y m = 0 := by rw [zi6 hW'.1, Option.some.injEq] at hme; exact hme
  obtain ⟨i, p, e1, e2, hpos, hto⟩ := zzg hz
  have hy : 0 < y.length := by have := (List.getElem?_eq_some_iff.1 e2).1; omega
  obtain ⟨b, off, cap, rfl, hrows⟩ := znf hv hy
  obtain ⟨w1, hw1⟩ : ∃ w1, w.alloc (.cells #[.int .i64 m.1, .int .i64 m.2] 64) = w1 := ⟨_, rfl⟩
  have hb1 : Below w.heap.size w w1 := by rw [← hw1]; exact (Below.refl _ w).alloc (Nat.le_refl _) _
  have hg1 : Good M w1 := z1n hg hb1
  have ho := y6m hg1 hW'.1 hv hk (fun j q hj => by
    obtain ⟨r, q1, q2⟩ := hrows j q hj
    exact ⟨r, hg1.2 _ _ _ q1, q2, by have := hW'.2 q (List.mem_of_getElem? hj); simp at this; omega⟩)
  have hcells := World.alloc_heap_new w (.cells #[.int .i64 m.1, .int .i64 m.2] 64)
  rw [hw1] at hcells
  have hz1 : w1.heap.size = w.heap.size + 1 := by rw [← hw1, World.size_alloc]
  have step : ∀ (w2 : World) (v2 : Value) (rvs : List Value), z18 w2 w1.heap.size v2 y rvs → Below w1.heap.size w1 w2 →
      w2.cell? ⟨w.heap.size, 0, none⟩ = some (.int .i64 m.1) ∧ w2.cell? ⟨w.heap.size, 1, none⟩ = some (.int .i64 m.2) ∧
      Calls Tryz.prog 55 #[v2, .agg #[.int .i64 m.1, .int .i64 m.2]] w2 fun e w3 => e = .returned (.int .i64 0) ∧ z18 w3 w1.heap.size v2 y rvs ∧ Below w1.heap.size w1 w3 ∧ w3.cell? ⟨w.heap.size, 0, none⟩ = some (.int .i64 m.1) ∧ w3.cell? ⟨w.heap.size, 1, none⟩ = some (.int .i64 m.2) ∧
        Calls Tryz.prog 60 #[v2, .agg #[.int .i64 m.1, .int .i64 m.2]] w3 fun e w4 => ∃ rvs', e = .returned (.tuple #[]) ∧ z18 w4 w1.heap.size v2 n rvs' ∧ Below w1.heap.size w1 w4 := fun w2 v2 rvs hY hB => by
    have hcell : ∀ (W : World), Below w1.heap.size w1 W → W.cell? ⟨w.heap.size, 0, none⟩ = some (.int .i64 m.1) ∧ W.cell? ⟨w.heap.size, 1, none⟩ = some (.int .i64 m.2) := fun W hW => by
      have := (hW.block w.heap.size (by omega)).trans hcells
      exact ⟨z0b this rfl, z0b this rfl⟩
    refine ⟨(hcell w2 hB).1, (hcell w2 hB).2, ?_⟩
    have hg2 := z1n hg1 hB
    have hm := z3z.2 (y, m) 0 hme (z7m w1.heap.size M w2) w2 [v2, .agg #[.int .i64 m.1, .int .i64 m.2]] (zgz hg2) ⟨v2, [_], rfl, hY.rel, _, rfl, ⟨_, rfl, rfl, rfl⟩⟩
    refine hm.mono fun e w3 => ?_
    rintro ⟨M3, u, rfl, hu, hg3, hgr⟩
    have hu' : u = .int .i64 0 := z2n.1 hu
    subst hu'
    have hB3 : Below w1.heap.size w1 w3 := hB.trans ⟨hgr.below.os, hgr.below.tape, hgr.below.output, hgr.below.size, fun j hj => hgr.below.block j (Nat.lt_of_lt_of_le hj hB.size)⟩
    have hY3 := hY.kept (below_grown hgr.below)
    refine ⟨rfl, hY3, hB3, (hcell w3 hB3).1, (hcell w3 hB3).2, ?_⟩
    refine (zoi hY3 hB3.size hW e1 e2 hpos (hto.imp id fun ⟨k, q, a, b, _, c⟩ => ⟨k, q, a, b, c⟩) hn).mono fun e w4 => ?_
    rintro ⟨rvs', h1, h2, h3⟩
    refine ⟨rvs', h1, h2, hB3.trans (zle hY3 hB3.size h3)⟩
  clear e1 e2 hto hpos hz hn hme hv
  go_enter Tryz.func28, Tryz.ntmps28
  go_wp2_with (first
    | (go_at_call 59; refine ho.mono ?_; clear ho; rintro e w2 ⟨v2, rvs, rfl, hY, hB⟩; obtain ⟨c0, c1, h101⟩ := step w2 v2 rvs hY hB; clear step)
    | (go_at_call 55; refine h101.mono ?_; clear h101; rintro e w3 ⟨rfl, hY3, hB3, d0, d1, h102⟩)
    | (go_at_call 60; refine h102.mono ?_; clear h102; rintro e w4 ⟨rvs', rfl, hY4, hB4⟩))
  have hBw : Below w.heap.size w w4 := hb1.trans ⟨hB4.os, hB4.tape, hB4.output, hB4.size, fun j hj => hB4.block j (Nat.lt_of_lt_of_le hj hb1.size)⟩
  have hrs : Tryz.f28.results = #[.tmp 4, .tmp 5] := by kernel_rfl
  refine bodyPost_ret (v := .tuple #[v2, .int .i64 0]) ?_ rfl ?_
  · simp only [Go.results, hrs, Sem.run_bind, List.mapM_toArray, List.mapM_cons, List.mapM_nil, Sem.run_pure, Result.andThen_ok, Sem.run_map]
    rfl
  exact ⟨z7m w.heap.size M w4, v2, rfl, (hY4.base hb1.size).rel, zgz (z1n hg hBw), zml hBw⟩
theorem zk2 {y : List (List ByteArray)} (hW : zc9 y = true) : y.length ≤ 1000 ∧ ∀ p ∈ y, p.length ≤ 999 := by
 unfold zc9 at hW
 rw [Bool.and_eq_true, decide_eq_true_eq, List.all_eq_true] at hW
 exact ⟨hW.1, fun p hp => by simpa using hW.2 p hp⟩
theorem y1n {y : List (List ByteArray)} (hW : zc9 y = true) {r : Int × Int} (hk : z15 y = some r) : z2b y = some (y, r.2) := by
 obtain ⟨h1, h2⟩ := zk2 hW
 unfold z2b z25
 rw [hk, Option.bind_some, zp4 (g := slices_Clone_string) h1 (fun p hp => by unfold slices_Clone_string; rw [zhm (by have := h2 p hp; simp; omega), List.nil_append]), Option.bind_some, Option.bind_some]
theorem zx0 {M : Mem} {y : List (List ByteArray)} {e : Int} {u : Value} (h : relR Tryz.prog M [TYd, .int .i64] (y, e) u) : ∃ v, u = .tuple #[v, .int .i64 e] ∧ relV Tryz.prog TYd M y v := by
 obtain ⟨vs, rfl, v1, rest, h1, h2, v2, h3, h4⟩ := h
 have a2 : v2 = .int .i64 e := z2n.1 h4
 subst a2
 exact ⟨v1, by congr 1; apply Array.ext'; rw [h1, h3], h2⟩
theorem y3f {M : Mem} : relV Tryz.prog TYd M [] (.slice none 0 0) := ⟨_, rfl, .inl ⟨rfl, rfl⟩⟩
set_option maxHeartbeats 4000000 in
set_option maxRecDepth 100000 in
theorem zw1 {M : Mem} {w : World} (hg : Good M w) {y : List (List ByteArray)} {m : (Int × Int)} {v : Value} {k e0 e : Int} (hv : relV Tryz.prog TYd M y v) (hW : zc9 y = true) (hk : z15 y = some (k, e0)) (he : (bif e0 == 0 then z0w y m else some e0) = some e) (hne : e ≠ 0) :
    Calls Tryz.prog 28 #[v, .agg #[.int .i64 m.1, .int .i64 m.2]] w fun r w' => ∃ M' u, r = .returned (.tuple #[u, .int .i64 e]) ∧ relV Tryz.prog TYd M' [] u ∧ Good M' w' ∧ Grow M w M' w' := by
  obtain ⟨w1, hw1⟩ : ∃ w1, w.alloc (.cells #[.int .i64 m.1, .int .i64 m.2] 64) = w1 := ⟨_, rfl⟩
  have hb1 : Below w.heap.size w w1 := by rw [← hw1]; exact (Below.refl _ w).alloc (Nat.le_refl _) _
  have hg1 : Good M w1 := z1n hg hb1
  have hcells := World.alloc_heap_new w (.cells #[.int .i64 m.1, .int .i64 m.2] 64)
  rw [hw1] at hcells
  have hz1 : w1.heap.size = w.heap.size + 1 := by rw [← hw1, World.size_alloc]
  have ho := (zcu z08).2 y (y, e0) (y1n hW hk) M w1 [v] hg1 ⟨v, rfl, hv⟩
  unfold zd6 at ho
  have hcell : ∀ (W : World), Below w1.heap.size w1 W → W.cell? ⟨w.heap.size, 0, none⟩ = some (.int .i64 m.1) ∧ W.cell? ⟨w.heap.size, 1, none⟩ = some (.int .i64 m.2) := fun W hW => by
    have := (hW.block w.heap.size (by omega)).trans hcells
    exact ⟨z0b this rfl, z0b this rfl⟩
  have step : ∀ (M2 : Mem) (w2 : World) (v2 : Value), relV Tryz.prog TYd M2 y v2 → Good M2 w2 → Grow M w1 M2 w2 → e0 = 0 →
      Calls Tryz.prog 55 #[v2, .agg #[.int .i64 m.1, .int .i64 m.2]] w2 fun r w3 => r = .returned (.int .i64 e) ∧ Below w1.heap.size w1 w3 := fun M2 w2 v2 hv2 hg2 hgr e1 => by
    subst e1
    have hm := z3z.2 (y, m) e he M2 w2 [v2, .agg #[.int .i64 m.1, .int .i64 m.2]] hg2 ⟨v2, [_], rfl, hv2, _, rfl, ⟨_, rfl, rfl, rfl⟩⟩
    refine hm.mono fun r w3 => ?_
    rintro ⟨M3, u, rfl, hu, hg3, hgr3⟩
    have hu' : u = .int .i64 e := z2n.1 hu
    subst hu'
    exact ⟨rfl, hgr.below.trans ⟨hgr3.below.os, hgr3.below.tape, hgr3.below.output, hgr3.below.size, fun j hj => hgr3.below.block j (Nat.lt_of_lt_of_le hj hgr.below.size)⟩⟩
  have fin : ∀ W : World, Below w1.heap.size w1 W → ∃ M' u, Ending.returned (.tuple #[.slice none 0 0, .int .i64 e]) = .returned (.tuple #[u, .int .i64 e]) ∧ relV Tryz.prog TYd M' [] u ∧ Good M' W ∧ Grow M w M' W := fun W hW => by
    have hBw : Below w.heap.size w W := hb1.trans ⟨hW.os, hW.tape, hW.output, hW.size, fun j hj => hW.block j (Nat.lt_of_lt_of_le hj hb1.size)⟩
    exact ⟨M, _, rfl, y3f, z1n hg hBw, hBw, fun _ _ => rfl⟩
  have hrs : Tryz.f28.results = #[.tmp 4, .tmp 5] := by kernel_rfl
  clear hv
  by_cases h0 : e0 = 0
  · subst h0
    go_enter Tryz.func28, Tryz.ntmps28
    go_wp2_with (first
      | (go_at_call 59; refine ho.mono ?_; clear ho; rintro r w2 ⟨M2, u2, rfl, hu2, hg2, hgr2⟩; obtain ⟨v2, rfl, hv2⟩ := zx0 hu2; clear hu2; obtain ⟨c0, c1⟩ := hcell w2 hgr2.below; have h101 := step M2 w2 v2 hv2 hg2 hgr2 rfl; clear step hv2)
      | (go_at_call 55; refine h101.mono ?_; clear h101; rintro r w3 ⟨rfl, hB3⟩))
    refine bodyPost_ret (v := .tuple #[.slice none 0 0, .int .i64 e]) ?_ rfl (fin _ hB3)
    simp only [Go.results, hrs, Sem.run_bind, List.mapM_toArray, List.mapM_cons, List.mapM_nil, Sem.run_pure, Result.andThen_ok, Sem.run_map]
    rfl
  · have h0' : (e0 == 0) = false := by rw [beq_eq_false_iff_ne]; exact h0
    rw [h0', cond_false, Option.some.injEq] at he
    subst he
    go_enter Tryz.func28, Tryz.ntmps28
    go_wp2_with (go_at_call 59; refine ho.mono ?_; clear ho; rintro r w2 ⟨M2, u2, rfl, hu2, hg2, hgr2⟩; obtain ⟨v2, rfl, hv2⟩ := zx0 hu2; clear hu2)
    refine bodyPost_ret (v := .tuple #[.slice none 0 0, .int .i64 e0]) ?_ rfl (fin _ hgr2.below)
    simp only [Go.results, hrs, Sem.run_bind, List.mapM_toArray, List.mapM_cons, List.mapM_nil, Sem.run_pure, Result.andThen_ok, Sem.run_map]
    rfl
theorem z88 : Has Tryz.prog za9 := by
 refine ⟨enters_of (by kernel_rfl), fun x r hr M w vs hg hvs => ?_⟩
 obtain ⟨v, rest, rfl, hv, u, rfl, hu⟩ := hvs
 have hu' := zte hu
 subst hu'
 obtain ⟨y, m⟩ := x
 have hr' : z4t y m = some r := hr
 unfold z4t at hr'
 cases hW : zc9 y with
 | false => rw [hW] at hr'; cases hr'
 | true =>
  rw [hW, cond_true] at hr'
  obtain ⟨⟨k, e0⟩, hk, hr2⟩ := Option.bind_eq_some_iff.1 hr'
  obtain ⟨e, he, hr3⟩ := Option.bind_eq_some_iff.1 hr2
  clear hr' hr2
  simp only at he
  have out : ∀ (n : List (List ByteArray)) (e : Int), (n, e) = r → Calls Tryz.prog 28 #[v, .agg #[.int .i64 m.1, .int .i64 m.2]] w (fun r w' => ∃ M' u, r = .returned (.tuple #[u, .int .i64 e]) ∧ relV Tryz.prog TYd M' n u ∧ Good M' w' ∧ Grow M w M' w') → zd6 Tryz.prog 28 #[v, .agg #[.int .i64 m.1, .int .i64 m.2]] M w fun M' u => relR Tryz.prog M' [TYd, .int .i64] r u := fun n e h1 h2 => by
   subst h1
   refine h2.mono fun q w' => ?_
   rintro ⟨M', u, rfl, h3, h4, h5⟩
   exact ⟨M', _, rfl, ⟨_, rfl, u, [_], rfl, h3, _, rfl, z2n.2 rfl⟩, h4, h5⟩
  by_cases h0 : e = 0
  ·subst h0
   rw [show ((0 : Int) != 0) = false from rfl, cond_false] at hr3
   obtain ⟨n, hn, hr4⟩ := Option.bind_eq_some_iff.1 hr3
   simp only [Option.some.injEq] at hr4
   have h00 : e0 = 0 := by
    by_cases h : e0 = 0
    ·exact h
    ·rw [show (e0 == 0) = false by rw [beq_eq_false_iff_ne]; exact h] at he
     simpa using he
   subst h00
   exact out n 0 hr4 (zzf hg hv hW hk he hn)
  ·rw [show (e != 0) = true by rw [bne_iff_ne]; exact h0, cond_true, Option.some.injEq] at hr3
   exact out [] e hr3 (zw1 hg hv hW hk he h0)
end Go.Lift
