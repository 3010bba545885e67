/-
  The contract of the reference's move.
-/
import Derived.Test.YtggnjngdmadbaaaGreatDoorYaN
set_option linter.unusedSectionVars false
set_option linter.unusedVariables false
set_option linter.unusedSimpArgs false
namespace Go.Lift
open Go Go.Proofs Go.RowKit
attribute [local go_sem] Oper.semAt_some
theorem y07 (n lo hi : Int) (w : World) : Calls Tryz.prog 20 #[.int .i64 n, .int .i64 lo, .int .i64 hi] w fun e w' => e = .returned (.bool (decide (lo ≤ n) && decide (n ≤ hi))) ∧ w' = w := by
 by_cases h1 : lo ≤ n
 ·by_cases h2 : n ≤ hi
  ·rw [z03 h1, z03 h2]
   go_enter Tryz.func20, Tryz.ntmps20
   go_wp2
   go_ret
   exact ⟨rfl, rfl⟩
  ·rw [z03 h1, z06 h2]
   go_enter Tryz.func20, Tryz.ntmps20
   go_wp2
   go_ret
   exact ⟨rfl, rfl⟩
 ·rw [z06 h1, Bool.false_and]
  go_enter Tryz.func20, Tryz.ntmps20
  go_wp2
  go_ret
  exact ⟨rfl, rfl⟩
theorem y5w {M : Mem} {q : List ByteArray} {r : Value} (h : relV Tryz.prog TWt M q r) : ∃ a c, r = .slice a q.length c := by
 obtain ⟨v', h1, h2⟩ : relC Tryz.prog TWt M q [r] := h
 simp only [List.cons.injEq, and_true] at h1
 subst h1
 rcases h2 with ⟨rfl, rfl⟩ | ⟨b, off, cap, cells, rfl, _⟩ | ⟨a, c, rfl, rfl⟩
 ·exact ⟨_, _, rfl⟩
 ·exact ⟨_, _, rfl⟩
 ·exact ⟨_, _, rfl⟩
theorem z2b.pile {w : World} {base i : Nat} {v : Value} {ys : List (List ByteArray)} {rvs : List Value} {p : List ByteArray} {m : Nat} (h : z2b w base v ys rvs) (hp : ys[i]? = some p) (hm : p.length = m + 1) : ∃ g cap b c, v = .slice (some ⟨g, 0, none⟩) ys.length cap ∧ base ≤ g ∧ g < w.heap.size ∧ m + 1 ≤ c ∧ rvs[i]? = some (.slice (some ⟨b, 0, none⟩) (m + 1) c) ∧ w.ownsRow base 9 1 (.slice (some ⟨b, 0, none⟩) (m + 1) c) (m + 1) (strCells p) ∧
  w.cell? ⟨g, i, none⟩ = some (.slice (some ⟨b, 0, none⟩) (m + 1) c) ∧ w.frozen? ⟨g, i, none⟩ = false ∧ w.cell? ⟨b, m, none⟩ = some (.string (p.getD (p.length - 1) ByteArray.empty)) := by
 have hi : i < ys.length := (List.getElem?_eq_some_iff.1 hp).1
 obtain ⟨g, cap, rfl, hg1, hg2⟩ := h.shape (by omega)
 obtain ⟨r, q1, q2, c1, c1'⟩ := h.row hp
 obtain ⟨b, c, rfl, hmc⟩ : ∃ b c, r = .slice (some ⟨b, 0, none⟩) p.length c ∧ p.length ≤ c := by
  rcases q2.2 with ⟨_, h0⟩ | ⟨b, c, _, h1, _, _, h2, _⟩
  ·omega
  ·exact ⟨b, c, h1, h2⟩
 have hs : p[m]? = some (p.getD (p.length - 1) ByteArray.empty) := by
  rw [show p.length - 1 = m by omega, List.getD_eq_getElem?_getD]
  cases e : p[m]? with
  | none => rw [List.getElem?_eq_none_iff] at e; omega
  | some x => rfl
 have hc2 : w.cell? ⟨b, m, none⟩ = some (.string (p.getD (p.length - 1) ByteArray.empty)) := by
  have := q2.cells (g := b) rfl m (.string (p.getD (p.length - 1) ByteArray.empty)) (by
   unfold strCells
   rw [List.getElem?_map, hs]
   rfl)
  rwa [Addr.add_mk, Nat.zero_add] at this
 rw [hm] at q1 q2 c1 hmc
 exact ⟨g, cap, b, c, rfl, hg1, hg2, hmc, q1, q2, c1, c1', hc2⟩
theorem z2b.cut {w : World} {base g cap i m b c : Nat} {ys : List (List ByteArray)} {rvs : List Value} {p : List ByteArray} (h : z2b w base (.slice (some ⟨g, 0, none⟩) ys.length cap) ys rvs) (hm : p.length = m + 1) (q1 : rvs[i]? = some (.slice (some ⟨b, 0, none⟩) (m + 1) c)) (q2 : w.ownsRow base 9 1 (.slice (some ⟨b, 0, none⟩) (m + 1) c) (m + 1) (strCells p)) :
  z2b (w.setCell ⟨g, i, none⟩ (.slice (some ⟨b, 0, none⟩) m c)) base (.slice (some ⟨g, 0, none⟩) (ys.set i (p.take (p.length - 1))).length cap) (ys.set i (p.take (p.length - 1))) (rvs.set i (.slice (some ⟨b, 0, none⟩) m c)) :=
 h.turn (r1 := .slice (some ⟨b, 0, none⟩) m c) (y1 := p.take (p.length - 1)) q1 ⟨rfl, rfl, rfl, Nat.le_refl _, fun _ _ _ => rfl⟩ (by
  have := y6c q2 (m := m) (by omega)
  rw [List.length_take, show min (p.length - 1) p.length = m by omega, show p.length - 1 = m by omega]
  have e2 : (strCells p).take m = strCells (p.take m) := by unfold strCells; rw [List.map_take]
  rw [e2] at this
  exact this) (.inl rfl)
set_option maxHeartbeats 4000000 in
set_option maxRecDepth 100000 in
theorem y6k {M : Mem} {w : World} (hg : Good M w) {y : List (List ByteArray)} {i : Nat} {p : List ByteArray} {v : Value} (hv : relV Tryz.prog TYd M y v) (hW : zkt y = true) (e2 : y[i]? = some p) (hpos : 0 < p.length) :
    Calls Tryz.prog 43 #[v, .agg #[.int .i64 (i : Int), .int .i64 (-1)]] w fun e w' => ∃ M' u, e = .returned (.tuple #[u, .int .i64 0]) ∧ relV Tryz.prog TYd M' (y.set i (p.take (p.length - 1))) u ∧ Good M' w' ∧ Grow M w M' w' := by
  obtain ⟨hl, hlp⟩ := zks hW
  have hi : i < y.length := (List.getElem?_eq_some_iff.1 e2).1
  obtain ⟨m, hm⟩ : ∃ m, p.length = m + 1 := ⟨p.length - 1, by omega⟩
  have hm9 : m < 999 := by have := hlp p (List.mem_of_getElem? e2); omega
  obtain ⟨b, off, cap, rfl, hrows⟩ := ztx hv (by omega)
  obtain ⟨w1, hw1⟩ : ∃ w1, w.alloc (.cells #[.int .i64 (i : Int), .int .i64 (-1)] 63) = w1 := ⟨_, rfl⟩
  have hb1 : Below w.heap.size w w1 := by rw [← hw1]; exact (Below.refl _ w).alloc (Nat.le_refl _) _
  have hg1 : Good M w1 := z0v hg hb1
  have hcells := World.alloc_heap_new w (.cells #[.int .i64 (i : Int), .int .i64 (-1)] 63)
  rw [hw1] at hcells
  have k0 : w1.cell? ⟨w.heap.size, 0, none⟩ = some (.int .i64 (i : Int)) := z2j hcells rfl
  have k1 : w1.cell? ⟨w.heap.size, 1, none⟩ = some (.int .i64 (-1)) := z2j hcells rfl
  have hz1 : w1.heap.size = w.heap.size + 1 := by rw [← hw1, World.size_alloc]
  obtain ⟨r0, x1, x2⟩ := hrows i p e2
  obtain ⟨a0, c0, rfl⟩ := y5w x2
  rw [hm] at x1
  have k2 : w1.cell? ⟨b, off + i, none⟩ = some (.slice a0 (m + 1) c0) := hg1.2 _ _ _ x1
  have hcp := ylc (cap := cap) hg1 hl (fun j q hj => by
    obtain ⟨r, q1, q2⟩ := hrows j q hj
    exact ⟨r, hg1.2 _ _ _ q1, q2, by have := hlp q (List.mem_of_getElem? hj); omega⟩)
  have fin : ∀ (w2 : World) (v2 : Value) (rvs : List Value), z2b w2 w1.heap.size v2 y rvs → Below w1.heap.size w1 w2 → ∃ g cap2 b2 c2, v2 = .slice (some ⟨g, 0, none⟩) y.length cap2 ∧ m + 1 ≤ c2 ∧
      w2.cell? ⟨w.heap.size, 0, none⟩ = some (.int .i64 (i : Int)) ∧ w2.cell? ⟨w.heap.size, 1, none⟩ = some (.int .i64 (-1)) ∧
      w2.cell? ⟨g, i, none⟩ = some (.slice (some ⟨b2, 0, none⟩) (m + 1) c2) ∧ w2.frozen? ⟨g, i, none⟩ = false ∧ w2.cell? ⟨b2, m, none⟩ = some (.string (p.getD (p.length - 1) ByteArray.empty)) ∧
      (w2.setCell ⟨g, i, none⟩ (.slice (some ⟨b2, 0, none⟩) m c2)).cell? ⟨w.heap.size, 1, none⟩ = some (.int .i64 (-1)) ∧
      ∃ M' , relV Tryz.prog TYd M' (y.set i (p.take (p.length - 1))) v2 ∧ Good M' (w2.setCell ⟨g, i, none⟩ (.slice (some ⟨b2, 0, none⟩) m c2)).drew ∧ Grow M w M' (w2.setCell ⟨g, i, none⟩ (.slice (some ⟨b2, 0, none⟩) m c2)).drew := fun w2 v2 rvs hY hB => by
    obtain ⟨g, cap2, b2, c2, rfl, y1, y2, y3, y4, y5, y6, y7, y8⟩ := hY.pile e2 hm
    have hh := (hB.block w.heap.size (by omega)).trans hcells
    have hcut := hY.cut hm y4 y5
    have hout := zb3 (w := w2) (w1 := w2) (g := g) (cap := cap2) (n := y.length) (r1 := .slice (some ⟨b2, 0, none⟩) m c2) y4 ⟨rfl, rfl, rfl, Nat.le_refl _, fun _ _ _ => rfl⟩
    have hBc := hB.trans (zf6 hY hB.size hout)
    have hBw : Below w.heap.size w (w2.setCell ⟨g, i, none⟩ (.slice (some ⟨b2, 0, none⟩) m c2)).drew := hb1.trans ⟨hBc.os, hBc.tape, hBc.output, hBc.size, fun j hj => hBc.block j (Nat.lt_of_lt_of_le hj hb1.size)⟩
    refine ⟨g, cap2, b2, c2, rfl, y3, z2j hh rfl, z2j hh rfl, y6, y7, y8, ?_, zap w.heap.size M (w2.setCell ⟨g, i, none⟩ (.slice (some ⟨b2, 0, none⟩) m c2)).drew, ?_, zgy (z0v hg hBw), zld hBw⟩
    · exact (World.cell?_of_block (by simp [World.setCell, Array.getElem?_modify, show g ≠ w.heap.size by omega])).trans (z2j hh rfl)
    · have := (hcut.drew.base hb1.size).rel (M := M)
      rw [List.length_set] at this
      exact this
  have hw20 : ∀ W : World, Calls Tryz.prog 20 #[.int .i64 (i : Int), .int .i64 0, .int .i64 ((y.length : Int) - 1)] W fun e w' => e = .returned (.bool true) ∧ w' = W := fun W => by
    have := y07 (i : Int) 0 ((y.length : Int) - 1) W
    rwa [z03 (show (0 : Int) ≤ (i : Int) by omega), z03 (show (i : Int) ≤ (y.length : Int) - 1 by omega)] at this
  have hrs : Tryz.f43.results = #[.tmp 4, .tmp 5] := by kernel_rfl
  have em : (m : Int) + 1 - 1 = (m : Int) := by omega
  clear hv hrows hlp e2 hpos x1 x2
  go_enter Tryz.func43, Tryz.ntmps43
  go_wp2_with (first
    | (go_at_call 20; refine (hw20 _).mono ?_; rintro e w2 ⟨rfl, rfl⟩)
    | (go_at_call 38; refine hcp.mono ?_; clear hcp; rintro e w2 ⟨v2, rvs, rfl, hY, hB⟩; obtain ⟨g, cap2, b2, c2, rfl, hmc, d0, d1, d2, d3, d4, d5, M', z1, z2, z3⟩ := fin w2 v2 rvs hY hB; clear fin hY))
  go_region
  all_goals
    go_wp2
    refine bodyPost_ret (v := .tuple #[.slice (some ⟨g, 0, none⟩) y.length cap2, .int .i64 0]) ?_ rfl ⟨M', _, rfl, z1, z2, z3⟩
    simp only [Go.results, hrs, Sem.run_bind, List.mapM_toArray, List.mapM_cons, List.mapM_nil, Sem.run_pure, Result.andThen_ok, Sem.run_map]
    rfl
end Go.Lift
namespace Go.Lift
open Go Go.Proofs Go.RowKit
attribute [local go_sem] Oper.semAt_some
set_option maxHeartbeats 4000000 in
set_option maxRecDepth 100000 in
theorem yb7 {M : Mem} {w : World} (hg : Good M w) {y : List (List ByteArray)} {i k : Nat} {p q : List ByteArray} {v : Value} (hv : relV Tryz.prog TYd M y v) (hW : zkt y = true) (e2 : y[i]? = some p) (hpos : 0 < p.length) (f2 : y[k]? = some q) (hq6 : q.length < 6) (hik : i ≠ k) :
    Calls Tryz.prog 43 #[v, .agg #[.int .i64 (i : Int), .int .i64 (k : Int)]] w fun e w' => ∃ M' u, e = .returned (.tuple #[u, .int .i64 0]) ∧ relV Tryz.prog TYd M' ((y.set i (p.take (p.length - 1))).set k (q ++ [p.getD (p.length - 1) ByteArray.empty])) u ∧ Good M' w' ∧ Grow M w M' w' := by
  obtain ⟨hl, hlp⟩ := zks hW
  have hi : i < y.length := (List.getElem?_eq_some_iff.1 e2).1
  have hk : k < y.length := (List.getElem?_eq_some_iff.1 f2).1
  obtain ⟨m, hm⟩ : ∃ m, p.length = m + 1 := ⟨p.length - 1, by omega⟩
  have hm9 : m < 999 := by have := hlp p (List.mem_of_getElem? e2); omega
  obtain ⟨b, off, cap, rfl, hrows⟩ := ztx hv (by omega)
  obtain ⟨w1, hw1⟩ : ∃ w1, w.alloc (.cells #[.int .i64 (i : Int), .int .i64 (k : Int)] 63) = w1 := ⟨_, rfl⟩
  have hb1 : Below w.heap.size w w1 := by rw [← hw1]; exact (Below.refl _ w).alloc (Nat.le_refl _) _
  have hg1 : Good M w1 := z0v hg hb1
  have hcells := World.alloc_heap_new w (.cells #[.int .i64 (i : Int), .int .i64 (k : Int)] 63)
  rw [hw1] at hcells
  have k0 : w1.cell? ⟨w.heap.size, 0, none⟩ = some (.int .i64 (i : Int)) := z2j hcells rfl
  have k1 : w1.cell? ⟨w.heap.size, 1, none⟩ = some (.int .i64 (k : Int)) := z2j hcells rfl
  have hz1 : w1.heap.size = w.heap.size + 1 := by rw [← hw1, World.size_alloc]
  obtain ⟨r0, x1, x2⟩ := hrows i p e2
  obtain ⟨a0, c0, rfl⟩ := y5w x2
  rw [hm] at x1
  have k2 : w1.cell? ⟨b, off + i, none⟩ = some (.slice a0 (m + 1) c0) := hg1.2 _ _ _ x1
  obtain ⟨r9, x3, x4⟩ := hrows k q f2
  obtain ⟨a9, c9, rfl⟩ := y5w x4
  have k3 : w1.cell? ⟨b, off + k, none⟩ = some (.slice a9 q.length c9) := hg1.2 _ _ _ x3
  have hcp := ylc (cap := cap) hg1 hl (fun j q hj => by
    obtain ⟨r, q1, q2⟩ := hrows j q hj
    exact ⟨r, hg1.2 _ _ _ q1, q2, by have := hlp q (List.mem_of_getElem? hj); omega⟩)
  obtain ⟨i0, d0, hi0⟩ := z18 yg1
  obtain ⟨z, hz, hz1', _⟩ := hi0.zero (by rfl)
  have hby := hi0.bytes
  have hzs : z.cells.size = 1 := by have := z1d .str (fun _ _ => none) _ _ (hz1' _); exact (by simpa using this : z.cells.size = Ty.str.size)
  generalize hsv : p.getD (p.length - 1) ByteArray.empty = s
  have fin : ∀ (w2 : World) (v2 : Value) (rvs : List Value), z2b w2 w1.heap.size v2 y rvs → Below w1.heap.size w1 w2 → ∃ g cap2 b2 c2, v2 = .slice (some ⟨g, 0, none⟩) y.length cap2 ∧ m + 1 ≤ c2 ∧
      w2.cell? ⟨w.heap.size, 0, none⟩ = some (.int .i64 (i : Int)) ∧ w2.cell? ⟨w.heap.size, 1, none⟩ = some (.int .i64 (k : Int)) ∧
      w2.cell? ⟨g, i, none⟩ = some (.slice (some ⟨b2, 0, none⟩) (m + 1) c2) ∧ w2.frozen? ⟨g, i, none⟩ = false ∧ w2.cell? ⟨b2, m, none⟩ = some (.string s) ∧
      ∃ w3, w2.setCell ⟨g, i, none⟩ (.slice (some ⟨b2, 0, none⟩) m c2) = w3 ∧ w3.heap.size = w2.heap.size ∧ w3.cell? ⟨w.heap.size, 1, none⟩ = some (.int .i64 (k : Int)) ∧
      ∃ r3, w3.cell? ⟨g, k, none⟩ = some r3 ∧
      ∃ w4, (w3.alloc (.cells #[.string s] 9)).drew.drew = w4 ∧ w4.cell? ⟨w.heap.size, 1, none⟩ = some (.int .i64 (k : Int)) ∧ w4.cell? ⟨g, k, none⟩ = some r3 ∧
      ∃ p5 n5 c5 w5, (Builtin.append_ #[61, 61] 61 #[r3, .slice (some ⟨w2.heap.size, 0, none⟩) 1 1]).run Tryz.prog w4 = .ok (.slice p5 n5 c5) w5 ∧ w5.cell? ⟨w.heap.size, 1, none⟩ = some (.int .i64 (k : Int)) ∧ w5.cell? ⟨g, k, none⟩ = some r3 ∧ w5.frozen? ⟨g, k, none⟩ = false ∧
      ∃ M' , relV Tryz.prog TYd M' ((y.set i (p.take (p.length - 1))).set k (q ++ [s])) v2 ∧ Good M' (w5.setCell ⟨g, k, none⟩ (.slice p5 n5 c5)) ∧ Grow M w M' (w5.setCell ⟨g, k, none⟩ (.slice p5 n5 c5)) := fun w2 v2 rvs hY hB => by
    obtain ⟨g, cap2, b2, c2, rfl, y1, y2, y3, y4, y5, y6, y7, y8⟩ := hY.pile e2 hm
    have hh := (hB.block w.heap.size (by omega)).trans hcells
    have hcut := hY.cut hm y4 y5
    have hout := zb3 (w := w2) (w1 := w2) (g := g) (cap := cap2) (n := y.length) (r1 := .slice (some ⟨b2, 0, none⟩) m c2) y4 ⟨rfl, rfl, rfl, Nat.le_refl _, fun _ _ _ => rfl⟩
    have hBc := hB.trans (zf6 hY hB.size hout)
    obtain ⟨w3, hw3⟩ : ∃ w3, w2.setCell ⟨g, i, none⟩ (.slice (some ⟨b2, 0, none⟩) m c2) = w3 := ⟨_, rfl⟩
    have hz3 : w3.heap.size = w2.heap.size := by rw [← hw3]; simp [World.setCell]
    have e3 : w3.cell? ⟨w.heap.size, 1, none⟩ = some (.int .i64 (k : Int)) := by
      rw [← hw3]
      exact (World.cell?_of_block (by simp [World.setCell, Array.getElem?_modify, show g ≠ w.heap.size by omega])).trans (z2j hh rfl)
    rw [hw3] at hcut hBc
    obtain ⟨w4, hw4⟩ : ∃ w4, (w3.alloc (.cells #[.string s] 9)).drew.drew = w4 := ⟨_, rfl⟩
    have hB4 : Below w1.heap.size w1 w4 := by rw [← hw4]; have hA := hBc.alloc hBc.size (.cells #[.string s] 9); exact ⟨hA.os, hA.tape, hA.output, hA.size, hA.block⟩
    have h4 : z2b w4 w1.heap.size (.slice (some ⟨g, 0, none⟩) (y.set i (p.take (p.length - 1))).length cap2) (y.set i (p.take (p.length - 1))) (rvs.set i (.slice (some ⟨b2, 0, none⟩) m c2)) := by rw [← hw4]; exact (hcut.kept (World.grownBy_alloc _ _ none)).drew.drew
    have hq' : (y.set i (p.take (p.length - 1)))[k]? = some q := by rw [List.getElem?_set_ne hik]; exact f2
    obtain ⟨r3, u1, u2, u3, u3'⟩ := h4.row hq'
    obtain ⟨r2, t1, t2, t3, t3'⟩ := hcut.row hq'
    obtain rfl : r3 = r2 := by rw [u1] at t1; exact Option.some.inj t1
    have e4 : w4.cell? ⟨w.heap.size, 1, none⟩ = some (.int .i64 (k : Int)) := z2j ((hB4.block w.heap.size (by omega)).trans hcells) rfl
    have hz4 : w4.heap.size = w2.heap.size + 1 := by rw [← hw4]; show (w3.alloc _).heap.size = _; rw [World.size_alloc, hz3]
    obtain ⟨r5, w5, hrun, o1, o2, o3, o4⟩ := run_append_own_at (P := Tryz.prog) w4 w1.heap.size 61 61 9 i0 z 1 i0.bytes u61 hi0.info hz hi0.size rfl hzs (by decide) r3 q.length (strCells q) u2 ⟨w3.heap.size, 0, none⟩ 1 1 [.string s] rfl (by
      rw [← hw4]; exact cell_one_new w3 (.string s) 9) (by intro u hu; rw [List.mem_singleton.1 hu]; rfl) (by unfold maxLen; omega) (by
      have := Nat.mul_le_mul (show q.length + 1 ≤ 1001 by omega) hby
      omega) hB4.size
    rw [hz3] at hrun
    obtain ⟨p5, n5, c5, rfl⟩ := zpj o1
    have hn2 : some g ≠ r3.ownBlock := by
      rcases zfy h4.outer u2 (by decide) with e | e
      · rw [e]; simp
      · simp only [Value.ownBlock, ne_eq] at e ⊢; exact fun h => e h.symm
    have hn1 : some w.heap.size ≠ r3.ownBlock := fun e => by
      have := (u2.lt _ e.symm).1
      omega
    have hlt2 : g < w4.heap.size := World.block_lt_of_cell? w4 _ u3
    have hlt1 : w.heap.size < w4.heap.size := World.block_lt_of_cell? w4 _ e4
    have hturn5 := h4.turn (r1 := .slice p5 n5 c5) (y1 := q ++ [s]) u1 o2 (by
      rw [List.length_append, List.length_singleton]
      have : strCells (q ++ [s]) = strCells q ++ [.string s] := by unfold strCells; rw [List.map_append]; rfl
      rw [this]; exact o1) o4
    have hout5 := zb3 (w := w4) (w1 := w5) (g := g) (cap := cap2) (n := (y.set i (p.take (p.length - 1))).length) (r1 := .slice p5 n5 c5) u1 o2
    have hB5 := hB4.trans (zf6 h4 hB4.size hout5)
    have hBw : Below w.heap.size w (w5.setCell ⟨g, k, none⟩ (.slice p5 n5 c5)) := hb1.trans ⟨hB5.os, hB5.tape, hB5.output, hB5.size, fun j hj => hB5.block j (Nat.lt_of_lt_of_le hj hb1.size)⟩
    refine ⟨g, cap2, b2, c2, rfl, y3, z2j hh rfl, z2j hh rfl, y6, y7, by rw [← hsv]; exact y8, w3, hw3, hz3, e3, r3, t3, w4, hw4, e4, u3, p5, n5, c5, w5, hrun, (World.cell?_of_block (o2.block _ hlt1 hn1)).trans e4, (World.cell?_of_block (o2.block _ hlt2 hn2)).trans u3, (World.frozen?_of_block (o2.block _ hlt2 hn2)).trans u3', zap w.heap.size M _, ?_, zgy (z0v hg hBw), zld hBw⟩
    have := (hturn5.base hb1.size).rel (M := M)
    rw [List.length_set, List.length_set] at this
    exact this
  have hw20 : ∀ W : World, Calls Tryz.prog 20 #[.int .i64 (i : Int), .int .i64 0, .int .i64 ((y.length : Int) - 1)] W fun e w' => e = .returned (.bool true) ∧ w' = W := fun W => by
    have := y07 (i : Int) 0 ((y.length : Int) - 1) W
    rwa [z03 (show (0 : Int) ≤ (i : Int) by omega), z03 (show (i : Int) ≤ (y.length : Int) - 1 by omega)] at this
  have hw20' : ∀ W : World, Calls Tryz.prog 20 #[.int .i64 (k : Int), .int .i64 0, .int .i64 ((y.length : Int) - 1)] W fun e w' => e = .returned (.bool true) ∧ w' = W := fun W => by
    have := y07 (k : Int) 0 ((y.length : Int) - 1) W
    rwa [z03 (show (0 : Int) ≤ (k : Int) by omega), z03 (show (k : Int) ≤ (y.length : Int) - 1 by omega)] at this
  have hrs : Tryz.f43.results = #[.tmp 4, .tmp 5] := by kernel_rfl
  have em : (m : Int) + 1 - 1 = (m : Int) := by omega
  clear hv hrows hlp e2 hpos x1 x2 f2 x3 x4
  go_enter Tryz.func43, Tryz.ntmps43
  go_wp2_with (first
    | (go_at_call_of 20 (Value.int IntKind.i64 (i : Int)); refine (hw20 _).mono ?_; rintro e w2 ⟨rfl, rfl⟩)
    | (go_at_call_of 20 (Value.int IntKind.i64 (k : Int)); refine (hw20' _).mono ?_; rintro e w2 ⟨rfl, rfl⟩)
    | (go_at_call 38; refine hcp.mono ?_; clear hcp; rintro e w2 ⟨v2, rvs, rfl, hY, hB⟩; obtain ⟨g, cap2, b2, c2, rfl, hmc, d0, d1, d2, d3, d4, w3, hw3, hz3, d5, r3, d6, w4, hw4, d7, d8, p5, n5, c5, w5, hrun, d9, d10, d11, M', z1, z2, z3⟩ := fin w2 v2 rvs hY hB; clear fin hY))
  go_region
  all_goals
    go_wp2
    go_region_law (refine zky rfl (.tmp 92) (.tmp 94) 61 rfl r3 (.slice (some ⟨w2.heap.size, 0, none⟩) 1 1) (.slice p5 n5 c5) (by simp [Act.eval, Act.put]) (by simp [Act.eval, Act.put]) hrun ?_)
    all_goals
      go_wp2
      refine bodyPost_ret (v := .tuple #[.slice (some ⟨g, 0, none⟩) y.length cap2, .int .i64 0]) ?_ rfl ⟨M', _, rfl, z1, z2, z3⟩
      simp only [Go.results, hrs, Sem.run_bind, List.mapM_toArray, List.mapM_cons, List.mapM_nil, Sem.run_pure, Result.andThen_ok, Sem.run_map]
      rfl
end Go.Lift
namespace Go.Lift
open Go Go.Proofs Go.RowKit
set_option maxRecDepth 100000
noncomputable def zmk (y : (List (List ByteArray))) (m : z2r) : Option ((List (List ByteArray)) × Int) :=
 (zc1 m.1 0 (wi64 ((List.length y : Int) - 1))).bind fun (t : Bool) =>
 (bif !t then some true else
  (bif (m.2 != (-1)) then
   (zc1 m.2 0 (wi64 ((List.length y : Int) - 1))).bind fun (t_1 : Bool) =>
   some (!t_1)
  else some false).bind fun (c : Bool) =>
  some c).bind fun (c_1 : Bool) =>
 bif c_1 then
  some ([], 6)
 else
  chk (decide ((0 : Int) ≤ m.1) && decide (m.1 < (List.length y : Int))) (
   bif ((List.length (lget [] y m.1) : Int) == 0) then
    some ([], 11)
   else
    bif (m.1 == m.2) then
     some ([], 3)
    else
     (bif (m.2 != (-1)) then
      chk (decide ((0 : Int) ≤ m.2) && decide (m.2 < (List.length y : Int))) (
       some (decide ((List.length (lget [] y m.2) : Int) ≥ 6)))
     else some false).bind fun (c_2 : Bool) =>
     bif c_2 then
      some ([], 16)
     else
      (z8u y).bind fun (t_2 : (List (List ByteArray))) =>
      chk (decide ((0 : Int) ≤ m.1) && decide (m.1 < (List.length t_2 : Int))) (
       let top : Int := wi64 ((List.length (lget [] t_2 m.1) : Int) - 1)
       chk (decide ((0 : Int) ≤ m.1) && decide (m.1 < (List.length t_2 : Int))) (
        chk (decide ((0 : Int) ≤ top) && decide (top < (List.length (lget [] t_2 m.1) : Int))) (
         let slab : ByteArray := lget ByteArray.empty (lget [] t_2 m.1) top
         chk (decide ((0 : Int) ≤ m.1) && decide (m.1 < (List.length t_2 : Int))) (
          chk (decide ((0 : Int) ≤ 0) && decide ((0 : Int) ≤ top) && decide (top ≤ (List.length (lget [] t_2 m.1) : Int))) (
           chk (decide ((0 : Int) ≤ m.1) && decide (m.1 < (List.length t_2 : Int))) (
            none)))))))
noncomputable abbrev y0d : Sig := ⟨43, [(.slice (.slice .str)), z0q], [(.slice (.slice .str)), (.int .i64)], fun x => zmk x.1 x.2⟩
theorem y1y (y : (List (List ByteArray))) (m : z2r) : funK (cx [] [zs9, zhg]) Tryz.f43 .nil [(.slice (.slice .str)), z0q] [(.slice (.slice .str)), (.int .i64)] (y, m) = zmk y m := by kernel_rfl
theorem y4k : Has Tryz.prog y0d :=
 z1m z04 z11 z12 z13 (own := []) (all_cons y75 (all_cons zq2 all_nil)) (n := .nil) Tryz.func43 (by kernel_rfl) fun x => y1y x.1 x.2
theorem yid {y : List (List ByteArray)} (hy : y.length ≤ 1000) {m : Int × Int} (h : zey y m ≠ 0) : zmk y m = some ([], zey y m) := by
 unfold zmk
 unfold zey inR at h ⊢
 rw [z07 (x := (y.length : Int) - 1) (by omega) (by omega), z6c, Option.bind_some, z6c]
 by_cases h1 : 0 ≤ m.1 ∧ m.1 ≤ (y.length : Int) - 1
 ·rw [z03 h1] at h ⊢
  have hc1 : (decide ((0 : Int) ≤ m.1) && decide (m.1 < (y.length : Int))) = true := z0c (z03 h1.1) (z03 (by omega))
  have key : ∀ b : Bool, (b = false → 0 ≤ m.2 ∧ m.2 ≤ (y.length : Int) - 1 ∨ m.2 = -1) → (bif (b && m.2 != -1) then (6 : Int) else bif ((lget [] y m.1).length : Int) == 0 then 11 else bif m.1 == m.2 then 3 else bif m.2 != -1 && decide (((lget [] y m.2).length : Int) ≥ 6) then 16 else 0) ≠ 0 → True := fun _ _ _ => trivial
  by_cases h2 : 0 ≤ m.2 ∧ m.2 ≤ (y.length : Int) - 1
  ·have hm : (m.2 != -1) = true := by rw [bne_iff_ne]; omega
   have hc2 : (decide ((0 : Int) ≤ m.2) && decide (m.2 < (y.length : Int))) = true := z0c (z03 h2.1) (z03 (by omega))
   rw [z03 h2, hm] at h ⊢
   simp only [cond_true, Option.bind_some, Bool.not_true, Bool.or_false, cond_false, Bool.false_and, Bool.true_and, hc1, hc2, zkr] at h ⊢
   cases h3 : ((lget [] y m.1).length : Int) == 0 with
   | true => rfl
   | false =>
    cases h4 : m.1 == m.2 with
    | true => rfl
    | false =>
     rw [h3, h4] at h
     cases h5 : decide (((lget [] y m.2).length : Int) ≥ 6) with
     | true => rfl
     | false => rw [h5] at h; exact absurd rfl h
  ·rw [z06 h2] at h ⊢
   cases hm : m.2 != -1 with
   | true => rfl
   | false =>
    rw [hm] at h
    simp only [cond_true, Option.bind_some, Bool.not_true, Bool.or_false, cond_false, Bool.false_and, Bool.true_and, Bool.not_false, hc1, zkr] at h ⊢
    cases h3 : ((lget [] y m.1).length : Int) == 0 with
    | true => rfl
    | false =>
     cases h4 : m.1 == m.2 with
     | true => rfl
     | false => rw [h3, h4] at h; exact absurd rfl h
 ·rw [z06 h1] at h ⊢
  rfl
theorem y62 {y : List (List ByteArray)} (hW : zkt y = true) (m : Int × Int) : zeu y m = bif zey y m != 0 then some ([], zey y m) else (zgx y m).bind fun n => some (n, 0) := by
 have hy := (zks hW).1
 unfold zeu zey inR
 rw [hW, cond_true, z07 (x := (y.length : Int) - 1) (by omega) (by omega), z6c, Option.bind_some, z6c]
 by_cases h1 : 0 ≤ m.1 ∧ m.1 ≤ (y.length : Int) - 1
 ·rw [z03 h1]
  by_cases h2 : 0 ≤ m.2 ∧ m.2 ≤ (y.length : Int) - 1
  ·have hm : (m.2 != -1) = true := by rw [bne_iff_ne]; omega
   rw [z03 h2, hm]
   simp only [cond_true, Option.bind_some, Bool.not_true, Bool.or_false, cond_false, Bool.false_and, Bool.true_and]
   cases ((lget [] y m.1).length : Int) == 0 with
   | true => rfl
   | false =>
    cases m.1 == m.2 with
    | true => rfl
    | false =>
     cases decide (((lget [] y m.2).length : Int) ≥ 6) with
     | true => rfl
     | false => rfl
  ·rw [z06 h2]
   cases hm : m.2 != -1 with
   | true => rfl
   | false =>
    simp only [cond_true, Option.bind_some, Bool.not_true, Bool.or_false, cond_false, Bool.false_and, Bool.true_and, Bool.not_false]
    cases ((lget [] y m.1).length : Int) == 0 with
    | true => rfl
    | false =>
     cases m.1 == m.2 with
     | true => rfl
     | false => rfl
 ·rw [z06 h1]
  by_cases h2 : 0 ≤ m.2 ∧ m.2 ≤ (y.length : Int) - 1
  ·rw [z03 h2]; cases m.2 != -1 <;> rfl
  ·rw [z06 h2]; cases m.2 != -1 <;> rfl
theorem zmq : Has Tryz.prog zo2 := by
 refine ⟨enters_of (by kernel_rfl), fun x r hr M w vs hg hvs => ?_⟩
 have hvs0 := hvs
 obtain ⟨v, rest, rfl, hv, u, rfl, hu⟩ := hvs
 have hu' := y3a hu
 subst hu'
 obtain ⟨y, m⟩ := x
 have hr' : zeu y m = some r := hr
 cases hW : zkt y with
 | false => unfold zeu at hr'; rw [hW] at hr'; cases hr'
 | true =>
  have hy := (zks hW).1
  rw [y62 hW] at hr'
  by_cases h0 : zey y m = 0
  ·rw [h0, show ((0 : Int) != 0) = false from rfl, cond_false] at hr'
   obtain ⟨n, hn, hr2⟩ := Option.bind_eq_some_iff.1 hr'
   simp only [Option.some.injEq] at hr2
   subst hr2
   obtain ⟨i, p, e1, e2, hpos, hto⟩ := zz1 h0
   have out : Calls Tryz.prog 43 #[v, .agg #[.int .i64 m.1, .int .i64 m.2]] w (fun r w' => ∃ M' u, r = .returned (.tuple #[u, .int .i64 0]) ∧ relV Tryz.prog TYd M' n u ∧ Good M' w' ∧ Grow M w M' w') → zay Tryz.prog 43 #[v, .agg #[.int .i64 m.1, .int .i64 m.2]] M w fun M' u => relR Tryz.prog M' [TYd, .int .i64] (n, 0) u := fun h2 => by
    refine h2.mono fun q w' => ?_
    rintro ⟨M', u, rfl, h3, h4, h5⟩
    exact ⟨M', _, rfl, ⟨_, rfl, u, [_], rfl, h3, _, rfl, z1p.2 rfl⟩, h4, h5⟩
   refine out ?_
   obtain ⟨m1, m2⟩ := m
   simp only at e1 hto hn ⊢
   subst e1
   rcases hto with rfl | ⟨k, q, rfl, f2, f6, f3⟩
   ·rw [zyz e2, Option.some.injEq] at hn
    subst hn
    exact y6k hg hv hW e2 hpos
   ·rw [y43 e2 f2 f3 (by omega), Option.some.injEq] at hn
    subst hn
    exact yb7 hg hv hW e2 hpos f2 f6 f3
  ·rw [show (zey y m != 0) = true by rw [bne_iff_ne]; exact h0, cond_true, Option.some.injEq] at hr'
   subst hr'
   exact y4k.2 (y, m) _ (yid hy h0) M w _ hg hvs0
end Go.Lift
