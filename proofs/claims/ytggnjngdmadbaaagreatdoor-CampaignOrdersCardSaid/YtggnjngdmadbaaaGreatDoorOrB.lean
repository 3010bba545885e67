/-
  An order, read and written; the law holds of the plain functions.
-/
import Derived.Test.YtggnjngdmadbaaaGreatDoorOrA
set_option linter.unusedSectionVars false
set_option linter.unusedVariables false
set_option linter.unusedSimpArgs false
namespace Go.Lift
open Go
def yr5 : List (List Int) := [[], [], [0], [], [0, 2000], [0]]
theorem ord0 (a : ByteArray) : yp0 a yr5 = (a, (0, (0, (0, (0, ((0, 20000), 0)))))) := by
 show (a, ((0 : Int), ((0 : Int), ((0 : Int), ((0 : Int), ((wi64 (10 * 0), wi64 (10 * 2000)), (0 : Int))))))) = _
 rw [z0j (x := 10 * 0) (by omega) (by omega), z0j (x := 10 * 2000) (by omega) (by omega)]
 rfl
theorem tok0 : TOk yr5 (fun _ => false) := by
 refine ⟨rfl, fun k hk hg => ?_⟩
 rcases hg with hg | rfl | rfl | rfl
 ·cases hg
 ·rfl
 ·rfl
 ·rfl
theorem yq4 {l : List Int} (h : l.length = 1) : ∃ x, l = [x] := by
 match l, h with
 | [x], _ => exact ⟨x, rfl⟩
theorem yrl {l : List Int} (h : l.length = 2) : ∃ x y, l = [x, y] := by
 match l, h with
 | [x, y], _ => exact ⟨x, y, rfl⟩
set_option maxHeartbeats 1000000 in
theorem yqh {s : ByteArray} (hs : s.size ≤ 60000) : ∃ z, z4a s = some z ∧ yog s = some z := by
 have hsz := yjk s
 have hok : WsOk ((pcs 32 s.data.toList).map bof) := by
  refine ⟨fun w hw => ?_, ?_⟩
  ·obtain ⟨p, hp, rfl⟩ := List.mem_map.1 hw
   have := yl3 hp
   rw [yjv]; omega
  ·rw [List.length_map]
   have := yqo (c := 32) (l := s.data.toList)
   omega
 have hne : 1 ≤ ((pcs 32 s.data.toList).map bof).length := by
  rw [List.length_map]
  have := pcs_ne (c := 32) (l := s.data.toList)
  cases e : pcs 32 s.data.toList with
  | nil => exact absurd e this
  | cons _ _ => simp
 unfold z4a yog
 rw [show strings_Split s (bytes [32]) = y06 ⟨#[32]⟩ s from rfl, ymn (by omega), Option.bind_some, show ylc s 32 = some ((pcs 32 s.data.toList).map bof) from Cut_ok (c := 32) hs, Option.bind_some]
 generalize (pcs 32 s.data.toList).map bof = ws at hok hne
 have hw := yq9 hok 0
 rw [show z1b ws 0 = wd ws 0 from yoi 0, y1f (by omega), Option.bind_some, z18 (zi5 (z07 (by omega)) (z07 (by omega))), show lget ByteArray.empty ws 0 = wd ws 0 from rfl, y2h (by omega), Option.bind_some]
 cases hn : zqt (wd ws 0) with
 | false => exact ⟨_, rfl, rfl⟩
 | true =>
  simp only [Bool.not_true, cond_false]
  obtain ⟨R, R', h1, h2, h3⟩ := yqd hok (wd ws 0) (ws.length + 1) 1 (fun _ => false) yr5 (by omega) hne tok0
  rw [ord0] at h1
  rw [show ((1 : Nat) : Int) = 1 from rfl] at h1 h2
  rw [h1, Option.bind_some]
  have h2' := h2
  unfold yr5 at h2'
  rw [h2', Option.bind_some]
  cases R with
  | inl f =>
   replace h3 : R' = .inr (z3f, f.1, f.2) := h3
   subst h3
   exact ⟨_, rfl, rfl⟩
  | inr r =>
   obtain ⟨t', e1, e2, e3⟩ := h3
   subst e1
   obtain ⟨o, given⟩ := r
   simp only at e2 e3 ⊢
   subst e2
   have a0 : aget given 0 = given 0 := rfl
   have a1 : aget given 1 = given 1 := rfl
   have a3 : aget given 3 = given 3 := rfl
   rw [z18 (c := decide ((0 : Int) ≤ 0) && decide ((0 : Int) < 6)) rfl, a0, a1, a3]
   cases g0 : given 0 with
   | false => exact ⟨(z3f, 0, 14), rfl, rfl⟩
   | true =>
    cases g1 : given 1 with
    | false => exact ⟨(z3f, 0, 14), rfl, rfl⟩
    | true =>
     cases g3 : given 3 with
     | false => exact ⟨(z3f, 0, 14), rfl, rfl⟩
     | true =>
      obtain ⟨t0, t1, t2, t3, t4, t5, rfl⟩ := six e3.1
      obtain ⟨x0, rfl⟩ := yq4 (l := t0) (e3.2 0 (by omega) (.inl g0))
      obtain ⟨x1, rfl⟩ := yq4 (l := t1) (e3.2 1 (by omega) (.inl g1))
      obtain ⟨x2, rfl⟩ := yq4 (l := t2) (e3.2 2 (by omega) (.inr (.inl rfl)))
      obtain ⟨x3, rfl⟩ := yq4 (l := t3) (e3.2 3 (by omega) (.inl g3))
      obtain ⟨x4, y4, rfl⟩ := yrl (l := t4) (e3.2 4 (by omega) (.inr (.inr (.inl rfl))))
      obtain ⟨x5, rfl⟩ := yq4 (l := t5) (e3.2 5 (by omega) (.inr (.inr (.inr rfl))))
      have hO : (yp0 (wd ws 0) [[x0], [x1], [x2], [x3], [x4, y4], [x5]]).1.size ≤ 9223372036854775807 := by show (wd ws 0).size ≤ _; omega
      refine ⟨(bif ordE (yp0 (wd ws 0) [[x0], [x1], [x2], [x3], [x4, y4], [x5]]) != 0 then (z3f, 0, ordE (yp0 (wd ws 0) [[x0], [x1], [x2], [x3], [x4, y4], [x5]])) else (yp0 (wd ws 0) [[x0], [x1], [x2], [x3], [x4, y4], [x5]], 0, 0)), ?_, ?_⟩
      ·show (z13 (yp0 (wd ws 0) [[x0], [x1], [x2], [x3], [x4, y4], [x5]])).bind _ = _
       rw [zqc hO, Option.bind_some]
       cases ordE (yp0 (wd ws 0) [[x0], [x1], [x2], [x3], [x4, y4], [x5]]) != 0 <;> rfl
      ·show chk (decide ((0 : Int) ≤ 0) && decide (0 < (List.length ws : Int))) ((zff (yp0 (wd ws 0) [[x0], [x1], [x2], [x3], [x4, y4], [x5]])).bind _) = _
       rw [z18 (zi5 (z07 (by omega)) (z07 (by omega))), y4a hO, Option.bind_some]
       cases ordE (yp0 (wd ws 0) [[x0], [x1], [x2], [x3], [x4, y4], [x5]]) != 0 <;> rfl
end Go.Lift
namespace Go.Lift
open Go
def flr (n : Int) : Int := if Int.tmod n 10 < 0 then Int.tdiv n 10 - 1 else Int.tdiv n 10
theorem yrc {n : Int} (h : W64I n) : -922337203685477580 ≤ Int.tdiv n 10 ∧ Int.tdiv n 10 ≤ 922337203685477580 := by
 have hq : (Int.tdiv n 10).natAbs = n.natAbs / 10 := Int.natAbs_tdiv n 10
 unfold W64I at h
 omega
theorem yp5 {n : Int} (h : W64I n) : W64I (flr n) := by
 have := yrc h
 unfold flr W64I
 split <;> omega
theorem ys8 {n : Int} (h : W64I n) : zmb n 10 = some (flr n) := by
 have := yrc h
 unfold zmb flr
 rw [z18 (by rfl)]
 simp only []
 rw [z18 (by rfl), z0j (x := Int.tdiv n 10) (by omega) (by omega)]
 by_cases hn : Int.tmod n 10 < 0
 ·rw [z07 hn, cond_true, Option.bind_some, if_pos hn, z0j (by omega) (by omega)]
 ·rw [z0v hn, cond_false, Option.bind_some, if_neg hn]
theorem ys9 {n : Int} (h : W64I n) : yoe n 10 = some (flr n) := ys8 h
def OrdI (o : z01) : Prop := W64I o.2.1 ∧ W64I o.2.2.1 ∧ W64I o.2.2.2.1 ∧ W64I o.2.2.2.2.1 ∧ W64I o.2.2.2.2.2.1.1 ∧ W64I o.2.2.2.2.2.1.2 ∧ W64I o.2.2.2.2.2.2
def ordW (o : z01) : List (List UInt8) := [o.1.data.toList, [103, 114, 97, 100, 101], Lib.itoa o.2.1, [116, 104, 105, 99, 107, 110, 101, 115, 115], Lib.itoa o.2.2.1, [117, 109], [116, 111, 108, 101, 114, 97, 110, 99, 101], Lib.itoa o.2.2.2.1, [117, 109], [119, 105, 100, 116, 104], Lib.itoa o.2.2.2.2.1, [109, 109], [99, 111, 105, 108, 105, 110, 103], Lib.itoa (flr o.2.2.2.2.2.1.1), [116, 111], Lib.itoa (flr o.2.2.2.2.2.1.2), [67], [100, 117, 101], Lib.itoa o.2.2.2.2.2.2]
def ordT (o : z01) : List UInt8 := Lib.join (ordW o) [32]
theorem yqq (o : z01) : ordT o = o.1.data.toList ++ ([32, 103, 114, 97, 100, 101, 32] ++ (Lib.itoa o.2.1 ++ ([32, 116, 104, 105, 99, 107, 110, 101, 115, 115, 32] ++ (Lib.itoa o.2.2.1 ++ ([32, 117, 109, 32, 116, 111, 108, 101, 114, 97, 110, 99, 101, 32] ++ (Lib.itoa o.2.2.2.1 ++ ([32, 117, 109, 32, 119, 105, 100, 116, 104, 32] ++ (Lib.itoa o.2.2.2.2.1 ++ ([32, 109, 109, 32, 99, 111, 105, 108, 105, 110, 103, 32] ++ (Lib.itoa (flr o.2.2.2.2.2.1.1) ++ ([32, 116, 111, 32] ++ (Lib.itoa (flr o.2.2.2.2.2.1.2) ++ ([32, 67, 32, 100, 117, 101, 32] ++ Lib.itoa o.2.2.2.2.2.2))))))))))))) := by
 unfold ordT ordW
 rw [Lib.join_cons]
 simp [Lib.joinTail]
theorem len15 (z0 p1 z1 p2 z2 p3 z3 p4 z4 p5 z5 p6 z6 p7 z7 : List UInt8) : (z0 ++ (p1 ++ (z1 ++ (p2 ++ (z2 ++ (p3 ++ (z3 ++ (p4 ++ (z4 ++ (p5 ++ (z5 ++ (p6 ++ (z6 ++ (p7 ++ z7)))))))))))))).length = z0.length + (p1.length + (z1.length + (p2.length + (z2.length + (p3.length + (z3.length + (p4.length + (z4.length + (p5.length + (z5.length + (p6.length + (z6.length + (p7.length + z7.length))))))))))))) := by
 simp only [List.length_append]
theorem sum15 {a b c d e f g h : Nat} (h0 : a ≤ 30) (h1 : b ≤ 21) (h2 : c ≤ 21) (h3 : d ≤ 21) (h4 : e ≤ 21) (h5 : f ≤ 21) (h6 : g ≤ 21) (h7 : h ≤ 21) : a + (7 + (b + (11 + (c + (14 + (d + (10 + (e + (12 + (f + (4 + (g + (7 + h))))))))))))) ≤ 300 := by omega
theorem ypz {o : z01} (h1 : o.1.size ≤ 30) (h : OrdI o) : (ordT o).length ≤ 300 := by
 rw [yqq, len15]
 exact sum15 (by rw [← yjk]; exact h1) (yjm h.1) (yjm h.2.1) (yjm h.2.2.1) (yjm h.2.2.2.1) (yjm (yp5 h.2.2.2.2.1)) (yjm (yp5 h.2.2.2.2.2.1)) (yjm h.2.2.2.2.2.2)
theorem ypu {o : z01} (h1 : o.1.size ≤ 30) (h : OrdI o) : yo6 o = some (bof (ordT o)) := by
 have hl := ypz h1 h
 obtain ⟨a, b, c, d, e, f, g⟩ := h
 unfold yo6
 rw [yn8 a.1 a.2, Option.bind_some, yn8 b.1 b.2, Option.bind_some, yn8 c.1 c.2, Option.bind_some, yn8 d.1 d.2, Option.bind_some, ys9 e, Option.bind_some, yn8 (yp5 e).1 (yp5 e).2, Option.bind_some, ys9 f, Option.bind_some, yn8 (yp5 f).1 (yp5 f).2, Option.bind_some, yn8 g.1 g.2, Option.bind_some]
 have hL : [o.1, (bytes [103, 114, 97, 100, 101]), bof (Lib.itoa o.2.1), (bytes [116, 104, 105, 99, 107, 110, 101, 115, 115]), bof (Lib.itoa o.2.2.1), (bytes [117, 109]), (bytes [116, 111, 108, 101, 114, 97, 110, 99, 101]), bof (Lib.itoa o.2.2.2.1), (bytes [117, 109]), (bytes [119, 105, 100, 116, 104]), bof (Lib.itoa o.2.2.2.2.1), (bytes [109, 109]), (bytes [99, 111, 105, 108, 105, 110, 103]), bof (Lib.itoa (flr o.2.2.2.2.2.1.1)), (bytes [116, 111]), bof (Lib.itoa (flr o.2.2.2.2.2.1.2)), (bytes [67]), (bytes [100, 117, 101]), bof (Lib.itoa o.2.2.2.2.2.2)] = (ordW o).map bof := by
  unfold ordW
  simp only [List.map_cons, List.map_nil, ykh]
  rfl
 rw [hL, show bytes [32] = bof [32] from rfl, yo4 (by unfold ordW; simp) (by show (ordT o).length ≤ _; omega), Option.bind_some]
 rfl
theorem ypi {o : z01} (h1 : o.1.size ≤ 30) (h : OrdI o) : yod o = some (bof (ordT o)) := by
 have hl := ypz h1 h
 obtain ⟨a, b, c, d, e, f, g⟩ := h
 have l1 := yjm a
 have l2 := yjm b
 have l3 := yjm c
 have l4 := yjm d
 have l5 := yjm (yp5 e)
 have l6 := yjm (yp5 f)
 have l7 := yjm g
 rw [yjk] at h1
 unfold yod
 have hn : o.1 = bof o.1.data.toList := (ykh _).symm
 have b1 : bytes [32, 103, 114, 97, 100, 101, 32] = bof [32, 103, 114, 97, 100, 101, 32] := rfl
 have b2 : bytes [32, 116, 104, 105, 99, 107, 110, 101, 115, 115, 32] = bof [32, 116, 104, 105, 99, 107, 110, 101, 115, 115, 32] := rfl
 have b3 : bytes [32, 117, 109, 32, 116, 111, 108, 101, 114, 97, 110, 99, 101, 32] = bof [32, 117, 109, 32, 116, 111, 108, 101, 114, 97, 110, 99, 101, 32] := rfl
 have b4 : bytes [32, 117, 109, 32, 119, 105, 100, 116, 104, 32] = bof [32, 117, 109, 32, 119, 105, 100, 116, 104, 32] := rfl
 have b5 : bytes [32, 109, 109, 32, 99, 111, 105, 108, 105, 110, 103, 32] = bof [32, 109, 109, 32, 99, 111, 105, 108, 105, 110, 103, 32] := rfl
 have b6 : bytes [32, 116, 111, 32] = bof [32, 116, 111, 32] := rfl
 have b7 : bytes [32, 67, 32, 100, 117, 101, 32] = bof [32, 67, 32, 100, 117, 101, 32] := rfl
 have c0 : cat o.1 (bof [32, 103, 114, 97, 100, 101, 32]) = some (bof (o.1.data.toList ++ [32, 103, 114, 97, 100, 101, 32])) := by
  conv => lhs; rw [hn]
  exact yjp (by simp only [List.length_cons, List.length_nil]; omega)
 rw [b1, b2, b3, b4, b5, b6, b7, c0, Option.bind_some, yk9 a, Option.bind_some, yjp (by simp only [List.length_append, List.length_cons, List.length_nil]; omega), Option.bind_some, yjp (by simp only [List.length_append, List.length_cons, List.length_nil]; omega), Option.bind_some, yk9 b, Option.bind_some, yjp (by simp only [List.length_append, List.length_cons, List.length_nil]; omega), Option.bind_some, yjp (by simp only [List.length_append, List.length_cons, List.length_nil]; omega), Option.bind_some, yk9 c, Option.bind_some, yjp (by simp only [List.length_append, List.length_cons, List.length_nil]; omega), Option.bind_some, yjp (by simp only [List.length_append, List.length_cons, List.length_nil]; omega), Option.bind_some, yk9 d, Option.bind_some, yjp (by simp only [List.length_append, List.length_cons, List.length_nil]; omega), Option.bind_some, yjp (by simp only [List.length_append, List.length_cons, List.length_nil]; omega), Option.bind_some, ys8 e, Option.bind_some, yk9 (yp5 e), Option.bind_some, yjp (by simp only [List.length_append, List.length_cons, List.length_nil]; omega), Option.bind_some, yjp (by simp only [List.length_append, List.length_cons, List.length_nil]; omega), Option.bind_some, ys8 f, Option.bind_some, yk9 (yp5 f), Option.bind_some, yjp (by simp only [List.length_append, List.length_cons, List.length_nil]; omega), Option.bind_some, yjp (by simp only [List.length_append, List.length_cons, List.length_nil]; omega), Option.bind_some, yk9 g, Option.bind_some, yjp (by simp only [List.length_append, List.length_cons, List.length_nil]; omega), Option.bind_some, yqq]
 simp only [List.append_assoc]
end Go.Lift
namespace Go.Lift
open Go
theorem yqe : ∀ {L : List (List UInt8)}, L ≠ [] → (∀ x ∈ L, noC 32 x) → pcs 32 (Lib.join L [32]) = L
 | [], h, _ => absurd rfl h
 | [x], _, h => by rw [Lib.join_one]; exact yk5 (ym4 (h x List.mem_cons_self))
 | x :: y :: r, _, h => by
  have e : Lib.join (x :: y :: r) [32] = x ++ 32 :: Lib.join (y :: r) [32] := by
   rw [Lib.join_cons, Lib.join_cons]
   simp [Lib.joinTail]
  rw [e, yjl (yk8 (h x List.mem_cons_self)), yqe (List.cons_ne_nil _ _) (fun z hz => h z (List.mem_cons_of_mem _ hz))]
theorem yoc (w : ByteArray) : z9a w = zd2.findIdx? fun c => c.data.toList == w.data.toList := by
 unfold z9a
 congr 1
 funext c
 exact ykc c w
theorem ype {ws : List ByteArray} {n i k j : Nat} {o o' : z01} {given : Nat → Bool} (hi : i < ws.length) (hc : z9a (wd ws i) = some k) (hg : given k = false) (hr : zyj k ws o ((i + 1 : Nat) : Int) = some (.inr (o', (j : Int)))) :
  zfe ws (n + 1) o (i : Int) given = zfe ws n o' (j : Int) (upd given k true) := by
 conv => lhs; unfold zfe
 rw [if_pos (show (i : Int) < (ws.length : Int) by omega), yoi, hc]
 simp only []
 rw [hg, cond_false, show ((i : Int) + 1) = ((i + 1 : Nat) : Int) from rfl, hr, Option.bind_some]
theorem yrv {ws : List ByteArray} {n i : Nat} {o : z01} {given : Nat → Bool} (hi : i = ws.length) : zfe ws (n + 1) o (i : Int) given = some (.inr (o, given)) := by
 unfold zfe
 rw [if_neg (show ¬ (i : Int) < (ws.length : Int) by omega)]
theorem ypq {ws : List ByteArray} (h : WsOk ws) {us : List (ByteArray × Int)} {i n : Nat} {b : Int} (h1 : numW ws i = some n) (h2 : zce us ws ((i + 1 : Nat) : Int) = some b) : z62 us ws (i : Int) = some (.inr (wi64 ((n : Int) * b))) := by
 rw [yov h, h1]
 simp only []
 rw [h2]
theorem yqx {n : Int} (h0 : 0 ≤ n) (h1 : n ≤ 20000) (h2 : Int.tmod n 10 = 0) : 0 ≤ flr n ∧ flr n ≤ 2000 ∧ flr n * 10 = n := by
 unfold flr
 rw [if_neg (by omega), Int.tdiv_eq_ediv_of_nonneg h0]
 rw [Int.tmod_eq_emod_of_nonneg h0] at h2
 omega
theorem yow {n : Int} {v : Nat} (h : Lib.itoa n = Lib.decDigits v) : noC 32 (Lib.itoa n) := by rw [h]; exact yk7 v
theorem yon {l : List UInt8} (h : l.all (fun b => !(b == 32)) = true) : noC 32 l := fun b hb e => by
 have := List.all_eq_true.1 h b hb
 rw [e] at this
 cases this
set_option maxHeartbeats 2000000 in
theorem yqc {o : z01} (hs : o.1.size ≤ 30) (hI : OrdI o) (h : ordE o = 0) : z4a (bof (ordT o)) = some (o, 0, 0) := by
 have hE := h
 have hlen := ypz hs hI
 unfold ordE at h
 cases hn : zqt o.1 with
 | false => rw [hn] at h; cases h
 | true =>
 rw [hn, cond_true] at h
 cases hb : ordB o with
 | false => rw [hb] at h; cases h
 | true =>
 rw [hb, cond_true] at h
 cases hle : decide (o.2.2.2.2.2.1.1 ≤ o.2.2.2.2.2.1.2) with
 | false => rw [hle] at h; cases h
 | true =>
 rw [hle, cond_true] at h
 cases ht : (Int.tmod o.2.2.2.2.2.1.1 10 == 0) && (Int.tmod o.2.2.2.2.2.1.2 10 == 0) with
 | false => rw [ht] at h; cases h
 | true =>
 rw [ht, cond_true] at h
 cases hd : inR o.2.2.2.2.2.2 0 100000 with
 | false => rw [hd] at h; cases h
 | true =>
 clear h
 rw [Bool.and_eq_true, beq_iff_eq, beq_iff_eq] at ht
 unfold ordB inR at hb
 unfold inR at hd
 simp only [Bool.and_eq_true, decide_eq_true_eq] at hb hd
 obtain ⟨⟨⟨⟨⟨hg, hth⟩, htol⟩, hwi⟩, hlo⟩, hhi⟩ := hb
 have hwt : wi64 (o.2.2.1 - 1) = o.2.2.1 - 1 := z0j (by omega) (by omega)
 rw [hwt] at htol
 obtain ⟨q1, q2, q3⟩ := yqx hlo.1 hlo.2 ht.1
 obtain ⟨p1, p2, p3⟩ := yqx hhi.1 hhi.2 ht.2
 obtain ⟨v1, a1, b1, c1⟩ := yl0 (k := 0) (n := o.2.1) (by omega) (by omega)
 obtain ⟨v2, a2, b2, c2⟩ := yl0 (k := 0) (n := o.2.2.1) (by omega) (by omega)
 obtain ⟨v3, a3, b3, c3⟩ := yl0 (k := 0) (n := o.2.2.2.1) (by omega) (by omega)
 obtain ⟨v4, a4, b4, c4⟩ := yl0 (k := 0) (n := o.2.2.2.2.1) (by omega) (by omega)
 obtain ⟨v5, a5, b5, c5⟩ := yl0 (k := 0) (n := flr o.2.2.2.2.2.1.1) (by omega) (by omega)
 obtain ⟨v6, a6, b6, c6⟩ := yl0 (k := 0) (n := flr o.2.2.2.2.2.1.2) (by omega) (by omega)
 obtain ⟨v7, a7, b7, c7⟩ := yl0 (k := 0) (n := o.2.2.2.2.2.2) (by omega) (by omega)
 obtain ⟨m1, m2, m3⟩ := yne hn
 have hno : ∀ x ∈ ordW o, noC 32 x := by
  unfold ordW
  intro x hx
  simp only [List.mem_cons, List.not_mem_nil, or_false] at hx
  rcases hx with rfl | rfl | rfl | rfl | rfl | rfl | rfl | rfl | rfl | rfl | rfl | rfl | rfl | rfl | rfl | rfl | rfl | rfl | rfl
  ·exact m1
  ·exact yon rfl
  ·exact yow b1
  ·exact yon rfl
  ·exact yow b2
  ·exact yon rfl
  ·exact yon rfl
  ·exact yow b3
  ·exact yon rfl
  ·exact yon rfl
  ·exact yow b4
  ·exact yon rfl
  ·exact yon rfl
  ·exact yow b5
  ·exact yon rfl
  ·exact yow b6
  ·exact yon rfl
  ·exact yon rfl
  ·exact yow b7
 have hpc : pcs 32 (ordT o) = ordW o := yqe (by unfold ordW; exact List.cons_ne_nil _ _) hno
 have hok : WsOk ((ordW o).map bof) := by
  refine ⟨fun w hw => ?_, by rw [List.length_map]; show 19 ≤ 60001; omega⟩
  obtain ⟨p, hp, rfl⟩ := List.mem_map.1 hw
  have := yl3 (c := 32) (l := ordT o) (p := p) (by rw [hpc]; exact hp)
  rw [yjv]; omega
 unfold z4a
 rw [show strings_Split (bof (ordT o)) (bytes [32]) = y06 ⟨#[32]⟩ (bof (ordT o)) from rfl, ymn (by rw [yjv]; omega), Option.bind_some, ykf, hpc]
 obtain ⟨W, hW⟩ : ∃ W, W = (ordW o).map bof := ⟨_, rfl⟩
 rw [← hW] at hok ⊢
 have wl : W.length = 19 := by rw [hW]; rfl
 have w0 : wd W 0 = o.1 := by rw [hW]; exact ykh _
 have n1 : numW W 2 = some v1 := by rw [hW]; exact c1
 have n2 : numW W 4 = some v2 := by rw [hW]; exact c2
 have n3 : numW W 7 = some v3 := by rw [hW]; exact c3
 have n4 : numW W 10 = some v4 := by rw [hW]; exact c4
 have n5 : numW W 13 = some v5 := by rw [hW]; exact c5
 have n6 : numW W 15 = some v6 := by rw [hW]; exact c6
 have n7 : numW W 18 = some v7 := by rw [hW]; exact c7
 have k1 : z9a (wd W 1) = some 0 := by rw [yoc, hW]; rfl
 have k2 : z9a (wd W 3) = some 1 := by rw [yoc, hW]; rfl
 have k3 : z9a (wd W 6) = some 2 := by rw [yoc, hW]; rfl
 have k4 : z9a (wd W 9) = some 3 := by rw [yoc, hW]; rfl
 have k5 : z9a (wd W 12) = some 4 := by rw [yoc, hW]; rfl
 have k6 : z9a (wd W 17) = some 5 := by rw [yoc, hW]; rfl
 have isw : ∀ (i : Nat) (p : ByteArray), i < 19 → wd W i = p → isW W i p = true := fun i p hi hp => by
  unfold isW
  rw [z07 (by omega), hp, ylq]; rfl
 have u2 : zce zmv W ((5 : Nat) : Int) = some 1 := by rw [yp7, isw 5 (bytes [117, 109]) (by omega) (by rw [hW]; rfl)]; rfl
 have u3 : zce zmv W ((8 : Nat) : Int) = some 1 := by rw [yp7, isw 8 (bytes [117, 109]) (by omega) (by rw [hW]; rfl)]; rfl
 have u4 : zce unMm W ((11 : Nat) : Int) = some 1 := by unfold unMm; rw [yp3, isw 11 (bytes [109, 109]) (by omega) (by rw [hW]; rfl)]; rfl
 have u5 : zce unTo W ((14 : Nat) : Int) = some 10 := by unfold unTo; rw [yp3, isw 14 (bytes [116, 111]) (by omega) (by rw [hW]; rfl)]; rfl
 have u6 : zce unC W ((16 : Nat) : Int) = some 10 := by unfold unC; rw [yp3, isw 16 (bytes [67]) (by omega) (by rw [hW]; rfl)]; rfl
 have r1 : ∀ z : z01, zyj 0 W z ((1 + 1 : Nat) : Int) = some (.inr ((z.1, ((v1 : Int), z.2.2)), ((3 : Nat) : Int))) := fun z => by
  show (zer W ((2 : Nat) : Int)).bind _ = _
  rw [yom hok, n1]; rfl
 have r2 : ∀ z : z01, zyj 1 W z ((3 + 1 : Nat) : Int) = some (.inr ((z.1, (z.2.1, ((v2 : Int), z.2.2.2))), ((6 : Nat) : Int))) := fun z => by
  show (z62 zmv W ((4 : Nat) : Int)).bind _ = _
  rw [ypq hok n2 u2, Int.mul_one, z0j (by omega) (by omega)]; rfl
 have r3 : ∀ z : z01, zyj 2 W z ((6 + 1 : Nat) : Int) = some (.inr ((z.1, (z.2.1, (z.2.2.1, ((v3 : Int), z.2.2.2.2)))), ((9 : Nat) : Int))) := fun z => by
  show (z62 zmv W ((7 : Nat) : Int)).bind _ = _
  rw [ypq hok n3 u3, Int.mul_one, z0j (by omega) (by omega)]; rfl
 have r4 : ∀ z : z01, zyj 3 W z ((9 + 1 : Nat) : Int) = some (.inr ((z.1, (z.2.1, (z.2.2.1, (z.2.2.2.1, ((v4 : Int), z.2.2.2.2.2))))), ((12 : Nat) : Int))) := fun z => by
  show (z62 unMm W ((10 : Nat) : Int)).bind _ = _
  rw [ypq hok n4 u4, Int.mul_one, z0j (by omega) (by omega)]; rfl
 have r5 : ∀ z : z01, zyj 4 W z ((12 + 1 : Nat) : Int) = some (.inr ((z.1, (z.2.1, (z.2.2.1, (z.2.2.2.1, (z.2.2.2.2.1, ((o.2.2.2.2.2.1.1, o.2.2.2.2.2.1.2), z.2.2.2.2.2.2)))))), ((17 : Nat) : Int))) := fun z => by
  have e5 : wi64 ((v5 : Int) * 10) = o.2.2.2.2.2.1.1 := by rw [← a5, q3, z0j (by omega) (by omega)]
  have e6 : wi64 ((v6 : Int) * 10) = o.2.2.2.2.2.1.2 := by rw [← a6, p3, z0j (by omega) (by omega)]
  show (z62 unTo W ((13 : Nat) : Int)).bind _ = _
  rw [ypq hok n5 u5, Option.bind_some]
  show (z62 unC W ((15 : Nat) : Int)).bind _ = _
  rw [ypq hok n6 u6, Option.bind_some, e5, e6]; rfl
 have r6 : ∀ z : z01, zyj 5 W z ((17 + 1 : Nat) : Int) = some (.inr ((z.1, (z.2.1, (z.2.2.1, (z.2.2.2.1, (z.2.2.2.2.1, (z.2.2.2.2.2.1, (v7 : Int))))))), ((19 : Nat) : Int))) := fun z => by
  show (zer W ((18 : Nat) : Int)).bind _ = _
  rw [yom hok, n7]; rfl
 rw [show z1b W 0 = wd W 0 from yoi 0, w0, y1f (by omega), hn, Option.bind_some, Bool.not_true, cond_false, wl]
 rw [show (1 : Int) = ((1 : Nat) : Int) from rfl]
 rw [show (19 + 1 : Nat) = 13 + 1 + 1 + 1 + 1 + 1 + 1 + 1 from rfl]
 rw [ype (by omega) k1 rfl (r1 _), ype (by omega) k2 rfl (r2 _), ype (by omega) k3 rfl (r3 _), ype (by omega) k4 rfl (r4 _), ype (by omega) k5 rfl (r5 _), ype (by omega) k6 rfl (r6 _), yrv wl.symm, Option.bind_some]
 simp only []
 have hO : (o.1, ((v1 : Int), ((v2 : Int), ((v3 : Int), ((v4 : Int), ((o.2.2.2.2.2.1.1, o.2.2.2.2.2.1.2), (v7 : Int))))))) = o := by
  rw [← a1, ← a2, ← a3, ← a4, ← a7]
 rw [hO]
 show (z13 o).bind _ = _
 rw [zqc (by omega), Option.bind_some, hE]
 rfl
theorem yqy (o : z01) : Ty.eqb z0i o o = true := by
 show (seqb o.1 o.1 && ((o.2.1 == o.2.1) && ((o.2.2.1 == o.2.2.1) && ((o.2.2.2.1 == o.2.2.2.1) && ((o.2.2.2.2.1 == o.2.2.2.2.1) && (((o.2.2.2.2.2.1.1 == o.2.2.2.2.2.1.1) && (o.2.2.2.2.2.1.2 == o.2.2.2.2.2.1.2)) && (o.2.2.2.2.2.2 == o.2.2.2.2.2.2))))))) = true
 rw [ylq, beq_self_eq_true, beq_self_eq_true, beq_self_eq_true, beq_self_eq_true, beq_self_eq_true, beq_self_eq_true, beq_self_eq_true]
 rfl
theorem ypj (hw : z7b = some true) {o : z01} {s : ByteArray} (h : OrdI o) : yo9 o s = some true := by
 unfold yo9
 rw [hw, Option.bind_some, Bool.not_true, cond_false]
 cases hc : (decide ((ByteArray.size o.1 : Int) > 30)) || (decide ((ByteArray.size s : Int) > 200)) with
 | true => rw [cond_true]
 | false =>
  rw [Bool.or_eq_false_iff, decide_eq_false_iff_not, decide_eq_false_iff_not] at hc
  have h30 : o.1.size ≤ 30 := by omega
  obtain ⟨z, z1, z2⟩ := yqh (s := s) (by omega)
  rw [cond_false, ypu h30 h, Option.bind_some, z1, Option.bind_some, z2, Option.bind_some, y4a (by omega), Option.bind_some, zqc (by omega), Option.bind_some, show (ordE o != ordE o) = false by simp, cond_false, ypi h30 h, Option.bind_some, Option.bind_some, ylq, yqy]
  rw [show (z.2.2 != z.2.2) = false by simp, show (z.2.1 != z.2.1) = false by simp]
  show (bif ((false || false) || false) || false then some false else _) = some true
  rw [Bool.false_or, Bool.false_or, Bool.false_or, cond_false]
  cases he : ordE o != 0 with
  | true => rfl
  | false =>
   have h0 : ordE o = 0 := by simpa using he
   rw [cond_false, yqc h30 h h0, Option.bind_some]
   show some ((((0 : Int) == 0) && Ty.eqb z0i o o) && ((0 : Int) == 0)) = some true
   rw [yqy]
   rfl
end Go.Lift
