/-
  A slab, read and written; the law holds of the plain functions.
-/
import Derived.Test.YtggnjngdmadbaaaGreatDoorSlA
set_option linter.unusedSectionVars false
set_option linter.unusedVariables false
set_option linter.unusedSimpArgs false
namespace Go.Lift
open Go
def yl9 (a : ByteArray) (o : Nat → Option Nat) : Option z09 := match o 1 with
 | none => none
 | some x => match o 2 with
  | none => none
  | some y => match o 3 with
   | none => none
   | some z => match o 4 with
    | none => none
    | some u => some (a, ((x : Int), ((y : Int), ((z : Int), (u : Int)))))
def yn9 (ws : List (List UInt8)) : Option z09 := bif ((ws.length : Int) != 5) || seqb (bof (ws.getD 0 [])) ByteArray.empty then none else yl9 (bof (ws.getD 0 [])) fun i => numL (ws.getD i [])
def ymd : Option z09 → z09 × Int
 | none => (yj6, 7)
 | some s => bif zc5 s != 0 then (yj6, zc5 s) else (s, 0)
def ylo (l : List UInt8) : z09 × Int := ymd (yn9 (pcs 32 l))
theorem ykz {ws : List (List UInt8)} (k : Nat) : lget ByteArray.empty (ws.map bof) (k : Int) = bof (ws.getD k []) := by
 unfold lget
 rw [Int.toNat_natCast, List.getD_eq_getElem?_getD, List.getD_eq_getElem?_getD, List.getElem?_map]
 cases ws[k]? with
 | none => rfl
 | some x => rfl
theorem ylh {ws : List (List UInt8)} {N : Nat} (h : ∀ w ∈ ws, w.length ≤ N) (k : Nat) : (ws.getD k []).length ≤ N := by
 rw [List.getD_eq_getElem?_getD]
 cases e : ws[k]? with
 | none => exact Nat.zero_le _
 | some x => exact h x (List.mem_of_getElem? e)
theorem yle {ws : List ByteArray} {n k : Nat} {y : z09} {r : Int × Bool} (h : z6x (lget ByteArray.empty ws ((k : Int) + 1)) = some r) : ykq ws (n + 1) k y = bif !r.2 then some none else ykq ws n (k + 1) (yjt k r.1 y) := by
 show (z6x (lget ByteArray.empty ws ((k : Int) + 1))).bind _ = _
 rw [h, Option.bind_some]
theorem rd_ok {ws : List (List UInt8)} (hN : ∀ w ∈ ws, w.length ≤ 60000) (a : ByteArray) : ykq (ws.map bof) 4 0 (a, (0, (0, (0, 0)))) = some (yl9 a fun i => numL (ws.getD i [])) := by
 have num : ∀ k : Nat, ∃ r : Int × Bool, z6x (lget ByteArray.empty (ws.map bof) ((k : Int) + 1)) = some r ∧ (∀ n, numL (ws.getD (k + 1) []) = some n → r = ((n : Int), true)) ∧ (numL (ws.getD (k + 1) []) = none → r.2 = false) := fun k => by
  have := yn0 (s := bof (ws.getD (k + 1) [])) (by rw [yjv]; exact ylh hN _)
  rw [show ((k : Int) + 1) = ((k + 1 : Nat) : Int) from rfl, ykz]
  exact this
 unfold yl9
 simp only []
 obtain ⟨r1, a1, b1, c1⟩ := num 0
 rw [yle a1]
 cases e1 : numL (ws.getD 1 []) with
 | none => rw [c1 e1]; rfl
 | some n1 =>
  rw [b1 n1 e1, Bool.not_true, cond_false]
  obtain ⟨r2, a2, b2, c2⟩ := num 1
  rw [yle a2]
  cases e2 : numL (ws.getD 2 []) with
  | none => rw [c2 e2]; rfl
  | some n2 =>
   rw [b2 n2 e2, Bool.not_true, cond_false]
   obtain ⟨r3, a3, b3, c3⟩ := num 2
   rw [yle a3]
   cases e3 : numL (ws.getD 3 []) with
   | none => rw [c3 e3]; rfl
   | some n3 =>
    rw [b3 n3 e3, Bool.not_true, cond_false]
    obtain ⟨r4, a4, b4, c4⟩ := num 3
    rw [yle a4]
    cases e4 : numL (ws.getD 4 []) with
    | none => rw [c4 e4]; rfl
    | some n4 => rw [b4 n4 e4, Bool.not_true, cond_false]; rfl
theorem yme {a : ByteArray} {o : Nat → Option Nat} {s : z09} (h : yl9 a o = some s) : s.1 = a := by
 unfold yl9 at h
 split at h
 ·cases h
 ·split at h
  ·cases h
  ·split at h
   ·cases h
   ·split at h
    ·cases h
    ·injection h with h; rw [← h]
theorem ykt {s : ByteArray} (hs : s.size ≤ 60000) : yj4 s = some (ylo s.data.toList) := by
 have hsz := yjk s
 have hN : ∀ w ∈ pcs 32 s.data.toList, w.length ≤ 60000 := fun w hw => by have := yl3 hw; omega
 unfold yj4 ylo yn9
 rw [show strings_Split s (bytes [32]) = y06 ⟨#[32]⟩ s from rfl, ymn (by omega), Option.bind_some, List.length_map]
 generalize pcs 32 s.data.toList = ws at hN ⊢
 rw [show lget ByteArray.empty (ws.map bof) 0 = bof (ws.getD 0 []) from ykz 0]
 cases hb : ((ws.length : Int) != 5) || seqb (bof (ws.getD 0 [])) ByteArray.empty with
 | true => rw [cond_true, cond_true]; rfl
 | false =>
  rw [cond_false, cond_false, rd_ok hN, Option.bind_some]
  cases hn : yl9 (bof (ws.getD 0 [])) fun i => numL (ws.getD i []) with
  | none => rfl
  | some x =>
   have hx := yme hn
   simp only []
   rw [zs5 (by rw [hx, yjv]; have := ylh hN 0; omega), Option.bind_some]
   unfold ymd
   simp only []
   cases zc5 x != 0 <;> rfl
def yls (o : Nat → Option Nat) : Nat → Nat → List Int → Option (List Int)
 | 0, _, l => some l
 | n + 1, i, l => match o i with | none => none | some v => yls o n (i + 1) (l ++ [(v : Int)])
theorem yn1 {t : List ByteArray} (ht : t.length = 5) {o : Nat → Option Nat} (ho : ∀ i : Nat, i < 5 → ∃ r : Int × Bool, yj7 (lget ByteArray.empty t (i : Int)) = some r ∧ (∀ n, o i = some n → r = ((n : Int), true)) ∧ (o i = none → r.2 = false)) :
  ∀ (n i : Nat) (l : List Int), i + n = 5 → l.length ≤ i → z2d (S := (List Int) × Int) (R := ((List Int)) ⊕ (z09 × Int)) (fun s =>
   let l : (List Int) := s.1
   let i : Int := s.2
   bif decide (i < 5) then
    chk (decide ((0 : Int) ≤ i) && decide (i < (List.length t : Int))) (
     (yj7 (lget ByteArray.empty t i)).bind fun (r : Int × Bool) =>
     bif !r.2 then
      Option.map Sum.inr (Option.map Sum.inr (
       some ((ByteArray.empty, (0, (0, (0, 0)))), 7)))
     else
      (app l [r.1]).bind fun (t_1 : List Int) =>
      some (.inl (t_1, wi64 (i + 1))))
   else
    some (.inr (.inl l))) (l, (i : Int)) = some (match yls o n i l with | some l' => .inl l' | none => .inr (yj6, 7)) := by
 intro n
 induction n with
 | zero =>
  intro i l hi _
  refine zhp ?_
  simp only []
  rw [z0v (show ¬ (i : Int) < 5 by omega), cond_false]
  rfl
 | succ n ih =>
  intro i l hi hl
  obtain ⟨r, h1, h2, h3⟩ := ho i (by omega)
  unfold yls
  cases e : o i with
  | none =>
   refine zhp ?_
   simp only []
   rw [z07 (show (i : Int) < 5 by omega), cond_true, z18 (zi5 (z07 (by omega)) (z07 (by omega))), h1, Option.bind_some, h3 e]
   rfl
  | some v =>
   simp only []
   rw [zqw (s' := (l ++ [(v : Int)], ((i + 1 : Nat) : Int)))]
   ·exact ih (i + 1) (l ++ [(v : Int)]) (by omega) (by rw [List.length_append, List.length_singleton]; omega)
   ·simp only []
    rw [z07 (show (i : Int) < 5 by omega), cond_true, z18 (zi5 (z07 (by omega)) (z07 (by omega))), h1, Option.bind_some, h2 v e, Bool.not_true, cond_false, zlc (by rw [List.length_singleton]; omega), Option.bind_some, z0j (by omega) (by omega)]
    rfl
theorem yl8 {s : ByteArray} (hs : s.size ≤ 60000) : yjj s = some (ylo s.data.toList) := by
 have hsz := yjk s
 have hN : ∀ w ∈ pcs 32 s.data.toList, w.length ≤ 60000 := fun w hw => by have := yl3 hw; omega
 unfold yjj ylo yn9
 rw [show ylc s 32 = some ((pcs 32 s.data.toList).map bof) from Cut_ok (c := 32) hs, Option.bind_some, List.length_map]
 generalize pcs 32 s.data.toList = ws at hN ⊢
 rw [show lget ByteArray.empty (ws.map bof) 0 = bof (ws.getD 0 []) from ykz 0]
 cases h5 : ((ws.length : Int) != 5) with
 | true => rw [cond_true, Option.bind_some, cond_true, Bool.true_or, cond_true]; rfl
 | false =>
  have hl : (ws.length : Int) = 5 := by simpa using h5
  rw [cond_false, z18 (by rw [hl]; rfl), Option.bind_some, Bool.false_or]
  cases h0 : seqb (bof (ws.getD 0 [])) ByteArray.empty with
  | true => rw [cond_true, cond_true]; rfl
  | false =>
   rw [cond_false, cond_false]
   have hlo := yn1 (t := ws.map bof) (by rw [List.length_map]; omega) (o := fun i => numL (ws.getD i [])) (fun i _ => by
    rw [ykz]
    exact yl4 (s := bof (ws.getD i [])) (by rw [yjv]; exact ylh hN _)) 4 1 [] rfl (Nat.zero_le _)
   rw [List.length_map] at hlo
   rw [show (((1 : Nat) : Int)) = 1 from rfl] at hlo
   rw [hlo, Option.bind_some]
   unfold yl9
   simp only []
   unfold yls
   simp only []
   cases e1 : numL (ws.getD 1 []) with
   | none => rfl
   | some n1 =>
    unfold yls
    simp only []
    cases e2 : numL (ws.getD 2 []) with
    | none => rfl
    | some n2 =>
     unfold yls
     simp only []
     cases e3 : numL (ws.getD 3 []) with
     | none => rfl
     | some n3 =>
      unfold yls
      simp only []
      cases e4 : numL (ws.getD 4 []) with
      | none => rfl
      | some n4 =>
       unfold yls
       simp only [List.nil_append, List.cons_append, List.length_cons, List.length_nil]
       have hz := ylh hN 0
       rw [z18 (by rw [hl]; rfl), z18 (by rfl), z18 (by rfl), z18 (by rfl), z18 (by rfl)]
       show (zhl (bof (ws.getD 0 []), ((n1 : Int), ((n2 : Int), ((n3 : Int), (n4 : Int)))))).bind _ = _
       rw [y7v (by rw [yjv]; omega), Option.bind_some]
       show (bif zc5 (bof (ws.getD 0 []), ((n1 : Int), ((n2 : Int), ((n3 : Int), (n4 : Int))))) != 0 then _ else _) = some (ymd (some (bof (ws.getD 0 []), ((n1 : Int), ((n2 : Int), ((n3 : Int), (n4 : Int)))))))
       unfold ymd
       simp only []
       cases zc5 (bof (ws.getD 0 []), ((n1 : Int), ((n2 : Int), ((n3 : Int), (n4 : Int))))) != 0 <;> rfl
end Go.Lift
namespace Go.Lift
open Go
def fmtL (s : z09) : List UInt8 := s.1.data.toList ++ (32 :: (Lib.itoa s.2.1 ++ (32 :: (Lib.itoa s.2.2.1 ++ (32 :: (Lib.itoa s.2.2.2.1 ++ (32 :: Lib.itoa s.2.2.2.2)))))))
def yn7 (s : z09) : Prop := W64I s.2.1 ∧ W64I s.2.2.1 ∧ W64I s.2.2.2.1 ∧ W64I s.2.2.2.2
theorem ym3 {s : z09} (h1 : s.1.size ≤ 30) (h : yn7 s) : (fmtL s).length ≤ 118 := by
 have a := yjm h.1
 have b := yjm h.2.1
 have c := yjm h.2.2.1
 have d := yjm h.2.2.2
 rw [yjk] at h1
 unfold fmtL
 simp only [List.length_append, List.length_cons]
 omega
theorem join5 (a b c d e : List UInt8) : Lib.join [a, b, c, d, e] [32] = a ++ (32 :: (b ++ (32 :: (c ++ (32 :: (d ++ (32 :: e))))))) := by
 rw [Lib.join_cons]
 simp [Lib.joinTail]
theorem ylm {s : z09} (h1 : s.1.size ≤ 30) (h : yn7 s) : yj9 s = some (bof (fmtL s)) := by
 have hf := ym3 h1 h
 obtain ⟨ha, hb, hc, hd⟩ := h
 unfold yj9
 have hn : bof s.1.data.toList = s.1 := ykh _
 obtain ⟨p, hp⟩ : ∃ p : Nat → Int, p = aset (aset (aset (aset (fun _ => 0) 0 s.2.1) 1 s.2.2.1) 2 s.2.2.2.1) 3 s.2.2.2.2 := ⟨_, rfl⟩
 have p0 : aget p 0 = s.2.1 := by rw [hp]; rfl
 have p1 : aget p 1 = s.2.2.1 := by rw [hp]; rfl
 have p2 : aget p 2 = s.2.2.2.1 := by rw [hp]; rfl
 have p3 : aget p 3 = s.2.2.2.2 := by rw [hp]; rfl
 rw [← hp]
 have step : ∀ (w : List ByteArray) (t : Nat) (n : Int), t < 4 → w.length ≤ 10 → aget p (t : Int) = n → W64I n → (fun (s_1 : (List ByteArray) × Int) =>
  let w : (List ByteArray) := s_1.1
  let t : Int := s_1.2
  bif decide (t < 4) then
   chk (decide ((0 : Int) ≤ t) && decide ((t : Int) < 4)) (
    let n : Int := aget p t
    (strconv_Itoa n).bind fun (t_1 : ByteArray) =>
    (app w [t_1]).bind fun (t_2 : List ByteArray) =>
    some (.inl (t_2, wi64 (t + 1))))
  else
   some (.inr w)) (w, (t : Int)) = some (Sum.inl (β := List ByteArray) (w ++ [bof (Lib.itoa n)], ((t + 1 : Nat) : Int))) := fun w t n ht hw hg hn => by
  simp only []
  rw [z07 (show (t : Int) < 4 by omega), cond_true, z18 (zi5 (z07 (by omega)) rfl), hg, yn8 hn.1 hn.2, Option.bind_some, zlc (by rw [List.length_singleton]; omega), Option.bind_some, z0j (by omega) (by omega)]
  rfl
 rw [zqw (step [s.1] 0 s.2.1 (by omega) (by simp) p0 ha), zqw (step _ 1 s.2.2.1 (by omega) (by simp) p1 hb), zqw (step _ 2 s.2.2.2.1 (by omega) (by simp) p2 hc), zqw (step _ 3 s.2.2.2.2 (by omega) (by simp) p3 hd), zhp (r := [s.1] ++ [bof (Lib.itoa s.2.1)] ++ [bof (Lib.itoa s.2.2.1)] ++ [bof (Lib.itoa s.2.2.2.1)] ++ [bof (Lib.itoa s.2.2.2.2)]) (by rfl), Option.bind_some]
 have hl : [s.1] ++ [bof (Lib.itoa s.2.1)] ++ [bof (Lib.itoa s.2.2.1)] ++ [bof (Lib.itoa s.2.2.2.1)] ++ [bof (Lib.itoa s.2.2.2.2)] = [s.1.data.toList, Lib.itoa s.2.1, Lib.itoa s.2.2.1, Lib.itoa s.2.2.2.1, Lib.itoa s.2.2.2.2].map bof := by
  simp only [List.map_cons, List.map_nil, hn]
  rfl
 have hj := join5 s.1.data.toList (Lib.itoa s.2.1) (Lib.itoa s.2.2.1) (Lib.itoa s.2.2.2.1) (Lib.itoa s.2.2.2.2)
 rw [hl, show bytes [32] = bof [32] from rfl, yo4 (by simp) (by rw [hj]; show (fmtL s).length ≤ _; omega), Option.bind_some, hj]
 rfl
theorem ykw {s : z09} (h1 : s.1.size ≤ 30) (h : yn7 s) : yjg s = some (bof (fmtL s)) := by
 have hf := ym3 h1 h
 obtain ⟨ha, hb, hc, hd⟩ := h
 have a := yjm ha
 have b := yjm hb
 have c := yjm hc
 have d := yjm hd
 have hz : s.1.data.toList.length ≤ 30 := by rw [← yjk]; exact h1
 unfold yjg
 have hn : bof s.1.data.toList = s.1 := ykh _
 rw [show cat s.1 (bytes [32]) = cat (bof s.1.data.toList) (bof [32]) by rw [hn]; rfl, show bytes [32] = bof [32] from rfl, yjp (by rw [List.length_singleton]; omega), Option.bind_some, yk9 ha, Option.bind_some, yjp (by simp only [List.length_append, List.length_cons, List.length_nil]; omega), Option.bind_some, yjp (by simp only [List.length_append, List.length_cons, List.length_nil]; omega), Option.bind_some, yk9 hb, Option.bind_some, yjp (by simp only [List.length_append, List.length_cons, List.length_nil]; omega), Option.bind_some, yjp (by simp only [List.length_append, List.length_cons, List.length_nil]; omega), Option.bind_some, yk9 hc, Option.bind_some, yjp (by simp only [List.length_append, List.length_cons, List.length_nil]; omega), Option.bind_some, yjp (by simp only [List.length_append, List.length_cons, List.length_nil]; omega), Option.bind_some, yk9 hd, Option.bind_some, yjp (by simp only [List.length_append, List.length_cons, List.length_nil]; omega), Option.bind_some]
 unfold fmtL
 simp
theorem yk7 (n : Nat) : noC 32 (Lib.decDigits n) := fun b hb => by
 have := List.all_eq_true.1 (ykn n).1.2.1 b hb
 have h := yju.1 this
 intro e
 rw [e] at h
 exact absurd h.1 (by decide)
theorem ylt : ∀ {l : List Int} {i : Nat}, zp4 i l = true → ∀ c ∈ l, c ≠ 32
 | [], _, _, c, h => by cases h
 | x :: l, i, hn, c, h => by
  unfold zp4 at hn
  rw [Bool.and_eq_true] at hn
  rcases List.mem_cons.1 h with rfl | h
  ·have := hn.1
   unfold nameAt at this
   simp only [Bool.or_eq_true, Bool.and_eq_true, decide_eq_true_eq] at this
   omega
  ·exact ylt hn.2 c h
theorem yne {s : ByteArray} (h : zqt s = true) : noC 32 s.data.toList ∧ s.data.toList ≠ [] ∧ s.size ≤ 12 := by
 unfold zqt at h
 rw [Bool.and_eq_true, decide_eq_true_eq] at h
 refine ⟨fun b hb e => ?_, fun e => ?_, by omega⟩
 ·have hm : ((b.toNat : Nat) : Int) ∈ z3y s := by unfold z3y; exact List.mem_map.2 ⟨b, hb, rfl⟩
  refine ylt h.1 _ hm ?_
  rw [e]; rfl
 ·have := yjk s
  rw [e, List.length_nil] at this
  omega
theorem pcs5 {a b c d e : List UInt8} (ha : noC 32 a) (hb : noC 32 b) (hc : noC 32 c) (hd : noC 32 d) (he : noC 32 e) : pcs 32 (a ++ (32 :: (b ++ (32 :: (c ++ (32 :: (d ++ (32 :: e)))))))) = [a, b, c, d, e] := by
 rw [yjl (yk8 ha), yjl (yk8 hb), yjl (yk8 hc), yjl (yk8 hd), yk5 (ym4 he)]
theorem ylb : ∀ (k v : Nat), v < 10 ^ (k + 1) → (Lib.decDigits v).length ≤ k + 1
 | 0, v, h => by rw [Lib.decDigits_one (by simpa using h)]; exact Nat.le_refl _
 | k + 1, v, h => by
  by_cases h1 : v < 10
  ·rw [Lib.decDigits_one h1, List.length_singleton]; omega
  ·rw [Lib.decDigits, dif_neg h1, List.length_append, List.length_singleton]
   have := ylb k (v / 10) (by rw [Nat.pow_succ] at h; omega)
   omega
theorem yl0 {n : Int} {k : Nat} (h0 : 0 ≤ n) (h1 : n < 1000000) : ∃ v : Nat, n = (v : Int) ∧ Lib.itoa n = Lib.decDigits v ∧ numL (Lib.itoa n) = some v := by
 obtain ⟨v, rfl⟩ : ∃ v : Nat, n = (v : Int) := ⟨n.toNat, by omega⟩
 refine ⟨v, rfl, ykd v, ?_⟩
 rw [ykd]
 refine ylg.2 ⟨rfl, ?_⟩
 exact ylb 5 v (by show v < 1000000; omega)
theorem ymc {s : z09} (h : zc5 s = 0) : ylo (fmtL s) = (s, 0) := by
 unfold zc5 at h
 cases hn : zqt s.1 with
 | false => rw [hn] at h; cases h
 | true =>
  rw [hn, cond_true] at h
  cases hb : y8b s with
  | false => rw [hb] at h; cases h
  | true =>
   have hb' := hb
   unfold y8b inR at hb
   simp only [Bool.and_eq_true, decide_eq_true_eq] at hb
   obtain ⟨x, x1, x2, x3⟩ := yl0 (k := 0) (n := s.2.1) (by omega) (by omega)
   obtain ⟨y, y1, y2, y3⟩ := yl0 (k := 0) (n := s.2.2.1) (by omega) (by omega)
   obtain ⟨z, z1, z2, z3⟩ := yl0 (k := 0) (n := s.2.2.2.1) (by omega) (by omega)
   obtain ⟨u, u1, u2, u3⟩ := yl0 (k := 0) (n := s.2.2.2.2) (by omega) (by omega)
   obtain ⟨m1, m2, m3⟩ := yne hn
   unfold ylo yn9 fmtL
   rw [pcs5 m1 (by rw [x2]; exact yk7 x) (by rw [y2]; exact yk7 y) (by rw [z2]; exact yk7 z) (by rw [u2]; exact yk7 u)]
   have hne : seqb (bof s.1.data.toList) ByteArray.empty = false := by
    rw [ykc, ykf]
    cases e : s.1.data.toList with
    | nil => exact absurd e m2
    | cons _ _ => rfl
   show ymd (bif ((((5 : Nat) : Int)) != 5) || seqb (bof s.1.data.toList) ByteArray.empty then none else yl9 (bof s.1.data.toList) fun i => numL ([s.1.data.toList, Lib.itoa s.2.1, Lib.itoa s.2.2.1, Lib.itoa s.2.2.2.1, Lib.itoa s.2.2.2.2].getD i [])) = (s, 0)
   rw [hne, show ((((5 : Nat) : Int)) != 5) = false from rfl, Bool.false_or, cond_false]
   have hN : (yl9 (bof s.1.data.toList) fun i => numL ([s.1.data.toList, Lib.itoa s.2.1, Lib.itoa s.2.2.1, Lib.itoa s.2.2.2.1, Lib.itoa s.2.2.2.2].getD i [])) = some s := by
    unfold yl9
    show (match numL (Lib.itoa s.2.1) with | none => none | some x => match numL (Lib.itoa s.2.2.1) with | none => none | some y => match numL (Lib.itoa s.2.2.2.1) with | none => none | some z => match numL (Lib.itoa s.2.2.2.2) with | none => none | some u => some (bof s.1.data.toList, ((x : Int), ((y : Int), ((z : Int), (u : Int)))))) = some s
    rw [x3, y3, z3, u3]
    simp only []
    rw [ykh, ← x1, ← y1, ← z1, ← u1]
   rw [hN]
   have hE : zc5 s = 0 := by unfold zc5; rw [hn, hb']; rfl
   unfold ymd
   simp only []
   rw [hE]
   rfl
theorem ylq (a : ByteArray) : seqb a a = true := by rw [ykc, beq_self_eq_true]
theorem yma (s : z09) : Ty.eqb z0o s s = true := by
 show (seqb s.1 s.1 && ((s.2.1 == s.2.1) && ((s.2.2.1 == s.2.2.1) && ((s.2.2.2.1 == s.2.2.2.1) && (s.2.2.2.2 == s.2.2.2.2))))) = true
 rw [ylq, beq_self_eq_true, beq_self_eq_true, beq_self_eq_true, beq_self_eq_true]
 rfl
theorem ykx (hw : z7b = some true) {s : z09} {text : ByteArray} (h : yn7 s) : yjb s text = some true := by
 unfold yjb
 rw [hw, Option.bind_some, Bool.not_true, cond_false]
 cases hc : (decide ((ByteArray.size s.1 : Int) > 30)) || (decide ((ByteArray.size text : Int) > 200)) with
 | true => rw [cond_true]
 | false =>
  rw [Bool.or_eq_false_iff, decide_eq_false_iff_not, decide_eq_false_iff_not] at hc
  have h30 : s.1.size ≤ 30 := by omega
  have hf := ym3 h30 h
  rw [cond_false, ylm h30 h, Option.bind_some, ykt (by omega), Option.bind_some, yl8 (by omega), Option.bind_some, y7v (by omega), Option.bind_some, zs5 (by omega), Option.bind_some, show (zc5 s != zc5 s) = false by simp, cond_false, ykw h30 h, Option.bind_some, Option.bind_some, ylq, yma]
  rw [show ((ylo text.data.toList).2 != (ylo text.data.toList).2) = false by simp]
  show (bif (false || false) || false then some false else _) = some true
  rw [Bool.false_or, Bool.false_or, cond_false]
  cases he : zc5 s != 0 with
  | true => rfl
  | false =>
   have h0 : zc5 s = 0 := by simpa using he
   rw [cond_false, ykt (by rw [yjv]; omega), Option.bind_some, ykf, ymc h0]
   show some (((0 : Int) == 0) && Ty.eqb z0o s s) = some true
   rw [yma]
   rfl
end Go.Lift
