/-
  Where an item is inserted; the minimum set of which no sequence holds.
-/
import Derived.Test.YtggnjngdmadbaaaGreatDoorClA
import Derived.Test.YtggnjngdmadbaaaGreatDoorCaK
set_option linter.unusedSectionVars false
set_option linter.unusedVariables false
set_option linter.unusedSimpArgs false
namespace Go.Lift
open Go
def insP (q : Int → Int → Int) (ok : List Int → Bool) (s : List Int) (last : Int) (st : Int × Int) (p : Int) : Int × Int := if ok (insI s p last) && (decide (st.1 < 0) || decide (zc8 q (insI s p last) < st.2)) then (p, zc8 q (insI s p last)) else st
def ygq (r : z02) (l : List z00) (s : List Int) : Int × Int := (upto (s.length + 1)).foldl (insP (z45 r l) (okP r l []) s ((l.length : Int) - 1)) (-1, 0)
theorem yhp {s : List Int} {p x : Int} (h0 : 0 ≤ p) (h1 : p ≤ s.length) : (insI s p x).length = s.length + 1 := by
 unfold insI
 simp only [List.length_append, List.length_take, List.length_cons, List.length_drop]
 omega
theorem yho {s : List Int} {p x y : Int} (h : y ∈ insI s p x) : y = x ∨ y ∈ s := by
 unfold insI at h
 rcases List.mem_append.1 h with h | h
 ·exact Or.inr (List.mem_of_mem_take h)
 ·rcases List.mem_cons.1 h with h | h
  ·exact Or.inl h
  ·exact Or.inr (List.mem_of_mem_drop h)
theorem yia {r : z02} {l : List z00} {s : List Int} (hs : s.length ≤ 1000000) (hin : ∀ i ∈ s, 0 ≤ i ∧ i < (l.length : Int)) : yfm (r, l) s = some (okP r l [] s) := by
 unfold yfm
 rw [zrn hs hin, Option.bind_some, y9j]
theorem yh3 {r : z02} {l : List z00} {s : List Int} (hs : s.length ≤ 1000) (hl : 0 < l.length) (hin : ∀ i ∈ s, 0 ≤ i ∧ i < (l.length : Int)) :
  ∀ (k p : Nat) (st : Int × Int), p + k = s.length + 1 → ygo (r, l) s ((l.length : Int) - 1) k (p : Int) st = some (((List.range' p k).map fun (i : Nat) => (i : Int)).foldl (insP (z45 r l) (okP r l []) s ((l.length : Int) - 1)) st)
 | 0, p, st, _ => rfl
 | k + 1, p, st, h => by
  have hlen := yhp (s := s) (p := (p : Int)) (x := (l.length : Int) - 1) (by omega) (by omega)
  have hi : ∀ i ∈ insI s (p : Int) ((l.length : Int) - 1), 0 ≤ i ∧ i < (l.length : Int) := fun i hi => by
   rcases yho hi with rfl | hi
   ·omega
   ·exact hin i hi
  have ih := yh3 (r := r) hs hl hin k (p + 1) (insP (z45 r l) (okP r l []) s ((l.length : Int) - 1) st (p : Int)) (by omega)
  have hstep : yh8 (r, l) s ((l.length : Int) - 1) (p : Int) st = some (insP (z45 r l) (okP r l []) s ((l.length : Int) - 1) st (p : Int)) := by
   unfold yh8
   rw [zz7 (by omega) hi, Option.bind_some, yia (by omega) hi, Option.bind_some]
   unfold insP
   cases (okP r l [] (insI s (p : Int) ((l.length : Int) - 1)) && (decide (st.1 < 0) || decide (zc8 (z45 r l) (insI s (p : Int) ((l.length : Int) - 1)) < st.2))) <;> rfl
  unfold ygo
  rw [hstep, Option.bind_some]
  have e : ((p : Int) + 1) = ((p + 1 : Nat) : Int) := rfl
  rw [e, ih, List.range'_succ]
  rfl
theorem yhr (n : Nat) : upto n = (List.range' 0 n).map fun (i : Nat) => (i : Int) := by unfold upto; rw [List.range_eq_range']
def insE (r : z02) (l : List z00) (s : List Int) : Int := if z4j r l = 0 then (if seqE l.length s = 0 then (if s.contains ((l.length : Int) - 1) then 23 else 0) else seqE l.length s) else z4j r l
theorem yh9 {r : z02} {l : List z00} {s : List Int} (hl : l.length ≤ 100000) (hs : s.length ≤ 1000) : yfn r l s = some (if insE r l s = 0 then (if (ygq r l s).1 < 0 then (0, 12) else ((ygq r l s).1, 0)) else (0, insE r l s)) := by
 unfold yfn
 rw [z07 hs, cond_true, zlz (by omega) (by omega), Option.bind_some, z0j (x := (l.length : Int) - 1) (by omega) (by omega), zl1 (by omega), Option.bind_some, z6l, Option.bind_some, ziz (by simp), Option.bind_some]
 have hE : z4z [(if z4j r l = 0 then seqE l.length s else z4j r l), (if (!s.contains ((l.length : Int) - 1)) = true then 0 else 23)] = insE r l s := by
  unfold insE
  simp only [z4z]
  by_cases h0 : z4j r l = 0
  ·simp only [if_pos h0]
   by_cases h1 : seqE l.length s = 0
   ·simp only [if_pos h1]
    cases s.contains ((l.length : Int) - 1) <;> rfl
   ·simp only [if_neg h1]
  ·simp only [if_neg h0]
 rw [hE]
 by_cases h : insE r l s = 0
 rotate_left
 ·rw [if_neg h, show (insE r l s != 0) = true by rw [bne_iff_ne]; exact h, cond_true]
 rw [if_pos h, show (insE r l s != 0) = false by rw [h]; rfl, cond_false]
 have h0 : z4j r l = 0 ∧ seqE l.length s = 0 := by
  unfold insE at h
  by_cases h0 : z4j r l = 0
  ·rw [if_pos h0] at h
   by_cases h1 : seqE l.length s = 0
   ·exact ⟨h0, h1⟩
   ·rw [if_neg h1] at h; exact absurd h h1
  ·rw [if_neg h0] at h; exact absurd h h0
 have hf := yh3 (r := r) (l := l) (s := s) hs (z8n h0.1).1 (znj h0.2) (s.length + 1) 0 (-1, 0) (by omega)
 rw [show ((0 : Nat) : Int) = 0 from rfl, ← yhr] at hf
 rw [hf, Option.bind_some]
 unfold ygq
 by_cases hd : ((upto (s.length + 1)).foldl (insP (z45 r l) (okP r l []) s ((l.length : Int) - 1)) (-1, 0)).1 < 0
 ·rw [z07 hd, cond_true, if_pos hd]
 ·rw [z0v hd, cond_false, if_neg hd]
theorem yhj {r : z02} {l : List z00} {s : List Int} (h0 : z4j r l = 0) (h1 : seqE l.length s = 0) (hs : s.length ≤ 1000) : yg5 r l s = some (if insE r l s = 0 then (if (ygq r l s).1 < 0 then (0, 12) else ((ygq r l s).1, 0)) else (0, insE r l s)) := by
 obtain ⟨hl0, hl7⟩ := z8n h0
 obtain ⟨hr, hi⟩ := zhm h0
 have hin := znj h1
 unfold yg5
 simp only
 rw [z0j (x := (l.length : Int) - 1) (by omega) (by omega), ydu (by omega), Option.bind_some]
 have hE : insE r l s = if s.contains ((l.length : Int) - 1) then 23 else 0 := by unfold insE; rw [if_pos h0, if_pos h1]
 cases hc : s.contains ((l.length : Int) - 1) with
 | true =>
  rw [hE, hc]; rfl
 | false =>
 rw [hE, hc, cond_false]
 show _ = some (if (ygq r l s).1 < 0 then (0, 12) else ((ygq r l s).1, 0))
 unfold ygq
 refine Option.bind_eq_some_iff.2 ⟨((upto (s.length + 1)).foldl (insP (z45 r l) (okP r l []) s ((l.length : Int) - 1)) (-1, 0)).1, z6r (X := Int) (l := upto (s.length + 1)) (fun pre => ((pre.foldl (insP (z45 r l) (okP r l []) s ((l.length : Int) - 1)) (-1, 0)).1, (pre.foldl (insP (z45 r l) (okP r l []) s ((l.length : Int) - 1)) (-1, 0)).2, (pre.length : Int))) (fun pre p post e => ?_) ?_, ?_⟩
 ·obtain ⟨hp, hlt⟩ := upto_at e
  have hlen := yhp (s := s) (p := p) (x := (l.length : Int) - 1) (by omega) (by omega)
  have hii : ∀ i ∈ insI s p ((l.length : Int) - 1), 0 ≤ i ∧ i < (l.length : Int) := fun i hi => by
   rcases yho hi with rfl | hi
   ·omega
   ·exact hin i hi
  have htk : List.drop (Int.toNat 0) (List.take (Int.toNat p) s) = s.take p.toNat := rfl
  have hdr : List.drop (Int.toNat p) (List.take (Int.toNat (s.length : Int)) s) = s.drop p.toNat := by rw [Int.toNat_natCast, List.take_length]
  have hcat : s.take p.toNat ++ [(l.length : Int) - 1] ++ s.drop p.toNat = insI s p ((l.length : Int) - 1) := by unfold insI; simp
  have hil : (s.take p.toNat ++ [(l.length : Int) - 1] ++ s.drop p.toNat).length = s.length + 1 := by rw [hcat, hlen]
  simp only
  rw [← hp, z07 (show p ≤ (s.length : Int) by omega), cond_true, z18 (by rw [z07 (show (0 : Int) ≤ 0 by omega), z07 (show 0 ≤ p by omega)]; rfl), htk, z7e (by rw [List.length_take]; omega), Option.bind_some, zlc (by rw [List.length_take]; simp; omega), Option.bind_some, z18 (by rw [z07 (show 0 ≤ p by omega), z07 (show (s.length : Int) ≤ s.length by omega)]; rfl), hdr, zlc (by rw [List.length_append] at hil; rw [hil]; omega), Option.bind_some, hcat]
  rw [zs3 (by omega) hii hr hi, Option.bind_some, zzr (by omega) hii, z0j (x := p + 1) (by omega) (by omega), List.foldl_append, List.foldl_cons, List.foldl_nil, List.length_append, List.length_singleton, show ((pre.length + 1 : Nat) : Int) = p + 1 by omega]
  generalize List.foldl (insP (z45 r l) (okP r l []) s ((l.length : Int) - 1)) (-1, 0) pre = st
  rw [y9j]
  unfold insP
  simp only [Option.bind_some]
  cases okP r l [] (insI s p ((l.length : Int) - 1)) with
  | false => rfl
  | true =>
   by_cases h2 : st.1 < 0
   ·rw [z07 h2]; rfl
   ·rw [z0v h2]
    by_cases h3 : zc8 (z45 r l) (insI s p ((l.length : Int) - 1)) < st.2
    ·rw [z07 h3]; rfl
    ·rw [z0v h3]; rfl
 ·show (bif decide (((upto (s.length + 1)).length : Int) ≤ (s.length : Int)) then _ else _) = _
  rw [z3b, z0v (by omega), cond_false]
 ·by_cases hd : ((upto (s.length + 1)).foldl (insP (z45 r l) (okP r l []) s ((l.length : Int) - 1)) (-1, 0)).1 < 0
  ·rw [z07 hd, cond_true, if_pos hd]
  ·rw [z0v hd, cond_false, if_neg hd]
end Go.Lift
namespace Go.Lift
open Go
theorem yhi {r : z02} {l : List z00} {t : List Int} (hr : z5d r = true) (hi : l.all zc6 = true) (hd : t.Nodup) (hn : t.length ≤ 8) (hin : ∀ i ∈ t, 0 ≤ i ∧ i < (l.length : Int)) : yge r l t = some (zoz r l t) := by
 unfold yge ztv zoz
 rw [y0q _ _ (by omega) hd (by omega), Option.bind_some]
 have hlen : (z4y t.length t).length ≤ 43046721 := Nat.le_trans (zqn _ _ rfl (by omega)) (pow9 (by omega))
 have hp : ∀ s ∈ z4y t.length t, s.length = t.length ∧ ∀ i ∈ s, 0 ≤ i ∧ i < (l.length : Int) := fun s hs => by
  have h := zij _ _ rfl s hs
  exact ⟨h.length_eq, fun i hi => hin i (h.subset hi)⟩
 generalize z4y t.length t = L at *
 rw [z4u (l := L) (g := fun _ s => bif okP r l [] s then some true else none) (fun pre s post e => by
  obtain ⟨h1, h2⟩ := hp s (by rw [e]; simp)
  rw [z7s e, z59 e, zah e (by omega), zs3 (by omega) h2 hr hi, Option.bind_some, y9j]
  cases okP r l [] s <;> rfl) step_end, Option.bind_some, zhy (okP r l []) true]
 cases L.any (okP r l []) <;> rfl
def lexB : List Int → List Int → Bool
 | a :: l, b :: m => if a = b then lexB l m else decide (a < b)
 | [], [] => false
 | [], _ :: _ => true
 | _ :: _, [] => false
theorem ygt : ∀ a : List Int, lexB a a = false
 | [] => rfl
 | x :: a => by simp [lexB, ygt a]
theorem yh2 : ∀ a b : List Int, a ≠ b → lexB a b = true ∨ lexB b a = true
 | [], [], h => absurd rfl h
 | [], _ :: _, _ => Or.inl rfl
 | _ :: _, [], _ => Or.inr rfl
 | x :: a, y :: b, h => by
  unfold lexB
  by_cases e : x = y
  ·subst e
   simp only [if_pos]
   exact yh2 a b fun e => h (by rw [e])
  ·rw [if_neg e, if_neg (fun h => e h.symm)]
   simp only [decide_eq_true_eq]
   omega
theorem yhb : ∀ a b : List Int, lexB a b = true → lexB b a = false
 | [], [], h => by cases h
 | [], _ :: _, _ => rfl
 | _ :: _, [], h => by cases h
 | x :: a, y :: b, h => by
  unfold lexB at h ⊢
  by_cases e : x = y
  ·subst e
   simp only [if_pos] at h ⊢
   exact yhb a b h
  ·rw [if_neg e] at h
   rw [if_neg (fun h => e h.symm)]
   simp only [decide_eq_true_eq] at h
   exact decide_eq_false (by omega)
theorem yh1 : ∀ a b c : List Int, lexB a b = true → lexB b c = true → lexB a c = true
 | [], [], _, h, _ => by cases h
 | _ :: _, [], _, h, _ => by cases h
 | [], _ :: _, [], _, k => by cases k
 | _ :: _, _ :: _, [], _, k => by cases k
 | [], _ :: _, _ :: _, _, _ => rfl
 | x :: a, y :: b, z :: c, h, k => by
  unfold lexB at h k ⊢
  by_cases e : x = y
  ·subst e
   by_cases e2 : x = z
   ·subst e2
    simp only [if_pos] at h k ⊢
    exact yh1 a b c h k
   ·rw [if_neg e2] at k ⊢; exact k
  ·rw [if_neg e] at h
   simp only [decide_eq_true_eq] at h
   by_cases e2 : y = z
   ·subst e2; rw [if_neg e]; exact decide_eq_true h
   ·rw [if_neg e2] at k
    simp only [decide_eq_true_eq] at k
    rw [if_neg (by omega)]
    exact decide_eq_true (by omega)
theorem yhn : ∀ (p a b : List Int), lexB (p ++ a) (p ++ b) = lexB a b
 | [], _, _ => rfl
 | x :: p, a, b => by
  show (if x = x then lexB (p ++ a) (p ++ b) else _) = _
  rw [if_pos rfl, yhn p a b]
theorem yi5 {a b : List Int} (ha : a.length ≤ 1000) (hb : b.length ≤ 1000) (hab : a.length = b.length) : yg6 a b = some (lexB a b) := by
 unfold yg6
 have key : ∀ (n : Nat) (pre : List Int) (x y : List Int), a = pre ++ x → b = pre ++ y → x.length = n → z2d (S := Int) (R := (Unit) ⊕ (Bool)) (fun i =>
  bif ((decide (i < (List.length a : Int))) && (decide (i < (List.length b : Int)))) then
   chk (decide ((0 : Int) ≤ i) && decide (i < (List.length a : Int))) (
    chk (decide ((0 : Int) ≤ i) && decide (i < (List.length b : Int))) (
     bif ((lget 0 a i) != (lget 0 b i)) then
      chk (decide ((0 : Int) ≤ i) && decide (i < (List.length a : Int))) (
       chk (decide ((0 : Int) ≤ i) && decide (i < (List.length b : Int))) (
        let t : Bool := decide ((lget 0 a i) < (lget 0 b i))
        Option.map Sum.inr (Option.map Sum.inr (
         some t))))
     else
      some (.inl (wi64 (i + 1)))))
  else
   some (.inr (.inl ()))) (pre.length : Int) = some (if x = y then .inl () else .inr (lexB x y)) := by
  intro n
  induction n with
  | zero =>
   intro pre x y hx hy hn
   have hx0 : x = [] := List.length_eq_zero_iff.1 hn
   have hy0 : y = [] := by
    rw [hx, hy, hx0] at hab
    simp at hab
    exact hab.symm ▸ rfl
   subst hx0 hy0
   rw [List.append_nil] at hx
   refine zhp ?_
   simp only
   rw [hx, z0v (by omega), Bool.false_and, cond_false]
   rfl
  | succ n ih =>
   intro pre x y hx hy hn
   cases x with
   | nil => simp at hn
   | cons u x =>
   cases y with
   | nil => rw [hx, hy] at hab; simp at hab
   | cons v y =>
   have hA : a.length = pre.length + (x.length + 1) := by rw [hx, List.length_append, List.length_cons]
   have ga := z59 (d := 0) hx
   have gb := z59 (d := 0) hy
   by_cases huv : u = v
   ·subst huv
    have := ih (pre ++ [u]) x y (by rw [hx]; simp) (by rw [hy]; simp) (by simpa using hn)
    rw [List.length_append, List.length_singleton] at this
    rw [zqw (s' := ((pre.length + 1 : Nat) : Int)) (by
     simp only
     rw [ga, gb, z07 (show (pre.length : Int) < (a.length : Int) by omega), z07 (show (pre.length : Int) < (b.length : Int) by omega), z07 (show (0 : Int) ≤ (pre.length : Int) by omega), show (u != u) = false by simp, z0j (by omega) (by omega)]
     rfl)]
    rw [this]
    have e1 : (u :: x = u :: y) ↔ x = y := by simp
    have e2 : lexB (u :: x) (u :: y) = lexB x y := by simp [lexB]
    rw [e2]
    by_cases hxy : x = y
    ·rw [if_pos hxy, if_pos (e1.2 hxy)]
    ·rw [if_neg hxy, if_neg fun h => hxy (e1.1 h)]
   ·refine zhp ?_
    simp only
    rw [ga, gb, z07 (show (pre.length : Int) < (a.length : Int) by omega), z07 (show (pre.length : Int) < (b.length : Int) by omega), z07 (show (0 : Int) ≤ (pre.length : Int) by omega), show (u != v) = true by simpa using huv]
    rw [if_neg (by simp [huv])]
    have e2 : lexB (u :: x) (v :: y) = decide (u < v) := by simp [lexB, huv]
    rw [e2]
    rfl
 have := key a.length [] a b rfl rfl rfl
 rw [show (([] : List Int).length : Int) = 0 from rfl] at this
 rw [this, Option.bind_some]
 by_cases h : a = b
 ·rw [if_pos h, h, ygt]
  simp
 ·rw [if_neg h]
theorem ygv {n : Int} : ∀ (k : Nat) (b : List Int) (fr : Int), (subL n k b fr).Pairwise fun x y => lexB x y = true
 | 0, b, fr => by rw [subL]; exact List.pairwise_singleton _ _
 | k + 1, b, fr => by
  rw [subL, List.pairwise_flatten]
  refine ⟨fun l hl => ?_, ?_⟩
  ·obtain ⟨j, _, rfl⟩ := List.mem_map.1 hl
   exact ygv k _ _
  ·rw [List.pairwise_map]
   refine List.pairwise_lt_range.imp fun {i j} hij x hx y hy => ?_
   obtain ⟨t, rfl, _⟩ := (zy9 k _ _ _).1 hx
   obtain ⟨u, rfl, _⟩ := (zy9 k _ _ _).1 hy
   rw [List.append_assoc, List.append_assoc, yhn]
   show (if _ then _ else _) = true
   rw [if_neg (by omega)]
   exact decide_eq_true (by omega)
def yid (r : z02) (l : List z00) (t : List Int) : Prop :=
 (∃ k, zrk l.length (k + 1) t) ∧ zoz r l t = false ∧ ∀ k u, zrk l.length (k + 1) u → zoz r l u = false → t.length < u.length ∨ (t.length = u.length ∧ lexB u t = false)
theorem yhc {r : z02} {l : List z00} {t u : List Int} (h : yid r l t) (k : yid r l u) : t = u := by
 obtain ⟨⟨a, h1⟩, h2, h3⟩ := h
 obtain ⟨⟨b, k1⟩, k2, k3⟩ := k
 have p := h3 b u k1 k2
 have q := k3 a t h1 h2
 by_cases e : t = u
 ·exact e
 ·rcases yh2 t u e with h | h
  ·rcases q with q | ⟨_, q⟩
   ·rcases p with p | ⟨p, _⟩ <;> omega
   ·rw [h] at q; cases q
  ·rcases p with p | ⟨_, p⟩
   ·rcases q with q | ⟨q, _⟩ <;> omega
   ·rw [h] at p; cases p
theorem yhu {L : List (List Int)} {p : List Int → Bool} {t : List Int} (hs : L.Pairwise fun x y => lexB x y = true) (h : L.find? p = some t) : ∀ u ∈ L, p u = true → lexB u t = false := by
 induction L with
 | nil => cases h
 | cons x L ih =>
  have hp := List.pairwise_cons.1 hs
  rw [List.find?_cons] at h
  intro u hu hpu
  cases hx : p x with
  | true =>
   rw [hx] at h
   cases h
   rcases List.mem_cons.1 hu with rfl | hu
   ·exact ygt _
   ·exact yhb _ _ (hp.1 u hu)
  | false =>
   rw [hx] at h
   rcases List.mem_cons.1 hu with rfl | hu
   ·rw [hx] at hpu; cases hpu
   ·exact ih hp.2 h u hu hpu
end Go.Lift
namespace Go.Lift
open Go
theorem yik : ∀ b : Fin 32, ∀ i : Fin 5, (iand .i64 (ishr .i64 (b.val : Int) (i.val : Int)) 1 == 1) = b.val.testBit i.val := by decide +kernel
theorem yij : ∀ n : Fin 6, ishl .i64 1 (n.val : Int) = ((2 ^ n.val : Nat) : Int) := by decide +kernel
def setB (b n : Nat) : List Int := ((List.range n).filter b.testBit).map fun (i : Nat) => (i : Int)
theorem yhw (b n : Nat) : setB b (n + 1) = setB b n ++ (if b.testBit n then [(n : Int)] else []) := by
 unfold setB
 rw [List.range_succ, List.filter_append, List.map_append]
 congr 1
 rw [List.filter_cons, List.filter_nil]
 cases b.testBit n <;> rfl
theorem yh5 (b n : Nat) : (setB b n).length ≤ n := by
 unfold setB
 rw [List.length_map]
 exact Nat.le_trans (List.length_filter_le ..) (by rw [List.length_range]; omega)
theorem yh4 (b n : Nat) : zrk n (setB b n).length (setB b n) := by
 refine ⟨rfl, ?_, fun x hx => ?_⟩
 ·unfold setB
  rw [List.pairwise_map]
  exact (List.pairwise_lt_range.filter _).imp fun h => by omega
 ·unfold setB at hx
  obtain ⟨i, hi, rfl⟩ := List.mem_map.1 hx
  have := List.mem_range.1 (List.mem_filter.1 hi).1
  omega
theorem yh0 : ∀ {l m : List Int}, l.Pairwise (· < ·) → m.Pairwise (· < ·) → (∀ x, x ∈ l ↔ x ∈ m) → l = m
 | [], [], _, _, _ => rfl
 | [], y :: m, _, _, h => by have := (h y).2 (List.mem_cons_self ..); cases this
 | x :: l, [], _, _, h => by have := (h x).1 (List.mem_cons_self ..); cases this
 | x :: l, y :: m, hl, hm, h => by
  have h1 := List.pairwise_cons.1 hl
  have h2 := List.pairwise_cons.1 hm
  have e : x = y := by
   rcases List.mem_cons.1 ((h x).1 (List.mem_cons_self ..)) with e | e
   ·exact e
   ·rcases List.mem_cons.1 ((h y).2 (List.mem_cons_self ..)) with e2 | e2
    ·exact e2.symm
    ·have a := h2.1 x e
     have b := h1.1 y e2
     omega
  subst e
  rw [yh0 h1.2 h2.2 fun z => ?_]
  constructor
  ·intro hz
   rcases List.mem_cons.1 ((h z).1 (List.mem_cons_of_mem _ hz)) with e | e
   ·have := h1.1 z hz; omega
   ·exact e
  ·intro hz
   rcases List.mem_cons.1 ((h z).2 (List.mem_cons_of_mem _ hz)) with e | e
   ·have := h2.1 z hz; omega
   ·exact e
def numB (f : Nat → Bool) : Nat → Nat
 | 0 => 0
 | n + 1 => numB f n ||| (if f n then 2 ^ n else 0)
theorem yhz (f : Nat → Bool) : ∀ n, numB f n < 2 ^ n
 | 0 => Nat.pow_pos (by decide)
 | n + 1 => by
  have h := yhz f n
  unfold numB
  refine Nat.or_lt_two_pow (Nat.lt_of_lt_of_le h (Nat.pow_le_pow_right (by decide) (by omega))) ?_
  split
  ·exact Nat.pow_lt_pow_right (by decide) (by omega)
  ·exact Nat.pow_pos (by decide)
theorem ygs (f : Nat → Bool) : ∀ (n i : Nat), (numB f n).testBit i = (decide (i < n) && f i)
 | 0, i => by simp [numB]
 | n + 1, i => by
  unfold numB
  rw [Nat.testBit_or, ygs f n i]
  by_cases hi : i = n
  ·subst hi
   by_cases hf : f i = true
   ·rw [if_pos hf, Nat.testBit_two_pow_self, hf]; simp
   ·rw [if_neg hf, Nat.zero_testBit]
    rw [Bool.not_eq_true] at hf
    rw [hf]; simp
  ·have h2 : (if f n = true then 2 ^ n else 0).testBit i = false := by
    split
    ·rw [Nat.testBit_two_pow]; simp; omega
    ·exact Nat.zero_testBit i
   rw [h2, Bool.or_false]
   congr 1
   rw [decide_eq_decide]; omega
theorem yhk {n k : Nat} {t : List Int} (h : zrk n (k + 1) t) : ∃ b, 1 ≤ b ∧ b < 2 ^ n ∧ setB b n = t := by
 refine ⟨numB (fun i => t.contains (i : Int)) n, ?_, yhz _ _, ?_⟩
 ·obtain ⟨x, hx⟩ := List.exists_mem_of_ne_nil t (fun e => by have := h.1; rw [e] at this; cases this)
  have hr := h.2.2 x hx
  have hb := ygs (fun i => t.contains (i : Int)) n x.toNat
  rw [decide_eq_true (show x.toNat < n by omega), Bool.true_and, show ((x.toNat : Nat) : Int) = x by omega, List.contains_iff_mem.2 hx] at hb
  refine Nat.pos_of_ne_zero fun e => ?_
  rw [e, Nat.zero_testBit] at hb
  cases hb
 ·refine yh0 (yh4 _ n).2.1 h.2.1 fun x => ?_
  unfold setB
  rw [List.mem_map]
  constructor
  ·rintro ⟨i, hi, rfl⟩
   obtain ⟨h1, h2⟩ := List.mem_filter.1 hi
   rw [ygs] at h2
   simp only [Bool.and_eq_true] at h2
   exact List.contains_iff_mem.1 h2.2
  ·intro hx
   have hr := h.2.2 x hx
   refine ⟨x.toNat, List.mem_filter.2 ⟨List.mem_range.2 (by omega), ?_⟩, by omega⟩
   rw [ygs, decide_eq_true (show x.toNat < n by omega), Bool.true_and, show ((x.toNat : Nat) : Int) = x by omega]
   exact List.contains_iff_mem.2 hx
def takeB (best t : List Int) : Bool := decide (best.length = 0) || (decide (t.length < best.length) || (decide (t.length = best.length) && lexB t best))
def conS (r : z02) (l : List z00) (best : List Int) (b : Nat) : List Int := if takeB best (setB b l.length) && !zoz r l (setB b l.length) then setB b l.length else best
def conL (r : z02) (l : List z00) : List Int := (List.range' 1 (2 ^ l.length - 1)).foldl (conS r l) []
theorem yi4 {r : z02} {l : List z00} (h0 : z4j r l = 0) (h5 : l.length ≤ 5) : yfu r l = some (conL r l, decide ((conL r l).length > 0)) := by
 obtain ⟨hl0, hl7⟩ := z8n h0
 obtain ⟨hr, hi⟩ := zhm h0
 have hpw : 2 ^ l.length ≤ 32 := Nat.le_trans (Nat.pow_le_pow_right (by decide) h5) (by decide : 2 ^ 5 ≤ 32)
 have hp1 : 1 ≤ 2 ^ l.length := Nat.pow_pos (by decide)
 have hsh : ishl .i64 1 (l.length : Int) = ((2 ^ l.length : Nat) : Int) := yij ⟨l.length, by omega⟩
 have hbest : ∀ (L : List Nat) (b : List Int), b.length ≤ 5 → (L.foldl (conS r l) b).length ≤ 5 := by
  intro L
  induction L with
  | nil => intro b h; exact h
  | cons x L ih =>
   intro b h
   rw [List.foldl_cons]
   refine ih _ ?_
   unfold conS
   split
   ·exact Nat.le_trans (yh5 _ _) h5
   ·exact h
 unfold yfu
 refine Option.bind_eq_some_iff.2 ⟨conL r l, ?_, by simp⟩
 have key := z6r (X := Nat) (R := List Int) (l := List.range' 1 (2 ^ l.length - 1)) (fin := conL r l) (F := fun s =>
  chk (decide ((0 : Int) ≤ (List.length l : Int))) (
   bif decide (s.2 < ishl .i64 1 (List.length l : Int)) then
    (z2d (S := (List Int) × Int) (R := (List Int)) (fun s_1 =>
     bif decide (s_1.2 < (List.length l : Int)) then
      chk (decide ((0 : Int) ≤ s_1.2)) (
       (bif ((iand .i64 (ishr .i64 s.2 s_1.2) 1) == 1) then
        (app s_1.1 [s_1.2]).bind fun (t_1 : List Int) =>
        some t_1
       else
        some s_1.1).bind fun (set_1 : (List Int)) =>
       some (.inl (set_1, wi64 (s_1.2 + 1))))
     else
      some (.inr s_1.1)) ([], 0)).bind fun (set_2 : (List Int)) =>
    (bif (((List.length s.1 : Int) == 0) || (decide ((List.length set_2 : Int) < (List.length s.1 : Int)))) then some true else
     (bif ((List.length set_2 : Int) == (List.length s.1 : Int)) then
      (yg6 set_2 s.1).bind fun (t_2 : Bool) =>
      some t_2
     else some false).bind fun (c : Bool) =>
     some c).bind fun (c_1 : Bool) =>
    (bif c_1 then
     (yge r l set_2).bind fun (t_3 : Bool) =>
     some (!t_3)
    else some false).bind fun (c_2 : Bool) =>
    (bif c_2 then
     some set_2
    else
     some s.1).bind fun (best_1 : (List Int)) =>
    some (.inl (best_1, wi64 (s.2 + 1)))
   else
    some (.inr s.1))) (fun pre => (pre.foldl (conS r l) [], 1 + (pre.length : Int))) (fun pre b post e => ?_) ?_
 ·exact key
 ·have hlen : (List.range' 1 (2 ^ l.length - 1)).length = pre.length + (post.length + 1) := by rw [e, List.length_append, List.length_cons]
  rw [List.length_range'] at hlen
  have hb : b = 1 + pre.length := by
   have := congrArg (·[pre.length]?) e
   simp only [List.getElem?_append_right (Nat.le_refl _), Nat.sub_self, List.getElem?_cons_zero] at this
   rw [List.getElem?_range' (by omega)] at this
   injection this with h
   omega
  have hb32 : b < 2 ^ l.length := by omega
  have hbi : 1 + (pre.length : Int) = (b : Int) := by omega
  simp only
  rw [hbi, z07 (show (0 : Int) ≤ (l.length : Int) by omega), hsh, z07 (show (b : Int) < ((2 ^ l.length : Nat) : Int) by omega), cond_true, List.foldl_append, List.foldl_cons, List.foldl_nil, List.length_append, List.length_singleton]
  have hbest1 := hbest pre [] (by simp)
  generalize List.foldl (conS r l) [] pre = best at *
  show Option.bind _ _ = _
  refine Option.bind_eq_some_iff.2 ⟨setB b l.length, znp (fun k => (setB b k, (k : Int))) l.length (fun k hk => ?_) ?_, ?_⟩
  ·show (bif decide ((k : Int) < (l.length : Int)) then _ else _) = _
   have ht := yik ⟨b, by omega⟩ ⟨k, by omega⟩
   rw [z07 (by omega), cond_true, z18 (z07 (by omega))]
   simp only
   simp only at ht
   rw [ht, z0j (by omega) (by omega), yhw, zlc (by have := yh5 b k; simp; omega)]
   cases b.testBit k with
   | true => rfl
   | false => simp only [cond_false, Option.bind_some, Bool.false_eq_true, if_false, List.append_nil]; rfl
  ·show (bif decide ((l.length : Int) < (l.length : Int)) then _ else _) = _
   rw [z0v (by omega), cond_false]
  ·have hsl := yh5 b l.length
   have hset := yh4 b l.length
   have htk : (bif (((List.length best : Int) == 0) || (decide ((List.length (setB b l.length) : Int) < (List.length best : Int)))) then some true else
     (bif ((List.length (setB b l.length) : Int) == (List.length best : Int)) then
      (yg6 (setB b l.length) best).bind fun (t_2 : Bool) =>
      some t_2
     else some false).bind fun (c : Bool) =>
     some c) = some (takeB best (setB b l.length)) := by
    unfold takeB
    generalize setB b l.length = t at *
    by_cases h1 : best.length = 0
    ·rw [show ((best.length : Int) == 0) = true by rw [h1]; rfl, z07 h1]; rfl
    ·rw [show ((best.length : Int) == 0) = false by rw [beq_eq_false_iff_ne]; omega, z0v h1]
     by_cases h2 : t.length < best.length
     ·rw [z07 (show (t.length : Int) < (best.length : Int) by omega), z07 h2]; rfl
     ·rw [z0v (show ¬ (t.length : Int) < (best.length : Int) by omega), z0v h2]
      by_cases h3 : t.length = best.length
      ·rw [show ((t.length : Int) == (best.length : Int)) = true by rw [h3]; simp, z07 h3]
       rw [Bool.false_or, cond_false, cond_true, yi5 (by omega) (by omega) h3]
       rfl
      ·rw [show ((t.length : Int) == (best.length : Int)) = false by rw [beq_eq_false_iff_ne]; omega, z0v h3]; rfl
   rw [htk, Option.bind_some, yhi hr hi hset.nodup (by omega) hset.2.2, z0j (x := (b : Int) + 1) (by omega) (by omega)]
   unfold conS
   rw [show (1 + ((pre.length + 1 : Nat) : Int)) = (b : Int) + 1 by omega]
   cases takeB best (setB b l.length) <;> cases zoz r l (setB b l.length) <;> rfl
 ·simp only
  rw [List.length_range', z07 (show (0 : Int) ≤ (l.length : Int) by omega), hsh, z0v (by omega), cond_false]
  rfl
theorem yi3 {r : z02} {l : List z00} : ∀ (L : List Nat) (best : List Int) (seen : Nat → Prop), (∀ b ∈ L, 1 ≤ b ∧ b < 2 ^ l.length) →
  ((best = [] ∧ ∀ b, seen b → zoz r l (setB b l.length) = true) ∨ (best ≠ [] ∧ (∃ b, seen b ∧ best = setB b l.length) ∧ zoz r l best = false ∧ ∀ b, seen b → zoz r l (setB b l.length) = false → takeB best (setB b l.length) = false)) →
  ((L.foldl (conS r l) best = [] ∧ ∀ b, (seen b ∨ b ∈ L) → zoz r l (setB b l.length) = true) ∨ (L.foldl (conS r l) best ≠ [] ∧ (∃ b, (seen b ∨ b ∈ L) ∧ L.foldl (conS r l) best = setB b l.length) ∧ zoz r l (L.foldl (conS r l) best) = false ∧ ∀ b, (seen b ∨ b ∈ L) → zoz r l (setB b l.length) = false → takeB (L.foldl (conS r l) best) (setB b l.length) = false))
 | [], best, seen, _, h => by simpa using h
 | x :: L, best, seen, hL, h => by
  have hx := hL x (List.mem_cons_self ..)
  have hne : setB x l.length ≠ [] := fun e => by
   have : ∀ i, i < l.length → x.testBit i = false := fun i hi => by
    cases hb : x.testBit i with
    | false => rfl
    | true =>
     have : (i : Int) ∈ setB x l.length := List.mem_map.2 ⟨i, List.mem_filter.2 ⟨List.mem_range.2 hi, hb⟩, rfl⟩
     rw [e] at this; cases this
   have h0 : x = 0 := Nat.eq_of_testBit_eq fun i => by
    rw [Nat.zero_testBit]
    by_cases hi : i < l.length
    ·exact this i hi
    ·exact Nat.testBit_lt_two_pow (Nat.lt_of_lt_of_le hx.2 (Nat.pow_le_pow_right (by decide) (by omega)))
   omega
  have ih := yi3 L (conS r l best x) (fun b => seen b ∨ b = x) (fun b hb => hL b (List.mem_cons_of_mem _ hb)) (by
   unfold conS
   cases hp : zoz r l (setB x l.length) with
   | true =>
    rw [Bool.not_true, Bool.and_false, if_neg Bool.false_ne_true]
    rcases h with ⟨h1, h2⟩ | ⟨h1, ⟨b, h2, h3⟩, h4, h5⟩
    ·exact Or.inl ⟨h1, fun b hb => by rcases hb with hb | rfl; exact h2 b hb; exact hp⟩
    ·exact Or.inr ⟨h1, ⟨b, Or.inl h2, h3⟩, h4, fun b hb hpb => by rcases hb with hb | rfl; exact h5 b hb hpb; rw [hp] at hpb; cases hpb⟩
   | false =>
    rw [Bool.not_false, Bool.and_true]
    have self : ∀ t : List Int, t ≠ [] → takeB t t = false := fun t ht => by
     unfold takeB
     have : t.length ≠ 0 := fun e => ht (List.length_eq_zero_iff.1 e)
     simp [this, ygt]
    cases ht : takeB best (setB x l.length) with
    | true =>
     rw [if_pos rfl]
     refine Or.inr ⟨hne, ⟨x, Or.inr rfl, rfl⟩, hp, fun b hb hpb => ?_⟩
     rcases hb with hb | rfl
     ·rcases h with ⟨h1, h2⟩ | ⟨h1, _, h4, h5⟩
      ·rw [h2 b hb] at hpb; cases hpb
      ·have h6 := h5 b hb hpb
       have hl0 : (setB x l.length).length ≠ 0 := fun e => hne (List.length_eq_zero_iff.1 e)
       have hb0 : best.length ≠ 0 := fun e => h1 (List.length_eq_zero_iff.1 e)
       revert ht h6
       generalize setB x l.length = X at *
       generalize setB b l.length = Y
       unfold takeB
       simp only [Bool.or_eq_true, Bool.and_eq_true, decide_eq_true_eq, Bool.or_eq_false_iff, Bool.and_eq_false_iff, decide_eq_false_iff_not]
       rintro (h | h | ⟨h, h'⟩) ⟨k1, k2, k3⟩
       ·exact absurd h hb0
       ·refine ⟨hl0, by omega, Or.inl (by omega)⟩
       ·refine ⟨hl0, by omega, ?_⟩
        by_cases e : Y.length = X.length
        ·right
         rcases k3 with k3 | k3
         ·omega
         ·cases hq : lexB Y X with
          | false => rfl
          | true => rw [yh1 _ _ _ hq h'] at k3; cases k3
        ·exact Or.inl e
     ·exact self _ hne
    | false =>
     rw [if_neg Bool.false_ne_true]
     rcases h with ⟨h1, h2⟩ | ⟨h1, ⟨b, h2, h3⟩, h4, h5⟩
     ·rw [h1] at ht; cases ht
     ·exact Or.inr ⟨h1, ⟨b, Or.inl h2, h3⟩, h4, fun b hb hpb => by rcases hb with hb | rfl; exact h5 b hb hpb; exact ht⟩)
  rw [List.foldl_cons]
  have conv : ∀ b, ((seen b ∨ b = x) ∨ b ∈ L) ↔ (seen b ∨ b ∈ x :: L) := fun b => by rw [List.mem_cons, or_assoc]
  simp only [conv] at ih
  exact ih
theorem yi2 {r : z02} {l : List z00} : (conL r l = [] ∧ ∀ k t, zrk l.length (k + 1) t → zoz r l t = true) ∨ (conL r l ≠ [] ∧ yid r l (conL r l)) := by
 have hm : ∀ b, b ∈ List.range' 1 (2 ^ l.length - 1) ↔ 1 ≤ b ∧ b < 2 ^ l.length := fun b => by
  have hp1 : 1 ≤ 2 ^ l.length := Nat.pow_pos (by decide)
  rw [List.mem_range'_1]; omega
 rcases yi3 (r := r) (l := l) (List.range' 1 (2 ^ l.length - 1)) [] (fun _ => False) (fun b hb => (hm b).1 hb) (Or.inl ⟨rfl, fun b h => h.elim⟩) with ⟨h1, h2⟩ | ⟨h1, ⟨b, h2, h3⟩, h4, h5⟩
 ·refine Or.inl ⟨h1, fun k t ht => ?_⟩
  obtain ⟨b, hb1, hb2, rfl⟩ := yhk ht
  exact h2 b (Or.inr ((hm b).2 ⟨hb1, hb2⟩))
 ·refine Or.inr ⟨h1, ?_⟩
  have hne : conL r l ≠ [] := h1
  have e : conL r l = setB b l.length := h3
  refine ⟨⟨(setB b l.length).length - 1, ?_⟩, h4, fun k u hu hp => ?_⟩
  ·have hl : (setB b l.length).length ≠ 0 := fun e2 => hne (by rw [e]; exact List.length_eq_zero_iff.1 e2)
   rw [e, show (setB b l.length).length - 1 + 1 = (setB b l.length).length by omega]
   exact yh4 b l.length
  ·obtain ⟨c, hc1, hc2, rfl⟩ := yhk hu
   have := h5 c (Or.inr ((hm c).2 ⟨hc1, hc2⟩)) hp
   show (conL r l).length < _ ∨ _
   replace this : takeB (conL r l) (setB c l.length) = false := this
   revert this
   unfold takeB
   simp only [Bool.or_eq_false_iff, Bool.and_eq_false_iff, decide_eq_false_iff_not]
   rintro ⟨k1, k2, k3⟩
   by_cases e2 : (setB c l.length).length = (conL r l).length
   ·right
    rcases k3 with k3 | k3
    ·exact absurd e2 k3
    ·exact ⟨e2.symm, k3⟩
   ·left; omega
theorem ygy {r : z02} {l : List z00} : (yan r l = ([], 12) ∧ ∀ k t, zrk l.length (k + 1) t → zoz r l t = true) ∨ ((yan r l).2 = 0 ∧ yid r l (yan r l).1) := by
 obtain ⟨k1, k2⟩ := zxp (r := r) (l := l) (upto l.length) [] 0 (yba l.length)
 rw [z3b] at k1 k2
 unfold yan
 cases hf : z1h (zrw r l) [] (upto l.length) with
 | none =>
  refine Or.inl ⟨rfl, fun k t ht => ?_⟩
  have hk : k + 1 ≤ l.length := by
   have := zim ht.nodup (m := upto l.length) fun x hx => z6k.2 (ht.2.2 x hx)
   rw [z3b, ht.1] at this
   exact this
  exact k2 hf k (by omega) (by omega) t ht
 | some q =>
  obtain ⟨q2, j, hj0, hj1, hset, hno, hall⟩ := k1 q hf
  refine Or.inr ⟨q2, ⟨j, hset⟩, hno, fun k u hu hp => ?_⟩
  simp only [Option.getD_some]
  rw [hset.1, hu.1]
  by_cases hkj : j < k
  ·left; omega
  ·by_cases he : k = j
   ·right
    refine ⟨by omega, ?_⟩
    subst he
    have hfind : ∀ (m pre : List Int) (c : Nat), (∀ i (h : i < m.length), m[i] = ((c + i : Nat) : Int)) → z1h (zrw r l) pre m = some q → ∃ i, (subL (l.length : Int) (i + 1) [] 0).find? (fun t => !zoz r l t) = some q.1 := by
     intro m
     induction m with
     | nil => intro pre c _ h; cases h
     | cons x m ih =>
      intro pre c hm h
      have hx : x = (c : Int) := by have := hm 0 (by simp); simpa using this
      simp only [z1h] at h
      cases hg : zrw r l pre x with
      | some w =>
       rw [hg] at h
       cases h
       unfold zrw at hg
       obtain ⟨t, ht, rfl⟩ := Option.map_eq_some_iff.1 hg
       refine ⟨c, ?_⟩
       rw [hx, show ((c : Int) + 1).toNat = c + 1 by omega] at ht
       exact ht
      | none =>
       rw [hg] at h
       exact ih (pre ++ [x]) (c + 1) (fun i hi => by
        have := hm (i + 1) (by simp; omega)
        simp only [List.getElem_cons_succ] at this
        rw [this]; omega) h
    obtain ⟨i, hi⟩ := hfind _ _ 0 (yba l.length) hf
    have hmem := zy8.1 (List.mem_of_find?_eq_some hi)
    have hik : i = k := by have := hmem.1; rw [hset.1] at this; omega
    subst hik
    exact yhu (ygv _ _ _) hi u (zy8.2 hu) (by rw [hp]; rfl)
   ·have := hall k (by omega) (by omega) u hu
    rw [hp] at this; cases this
theorem yhv {a : List Int} (h : a.length ≤ 4294967296) : zlb a a = some true := by
 unfold zlb
 rw [show ((a.length : Int) != (a.length : Int)) = false by simp, cond_false]
 rw [z4u (l := a) (g := fun _ _ => (none : Option Bool)) (fun pre x post e => by
  rw [z7s e, zvd e, zah e h, show (lget 0 a (pre.length : Int) != lget 0 a (pre.length : Int)) = false by simp, cond_false]) step_end, Option.bind_some]
 have : ∀ (m pre : List Int), z1h (fun _ _ => (none : Option Bool)) pre m = none := by
  intro m
  induction m with
  | nil => intro pre; rfl
  | cons x m ih => intro pre; exact ih _
 rw [this]; rfl
theorem ygm (hw : z7b = some true) (r : z02) (l : List z00) (s : List Int) :
  yft r l s = some true := by
 unfold yft zm2
 rw [hw, Option.bind_some, Bool.not_true, cond_false]
 simp only [Option.bind_some]
 cases hc : ((!decide ((List.length l : Int) ≤ 9)) || decide ((List.length s : Int) > 10)) with
 | true => rfl
 | false =>
 rw [cond_false]
 have hs10 : s.length ≤ 10 ∧ l.length ≤ 9 := by
  simp only [Bool.or_eq_false_iff, decide_eq_false_iff_not, Bool.not_eq_false', decide_eq_true_eq] at hc
  omega
 have hl : l.length ≤ 4294967296 := by omega
 rw [zvw hl, Option.bind_some, Option.bind_some]
 cases hc2 : ((zn2 l == 0) && decide ((List.length l : Int) > 5)) with
 | true => rfl
 | false =>
 rw [cond_false]
 simp only [zaz hl, z7e (show s.length ≤ 4294967296 by omega), Option.bind_some, yh9 (show l.length ≤ 100000 by omega) (show s.length ≤ 1000 by omega), zsh hl, zmh hl]
 by_cases h0 : z4j r l = 0
 rotate_left
 ·have hE : insE r l s = z4j r l := by unfold insE; rw [if_neg h0]
  rw [show (z4j r l != 0) = true by rw [bne_iff_ne]; exact h0, cond_true, hE]
  simp only [if_neg h0]
  simp
 rw [show (z4j r l != 0) = false by rw [h0]; rfl, cond_false]
 have h5 : l.length ≤ 5 := by
  have hi0 : zn2 l = 0 := by
   unfold z4j at h0
   rw [(zhm (r := r) (l := l) (by unfold z4j; exact h0)).1] at h0
   exact h0
  rw [hi0] at hc2
  simp at hc2
  omega
 obtain ⟨hl0, hl7⟩ := z8n h0
 simp only [if_pos h0]
 rw [yi4 h0 h5, Option.bind_some]
 have hcon : ((bif decide ((conL r l).length > 0) then
     (bif ((yan r l).2 != 0) then some true else
      (zlb (yan r l).1 (conL r l)).bind fun (t_8 : Bool) =>
      some (!t_8)).bind fun (c_1 : Bool) =>
     some c_1
    else some false)) = some false ∧ ((!decide ((conL r l).length > 0)) && (((yan r l).2 != 12) || (((yan r l).1.length : Int) != 0))) = false := by
  rcases yi2 (r := r) (l := l) with ⟨c1, c2⟩ | ⟨c1, c2⟩
  ·rw [c1]
   refine ⟨rfl, ?_⟩
   rcases ygy (r := r) (l := l) with ⟨d1, d2⟩ | ⟨d1, ⟨k, d2⟩, d3, d4⟩
   ·rw [d1]; rfl
   ·rw [c2 k _ d2] at d3; cases d3
  ·have hpos : (conL r l).length > 0 := List.length_pos_iff.2 c1
   rw [z07 hpos]
   refine ⟨?_, rfl⟩
   rcases ygy (r := r) (l := l) with ⟨d1, d2⟩ | ⟨d1, d2⟩
   ·obtain ⟨⟨k, c3⟩, c4, _⟩ := c2
    rw [d2 k _ c3] at c4; cases c4
   ·have he := yhc c2 d2
    obtain ⟨⟨k, c3⟩, _⟩ := c2
    have hlen : (conL r l).length ≤ 5 := by
     have := zim c3.nodup (m := upto l.length) fun x hx => z6k.2 (c3.2.2 x hx)
     rw [z3b] at this
     omega
    rw [d1, ← he, yhv (by omega)]
    rfl
 rw [show ((conL r l, decide ((conL r l).length > 0)) : List Int × Bool).2 = decide ((conL r l).length > 0) from rfl, show ((conL r l, decide ((conL r l).length > 0)) : List Int × Bool).1 = conL r l from rfl]
 rw [hcon.1, Option.bind_some, hcon.2]
 rw [show (false || false) = false from rfl, cond_false, zhe hl (by omega), Option.bind_some]
 by_cases h1 : seqE l.length s = 0
 rotate_left
 ·have hE : insE r l s = seqE l.length s := by unfold insE; rw [if_pos h0, if_neg h1]
  rw [show (seqE l.length s != 0) = true by rw [bne_iff_ne]; exact h1, cond_true, hE, if_neg h1]
  simp
 rw [show (seqE l.length s != 0) = false by rw [h1]; rfl, cond_false, yhj h0 h1 (by omega), Option.bind_some]
 simp
end Go.Lift
