/-
  Sets of which no sequence holds; the law holds of the plain functions.
-/
import Derived.Test.YtggnjngdmadbaaaGreatDoorChA
import Derived.Test.YtggnjngdmadbaaaGreatDoorClK
set_option linter.unusedSectionVars false
set_option linter.unusedVariables false
set_option linter.unusedSimpArgs false
namespace Go.Lift
open Go
theorem zx7 {X R : Type} {F : X → Unit → Option (Unit ⊕ R)} {p : X → Bool} {v : X → R} {l : List X} (h : ∀ x ∈ l, F x () = some (if p x then .inr (v x) else .inl ())) :
  zno F l () = some (match l.find? p with | some x => .inr (v x) | none => .inl ()) := by
 have tt : yfh F l () := fun pre x s' _ _ hx _ => ⟨_, h x hx⟩
 unfold zno
 rw [if_pos tt]
 clear tt
 induction l with
 | nil => rfl
 | cons x l ih =>
  rw [zeu, h x (List.mem_cons_self ..), List.find?_cons]
  cases p x with
  | true => rfl
  | false =>
   simp only [Bool.false_eq_true, if_false]
   exact ih fun y hy => h y (List.mem_cons_of_mem _ hy)
theorem zy9 {n : Int} : ∀ (k : Nat) (b : List Int) (fr : Int) (L : List Int), L ∈ subL n k b fr ↔ ∃ t, L = b ++ t ∧ t.length = k ∧ t.Pairwise (· < ·) ∧ ∀ x ∈ t, fr ≤ x ∧ x < n
 | 0, b, fr, L => by
  rw [subL, List.mem_singleton]
  constructor
  ·rintro rfl; exact ⟨[], by simp, rfl, List.Pairwise.nil, by simp⟩
  ·rintro ⟨t, rfl, ht, _⟩; rw [List.length_eq_zero_iff.1 ht, List.append_nil]
 | k + 1, b, fr, L => by
  rw [subL, List.mem_flatten]
  constructor
  ·rintro ⟨l', hl', hL⟩
   obtain ⟨j, hj, rfl⟩ := List.mem_map.1 hl'
   have hj := List.mem_range.1 hj
   obtain ⟨t, rfl, ht, hp, hb⟩ := (zy9 k _ _ L).1 hL
   refine ⟨(fr + (j : Int)) :: t, by simp, by simp [ht], List.pairwise_cons.2 ⟨fun x hx => by have := hb x hx; omega, hp⟩, fun x hx => ?_⟩
   rcases List.mem_cons.1 hx with rfl | hx
   ·omega
   ·have := hb x hx; omega
  ·rintro ⟨t, rfl, ht, hp, hb⟩
   cases t with
   | nil => cases ht
   | cons y t =>
    have hy := hb y (List.mem_cons_self ..)
    have hp := List.pairwise_cons.1 hp
    refine ⟨_, List.mem_map.2 ⟨(y - fr).toNat, List.mem_range.2 (by omega), rfl⟩, (zy9 k _ _ _).2 ⟨t, ?_, by simpa using ht, hp.2, fun x hx => ?_⟩⟩
    ·rw [show fr + ((y - fr).toNat : Int) = y by omega]; simp
    ·have := hp.1 x hx
     have := hb x (List.mem_cons_of_mem _ hx)
     omega
def zrk (n : Nat) (k : Nat) (t : List Int) : Prop := t.length = k ∧ t.Pairwise (· < ·) ∧ ∀ x ∈ t, 0 ≤ x ∧ x < (n : Int)
theorem zy8 {n k : Nat} {t : List Int} : t ∈ subL (n : Int) k [] 0 ↔ zrk n k t := by
 rw [zy9]
 unfold zrk
 constructor
 ·rintro ⟨u, rfl, h⟩; exact h
 ·intro h; exact ⟨t, rfl, h⟩
theorem zrk.nodup {n k : Nat} {t : List Int} (h : zrk n k t) : t.Nodup := (List.nodup_iff_pairwise_ne.2 (h.2.1.imp fun h => by omega))
def zoz (r : z02) (l : List z00) (t : List Int) : Bool := (z4y t.length t).any (okP r l [])
theorem zyx {r : z02} {l : List z00} {t : List Int} (hd : t.Nodup) (hn : t.length ≤ 9) (hin : ∀ i ∈ t, 0 ≤ i ∧ i < (l.length : Int)) : z3a (r, l) t = some (zoz r l t) := by
 unfold z3a zoz
 rw [zry hd hn hin, Option.bind_some]
 have := zx7 (X := List Int) (R := Bool) (F := fun t_1 _ => Option.map Sum.inr (some true)) (p := fun _ => true) (v := fun _ => true) (l := (z4y t.length t).filter (okP r l [])) (fun x _ => rfl)
 rw [this, Option.bind_some]
 cases hf : (z4y t.length t).filter (okP r l []) with
 | nil =>
  have : (z4y t.length t).any (okP r l []) = false := by
   rw [List.any_eq_false]
   rw [List.filter_eq_nil_iff] at hf
   exact hf
  rw [this]; rfl
 | cons x m =>
  have : (z4y t.length t).any (okP r l []) = true := by
   have hx : x ∈ (z4y t.length t).filter (okP r l []) := by rw [hf]; exact List.mem_cons_self ..
   obtain ⟨h1, h2⟩ := List.mem_filter.1 hx
   exact List.any_eq_true.2 ⟨x, h1, h2⟩
  rw [this]; rfl
def zrw (r : z02) (l : List z00) (_ : List Int) (x : Int) : Option (List Int × Int) := ((subL (l.length : Int) (x + 1).toNat [] 0).find? fun t => !zoz r l t).map fun t => (t, 0)
def yan (r : z02) (l : List z00) : List Int × Int := (z1h (zrw r l) [] (upto l.length)).getD ([], 12)
theorem zsh {r : z02} {l : List z00} (hl : l.length ≤ 4294967296) : z41 r l = some (if z4j r l = 0 then yan r l else ([], z4j r l)) := by
 unfold z41
 rw [zyn hl, Option.bind_some]
 by_cases h0 : z4j r l = 0
 rotate_left
 ·rw [if_neg h0, show (((r, l), z4j r l).2 != 0) = true by rw [bne_iff_ne]; exact h0, cond_true]
 rw [if_pos h0, show (((r, l), z4j r l).2 != 0) = false by rw [h0]; rfl, cond_false]
 obtain ⟨hl0, hl7⟩ := z8n h0
 unfold yan
 rw [z4u (X := Int) (l := upto l.length) (g := zrw r l) (fun pre x post e => ?_) ?_, Option.bind_some]
 ·cases z1h (zrw r l) [] (upto l.length) <;> rfl
 ·rw [z3b, z0v (by omega), cond_false]
 ·obtain ⟨hx, hp⟩ := upto_at e
  rw [z07 (by omega), cond_true, ← hx, z0j (by omega) (by omega)]
  unfold z7o
  rw [show (decide ((0 : Int) ≤ (l.length : Int)) && decide ((l.length : Int) ≤ 1000) && decide ((0 : Int) ≤ x + 1) && decide (x + 1 ≤ 1000)) = true by
   simp only [Bool.and_eq_true, decide_eq_true_eq]; omega, cond_true, Option.bind_some]
  rw [zx7 (X := List Int) (p := fun t => !zoz r l t) (v := fun t => Sum.inr (Sum.inr (t, 0))) (fun t ht => by
   have hs : zrk l.length (x + 1).toNat t := zy8.1 ht
   rw [zyx hs.nodup (by have := hs.1; omega) hs.2.2, Option.bind_some]
   cases zoz r l t <;> rfl), Option.bind_some]
  unfold zrw
  cases (subL (l.length : Int) (x + 1).toNat [] 0).find? fun t => !zoz r l t <;> rfl
theorem zxp {r : z02} {l : List z00} : ∀ (m pre : List Int) (k : Nat), (∀ i (h : i < m.length), m[i] = ((k + i : Nat) : Int)) →
  (∀ q, z1h (zrw r l) pre m = some q → q.2 = 0 ∧ ∃ j, k ≤ j ∧ j < k + m.length ∧ zrk l.length (j + 1) q.1 ∧ zoz r l q.1 = false ∧ ∀ i, k ≤ i → i < j → ∀ t, zrk l.length (i + 1) t → zoz r l t = true) ∧
  (z1h (zrw r l) pre m = none → ∀ i, k ≤ i → i < k + m.length → ∀ t, zrk l.length (i + 1) t → zoz r l t = true)
 | [], pre, k, _ => ⟨fun q h => (by cases h), fun _ i h1 h2 => absurd h2 (by simp; omega)⟩
 | x :: m, pre, k, hm => by
  have hx : x = (k : Int) := by have := hm 0 (by simp); simpa using this
  have hk : (x + 1).toNat = k + 1 := by omega
  obtain ⟨i1, i2⟩ := zxp (r := r) (l := l) m (pre ++ [x]) (k + 1) fun i h => by
   have := hm (i + 1) (by simp; omega)
   simp only [List.getElem_cons_succ] at this
   rw [this]; omega
  simp only [z1h]
  unfold zrw at *
  cases hf : (subL (l.length : Int) (x + 1).toNat [] 0).find? fun t => !zoz r l t with
  | some t =>
   refine ⟨fun q hq => ?_, fun h => (by cases h)⟩
   cases hq
   have h1 := List.find?_some hf
   have h2 := List.mem_of_find?_eq_some hf
   rw [hk] at h2
   refine ⟨rfl, k, Nat.le_refl _, by simp, zy8.1 h2, by simpa using h1, fun i h3 h4 => absurd h3 (by omega)⟩
  | none =>
   have hall : ∀ t, zrk l.length (k + 1) t → zoz r l t = true := fun t ht => by
    rw [List.find?_eq_none] at hf
    have := hf t (by rw [hk]; exact zy8.2 ht)
    simpa using this
   refine ⟨fun q hq => ?_, fun hq i h1 h2 t ht => ?_⟩
   ·obtain ⟨h1, j, h2, h3, h4, h5, h6⟩ := i1 q hq
    refine ⟨h1, j, by omega, by rw [List.length_cons]; omega, h4, h5, fun i h7 h8 t ht => ?_⟩
    by_cases hi : i = k
    ·subst hi; exact hall t ht
    ·exact h6 i (by omega) h8 t ht
   ·by_cases hi : i = k
    ·subst hi; exact hall t ht
    ·exact i2 hq i (by omega) (by rw [List.length_cons] at h2; omega) t ht
theorem yba (n : Nat) : ∀ i (h : i < (upto n).length), (upto n)[i] = ((0 + i : Nat) : Int) := fun i h => by
 unfold upto at h ⊢
 rw [List.getElem_map, List.getElem_range, Nat.zero_add]
end Go.Lift
namespace Go.Lift
open Go
end Go.Lift
