/-
  All orders of a list, all campaigns, the cheapest of them.
-/
import Derived.Test.YtggnjngdmadbaaaGreatDoorVioC
import Derived.Test.YtggnjngdmadbaaaGreatDoorChF
set_option linter.unusedSectionVars false
set_option linter.unusedVariables false
set_option linter.unusedSimpArgs false
namespace Go.Lift
open Go
def z4y : Nat → List Int → List (List Int)
 | 0, _ => [[]]
 | n + 1, l => l.flatMap fun x => (z4y n (l.erase x)).map (x :: ·)
theorem znz {A B : Type} {f : A → List B} {k : Nat} : ∀ {l : List A}, (∀ x ∈ l, (f x).length ≤ k) → (l.flatMap f).length ≤ l.length * k
 | [], _ => by simp
 | x :: l, h => by
  rw [List.flatMap_cons, List.length_append, List.length_cons, Nat.succ_mul]
  have h1 := h x (List.mem_cons_self ..)
  have h2 := znz (l := l) fun y hy => h y (List.mem_cons_of_mem _ hy)
  omega
theorem zqn : ∀ (n : Nat) (l : List Int), l.length = n → n ≤ 9 → (z4y n l).length ≤ 9 ^ n
 | 0, _, _, _ => Nat.le_refl _
 | n + 1, l, h, h9 => by
  have := znz (f := fun x => (z4y n (l.erase x)).map (x :: ·)) (k := 9 ^ n) (l := l) fun x hx => by
   rw [List.length_map]
   exact zqn n _ (by rw [List.length_erase_of_mem hx]; omega) (by omega)
  refine Nat.le_trans this ?_
  rw [Nat.pow_succ, Nat.mul_comm]
  exact Nat.mul_le_mul_left _ (by omega)
theorem yad {pre post : List Int} {x : Int} (h : (pre ++ x :: post).Nodup) : (pre ++ x :: post).erase x = pre ++ post := by
 have hx : x ∉ pre := fun hp => by
  rw [List.nodup_append] at h
  exact h.2.2 x hp x (List.mem_cons_self ..) rfl
 rw [List.erase_append_right _ hx, List.erase_cons_head]
theorem zn1 : ∀ (n : Nat) (l : List Int) (y : List Int), y ∈ z4y n l → y.length = n
 | 0, _, y, h => by rw [List.mem_singleton.1 h]; rfl
 | n + 1, l, y, h => by
  obtain ⟨x, hx, hy⟩ := List.mem_flatMap.1 h
  obtain ⟨z, hz, rfl⟩ := List.mem_map.1 hy
  rw [List.length_cons, zn1 n _ z hz]
theorem zr8 {A B : Type} (f : A → B) : ∀ (q : List A) (out : List B), q.foldl (fun o y => o ++ [f y]) out = out ++ q.map f
 | [], out => by simp
 | y :: q, out => by rw [List.foldl_cons, zr8 f q]; simp
theorem pow9 {n : Nat} (h : n ≤ 8) : 9 ^ n ≤ 43046721 := Nat.le_trans (Nat.pow_le_pow_right (by decide) h) (by decide)
theorem y0q : ∀ (n : Nat) (l : List Int), l.length < n → l.Nodup → l.length ≤ 9 → zqr n l = some (z4y l.length l)
 | 0, _, h, _, _ => absurd h (by omega)
 | n + 1, l, h, hd, h9 => by
  rw [zqr]
  unfold y37
  cases hl : l.length with
  | zero =>
   rfl
  | succ k =>
  rw [show (((k + 1 : Nat) : Int) == 0) = false by rw [beq_eq_false_iff_ne]; omega, cond_false]
  have hk8 := pow9 (n := k) (by omega)
  have hK : ∀ x ∈ l, (z4y k (l.erase x)).length ≤ 9 ^ k := fun x hx => zqn k _ (by rw [List.length_erase_of_mem hx]; omega) (by omega)
  refine Option.bind_eq_some_iff.2 ⟨z4y (k + 1) l, z6r (X := Int) (l := l) (fun pre => (pre.flatMap (fun x => (z4y k (l.erase x)).map (x :: ·)), (pre.length : Int))) (fun pre x post e => ?_) ?_, rfl⟩
  ·have hL : l.length = pre.length + (post.length + 1) := by rw [e, List.length_append, List.length_cons]
   have hdrop : List.drop (Int.toNat ((pre.length : Int) + 1)) (List.take (Int.toNat (l.length : Int)) l) = post := by
    rw [Int.toNat_natCast, List.take_length, show ((pre.length : Int) + 1).toNat = pre.length + 1 by omega, e]
    rw [show pre.length + 1 = (pre ++ [x]).length by simp, show pre ++ x :: post = (pre ++ [x]) ++ post by simp, List.drop_left]
   have her : pre ++ post = l.erase x := by rw [e, yad (by rw [← e]; exact hd)]
   have hxl : x ∈ l := by rw [e]; simp
   have hlen : (pre ++ post).length = k := by rw [List.length_append]; omega
   have hi := y0q n (pre ++ post) (by rw [hlen]; omega) (by rw [her]; exact hd.erase x) (by rw [hlen]; omega)
   rw [hlen, her] at hi
   have hb1 : (pre.flatMap (fun x => (z4y k (l.erase x)).map (x :: ·))).length ≤ pre.length * 9 ^ k := znz fun y hy => by
    rw [List.length_map]; exact hK y (by rw [e]; simp [hy])
   have hb2 : pre.length * 9 ^ k ≤ 9 * 43046721 := Nat.mul_le_mul (by omega) hk8
   have hb3 := hK x hxl
   show (bif decide ((pre.length : Int) < ((k + 1 : Nat) : Int)) then _ else _) = _
   rw [← hl]
   rw [z07 (show (pre.length : Int) < (l.length : Int) by omega), cond_true, z18 (by rw [z07 (by omega), z07 (by omega), z07 (by omega)]; rfl), zsk e, z7e (by omega), Option.bind_some]
   rw [z0j (by omega) (by omega), hdrop, z18 (by rw [z07 (by omega), z07 (by omega), z07 (by omega)]; rfl)]
   rw [zlc (by omega), Option.bind_some, her, hi, Option.bind_some]
   refine Option.bind_eq_some_iff.2 ⟨(z4y k (l.erase x)).foldl (fun o y => o ++ [x :: y]) (pre.flatMap (fun x => (z4y k (l.erase x)).map (x :: ·))), z6r (X := List Int) (l := z4y k (l.erase x)) (fun q => (q.foldl (fun o y => o ++ [x :: y]) (pre.flatMap (fun x => (z4y k (l.erase x)).map (x :: ·))), (q.length : Int))) (fun q y po e2 => ?_) ?_, ?_⟩
   ·have hQ : (z4y k (l.erase x)).length = q.length + (po.length + 1) := by rw [e2, List.length_append, List.length_cons]
    have hyl : y.length = k := zn1 k _ y (by rw [e2]; simp)
    simp only [z7s e2, z59 e2, z59 e]
    rw [z07 (show (q.length : Int) < ((z4y k (l.erase x)).length : Int) by omega), cond_true]
    rw [z18 (by rw [z07 (by omega)]; rfl), z18 (by rw [z07 (by omega)]; rfl)]
    rw [zlc (by simp only [List.length_singleton]; omega), Option.bind_some, zlc (by rw [zr8, List.length_append, List.length_map, List.length_singleton]; omega), Option.bind_some, z0j (by omega) (by omega)]
    rw [List.foldl_append, List.length_append, List.length_singleton]
    rfl
   ·simp only [step_end]
   ·rw [zr8, List.flatMap_append]
    simp only [List.flatMap_cons, List.flatMap_nil, List.append_nil, List.length_append, List.length_singleton]
    rfl
  ·show (bif decide ((l.length : Int) < ((k + 1 : Nat) : Int)) then _ else _) = _
   rw [z0v (by omega), cond_false]
   rfl
theorem y1x {l : List Bool} {v : Bool} (hl : l.length ≤ 4294967296) : z2h l v = some (l.contains v) := by
 unfold z2h z5i
 have h := z4u (l := l) (F := fun t => bif decide (t < (List.length l : Int)) then
   chk (decide ((0 : Int) ≤ t) && decide (t < (List.length l : Int))) (
    bif (v == (lget false l t)) then
     Option.map Sum.inr (Option.map Sum.inr (
      some t))
    else
     some (.inl (wi64 (t + 1))))
  else
   some (.inr (.inl ()))) (g := fun pre x => bif (v == x) then some (pre.length : Int) else none) (fun pre x post e => by
    rw [z7s e, z59 e, zah e hl]
    cases v == x <;> rfl) step_end
 rw [h, Option.bind_some]
 have any : ∀ (l pre : List Bool), ((z1h (fun (pre : List Bool) x => bif (v == x) then some (pre.length : Int) else none) pre l).getD (-1) ≥ 0) ↔ l.contains v = true := by
  intro l
  induction l with
  | nil => intro pre; simp [z1h]
  | cons x l ih =>
   intro pre
   rw [List.contains_cons]
   cases hp : v == x with
   | true => simp [z1h, hp]
   | false => simpa [z1h, hp] using ih (pre ++ [x])
 have any1 := any l []
 revert any1
 generalize z1h (fun (pre : List Bool) x => bif (v == x) then some (pre.length : Int) else none) [] l = q
 intro any1
 have hq : decide (q.getD (-1) ≥ 0) = l.contains v := by rw [Bool.eq_iff_iff, decide_eq_true_eq]; exact any1
 rw [← hq]
 cases q <;> rfl
theorem y0b (v : Nat → Bool) : ((List.range 5).map v).contains true = (zoh v).head?.isSome := by
 have h1 : (List.range 5).map v = [v 0, v 1, v 2, v 3, v 4] := rfl
 have h2 : zoh v = (([0, 1, 2, 3, 4] : List Nat).filter v).map fun (k : Nat) => (k : Int) := rfl
 rw [h1, h2]
 simp only [List.filter_cons, List.filter_nil]
 cases v 0 <;> cases v 1 <;> cases v 2 <;> cases v 3 <;> cases v 4 <;> rfl
def badP (r : z02) (l : List z00) (pre : List Int) (x : Int) : Bool := (vioG r l pre x).isSome
theorem zzj {r : z02} {l : List z00} {pre : List Int} {x : Int} (hs : pre.length ≤ 1000) (hin : ∀ i ∈ pre ++ [x], 0 ≤ i ∧ i < (l.length : Int)) : zgo (r, l) (pre ++ [x]) = some (badP r l pre x) := by
 have hl : (pre ++ [x]).length = pre.length + 1 := by simp
 unfold zgo
 rw [z07 (by omega), cond_true, z0j (by omega) (by omega), show ((pre ++ [x]).length : Int) - 1 = pre.length by omega]
 rw [zt5 (post := []) rfl (by omega) hin, Option.bind_some, y1x (by simp), y0b]
 unfold badP vioG
 rw [Option.isSome_map]
end Go.Lift
namespace Go.Lift
open Go
theorem yar {A B : Type} {f : A → Option (List B)} {g : A → List B} : ∀ {l : List A}, (∀ x ∈ l, f x = some (g x)) → catM f l = some (l.flatMap g)
 | [], _ => rfl
 | x :: l, h => by
  rw [catM, h x (List.mem_cons_self ..), Option.bind_some, yar fun y hy => h y (List.mem_cons_of_mem _ hy), Option.bind_some, List.flatMap_cons]
def okP (r : z02) (l : List z00) (begun s : List Int) : Bool := (z1h (vioG r l) begun s).isNone
theorem zyp (r : z02) (l : List z00) (begun s : List Int) (x : Int) : okP r l begun (x :: s) = bif badP r l begun x then false else okP r l (begun ++ [x]) s := by
 unfold okP badP
 simp only [z1h]
 cases vioG r l begun x <;> rfl
def zdn (items begun : List Int) : List Int := items.filter fun i => !begun.contains i
theorem ztl {items begun : List Int} {x : Int} (hd : items.Nodup) : zdn items (begun ++ [x]) = (zdn items begun).erase x := by
 unfold zdn
 rw [List.Nodup.erase_eq_filter (List.Pairwise.filter _ hd), List.filter_filter]
 congr 1
 funext i
 rw [List.contains_eq_any_beq, List.any_append, List.contains_eq_any_beq]
 simp only [List.any_cons, List.any_nil, Bool.or_false, bne, Bool.not_or]
 rw [Bool.and_comm]
def y24 (r : z02) (l : List z00) (items begun : List Int) : List (List Int) :=
 ((z4y (zdn items begun).length (zdn items begun)).filter (okP r l begun)).map (begun ++ ·)
theorem zxh {B : Type} (p : Int → Bool) (f : Int → List B) : ∀ l : List Int, (l.flatMap fun i => if p i then [] else f i) = (l.filter fun i => !p i).flatMap f
 | [] => rfl
 | x :: l => by
  rw [List.flatMap_cons, zxh p f l, List.filter_cons]
  cases p x <;> simp
theorem zxi {A B : Type} {f g : A → List B} : ∀ {l : List A}, (∀ x ∈ l, f x = g x) → l.flatMap f = l.flatMap g
 | [], _ => rfl
 | x :: l, h => by
  rw [List.flatMap_cons, List.flatMap_cons, h x (List.mem_cons_self ..), zxi fun y hy => h y (List.mem_cons_of_mem _ hy)]
theorem y7s {r : z02} {l : List z00} {items begun : List Int} (hd : items.Nodup) {k : Nat} (hk : (zdn items begun).length = k + 1) :
  y24 r l items begun = (zdn items begun).flatMap fun x => if badP r l begun x then [] else y24 r l items (begun ++ [x]) := by
 conv => lhs; unfold y24
 rw [hk, z4y, List.filter_flatMap, List.map_flatMap]
 refine zxi fun x hx => ?_
 have hlen : ((zdn items begun).erase x).length = k := by rw [List.length_erase_of_mem hx, hk]; rfl
 rw [List.filter_map, List.map_map]
 unfold y24
 rw [ztl hd, hlen]
 have hp : (okP r l begun ∘ fun s => x :: s) = fun s => bif badP r l begun x then false else okP r l (begun ++ [x]) s := by
  funext s
  exact zyp r l begun s x
 rw [hp]
 cases badP r l begun x with
 | true => simp
 | false =>
  simp only [cond_false, Bool.false_eq_true, if_false]
  refine List.map_congr_left fun s _ => ?_
  simp
theorem y5w {r : z02} {l : List z00} {items : List Int} (hd : items.Nodup) (hn : items.length ≤ 9) (hin : ∀ i ∈ items, 0 ≤ i ∧ i < (l.length : Int)) :
  ∀ (m : Nat) (begun : List Int) (bad : Bool), (∀ i ∈ begun, i ∈ items) → begun.length + (zdn items begun).length = items.length → (zdn items begun).length < m → zgo (r, l) begun = some bad →
   zvg (r, l) items m begun = some (if bad then [] else y24 r l items begun)
 | 0, _, _, _, _, h, _ => absurd h (by omega)
 | m + 1, begun, bad, hb, hlen, hm, hbad => by
  unfold zvg
  rw [hbad, Option.bind_some]
  cases bad with
  | true => rfl
  | false =>
  rw [cond_false]
  by_cases he : (zdn items begun).length = 0
  ·rw [show ((begun.length : Int) == (items.length : Int)) = true by rw [beq_iff_eq]; omega, cond_true]
   unfold y24
   rw [he]
   show some [begun] = some [begun ++ []]
   rw [List.append_nil]
  ·rw [show ((begun.length : Int) == (items.length : Int)) = false by rw [beq_eq_false_iff_ne]; omega, cond_false]
   obtain ⟨k, hk⟩ : ∃ k, (zdn items begun).length = k + 1 := ⟨(zdn items begun).length - 1, by omega⟩
   rw [y7s hd hk]
   show catM _ items = _
   rw [yar (g := fun i => if begun.contains i then [] else if badP r l begun i then [] else y24 r l items (begun ++ [i])) fun x hx => ?_]
   ·rw [zxh]; rfl
   ·rw [zl1 (by omega), Option.bind_some]
    cases hc : begun.contains x with
    | true => rfl
    | false =>
     have hxr : x ∈ zdn items begun := List.mem_filter.2 ⟨hx, by rw [hc]; rfl⟩
     have hl2 : (zdn items (begun ++ [x])).length = k := by rw [ztl hd, List.length_erase_of_mem hxr, hk]; rfl
     have hb2 : ∀ i ∈ begun ++ [x], i ∈ items := fun i hi => by
      rcases List.mem_append.1 hi with h | h
      ·exact hb i h
      ·rw [List.mem_singleton.1 h]; exact hx
     rw [cond_false]
     exact y5w hd hn hin m (begun ++ [x]) (badP r l begun x) hb2 (by rw [hl2, List.length_append, List.length_singleton]; omega) (by omega) (zzj (by omega) fun i hi => hin i (hb2 i hi))
theorem zry {r : z02} {l : List z00} {items : List Int} (hd : items.Nodup) (hn : items.length ≤ 9) (hin : ∀ i ∈ items, 0 ≤ i ∧ i < (l.length : Int)) :
  z1f (r, l) items = some ((z4y items.length items).filter (okP r l [])) := by
 have hr : zdn items [] = items := by unfold zdn; simp
 unfold z1f
 rw [z07 (by omega), cond_true, y5w hd hn hin (items.length + 1) [] false (by simp) (by rw [hr]; simp) (by rw [hr]; omega) rfl]
 unfold y24
 rw [hr]
 simp
end Go.Lift
namespace Go.Lift
open Go
def upto (n : Nat) : List Int := (List.range n).map fun (k : Nat) => (k : Int)
theorem z3b (n : Nat) : (upto n).length = n := by simp [upto]
theorem z6k {n : Nat} {i : Int} : i ∈ upto n ↔ 0 ≤ i ∧ i < (n : Int) := by
 unfold upto
 rw [List.mem_map]
 constructor
 ·rintro ⟨k, hk, rfl⟩
  have := List.mem_range.1 hk
  omega
 ·rintro ⟨h0, h1⟩
  exact ⟨i.toNat, List.mem_range.2 (by omega), by omega⟩
theorem zij : ∀ (n : Nat) (l : List Int), l.length = n → ∀ y ∈ z4y n l, y.Perm l
 | 0, l, h, y, hy => by
  rw [List.mem_singleton.1 hy, List.length_eq_zero_iff.1 h]
 | n + 1, l, h, y, hy => by
  obtain ⟨x, hx, hy⟩ := List.mem_flatMap.1 hy
  obtain ⟨z, hz, rfl⟩ := List.mem_map.1 hy
  exact ((zij n _ (by rw [List.length_erase_of_mem hx]; omega) z hz).cons x).trans (List.perm_cons_erase hx).symm
theorem y6y {l : List z00} (h : zn2 l = 0) : 0 < l.length ∧ l.length ≤ 7 := by
 unfold zn2 at h
 split at h
 ·exact absurd h (by decide)
 ·split at h
  ·exact absurd h (by decide)
  ·omega
theorem z8n {r : z02} {l : List z00} (h : z4j r l = 0) : 0 < l.length ∧ l.length ≤ 7 := by
 unfold z4j at h
 cases hr : z5d r with
 | false => rw [hr] at h; exact absurd (show (2 : Int) = 0 from h) (by decide)
 | true => rw [hr, cond_true] at h; exact y6y h
theorem y9j (r : z02) (l : List z00) (s : List Int) : (!(vioE r l s).2) = okP r l [] s := by
 unfold vioE okP
 cases z1h (vioG r l) [] s <;> rfl
end Go.Lift
namespace Go.Lift
open Go
theorem zim {A : Type} [BEq A] [LawfulBEq A] : ∀ {l m : List A}, l.Nodup → (∀ x ∈ l, x ∈ m) → l.length ≤ m.length
 | [], _, _, _ => Nat.zero_le _
 | x :: l, m, h, hs => by
  have hx : x ∈ m := hs x (List.mem_cons_self ..)
  have h2 := List.nodup_cons.1 h
  have := zim (l := l) (m := m.erase x) h2.2 fun y hy => (List.mem_erase_of_ne (fun e : y = x => h2.1 (e ▸ hy))).2 (hs y (List.mem_cons_of_mem _ hy))
  rw [List.length_erase_of_mem hx] at this
  have := List.length_pos_of_mem hx
  rw [List.length_cons]
  omega
theorem upto_at {n : Nat} {pre post : List Int} {x : Int} (h : upto n = pre ++ x :: post) : x = (pre.length : Int) ∧ pre.length < n := by
 have hl : n = pre.length + (post.length + 1) := by
  have := congrArg List.length h
  rw [z3b, List.length_append, List.length_cons] at this
  exact this
 have h2 : (upto n)[pre.length]? = some x := by rw [h]; simp
 unfold upto at h2
 rw [List.getElem?_map, List.getElem?_range (by omega)] at h2
 refine ⟨?_, by omega⟩
 exact (Option.some.inj h2).symm
end Go.Lift
