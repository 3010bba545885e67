/-
  All orders of a list, all campaigns, the cheapest of them.
-/
import Derived.Test.YtggnjngdmadbaaaGreatDoorVioC
import Derived.Test.YtggnjngdmadbaaaGreatDoorChF
set_option linter.unusedSectionVars false
set_option linter.unusedVariables false
set_option linter.unusedSimpArgs false
namespace Go.Lift
open Go
def z4y : Nat → List Int → List (List Int)
 | 0, _ => [[]]
 | n + 1, l => l.flatMap fun x => (z4y n (l.erase x)).map (x :: ·)
theorem znz {A B : Type} {f : A → List B} {k : Nat} : ∀ {l : List A}, (∀ x ∈ l, (f x).length ≤ k) → (l.flatMap f).length ≤ l.length * k
  | [], _ => by simp
  | x :: l, h => by
    rw [List.flatMap_cons, List.length_append, List.length_cons, Nat.succ_mul]
    have h1 := h x (List.mem_cons_self ..)
    have h2 := znz (l := l) fun y hy => h y (List.mem_cons_of_mem _ hy)
    omega
theorem zqn : ∀ (n : Nat) (l : List Int), l.length = n → n ≤ 9 → (z4y n l).length ≤ 9 ^ n
  | 0, _, _, _ => Nat.le_refl _
  | n + 1, l, h, h9 => by
    have := znz (f := fun x => (z4y n (l.erase x)).map (x :: ·)) (k := 9 ^ n) (l := l) fun x hx => by
      rw [List.length_map]
      exact zqn n _ (by rw [List.length_erase_of_mem hx]; omega) (by omega)
    refine Nat.le_trans this ?_
    rw [Nat.pow_succ, Nat.mul_comm]
    exact Nat.mul_le_mul_left _ (by omega)
theorem yad {pre post : List Int} {x : Int} (h : (pre ++ x :: post).Nodup) : (pre ++ x :: post).erase x = pre ++ post := by
 have hx : x ∉ pre := fun hp => by
  rw [List.nodup_append] at h
  exact h.2.2 x hp x (List.mem_cons_self ..) rfl
 rw [List.erase_append_right _ hx, List.erase_cons_head]
theorem zn1 : ∀ (n : Nat) (l : List Int) (y : List Int), y ∈ z4y n l → y.length = n
  | 0, _, y, h => by rw [List.mem_singleton.1 h]; rfl
  | n + 1, l, y, h => by
    obtain ⟨x, hx, hy⟩ := List.mem_flatMap.1 h
    obtain ⟨z, hz, rfl⟩ := List.mem_map.1 hy
    rw [List.length_cons, zn1 n _ z hz]
theorem zr8 {A B : Type} (f : A → B) : ∀ (q : List A) (out : List B), q.foldl (fun o y => o ++ [f y]) out = out ++ q.map f
 | [], out => by simp
 | y :: q, out => by rw [List.foldl_cons, zr8 f q]; simp
theorem pow9 {n : Nat} (h : n ≤ 8) : 9 ^ n ≤ 43046721 := Nat.le_trans (Nat.pow_le_pow_right (by decide) h) (by decide)
theorem y0q : ∀ (n : Nat) (l : List Int), l.length < n → l.Nodup → l.length ≤ 9 → zqr n l = some (z4y l.length l)
  | 0, _, h, _, _ => absurd h (by omega)
  | n + 1, l, h, hd, h9 => by
    rw [zqr]
    unfold y37
    cases hl : l.length with
    | zero =>
      rfl
    | succ k =>
    rw [show (((k + 1 : Nat) : Int) == 0) = false by rw [beq_eq_false_iff_ne]; omega, cond_false]
    have hk8 := pow9 (n := k) (by omega)
    have hK : ∀ x ∈ l, (z4y k (l.erase x)).length ≤ 9 ^ k := fun x hx => zqn k _ (by rw [List.length_erase_of_mem hx]; omega) (by omega)
    refine Option.bind_eq_some_iff.2 ⟨z4y (k + 1) l, z6r (X := Int) (l := l) (fun pre => (pre.flatMap (fun x => (z4y k (l.erase x)).map (x :: ·)), (pre.length : Int))) (fun pre x post e => ?_) ?_, rfl⟩
    · have hL : l.length = pre.length + (post.length + 1) := by rw [e, List.length_append, List.length_cons]
      have hdrop : List.drop (Int.toNat ((pre.length : Int) + 1)) (List.take (Int.toNat (l.length : Int)) l) = post := by
        rw [Int.toNat_natCast, List.take_length, show ((pre.length : Int) + 1).toNat = pre.length + 1 by omega, e]
        rw [show pre.length + 1 = (pre ++ [x]).length by simp, show pre ++ x :: post = (pre ++ [x]) ++ post by simp, List.drop_left]
      have her : pre ++ post = l.erase x := by rw [e, yad (by rw [← e]; exact hd)]
      have hxl : x ∈ l := by rw [e]; simp
      have hlen : (pre ++ post).length = k := by rw [List.length_append]; omega
      have hi := y0q n (pre ++ post) (by rw [hlen]; omega) (by rw [her]; exact hd.erase x) (by rw [hlen]; omega)
      rw [hlen, her] at hi
      have hb1 : (pre.flatMap (fun x => (z4y k (l.erase x)).map (x :: ·))).length ≤ pre.length * 9 ^ k := znz fun y hy => by
        rw [List.length_map]; exact hK y (by rw [e]; simp [hy])
      have hb2 : pre.length * 9 ^ k ≤ 9 * 43046721 := Nat.mul_le_mul (by omega) hk8
      have hb3 := hK x hxl
      show (bif decide ((pre.length : Int) < ((k + 1 : Nat) : Int)) then _ else _) = _
      rw [← hl]
      rw [z07 (show (pre.length : Int) < (l.length : Int) by omega), cond_true, z18 (by rw [z07 (by omega), z07 (by omega), z07 (by omega)]; rfl), zsk e, z7e (by omega), Option.bind_some]
      rw [z0j (by omega) (by omega), hdrop, z18 (by rw [z07 (by omega), z07 (by omega), z07 (by omega)]; rfl)]
      rw [zlc (by omega), Option.bind_some, her, hi, Option.bind_some]
      refine Option.bind_eq_some_iff.2 ⟨(z4y k (l.erase x)).foldl (fun o y => o ++ [x :: y]) (pre.flatMap (fun x => (z4y k (l.erase x)).map (x :: ·))), z6r (X := List Int) (l := z4y k (l.erase x)) (fun q => (q.foldl (fun o y => o ++ [x :: y]) (pre.flatMap (fun x => (z4y k (l.erase x)).map (x :: ·))), (q.length : Int))) (fun q y po e2 => ?_) ?_, ?_⟩
      · have hQ : (z4y k (l.erase x)).length = q.length + (po.length + 1) := by rw [e2, List.length_append, List.length_cons]
        have hyl : y.length = k := zn1 k _ y (by rw [e2]; simp)
        simp only [z7s e2, z59 e2, z59 e]
        rw [z07 (show (q.length : Int) < ((z4y k (l.erase x)).length : Int) by omega), cond_true]
        rw [z18 (by rw [z07 (by omega)]; rfl), z18 (by rw [z07 (by omega)]; rfl)]
        rw [zlc (by simp only [List.length_singleton]; omega), Option.bind_some, zlc (by rw [zr8, List.length_append, List.length_map, List.length_singleton]; omega), Option.bind_some, z0j (by omega) (by omega)]
        rw [List.foldl_append, List.length_append, List.length_singleton]
        rfl
      · simp only [step_end]
      · rw [zr8, List.flatMap_append]
        simp only [List.flatMap_cons, List.flatMap_nil, List.append_nil, List.length_append, List.length_singleton]
        rfl
    · show (bif decide ((l.length : Int) < ((k + 1 : Nat) : Int)) then _ else _) = _
      rw [z0v (by omega), cond_false]
      rfl
theorem y1x {l : List Bool} {v : Bool} (hl : l.length ≤ 4294967296) : z2h l v = some (l.contains v) := by
  unfold z2h z5i
  have h := z4u (l := l) (F := fun t => bif decide (t < (List.length l : Int)) then
      chk (decide ((0 : Int) ≤ t) && decide (t < (List.length l : Int))) (
        bif (v == (lget false l t)) then
          Option.map Sum.inr (Option.map Sum.inr (
            some t))
        else
          some (.inl (wi64 (t + 1))))
    else
      some (.inr (.inl ()))) (g := fun pre x => bif (v == x) then some (pre.length : Int) else none) (fun pre x post e => by
        rw [z7s e, z59 e, zah e hl]
        cases v == x <;> rfl) step_end
  rw [h, Option.bind_some]
  have any : ∀ (l pre : List Bool), ((z1h (fun (pre : List Bool) x => bif (v == x) then some (pre.length : Int) else none) pre l).getD (-1) ≥ 0) ↔ l.contains v = true := by
    intro l
    induction l with
    | nil => intro pre; simp [z1h]
    | cons x l ih =>
      intro pre
      rw [List.contains_cons]
      cases hp : v == x with
      | true => simp [z1h, hp]
      | false => simpa [z1h, hp] using ih (pre ++ [x])
  have any1 := any l []
  revert any1
  generalize z1h (fun (pre : List Bool) x => bif (v == x) then some (pre.length : Int) else none) [] l = q
  intro any1
  have hq : decide (q.getD (-1) ≥ 0) = l.contains v := by rw [Bool.eq_iff_iff, decide_eq_true_eq]; exact any1
  rw [← hq]
  cases q <;> rfl
theorem y0b (v : Nat → Bool) : ((List.range 5).map v).contains true = (zoh v).head?.isSome := by
 have h1 : (List.range 5).map v = [v 0, v 1, v 2, v 3, v 4] := rfl
 have h2 : zoh v = (([0, 1, 2, 3, 4] : List Nat).filter v).map fun (k : Nat) => (k : Int) := rfl
 rw [h1, h2]
 simp only [List.filter_cons, List.filter_nil]
 cases v 0 <;> cases v 1 <;> cases v 2 <;> cases v 3 <;> cases v 4 <;> rfl
def badP (r : z02) (l : List z00) (pre : List Int) (x : Int) : Bool := (vioG r l pre x).isSome
theorem zzj {r : z02} {l : List z00} {pre : List Int} {x : Int} (hs : pre.length ≤ 1000) (hin : ∀ i ∈ pre ++ [x], 0 ≤ i ∧ i < (l.length : Int)) : zgo (r, l) (pre ++ [x]) = some (badP r l pre x) := by
 have hl : (pre ++ [x]).length = pre.length + 1 := by simp
 unfold zgo
 rw [z07 (by omega), cond_true, z0j (by omega) (by omega), show ((pre ++ [x]).length : Int) - 1 = pre.length by omega]
 rw [zt5 (post := []) rfl (by omega) hin, Option.bind_some, y1x (by simp), y0b]
 unfold badP vioG
 rw [Option.isSome_map]
end Go.Lift
namespace Go.Lift
open Go
theorem yar {A B : Type} {f : A → Option (List B)} {g : A → List B} : ∀ {l : List A}, (∀ x ∈ l, f x = some (g x)) → catM f l = some (l.flatMap g)
  | [], _ => rfl
  | x :: l, h => by
    rw [catM, h x (List.mem_cons_self ..), Option.bind_some, yar fun y hy => h y (List.mem_cons_of_mem _ hy), Option.bind_some, List.flatMap_cons]
def okP (r : z02) (l : List z00) (begun s : List Int) : Bool := (z1h (vioG r l) begun s).isNone
theorem zyp (r : z02) (l : List z00) (begun s : List Int) (x : Int) : okP r l begun (x :: s) = bif badP r l begun x then false else okP r l (begun ++ [x]) s := by
 unfold okP badP
 simp only [z1h]
 cases vioG r l begun x <;> rfl
def zdn (items begun : List Int) : List Int := items.filter fun i => !begun.contains i
theorem ztl {items begun : List Int} {x : Int} (hd : items.Nodup) : zdn items (begun ++ [x]) = (zdn items begun).erase x := by
 unfold zdn
 rw [List.Nodup.erase_eq_filter (List.Pairwise.filter _ hd), List.filter_filter]
 congr 1
 funext i
 rw [List.contains_eq_any_beq, List.any_append, List.contains_eq_any_beq]
 simp only [List.any_cons, List.any_nil, Bool.or_false, bne, Bool.not_or]
 rw [Bool.and_comm]
def y24 (r : z02) (l : List z00) (items begun : List Int) : List (List Int) :=
 ((z4y (zdn items begun).length (zdn items begun)).filter (okP r l begun)).map (begun ++ ·)
theorem zxh {B : Type} (p : Int → Bool) (f : Int → List B) : ∀ l : List Int, (l.flatMap fun i => if p i then [] else f i) = (l.filter fun i => !p i).flatMap f
  | [] => rfl
  | x :: l => by
    rw [List.flatMap_cons, zxh p f l, List.filter_cons]
    cases p x <;> simp
theorem zxi {A B : Type} {f g : A → List B} : ∀ {l : List A}, (∀ x ∈ l, f x = g x) → l.flatMap f = l.flatMap g
  | [], _ => rfl
  | x :: l, h => by
    rw [List.flatMap_cons, List.flatMap_cons, h x (List.mem_cons_self ..), zxi fun y hy => h y (List.mem_cons_of_mem _ hy)]
theorem y7s {r : z02} {l : List z00} {items begun : List Int} (hd : items.Nodup) {k : Nat} (hk : (zdn items begun).length = k + 1) :
    y24 r l items begun = (zdn items begun).flatMap fun x => if badP r l begun x then [] else y24 r l items (begun ++ [x]) := by
  conv => lhs; unfold y24
  rw [hk, z4y, List.filter_flatMap, List.map_flatMap]
  refine zxi fun x hx => ?_
  have hlen : ((zdn items begun).erase x).length = k := by rw [List.length_erase_of_mem hx, hk]; rfl
  rw [List.filter_map, List.map_map]
  unfold y24
  rw [ztl hd, hlen]
  have hp : (okP r l begun ∘ fun s => x :: s) = fun s => bif badP r l begun x then false else okP r l (begun ++ [x]) s := by
    funext s
    exact zyp r l begun s x
  rw [hp]
  cases badP r l begun x with
  | true => simp
  | false =>
    simp only [cond_false, Bool.false_eq_true, if_false]
    refine List.map_congr_left fun s _ => ?_
    simp
theorem y5w {r : z02} {l : List z00} {items : List Int} (hd : items.Nodup) (hn : items.length ≤ 9) (hin : ∀ i ∈ items, 0 ≤ i ∧ i < (l.length : Int)) :
    ∀ (m : Nat) (begun : List Int) (bad : Bool), (∀ i ∈ begun, i ∈ items) → begun.length + (zdn items begun).length = items.length → (zdn items begun).length < m → zgo (r, l) begun = some bad →
      zvg (r, l) items m begun = some (if bad then [] else y24 r l items begun)
  | 0, _, _, _, _, h, _ => absurd h (by omega)
  | m + 1, begun, bad, hb, hlen, hm, hbad => by
    unfold zvg
    rw [hbad, Option.bind_some]
    cases bad with
    | true => rfl
    | false =>
    rw [cond_false]
    by_cases he : (zdn items begun).length = 0
    · rw [show ((begun.length : Int) == (items.length : Int)) = true by rw [beq_iff_eq]; omega, cond_true]
      unfold y24
      rw [he]
      show some [begun] = some [begun ++ []]
      rw [List.append_nil]
    · rw [show ((begun.length : Int) == (items.length : Int)) = false by rw [beq_eq_false_iff_ne]; omega, cond_false]
      obtain ⟨k, hk⟩ : ∃ k, (zdn items begun).length = k + 1 := ⟨(zdn items begun).length - 1, by omega⟩
      rw [y7s hd hk]
      show catM _ items = _
      rw [yar (g := fun i => if begun.contains i then [] else if badP r l begun i then [] else y24 r l items (begun ++ [i])) fun x hx => ?_]
      · rw [zxh]; rfl
      · rw [zl1 (by omega), Option.bind_some]
        cases hc : begun.contains x with
        | true => rfl
        | false =>
          have hxr : x ∈ zdn items begun := List.mem_filter.2 ⟨hx, by rw [hc]; rfl⟩
          have hl2 : (zdn items (begun ++ [x])).length = k := by rw [ztl hd, List.length_erase_of_mem hxr, hk]; rfl
          have hb2 : ∀ i ∈ begun ++ [x], i ∈ items := fun i hi => by
            rcases List.mem_append.1 hi with h | h
            · exact hb i h
            · rw [List.mem_singleton.1 h]; exact hx
          rw [cond_false]
          exact y5w hd hn hin m (begun ++ [x]) (badP r l begun x) hb2 (by rw [hl2, List.length_append, List.length_singleton]; omega) (by omega) (zzj (by omega) fun i hi => hin i (hb2 i hi))
theorem zry {r : z02} {l : List z00} {items : List Int} (hd : items.Nodup) (hn : items.length ≤ 9) (hin : ∀ i ∈ items, 0 ≤ i ∧ i < (l.length : Int)) :
  z1f (r, l) items = some ((z4y items.length items).filter (okP r l [])) := by
 have hr : zdn items [] = items := by unfold zdn; simp
 unfold z1f
 rw [z07 (by omega), cond_true, y5w hd hn hin (items.length + 1) [] false (by simp) (by rw [hr]; simp) (by rw [hr]; omega) rfl]
 unfold y24
 rw [hr]
 simp
end Go.Lift
namespace Go.Lift
open Go
def upto (n : Nat) : List Int := (List.range n).map fun (k : Nat) => (k : Int)
theorem zzz (n : Nat) : upto (n + 1) = upto n ++ [(n : Int)] := by simp [upto, List.range_succ]
theorem z3b (n : Nat) : (upto n).length = n := by simp [upto]
theorem z6k {n : Nat} {i : Int} : i ∈ upto n ↔ 0 ≤ i ∧ i < (n : Int) := by
 unfold upto
 rw [List.mem_map]
 constructor
 ·rintro ⟨k, hk, rfl⟩
  have := List.mem_range.1 hk
  omega
 ·rintro ⟨h0, h1⟩
  exact ⟨i.toNat, List.mem_range.2 (by omega), by omega⟩
theorem zhh (n : Nat) : (upto n).Nodup := by
 unfold upto
 rw [List.nodup_iff_pairwise_ne, List.pairwise_map]
 exact (List.nodup_iff_pairwise_ne.1 List.nodup_range).imp fun h e => h (by omega)
theorem y6n {n : Nat} (h : n ≤ 1000) : z3v (n : Int) = some (upto n) := by
 unfold z3v
 refine Option.bind_eq_some_iff.2 ⟨upto n, znp (fun k => (upto k, (k : Int))) n (fun k hk => ?_) ?_, rfl⟩
 ·show (bif decide ((k : Int) < (n : Int)) then _ else _) = _
  rw [z07 (by omega), cond_true, zlc (by rw [z3b]; simp; omega), Option.bind_some, z0j (by omega) (by omega), ← zzz]
  rfl
 ·show (bif decide ((n : Int) < (n : Int)) then _ else _) = _
  rw [z0v (by omega), cond_false]
theorem zij : ∀ (n : Nat) (l : List Int), l.length = n → ∀ y ∈ z4y n l, y.Perm l
  | 0, l, h, y, hy => by
    rw [List.mem_singleton.1 hy, List.length_eq_zero_iff.1 h]
  | n + 1, l, h, y, hy => by
    obtain ⟨x, hx, hy⟩ := List.mem_flatMap.1 hy
    obtain ⟨z, hz, rfl⟩ := List.mem_map.1 hy
    exact ((zij n _ (by rw [List.length_erase_of_mem hx]; omega) z hz).cons x).trans (List.perm_cons_erase hx).symm
theorem zik : ∀ (n : Nat) (l y : List Int), l.length = n → y.Perm l → y ∈ z4y n l
  | 0, l, y, h, hp => by
    rw [List.length_eq_zero_iff.1 h] at hp
    rw [List.perm_nil.1 hp]
    exact List.mem_singleton.2 rfl
  | n + 1, l, [], h, hp => by
    have := hp.length_eq
    rw [h] at this; cases this
  | n + 1, l, x :: y, h, hp => by
    have hx : x ∈ l := hp.subset (List.mem_cons_self ..)
    exact List.mem_flatMap.2 ⟨x, hx, List.mem_map.2 ⟨y, zik n _ y (by rw [List.length_erase_of_mem hx]; omega) (by
      have h2 := hp.trans (List.perm_cons_erase hx)
      exact (List.perm_cons x).1 h2), rfl⟩⟩
def zga (q : Int → Int → Int) (b : Option (List Int × Int)) (s : List Int) : Option (List Int × Int) := match b with
 | none => some (s, zc8 q s)
 | some c => if zc8 q s < c.2 then some (s, zc8 q s) else some c
theorem y5y {r : z02} {l : List z00} : ∀ (cs : List (List Int)) (b : Option (List Int × Int)), (∀ s ∈ cs, s ≠ [] ∧ s.length ≤ 4294967296 ∧ ∀ i ∈ s, 0 ≤ i ∧ i < (l.length : Int)) → (∀ c, b = some c → c.1 ≠ []) →
      y28 (r, l) cs b = some (cs.foldl (zga (z45 r l)) b) ∧ ∀ c, cs.foldl (zga (z45 r l)) b = some c → c.1 ≠ []
  | [], b, _, hb => ⟨rfl, hb⟩
  | s :: cs, b, h, hb => by
    obtain ⟨h1, h2, h3⟩ := h s (List.mem_cons_self ..)
    have hs : y27 (r, l) s b = some (zga (z45 r l) b s) := by
      unfold y27
      rw [zz7 h2 h3, Option.bind_some]
      cases b with
      | none => rfl
      | some c =>
        have hc := hb c rfl
        have hc2 : (!c.1.isEmpty) = true := by
          cases hcc : c.1 with
          | nil => exact absurd hcc hc
          | cons _ _ => rfl
        show chk (!c.1.isEmpty) _ = _
        rw [z18 hc2]
        unfold zga
        by_cases hd : zc8 (z45 r l) s < c.2
        · rw [z07 hd, cond_true]; simp only [if_pos hd]
        · rw [z0v hd, cond_false]; simp only [if_neg hd]
    have hb2 : ∀ c, zga (z45 r l) b s = some c → c.1 ≠ [] := by
      intro c hc
      unfold zga at hc
      cases b with
      | none => cases hc; exact h1
      | some d =>
        simp only at hc
        split at hc
        · cases hc; exact h1
        · cases hc; exact hb _ rfl
    rw [y28, hs, Option.bind_some, List.foldl_cons]
    exact y5y cs _ (fun t ht => h t (List.mem_cons_of_mem _ ht)) hb2
def zi2 (r : z02) (l : List z00) : Option (List Int × Int) := ((z4y l.length (upto l.length)).filter (okP r l [])).foldl (zga (z45 r l)) none
theorem y6y {l : List z00} (h : zn2 l = 0) : 0 < l.length ∧ l.length ≤ 7 := by
 unfold zn2 at h
 split at h
 ·exact absurd h (by decide)
 ·split at h
  ·exact absurd h (by decide)
  ·omega
theorem z8n {r : z02} {l : List z00} (h : z4j r l = 0) : 0 < l.length ∧ l.length ≤ 7 := by
 unfold z4j at h
 cases hr : z5d r with
 | false => rw [hr] at h; exact absurd (show (2 : Int) = 0 from h) (by decide)
 | true => rw [hr, cond_true] at h; exact y6y h
theorem zyl {l : List z00} (h : 0 < l.length) (h7 : l.length ≤ 7) : ∀ s ∈ z4y l.length (upto l.length), s ≠ [] ∧ s.length = l.length ∧ ∀ i ∈ s, 0 ≤ i ∧ i < (l.length : Int) := by
 intro s hs
 have hp := zij _ _ (z3b _) s hs
 have hl := hp.length_eq
 rw [z3b] at hl
 exact ⟨fun e => by rw [e] at hl; simp at hl; omega, hl, fun i hi => z6k.1 (hp.subset hi)⟩
theorem zmg {r : z02} {l : List z00} (hl : l.length ≤ 4294967296) :
    z1x r l = some (if z4j r l = 0 then (match zi2 r l with | none => ([], 0, 12) | some c => (c.1, c.2, 0)) else ([], 0, z4j r l)) := by
  unfold z1x
  rw [zyn hl, Option.bind_some]
  by_cases h0 : z4j r l = 0
  · rw [if_pos h0, show (((r, l), z4j r l).2 != 0) = false by rw [h0]; rfl, cond_false]
    obtain ⟨hl0, hl7⟩ := z8n h0
    rw [y6n (by omega), Option.bind_some, zry (zhh _) (by rw [z3b]; omega) (fun i hi => z6k.1 hi), Option.bind_some, z3b]
    obtain ⟨h1, h2⟩ := y5y (r := r) (l := l) ((z4y l.length (upto l.length)).filter (okP r l [])) none (fun s hs => by
      obtain ⟨a, b, c⟩ := zyl hl0 hl7 s (List.mem_filter.1 hs).1
      exact ⟨a, by omega, c⟩) (fun c h => by cases h)
    rw [h1, Option.bind_some]
    unfold zi2 at *
    revert h2
    generalize List.foldl (zga (z45 r l)) none ((z4y l.length (upto l.length)).filter (okP r l [])) = b
    intro h2
    cases b with
    | none => rfl
    | some c =>
      have hc := h2 c rfl
      show chk (!c.1.isEmpty) _ = _
      rw [z18 (by
        cases hcc : c.1 with
        | nil => exact absurd hcc hc
        | cons _ _ => rfl)]
  · rw [if_neg h0, show (((r, l), z4j r l).2 != 0) = true by rw [bne_iff_ne]; exact h0, cond_true]
def y05 : Option (List Int × Int) → List Int × Bool
 | none => ([], false)
 | some c => (c.1, true)
theorem y9j (r : z02) (l : List z00) (s : List Int) : (!(vioE r l s).2) = okP r l [] s := by
 unfold vioE okP
 cases z1h (vioG r l) [] s <;> rfl
theorem zzi {q : Int → Int → Int} {p : List Int → Bool} {P : List Int → Prop} : ∀ (cs : List (List Int)) (b : Option (List Int × Int)), (∀ s ∈ cs, P s) → (∀ c, b = some c → P c.1 ∧ c.2 = zc8 q c.1) → ∀ c, cs.foldl (fun x y => if p y then zga q x y else x) b = some c → P c.1 ∧ c.2 = zc8 q c.1
  | [], b, _, hb, c, h => hb c h
  | s :: cs, b, hs, hb, c, h => by
    refine zzi cs _ (fun t ht => hs t (List.mem_cons_of_mem _ ht)) (fun d hd => ?_) c h
    have h1 := hs s (List.mem_cons_self ..)
    replace hd : (if p s = true then zga q b s else b) = some d := hd
    split at hd
    · unfold zga at hd
      cases b with
      | none => cases hd; exact ⟨h1, rfl⟩
      | some e =>
        simp only at hd
        split at hd
        · cases hd; exact ⟨h1, rfl⟩
        · cases hd; exact hb _ rfl
    · exact hb d hd
theorem y49 {r : z02} {l : List z00} (h0 : z4j r l = 0) : zfg r l = some (y05 (zi2 r l)) := by
  obtain ⟨hl0, hl7⟩ := z8n h0
  obtain ⟨hr, hi⟩ := zhm h0
  unfold zfg
  refine Option.bind_eq_some_iff.2 ⟨upto l.length, znp (fun k => (upto k, (k : Int))) l.length (fun k hk => ?_) ?_, ?_⟩
  · show (bif decide ((k : Int) < (l.length : Int)) then _ else _) = _
    rw [z07 (by omega), cond_true, zlc (by rw [z3b]; simp; omega), Option.bind_some, z0j (by omega) (by omega), ← zzz]
    rfl
  · show (bif decide ((l.length : Int) < (l.length : Int)) then _ else _) = _
    rw [z0v (by omega), cond_false]
  unfold ztv
  rw [y0q _ _ (by omega) (zhh _) (by rw [z3b]; omega), Option.bind_some, z3b]
  have hp := zyl hl0 hl7
  have hlen : (z4y l.length (upto l.length)).length ≤ 43046721 := Nat.le_trans (zqn _ _ (z3b _) (by omega)) (pow9 (by omega))
  unfold zi2
  rw [List.foldl_filter]
  generalize hcs : z4y l.length (upto l.length) = cs at *
  refine Option.bind_eq_some_iff.2 ⟨y05 (cs.foldl (fun x y => if okP r l [] y then zga (z45 r l) x y else x) none), z6r (X := List Int) (l := cs) (fun pre => ((y05 (pre.foldl (fun x y => if okP r l [] y then zga (z45 r l) x y else x) none)).1, (y05 (pre.foldl (fun x y => if okP r l [] y then zga (z45 r l) x y else x) none)).2, (pre.length : Int))) (fun pre s post e => ?_) ?_, rfl⟩
  · have hs := hp s (by rw [e]; simp)
    have hinv := zzi (q := z45 r l) (p := okP r l []) (P := fun s => s.length = l.length ∧ ∀ i ∈ s, 0 ≤ i ∧ i < (l.length : Int)) pre none (fun t ht => (hp t (by rw [e]; exact List.mem_append_left _ ht)).2) (fun c h => by cases h)
    simp only [z7s e, z59 e, zah e (show cs.length ≤ 4294967296 by omega), zvd e]
    rw [List.foldl_append, List.foldl_cons, List.foldl_nil]
    generalize List.foldl (fun x y => if okP r l [] y then zga (z45 r l) x y else x) none pre = b at *
    have hL : cs.length = pre.length + (post.length + 1) := by rw [e, List.length_append, List.length_cons]
    rw [zs3 (by omega) hs.2.2 hr hi, Option.bind_some, y9j, List.length_append, List.length_singleton, z07 (show (pre.length : Int) < (cs.length : Int) by omega), cond_true]
    cases hk : okP r l [] s with
    | false => rfl
    | true =>
      rw [cond_true, if_pos rfl]
      cases b with
      | none => rfl
      | some c =>
        obtain ⟨⟨h1, h2⟩, h3⟩ := hinv c rfl
        rw [show (!(y05 (some c)).2) = false from rfl, cond_false, zzr (by omega) hs.2.2, Option.bind_some, show (y05 (some c)).1 = c.1 from rfl, zzr (by omega) h2, Option.bind_some, ← h3]
        unfold zga
        by_cases hd : zc8 (z45 r l) s < c.2
        · rw [z07 hd]; simp only [if_pos hd]; rfl
        · rw [z0v hd]; simp only [if_neg hd]; rfl
  · simp only [step_end]
end Go.Lift
namespace Go.Lift
open Go
theorem zim {A : Type} [BEq A] [LawfulBEq A] : ∀ {l m : List A}, l.Nodup → (∀ x ∈ l, x ∈ m) → l.length ≤ m.length
  | [], _, _, _ => Nat.zero_le _
  | x :: l, m, h, hs => by
    have hx : x ∈ m := hs x (List.mem_cons_self ..)
    have h2 := List.nodup_cons.1 h
    have := zim (l := l) (m := m.erase x) h2.2 fun y hy => (List.mem_erase_of_ne (fun e : y = x => h2.1 (e ▸ hy))).2 (hs y (List.mem_cons_of_mem _ hy))
    rw [List.length_erase_of_mem hx] at this
    have := List.length_pos_of_mem hx
    rw [List.length_cons]
    omega
theorem y59 {X : Type} {l pre post : List X} {x : X} (h : l = pre ++ x :: post) (hl : l.length ≤ 9223372036854775807) : wi64 ((pre.length : Int) + 1) = (pre.length : Int) + 1 := by
 have hL : l.length = pre.length + (post.length + 1) := by rw [h, List.length_append, List.length_cons]
 exact z0j (by omega) (by omega)
theorem yfk {l : List Int} {n : Int} (hl : l.length ≤ 9223372036854775807) : zrz l n = some (l.contains n) := by
 unfold zrz
 rw [z4u (l := l) (g := fun _ x => bif (x == n) then some true else none) (fun pre x post e => by
    rw [z7s e, z59 e, y59 e hl]
    cases x == n <;> rfl) step_end, Option.bind_some, zhy (fun x => x == n) true]
 have : (l.any fun x => x == n) = l.contains n := by
  rw [Bool.eq_iff_iff, List.any_eq_true, List.contains_iff_mem]
  exact ⟨fun ⟨x, h, e⟩ => by rw [← eq_of_beq e]; exact h, fun h => ⟨n, h, beq_self_eq_true n⟩⟩
 rw [this]
 cases l.contains n <;> rfl
theorem zlj {l : List z00} {s : List Int} (hl : l.length ≤ 4294967296) (hs : s.length ≤ 9223372036854775807) : z38 l s = some (seqE l.length s) := by
 unfold z38 seqE
 rw [z4u (l := s) (g := seqG l.length) (fun pre x post e => by
    have hL : s.length = pre.length + (post.length + 1) := by rw [e, List.length_append, List.length_cons]
    rw [z7s e, z59 e, y59 e hs, zc0, Option.bind_some, z0j (by omega) (by omega), zsk e, yfk (by omega), z18 (by rw [z07 (by omega), z07 (by omega), z07 (by omega)]; rfl), zvd e, Option.bind_some]
    unfold seqG inB
    cases decide (0 ≤ x ∧ x ≤ (l.length : Int) - 1) <;> cases pre.contains x <;> rfl) step_end, Option.bind_some]
 cases z1h (seqG l.length) [] s <;> rfl
theorem seqP {n : Int} : ∀ (m pre : List Int), (z1h (seqG n) pre m).getD 0 = 0 ↔ (∀ x ∈ m, 0 ≤ x ∧ x < n) ∧ m.Nodup ∧ ∀ x ∈ m, x ∉ pre
  | [], pre => by simp [z1h]
  | y :: m, pre => by
    simp only [z1h]
    unfold seqG
    by_cases hy : 0 ≤ y ∧ y ≤ n - 1
    · rw [show inB y 0 (n - 1) = true from z07 hy]
      cases hc : pre.contains y with
      | true =>
        have hm := List.contains_iff_mem.1 hc
        constructor
        · intro h; exact absurd (show (23 : Int) = 0 from h) (by decide)
        · intro h; exact absurd hm (h.2.2 y (List.mem_cons_self ..))
      | false =>
        have hm : y ∉ pre := fun h => by rw [List.contains_iff_mem.2 h] at hc; cases hc
        show (z1h (seqG n) (pre ++ [y]) m).getD 0 = 0 ↔ _
        rw [seqP m (pre ++ [y])]
        constructor
        · rintro ⟨h1, h2, h3⟩
          refine ⟨fun x hx => ?_, List.nodup_cons.2 ⟨fun h => h3 y h (by simp), h2⟩, fun x hx => ?_⟩
          · rcases List.mem_cons.1 hx with rfl | hx
            · omega
            · exact h1 x hx
          · rcases List.mem_cons.1 hx with rfl | hx
            · exact hm
            · exact fun h => h3 x hx (List.mem_append_left _ h)
        · rintro ⟨h1, h2, h3⟩
          have h4 := List.nodup_cons.1 h2
          refine ⟨fun x hx => h1 x (List.mem_cons_of_mem _ hx), h4.2, fun x hx h => ?_⟩
          rcases List.mem_append.1 h with h | h
          · exact h3 x (List.mem_cons_of_mem _ hx) h
          · rw [List.mem_singleton.1 h] at hx; exact h4.1 hx
    · rw [show inB y 0 (n - 1) = false from z0v hy]
      constructor
      · intro h; exact absurd (show (6 : Int) = 0 from h) (by decide)
      · intro h; have := h.1 y (List.mem_cons_self ..); omega
theorem zlr {n : Int} {s : List Int} : seqE n s = 0 ↔ (∀ x ∈ s, 0 ≤ x ∧ x < n) ∧ s.Nodup := by
 unfold seqE
 rw [seqP]
 simp
theorem zx3 {A : Type} [BEq A] [LawfulBEq A] : ∀ {l m : List A}, l.Nodup → (∀ x ∈ l, x ∈ m) → m.length = l.length → l.Perm m
  | [], m, _, _, h => by rw [List.length_eq_zero_iff.1 h]
  | x :: l, m, h, hs, hl => by
    have hx : x ∈ m := hs x (List.mem_cons_self ..)
    have h2 := List.nodup_cons.1 h
    have := zx3 (l := l) (m := m.erase x) h2.2 (fun y hy => (List.mem_erase_of_ne (fun e : y = x => h2.1 (e ▸ hy))).2 (hs y (List.mem_cons_of_mem _ hy))) (by rw [List.length_erase_of_mem hx, hl]; rfl)
    exact (this.cons x).trans (List.perm_cons_erase hx).symm
theorem ybh {n : Nat} {s : List Int} (h : seqE n s = 0) (hl : s.length = n) : s.Perm (upto n) := by
 obtain ⟨h1, h2⟩ := zlr.1 h
 exact zx3 h2 (fun x hx => z6k.2 (h1 x hx)) (by rw [z3b, hl])
theorem zym {n : Nat} {s : List Int} (h : s.Perm (upto n)) : seqE n s = 0 :=
 zlr.2 ⟨fun x hx => z6k.1 (h.subset hx), h.symm.nodup (zhh n)⟩
theorem zzh {q : Int → Int → Int} : ∀ (cs : List (List Int)) (b : Option (List Int × Int)), (∀ c, cs.foldl (zga q) b = some c → (∀ s ∈ cs, c.2 ≤ zc8 q s) ∧ (∀ d, b = some d → c.2 ≤ d.2) ∧ ((c.1 ∈ cs ∧ c.2 = zc8 q c.1) ∨ b = some c)) ∧ (cs.foldl (zga q) b = none → cs = [] ∧ b = none)
  | [], b => ⟨fun c h => ⟨fun s hs => (List.not_mem_nil hs).elim, fun d hd => by rw [List.foldl_nil] at h; rw [hd] at h; cases h; exact Int.le_refl _, Or.inr h⟩, fun h => ⟨rfl, h⟩⟩
  | s :: cs, b => by
    obtain ⟨h1, h2⟩ := zzh (q := q) cs (zga q b s)
    refine ⟨fun c h => ?_, fun h => ?_⟩
    · obtain ⟨h3, h4, h5⟩ := h1 c h
      have hb : ∃ e, zga q b s = some e ∧ e.2 ≤ zc8 q s ∧ (∀ d, b = some d → e.2 ≤ d.2) ∧ (e = (s, zc8 q s) ∨ b = some e) := by
        unfold zga
        cases b with
        | none => exact ⟨_, rfl, Int.le_refl _, (fun d hd => by cases hd), Or.inl rfl⟩
        | some d =>
          simp only
          by_cases hd : zc8 q s < d.2
          · rw [if_pos hd]
            exact ⟨_, rfl, Int.le_refl _, (fun d hd => by cases hd; omega), Or.inl rfl⟩
          · rw [if_neg hd]
            exact ⟨_, rfl, by omega, (fun d hd => by cases hd; omega), Or.inr rfl⟩
      obtain ⟨e, e1, e2, e3, e4⟩ := hb
      have hce := h4 e e1
      refine ⟨fun t ht => ?_, fun d hd => Int.le_trans hce (e3 d hd), ?_⟩
      · rcases List.mem_cons.1 ht with rfl | ht
        · omega
        · exact h3 t ht
      · rcases h5 with ⟨h6, h7⟩ | h5
        · exact Or.inl ⟨List.mem_cons_of_mem _ h6, h7⟩
        · rw [e1] at h5
          cases h5
          rcases e4 with rfl | e4
          · exact Or.inl ⟨List.mem_cons_self .., rfl⟩
          · exact Or.inr e4
    · have := (h2 h).2
      unfold zga at this
      cases b with
      | none => cases this
      | some d => simp only at this; split at this <;> cases this
theorem zo8 {r : z02} {l : List z00} {c : List Int × Int} (h : zi2 r l = some c) : c.1.Perm (upto l.length) ∧ okP r l [] c.1 = true ∧ c.2 = zc8 (z45 r l) c.1 ∧ ∀ s, s.Perm (upto l.length) → okP r l [] s = true → c.2 ≤ zc8 (z45 r l) s := by
 obtain ⟨h1, _, h3⟩ := (zzh (q := z45 r l) _ none).1 c h
 rcases h3 with ⟨h3, h4⟩ | h3
 ·obtain ⟨h5, h6⟩ := List.mem_filter.1 h3
  exact ⟨zij _ _ (z3b _) _ h5, h6, h4, fun s hs ho => h1 s (List.mem_filter.2 ⟨zik _ _ _ (z3b _) hs, ho⟩)⟩
 ·cases h3
theorem zo9 {r : z02} {l : List z00} (h : zi2 r l = none) : ∀ s, s.Perm (upto l.length) → okP r l [] s = false := by
 intro s hs
 have := ((zzh (q := z45 r l) _ none).2 h).1
 rw [List.filter_eq_nil_iff] at this
 have := this s (zik _ _ _ (z3b _) hs)
 simpa using this
theorem ydy (r : z02) (l : List z00) (s : List Int) : (vioE r l s).2 = !okP r l [] s := by rw [← y9j, Bool.not_not]
theorem zde {r : z02} {l : List z00} {s : List Int} (h0 : z4j r l = 0) (hs : s.length ≤ 1000000) (h1 : seqE l.length s = 0) : z1u r l s = some ((vioE r l s).1, bif okP r l [] s then 12 else 0) := by
 have hl := z8n h0
 unfold z1u
 rw [zlz (by omega) (by omega), Option.bind_some, if_pos h0, h1]
 simp only [show ((0 : Int) != 0) = false from rfl, cond_false]
 rw [zrn hs (znj h1), Option.bind_some, z6l, Option.bind_some, ydy]
 cases okP r l [] s <;> rfl
theorem zw0 {r : z02} {l : List z00} {s : List Int} (h0 : z4j r l = 0) (hs : s.length ≤ 1000000) (h1 : seqE l.length s = 0) : z3u r l s = some (zc8 (z45 r l) s, 0) := by
 have hl := z8n h0
 unfold z3u
 rw [zlz (by omega) (by omega), Option.bind_some, if_pos h0, h1]
 simp only [show ((0 : Int) != 0) = false from rfl, cond_false]
 rw [zz7 (by omega) (znj h1), Option.bind_some]
theorem upto_at {n : Nat} {pre post : List Int} {x : Int} (h : upto n = pre ++ x :: post) : x = (pre.length : Int) ∧ pre.length < n := by
 have hl : n = pre.length + (post.length + 1) := by
  have := congrArg List.length h
  rw [z3b, List.length_append, List.length_cons] at this
  exact this
 have h2 : (upto n)[pre.length]? = some x := by rw [h]; simp
 unfold upto at h2
 rw [List.getElem?_map, List.getElem?_range (by omega)] at h2
 refine ⟨?_, by omega⟩
 exact (Option.some.inj h2).symm
theorem zp7 (p : List Int) : (upto p.length).map (lget 0 p) = p := by
 unfold upto
 rw [List.map_map]
 refine List.ext_getElem (by simp) fun i h1 h2 => ?_
 simp only [List.getElem_map, List.getElem_range, Function.comp]
 unfold lget
 rw [Int.toNat_natCast, List.getD_eq_getElem?_getD, List.getElem?_eq_getElem h2]
 rfl
end Go.Lift
