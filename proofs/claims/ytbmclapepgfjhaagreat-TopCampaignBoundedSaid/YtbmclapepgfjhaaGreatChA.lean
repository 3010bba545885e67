/-
  All orders of a list, all campaigns, the cheapest of them.
-/
import Derived.Test.YtbmclapepgfjhaaGreatVioC
import Derived.Test.YtbmclapepgfjhaaGreatFunF
set_option linter.unusedSectionVars false
set_option linter.unusedVariables false
set_option linter.unusedSimpArgs false
namespace Go.Lift
open Go
def zhp : Nat → List Int → List (List Int)
 | 0, _ => [[]]
 | n + 1, l => l.flatMap fun x => (zhp n (l.erase x)).map (x :: ·)
theorem zsj {l : List Bool} {v : Bool} (hl : l.length ≤ 4294967296) : z1i l v = some (l.contains v) := by
 unfold z1i z43
 have h := z5p (l := l) (F := fun t => bif decide (t < (List.length l : Int)) then
   chk (decide ((0 : Int) ≤ t) && decide (t < (List.length l : Int))) (
    bif (v == (lget false l t)) then
     Option.map Sum.inr (Option.map Sum.inr (
      some t))
    else
     some (.inl (wi64 (t + 1))))
  else
   some (.inr (.inl ()))) (g := fun pre x => bif (v == x) then some (pre.length : Int) else none) (fun pre x post e => by
    rw [zar e, z82 e, zau e hl]
    cases v == x <;> rfl) step_end
 rw [h, Option.bind_some]
 have any : ∀ (l pre : List Bool), ((z26 (fun (pre : List Bool) x => bif (v == x) then some (pre.length : Int) else none) pre l).getD (-1) ≥ 0) ↔ l.contains v = true := by
  intro l
  induction l with
  | nil => intro pre; simp [z26]
  | cons x l ih =>
   intro pre
   rw [List.contains_cons]
   cases hp : v == x with
   | true => simp [z26, hp]
   | false => simpa [z26, hp] using ih (pre ++ [x])
 have any1 := any l []
 revert any1
 generalize z26 (fun (pre : List Bool) x => bif (v == x) then some (pre.length : Int) else none) [] l = q
 intro any1
 have hq : decide (q.getD (-1) ≥ 0) = l.contains v := by rw [Bool.eq_iff_iff, decide_eq_true_eq]; exact any1
 rw [← hq]
 cases q <;> rfl
theorem zrb (v : Nat → Bool) : ((List.range 5).map v).contains true = (zlw v).head?.isSome := by
 have h1 : (List.range 5).map v = [v 0, v 1, v 2, v 3, v 4] := rfl
 have h2 : zlw v = (([0, 1, 2, 3, 4] : List Nat).filter v).map fun (k : Nat) => (k : Int) := rfl
 rw [h1, h2]
 simp only [List.filter_cons, List.filter_nil]
 cases v 0 <;> cases v 1 <;> cases v 2 <;> cases v 3 <;> cases v 4 <;> rfl
def badP (r : z01) (l : List z00) (pre : List Int) (x : Int) : Bool := (vioG r l pre x).isSome
theorem zqp {r : z01} {l : List z00} {pre : List Int} {x : Int} (hs : pre.length ≤ 1000) (hin : ∀ i ∈ pre ++ [x], 0 ≤ i ∧ i < (l.length : Int)) : zd3 (r, l) (pre ++ [x]) = some (badP r l pre x) := by
 have hl : (pre ++ [x]).length = pre.length + 1 := by simp
 unfold zd3
 rw [z0a (by omega), cond_true, z0m (by omega) (by omega), show ((pre ++ [x]).length : Int) - 1 = pre.length by omega]
 rw [zlv (post := []) rfl (by omega) hin, Option.bind_some, zsj (by simp), zrb]
 unfold badP vioG
 rw [Option.isSome_map]
end Go.Lift
namespace Go.Lift
open Go
theorem zzr {A B : Type} {f : A → Option (List B)} {g : A → List B} : ∀ {l : List A}, (∀ x ∈ l, f x = some (g x)) → catM f l = some (l.flatMap g)
 | [], _ => rfl
 | x :: l, h => by
  rw [catM, h x (List.mem_cons_self ..), Option.bind_some, zzr fun y hy => h y (List.mem_cons_of_mem _ hy), Option.bind_some, List.flatMap_cons]
def okP (r : z01) (l : List z00) (begun s : List Int) : Bool := (z26 (vioG r l) begun s).isNone
theorem zpx (r : z01) (l : List z00) (begun s : List Int) (x : Int) : okP r l begun (x :: s) = bif badP r l begun x then false else okP r l (begun ++ [x]) s := by
 unfold okP badP
 simp only [z26]
 cases vioG r l begun x <;> rfl
def zac (items begun : List Int) : List Int := items.filter fun i => !begun.contains i
theorem zm7 {items begun : List Int} {x : Int} (hd : items.Nodup) : zac items (begun ++ [x]) = (zac items begun).erase x := by
 unfold zac
 rw [List.Nodup.erase_eq_filter (List.Pairwise.filter _ hd), List.filter_filter]
 congr 1
 funext i
 rw [List.contains_eq_any_beq, List.any_append, List.contains_eq_any_beq]
 simp only [List.any_cons, List.any_nil, Bool.or_false, bne, Bool.not_or]
 rw [Bool.and_comm]
def zsr (r : z01) (l : List z00) (items begun : List Int) : List (List Int) :=
 ((zhp (zac items begun).length (zac items begun)).filter (okP r l begun)).map (begun ++ ·)
theorem zp6 {B : Type} (p : Int → Bool) (f : Int → List B) : ∀ l : List Int, (l.flatMap fun i => if p i then [] else f i) = (l.filter fun i => !p i).flatMap f
 | [] => rfl
 | x :: l => by
  rw [List.flatMap_cons, zp6 p f l, List.filter_cons]
  cases p x <;> simp
theorem zp7 {A B : Type} {f g : A → List B} : ∀ {l : List A}, (∀ x ∈ l, f x = g x) → l.flatMap f = l.flatMap g
 | [], _ => rfl
 | x :: l, h => by
  rw [List.flatMap_cons, List.flatMap_cons, h x (List.mem_cons_self ..), zp7 fun y hy => h y (List.mem_cons_of_mem _ hy)]
theorem zx8 {r : z01} {l : List z00} {items begun : List Int} (hd : items.Nodup) {k : Nat} (hk : (zac items begun).length = k + 1) :
  zsr r l items begun = (zac items begun).flatMap fun x => if badP r l begun x then [] else zsr r l items (begun ++ [x]) := by
 conv => lhs; unfold zsr
 rw [hk, zhp, List.filter_flatMap, List.map_flatMap]
 refine zp7 fun x hx => ?_
 have hlen : ((zac items begun).erase x).length = k := by rw [List.length_erase_of_mem hx, hk]; rfl
 rw [List.filter_map, List.map_map]
 unfold zsr
 rw [zm7 hd, hlen]
 have hp : (okP r l begun ∘ fun s => x :: s) = fun s => bif badP r l begun x then false else okP r l (begun ++ [x]) s := by
  funext s
  exact zpx r l begun s x
 rw [hp]
 cases badP r l begun x with
 | true => simp
 | false =>
  simp only [cond_false, Bool.false_eq_true, if_false]
  refine List.map_congr_left fun s _ => ?_
  simp
theorem zvo {r : z01} {l : List z00} {items : List Int} (hd : items.Nodup) (hn : items.length ≤ 9) (hin : ∀ i ∈ items, 0 ≤ i ∧ i < (l.length : Int)) :
  ∀ (m : Nat) (begun : List Int) (bad : Bool), (∀ i ∈ begun, i ∈ items) → begun.length + (zac items begun).length = items.length → (zac items begun).length < m → zd3 (r, l) begun = some bad →
   zno (r, l) items m begun = some (if bad then [] else zsr r l items begun)
 | 0, _, _, _, _, h, _ => absurd h (by omega)
 | m + 1, begun, bad, hb, hlen, hm, hbad => by
  unfold zno
  rw [hbad, Option.bind_some]
  cases bad with
  | true => rfl
  | false =>
  rw [cond_false]
  by_cases he : (zac items begun).length = 0
  ·rw [show ((begun.length : Int) == (items.length : Int)) = true by rw [beq_iff_eq]; omega, cond_true]
   unfold zsr
   rw [he]
   show some [begun] = some [begun ++ []]
   rw [List.append_nil]
  ·rw [show ((begun.length : Int) == (items.length : Int)) = false by rw [beq_eq_false_iff_ne]; omega, cond_false]
   obtain ⟨k, hk⟩ : ∃ k, (zac items begun).length = k + 1 := ⟨(zac items begun).length - 1, by omega⟩
   rw [zx8 hd hk]
   show catM _ items = _
   rw [zzr (g := fun i => if begun.contains i then [] else if badP r l begun i then [] else zsr r l items (begun ++ [i])) fun x hx => ?_]
   ·rw [zp6]; rfl
   ·rw [zd1 (by omega), Option.bind_some]
    cases hc : begun.contains x with
    | true => rfl
    | false =>
     have hxr : x ∈ zac items begun := List.mem_filter.2 ⟨hx, by rw [hc]; rfl⟩
     have hl2 : (zac items (begun ++ [x])).length = k := by rw [zm7 hd, List.length_erase_of_mem hxr, hk]; rfl
     have hb2 : ∀ i ∈ begun ++ [x], i ∈ items := fun i hi => by
      rcases List.mem_append.1 hi with h | h
      ·exact hb i h
      ·rw [List.mem_singleton.1 h]; exact hx
     rw [cond_false]
     exact zvo hd hn hin m (begun ++ [x]) (badP r l begun x) hb2 (by rw [hl2, List.length_append, List.length_singleton]; omega) (by omega) (zqp (by omega) fun i hi => hin i (hb2 i hi))
theorem zsq {r : z01} {l : List z00} {items : List Int} (hd : items.Nodup) (hn : items.length ≤ 9) (hin : ∀ i ∈ items, 0 ≤ i ∧ i < (l.length : Int)) :
  z11 (r, l) items = some ((zhp items.length items).filter (okP r l [])) := by
 have hr : zac items [] = items := by unfold zac; simp
 unfold z11
 rw [z0a (by omega), cond_true, zvo hd hn hin (items.length + 1) [] false (by simp) (by rw [hr]; simp) (by rw [hr]; omega) rfl]
 unfold zsr
 rw [hr]
 simp
end Go.Lift
namespace Go.Lift
open Go
def upto (n : Nat) : List Int := (List.range n).map fun (k : Nat) => (k : Int)
theorem zr1 (n : Nat) : upto (n + 1) = upto n ++ [(n : Int)] := by simp [upto, List.range_succ]
theorem z3g (n : Nat) : (upto n).length = n := by simp [upto]
theorem z4g {n : Nat} {i : Int} : i ∈ upto n ↔ 0 ≤ i ∧ i < (n : Int) := by
 unfold upto
 rw [List.mem_map]
 constructor
 ·rintro ⟨k, hk, rfl⟩
  have := List.mem_range.1 hk
  omega
 ·rintro ⟨h0, h1⟩
  exact ⟨i.toNat, List.mem_range.2 (by omega), by omega⟩
theorem zbh (n : Nat) : (upto n).Nodup := by
 unfold upto
 rw [List.nodup_iff_pairwise_ne, List.pairwise_map]
 exact (List.nodup_iff_pairwise_ne.1 List.nodup_range).imp fun h e => h (by omega)
theorem zwj {n : Nat} (h : n ≤ 1000) : z2v (n : Int) = some (upto n) := by
 unfold z2v
 refine Option.bind_eq_some_iff.2 ⟨upto n, ztv (fun k => (upto k, (k : Int))) n (fun k hk => ?_) ?_, rfl⟩
 ·show (bif decide ((k : Int) < (n : Int)) then _ else _) = _
  rw [z0a (by omega), cond_true, znq (by rw [z3g]; simp; omega), Option.bind_some, z0m (by omega) (by omega), ← zr1]
  rfl
 ·show (bif decide ((n : Int) < (n : Int)) then _ else _) = _
  rw [z1s (by omega), cond_false]
theorem zhz : ∀ (n : Nat) (l : List Int), l.length = n → ∀ y ∈ zhp n l, y.Perm l
 | 0, l, h, y, hy => by
  rw [List.mem_singleton.1 hy, List.length_eq_zero_iff.1 h]
 | n + 1, l, h, y, hy => by
  obtain ⟨x, hx, hy⟩ := List.mem_flatMap.1 hy
  obtain ⟨z, hz, rfl⟩ := List.mem_map.1 hy
  exact ((zhz n _ (by rw [List.length_erase_of_mem hx]; omega) z hz).cons x).trans (List.perm_cons_erase hx).symm
theorem zi0 : ∀ (n : Nat) (l y : List Int), l.length = n → y.Perm l → y ∈ zhp n l
 | 0, l, y, h, hp => by
  rw [List.length_eq_zero_iff.1 h] at hp
  rw [List.perm_nil.1 hp]
  exact List.mem_singleton.2 rfl
 | n + 1, l, [], h, hp => by
  have := hp.length_eq
  rw [h] at this; cases this
 | n + 1, l, x :: y, h, hp => by
  have hx : x ∈ l := hp.subset (List.mem_cons_self ..)
  exact List.mem_flatMap.2 ⟨x, hx, List.mem_map.2 ⟨y, zi0 n _ y (by rw [List.length_erase_of_mem hx]; omega) (by
   have h2 := hp.trans (List.perm_cons_erase hx)
   exact (List.perm_cons x).1 h2), rfl⟩⟩
def zgm (q : Int → Int → Int) (b : Option (List Int × Int)) (s : List Int) : Option (List Int × Int) := match b with
 | none => some (s, z7p q s)
 | some c => if z7p q s < c.2 then some (s, z7p q s) else some c
theorem zvr {r : z01} {l : List z00} : ∀ (cs : List (List Int)) (b : Option (List Int × Int)), (∀ s ∈ cs, s ≠ [] ∧ s.length ≤ 4294967296 ∧ ∀ i ∈ s, 0 ≤ i ∧ i < (l.length : Int)) → (∀ c, b = some c → c.1 ≠ []) →
   zsx (r, l) cs b = some (cs.foldl (zgm (z3z r l)) b) ∧ ∀ c, cs.foldl (zgm (z3z r l)) b = some c → c.1 ≠ []
 | [], b, _, hb => ⟨rfl, hb⟩
 | s :: cs, b, h, hb => by
  obtain ⟨h1, h2, h3⟩ := h s (List.mem_cons_self ..)
  have hs : zsw (r, l) s b = some (zgm (z3z r l) b s) := by
   unfold zsw
   rw [zqi h2 h3, Option.bind_some]
   cases b with
   | none => rfl
   | some c =>
    have hc := hb c rfl
    have hc2 : (!c.1.isEmpty) = true := by
     cases hcc : c.1 with
     | nil => exact absurd hcc hc
     | cons _ _ => rfl
    show chk (!c.1.isEmpty) _ = _
    rw [z1h hc2]
    unfold zgm
    by_cases hd : z7p (z3z r l) s < c.2
    ·rw [z0a hd, cond_true]; simp only [if_pos hd]
    ·rw [z1s hd, cond_false]; simp only [if_neg hd]
  have hb2 : ∀ c, zgm (z3z r l) b s = some c → c.1 ≠ [] := by
   intro c hc
   unfold zgm at hc
   cases b with
   | none => cases hc; exact h1
   | some d =>
    simp only at hc
    split at hc
    ·cases hc; exact h1
    ·cases hc; exact hb _ rfl
  rw [zsx, hs, Option.bind_some, List.foldl_cons]
  exact zvr cs _ (fun t ht => h t (List.mem_cons_of_mem _ ht)) hb2
def zd2 (r : z01) (l : List z00) : Option (List Int × Int) := ((zhp l.length (upto l.length)).filter (okP r l [])).foldl (zgm (z3z r l)) none
theorem zwr {l : List z00} (h : zkx l = 0) : 0 < l.length ∧ l.length ≤ 7 := by
 unfold zkx at h
 split at h
 ·exact absurd h (by decide)
 ·split at h
  ·exact absurd h (by decide)
  ·omega
theorem zdv {r : z01} {l : List z00} (h : z4r r l = 0) : 0 < l.length ∧ l.length ≤ 7 := by
 unfold z4r at h
 cases hr : z2l r with
 | false => rw [hr] at h; exact absurd (show (2 : Int) = 0 from h) (by decide)
 | true => rw [hr, cond_true] at h; exact zwr h
theorem zuv {l : List z00} (h : 0 < l.length) (h7 : l.length ≤ 7) : ∀ s ∈ zhp l.length (upto l.length), s ≠ [] ∧ s.length = l.length ∧ ∀ i ∈ s, 0 ≤ i ∧ i < (l.length : Int) := by
 intro s hs
 have hp := zhz _ _ (z3g _) s hs
 have hl := hp.length_eq
 rw [z3g] at hl
 exact ⟨fun e => by rw [e] at hl; simp at hl; omega, hl, fun i hi => z4g.1 (hp.subset hi)⟩
theorem y1w {r : z01} {l : List z00} (hl : l.length ≤ 4294967296) :
  z0x r l = some (if z4r r l = 0 then (match zd2 r l with | none => ([], 0, 12) | some c => (c.1, c.2, 0)) else ([], 0, z4r r l)) := by
 unfold z0x
 rw [ztn hl, Option.bind_some]
 by_cases h0 : z4r r l = 0
 ·rw [if_pos h0, show (((r, l), z4r r l).2 != 0) = false by rw [h0]; rfl, cond_false]
  obtain ⟨hl0, hl7⟩ := zdv h0
  rw [zwj (by omega), Option.bind_some, zsq (zbh _) (by rw [z3g]; omega) (fun i hi => z4g.1 hi), Option.bind_some, z3g]
  obtain ⟨h1, h2⟩ := zvr (r := r) (l := l) ((zhp l.length (upto l.length)).filter (okP r l [])) none (fun s hs => by
   obtain ⟨a, b, c⟩ := zuv hl0 hl7 s (List.mem_filter.1 hs).1
   exact ⟨a, by omega, c⟩) (fun c h => by cases h)
  rw [h1, Option.bind_some]
  unfold zd2 at *
  revert h2
  generalize List.foldl (zgm (z3z r l)) none ((zhp l.length (upto l.length)).filter (okP r l [])) = b
  intro h2
  cases b with
  | none => rfl
  | some c =>
   have hc := h2 c rfl
   show chk (!c.1.isEmpty) _ = _
   rw [z1h (by
    cases hcc : c.1 with
    | nil => exact absurd hcc hc
    | cons _ _ => rfl)]
 ·rw [if_neg h0, show (((r, l), z4r r l).2 != 0) = true by rw [bne_iff_ne]; exact h0, cond_true]
theorem zyo (r : z01) (l : List z00) (s : List Int) : (!(vioE r l s).2) = okP r l [] s := by
 unfold vioE okP
 cases z26 (vioG r l) [] s <;> rfl
end Go.Lift
namespace Go.Lift
open Go
theorem zj1 {A : Type} [BEq A] [LawfulBEq A] : ∀ {l m : List A}, l.Nodup → (∀ x ∈ l, x ∈ m) → l.length ≤ m.length
 | [], _, _, _ => Nat.zero_le _
 | x :: l, m, h, hs => by
  have hx : x ∈ m := hs x (List.mem_cons_self ..)
  have h2 := List.nodup_cons.1 h
  have := zj1 (l := l) (m := m.erase x) h2.2 fun y hy => (List.mem_erase_of_ne (fun e : y = x => h2.1 (e ▸ hy))).2 (hs y (List.mem_cons_of_mem _ hy))
  rw [List.length_erase_of_mem hx] at this
  have := List.length_pos_of_mem hx
  rw [List.length_cons]
  omega
theorem seqP {n : Int} : ∀ (m pre : List Int), (z26 (seqG n) pre m).getD 0 = 0 ↔ (∀ x ∈ m, 0 ≤ x ∧ x < n) ∧ m.Nodup ∧ ∀ x ∈ m, x ∉ pre
 | [], pre => by simp [z26]
 | y :: m, pre => by
  simp only [z26]
  unfold seqG
  by_cases hy : 0 ≤ y ∧ y ≤ n - 1
  ·rw [show inB y 0 (n - 1) = true from z0a hy]
   cases hc : pre.contains y with
   | true =>
    have hm := List.contains_iff_mem.1 hc
    constructor
    ·intro h; exact absurd (show (23 : Int) = 0 from h) (by decide)
    ·intro h; exact absurd hm (h.2.2 y (List.mem_cons_self ..))
   | false =>
    have hm : y ∉ pre := fun h => by rw [List.contains_iff_mem.2 h] at hc; cases hc
    show (z26 (seqG n) (pre ++ [y]) m).getD 0 = 0 ↔ _
    rw [seqP m (pre ++ [y])]
    constructor
    ·rintro ⟨h1, h2, h3⟩
     refine ⟨fun x hx => ?_, List.nodup_cons.2 ⟨fun h => h3 y h (by simp), h2⟩, fun x hx => ?_⟩
     ·rcases List.mem_cons.1 hx with rfl | hx
      ·omega
      ·exact h1 x hx
     ·rcases List.mem_cons.1 hx with rfl | hx
      ·exact hm
      ·exact fun h => h3 x hx (List.mem_append_left _ h)
    ·rintro ⟨h1, h2, h3⟩
     have h4 := List.nodup_cons.1 h2
     refine ⟨fun x hx => h1 x (List.mem_cons_of_mem _ hx), h4.2, fun x hx h => ?_⟩
     rcases List.mem_append.1 h with h | h
     ·exact h3 x (List.mem_cons_of_mem _ hx) h
     ·rw [List.mem_singleton.1 h] at hx; exact h4.1 hx
  ·rw [show inB y 0 (n - 1) = false from z1s hy]
   constructor
   ·intro h; exact absurd (show (6 : Int) = 0 from h) (by decide)
   ·intro h; have := h.1 y (List.mem_cons_self ..); omega
theorem zuk {n : Int} {s : List Int} : seqE n s = 0 ↔ (∀ x ∈ s, 0 ≤ x ∧ x < n) ∧ s.Nodup := by
 unfold seqE
 rw [seqP]
 simp
theorem zlh {n : Nat} {s : List Int} (h : s.Perm (upto n)) : seqE n s = 0 :=
 zuk.2 ⟨fun x hx => z4g.1 (h.subset hx), h.symm.nodup (zbh n)⟩
theorem zqo {q : Int → Int → Int} : ∀ (cs : List (List Int)) (b : Option (List Int × Int)), (∀ c, cs.foldl (zgm q) b = some c → (∀ s ∈ cs, c.2 ≤ z7p q s) ∧ (∀ d, b = some d → c.2 ≤ d.2) ∧ ((c.1 ∈ cs ∧ c.2 = z7p q c.1) ∨ b = some c)) ∧ (cs.foldl (zgm q) b = none → cs = [] ∧ b = none)
 | [], b => ⟨fun c h => ⟨fun s hs => (List.not_mem_nil hs).elim, fun d hd => by rw [List.foldl_nil] at h; rw [hd] at h; cases h; exact Int.le_refl _, Or.inr h⟩, fun h => ⟨rfl, h⟩⟩
 | s :: cs, b => by
  obtain ⟨h1, h2⟩ := zqo (q := q) cs (zgm q b s)
  refine ⟨fun c h => ?_, fun h => ?_⟩
  ·obtain ⟨h3, h4, h5⟩ := h1 c h
   have hb : ∃ e, zgm q b s = some e ∧ e.2 ≤ z7p q s ∧ (∀ d, b = some d → e.2 ≤ d.2) ∧ (e = (s, z7p q s) ∨ b = some e) := by
    unfold zgm
    cases b with
    | none => exact ⟨_, rfl, Int.le_refl _, (fun d hd => by cases hd), Or.inl rfl⟩
    | some d =>
     simp only
     by_cases hd : z7p q s < d.2
     ·rw [if_pos hd]
      exact ⟨_, rfl, Int.le_refl _, (fun d hd => by cases hd; omega), Or.inl rfl⟩
     ·rw [if_neg hd]
      exact ⟨_, rfl, by omega, (fun d hd => by cases hd; omega), Or.inr rfl⟩
   obtain ⟨e, e1, e2, e3, e4⟩ := hb
   have hce := h4 e e1
   refine ⟨fun t ht => ?_, fun d hd => Int.le_trans hce (e3 d hd), ?_⟩
   ·rcases List.mem_cons.1 ht with rfl | ht
    ·omega
    ·exact h3 t ht
   ·rcases h5 with ⟨h6, h7⟩ | h5
    ·exact Or.inl ⟨List.mem_cons_of_mem _ h6, h7⟩
    ·rw [e1] at h5
     cases h5
     rcases e4 with rfl | e4
     ·exact Or.inl ⟨List.mem_cons_self .., rfl⟩
     ·exact Or.inr e4
  ·have := (h2 h).2
   unfold zgm at this
   cases b with
   | none => cases this
   | some d => simp only at this; split at this <;> cases this
theorem znj {r : z01} {l : List z00} {c : List Int × Int} (h : zd2 r l = some c) : c.1.Perm (upto l.length) ∧ okP r l [] c.1 = true ∧ c.2 = z7p (z3z r l) c.1 ∧ ∀ s, s.Perm (upto l.length) → okP r l [] s = true → c.2 ≤ z7p (z3z r l) s := by
 obtain ⟨h1, _, h3⟩ := (zqo (q := z3z r l) _ none).1 c h
 rcases h3 with ⟨h3, h4⟩ | h3
 ·obtain ⟨h5, h6⟩ := List.mem_filter.1 h3
  exact ⟨zhz _ _ (z3g _) _ h5, h6, h4, fun s hs ho => h1 s (List.mem_filter.2 ⟨zi0 _ _ _ (z3g _) hs, ho⟩)⟩
 ·cases h3
theorem znk {r : z01} {l : List z00} (h : zd2 r l = none) : ∀ s, s.Perm (upto l.length) → okP r l [] s = false := by
 intro s hs
 have := ((zqo (q := z3z r l) _ none).2 h).1
 rw [List.filter_eq_nil_iff] at this
 have := this s (zi0 _ _ _ (z3g _) hs)
 simpa using this
theorem y2c (r : z01) (l : List z00) (s : List Int) : (vioE r l s).2 = !okP r l [] s := by rw [← zyo, Bool.not_not]
theorem zog {r : z01} {l : List z00} {s : List Int} (h0 : z4r r l = 0) (hs : s.length ≤ 1000000) (h1 : seqE l.length s = 0) : z3s r l s = some ((vioE r l s).1, bif okP r l [] s then 12 else 0) := by
 have hl := zdv h0
 unfold z3s
 rw [zk7 (by omega) (by omega), Option.bind_some, if_pos h0, h1]
 simp only [show ((0 : Int) != 0) = false from rfl, cond_false]
 rw [zkt hs (zm6 h1), Option.bind_some, z7h, Option.bind_some, y2c]
 cases okP r l [] s <;> rfl
theorem y04 {r : z01} {l : List z00} {s : List Int} (h0 : z4r r l = 0) (hs : s.length ≤ 1000000) (h1 : seqE l.length s = 0) : z6m r l s = some (z7p (z3z r l) s, 0) := by
 have hl := zdv h0
 unfold z6m
 rw [zk7 (by omega) (by omega), Option.bind_some, if_pos h0, h1]
 simp only [show ((0 : Int) != 0) = false from rfl, cond_false]
 rw [zqi (by omega) (zm6 h1), Option.bind_some]
theorem upto_at {n : Nat} {pre post : List Int} {x : Int} (h : upto n = pre ++ x :: post) : x = (pre.length : Int) ∧ pre.length < n := by
 have hl : n = pre.length + (post.length + 1) := by
  have := congrArg List.length h
  rw [z3g, List.length_append, List.length_cons] at this
  exact this
 have h2 : (upto n)[pre.length]? = some x := by rw [h]; simp
 unfold upto at h2
 rw [List.getElem?_map, List.getElem?_range (by omega)] at h2
 refine ⟨?_, by omega⟩
 exact (Option.some.inj h2).symm
theorem zs5 (p : List Int) : (upto p.length).map (lget 0 p) = p := by
 unfold upto
 rw [List.map_map]
 refine List.ext_getElem (by simp) fun i h1 h2 => ?_
 simp only [List.getElem_map, List.getElem_range, Function.comp]
 unfold lget
 rw [Int.toNat_natCast, List.getD_eq_getElem?_getD, List.getElem?_eq_getElem h2]
 rfl
end Go.Lift
