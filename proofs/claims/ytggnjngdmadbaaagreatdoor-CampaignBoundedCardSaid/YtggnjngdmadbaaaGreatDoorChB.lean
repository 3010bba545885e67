/-
  The bound of prices on both sides; the law of the cheapest campaign.
-/
import Derived.Test.YtggnjngdmadbaaaGreatDoorChA
set_option linter.unusedSectionVars false
set_option linter.unusedVariables false
set_option linter.unusedSimpArgs false
namespace Go.Lift
open Go
inductive Reach (T : List (Int × Int)) (S : Int → Prop) : Int → Prop
 | base {v : Int} : S v → Reach T S v
 | step {u v : Int} : Reach T S u → ((u, v) ∈ T ∨ (v, u) ∈ T) → Reach T S v
inductive Away (T : List (Int × Int)) (S : Int → Prop) (x : Int) : Int → Prop
 | base : ¬ S x → Away T S x x
 | step {u v : Int} : Away T S x u → ((u, v) ∈ T ∨ (v, u) ∈ T) → ¬ S v → Away T S x v
theorem Away.out {T : List (Int × Int)} {S : Int → Prop} {x u : Int} (h : Away T S x u) : ¬ S u := by
 cases h <;> assumption
theorem y2z {T : List (Int × Int)} {S : Int → Prop} {b : Int} (h : Reach T S b) : S b ∨ ∃ y x, S y ∧ ¬ S x ∧ ((y, x) ∈ T ∨ (x, y) ∈ T) ∧ Away T S x b := by
  induction h with
  | base h => exact Or.inl h
  | @step u v _ he ih =>
    by_cases hv : S v
    · exact Or.inl hv
    · right
      rcases ih with hu | ⟨y, x, hy, hx, hyx, ha⟩
      · exact ⟨u, v, hu, hv, he, .base hv⟩
      · exact ⟨y, x, hy, hx, hyx, .step ha he hv⟩
theorem yaw {T : List (Int × Int)} {S S2 : Int → Prop} {f : Int × Int} {x b : Int} (hf : S f.1 ∨ S f.2) (h : Away T S x b) (hb : Reach (T.erase f) S2 b) : Reach (T.erase f) S2 x := by
  induction h with
  | base _ => exact hb
  | @step u v hu he hv ih =>
    refine ih (.step hb ?_)
    have hus := hu.out
    have h1 : (u, v) ≠ f := fun e => by subst e; rcases hf with h | h; exact hus h; exact hv h
    have h2 : (v, u) ≠ f := fun e => by subst e; rcases hf with h | h; exact hv h; exact hus h
    rcases he with he | he
    · exact Or.inr ((List.mem_erase_of_ne h1).2 he)
    · exact Or.inl ((List.mem_erase_of_ne h2).2 he)
theorem y02 {A : Type} [BEq A] [LawfulBEq A] (w : A → Int) : ∀ {T : List A} {f : A}, f ∈ T → ((T.map w).sum) = w f + ((T.erase f).map w).sum
  | x :: T, f, h => by
    by_cases e : x = f
    · subst e; rw [List.erase_cons_head, List.map_cons, List.sum_cons]
    · rw [List.erase_cons_tail (by simpa using e), List.map_cons, List.sum_cons, List.map_cons, List.sum_cons, y02 w ((List.mem_cons.1 h).resolve_left (fun h => e h.symm))]
      omega
theorem exchange {T : List (Int × Int)} {S : Int → Prop} {b : Int} (hb : ¬ S b) (h : Reach T S b) :
    ∃ f y x, f ∈ T ∧ S y ∧ ¬ S x ∧ (f = (y, x) ∨ f = (x, y)) ∧ ∀ v, Reach T S v → Reach (T.erase f) (fun z => S z ∨ z = b) v := by
  rcases y2z h with hs | ⟨y, x, hy, hx, hyx, ha⟩
  · exact absurd hs hb
  have key : ∀ f : Int × Int, (f = (y, x) ∨ f = (x, y)) → f ∈ T → ∀ v, Reach T S v → Reach (T.erase f) (fun z => S z ∨ z = b) v := by
    intro f hf hfT v hv
    have hfs : S f.1 ∨ S f.2 := by rcases hf with rfl | rfl; exact Or.inl hy; exact Or.inr hy
    have hX : Reach (T.erase f) (fun z => S z ∨ z = b) x := yaw hfs ha (.base (Or.inr rfl))
    induction hv with
    | base h => exact .base (Or.inl h)
    | @step u v _ he ih =>
      by_cases hs : S v
      · exact .base (Or.inl hs)
      by_cases hvx : v = x
      · rw [hvx]; exact hX
      · refine .step ih ?_
        have h1 : (u, v) ≠ f := by
          rcases hf with rfl | rfl
          · intro e; exact hvx (Prod.mk.inj e).2
          · intro e; exact hs ((Prod.mk.inj e).2 ▸ hy)
        have h2 : (v, u) ≠ f := by
          rcases hf with rfl | rfl
          · intro e; exact hs ((Prod.mk.inj e).1 ▸ hy)
          · intro e; exact hvx (Prod.mk.inj e).1
        rcases he with he | he
        · exact Or.inl ((List.mem_erase_of_ne h1).2 he)
        · exact Or.inr ((List.mem_erase_of_ne h2).2 he)
  rcases hyx with h | h
  · exact ⟨(y, x), y, x, h, hy, hx, Or.inl rfl, key _ (Or.inl rfl) h⟩
  · exact ⟨(x, y), y, x, h, hy, hx, Or.inr rfl, key _ (Or.inr rfl) h⟩
def bst (red : Int → Int → Int) (inn : List Int) (a : Int) (st : Int × Int) (b : Int) : Int × Int := if inn.contains b then st else if st.1 < 0 ∨ red a b < st.2 then (b, red a b) else st
def bstA (red : Int → Int → Int) (ns inn : List Int) (st : Int × Int) (a : Int) : Int × Int := ns.foldl (bst red inn a) st
def z8b (red : Int → Int → Int) (ns inn : List Int) : Int × Int := inn.foldl (bstA red ns inn) (-1, 0)
def y1l (red : Int → Int → Int) (ns : List Int) : Nat → List Int → List Int × Int → List Int × Int
 | 0, _, st => st
 | k + 1, _, st => y1l red ns k [] (st.1 ++ [(z8b red ns st.1).1], st.2 + (z8b red ns st.1).2)
def Found (red : Int → Int → Int) (inn : List Int) (seen : Int → Int → Prop) (st : Int × Int) : Prop :=
 (st.1 < 0 ∧ ∀ a b, seen a b → b ∈ inn) ∨ (0 ≤ st.1 ∧ st.1 ∉ inn ∧ (∃ a, seen a st.1 ∧ st.2 = red a st.1) ∧ ∀ a b, seen a b → b ∉ inn → st.2 ≤ red a b)
theorem Found.congr {red : Int → Int → Int} {inn : List Int} {s1 s2 : Int → Int → Prop} {st : Int × Int} (h : Found red inn s1 st) (e : ∀ a b, s1 a b ↔ s2 a b) : Found red inn s2 st := by
 have : s1 = s2 := funext fun a => funext fun b => propext (e a b)
 rw [← this]; exact h
theorem y7e {red : Int → Int → Int} {inn : List Int} {seen : Int → Int → Prop} {st : Int × Int} {a b : Int} (hb : 0 ≤ b) (h : Found red inn seen st) : Found red inn (fun x y => seen x y ∨ (x = a ∧ y = b)) (bst red inn a st b) := by
 unfold bst
 by_cases hc : inn.contains b = true
 ·rw [if_pos hc]
  have hm : b ∈ inn := List.contains_iff_mem.1 hc
  rcases h with ⟨h1, h2⟩ | ⟨h1, h2, ⟨a0, h3, h4⟩, h5⟩
  ·exact Or.inl ⟨h1, fun x y hxy => by rcases hxy with hxy | ⟨_, rfl⟩; exact h2 x y hxy; exact hm⟩
  ·exact Or.inr ⟨h1, h2, ⟨a0, Or.inl h3, h4⟩, fun x y hxy hy => by rcases hxy with hxy | ⟨_, rfl⟩; exact h5 x y hxy hy; exact absurd hm hy⟩
 ·rw [if_neg hc]
  have hm : b ∉ inn := fun hm => hc (List.contains_iff_mem.2 hm)
  by_cases hl : st.1 < 0 ∨ red a b < st.2
  ·rw [if_pos hl]
   refine Or.inr ⟨hb, hm, ⟨a, Or.inr ⟨rfl, rfl⟩, rfl⟩, fun x y hxy hy => ?_⟩
   rcases hxy with hxy | ⟨rfl, rfl⟩
   ·rcases h with ⟨h1, h2⟩ | ⟨h1, h2, ⟨a0, h3, h4⟩, h5⟩
    ·exact absurd (h2 x y hxy) hy
    ·have := h5 x y hxy hy
     show red a b ≤ red x y
     omega
   ·exact Int.le_refl _
  ·rw [if_neg hl]
   rcases h with ⟨h1, h2⟩ | ⟨h1, h2, ⟨a0, h3, h4⟩, h5⟩
   ·exact absurd (Or.inl h1) hl
   ·refine Or.inr ⟨h1, h2, ⟨a0, Or.inl h3, h4⟩, fun x y hxy hy => ?_⟩
    rcases hxy with hxy | ⟨rfl, rfl⟩
    ·exact h5 x y hxy hy
    ·omega
theorem y1q {red : Int → Int → Int} {inn : List Int} {a : Int} : ∀ (ns : List Int) {seen : Int → Int → Prop} {st : Int × Int}, (∀ b ∈ ns, 0 ≤ b) → Found red inn seen st → Found red inn (fun x y => seen x y ∨ (x = a ∧ y ∈ ns)) (bstA red ns inn st a)
  | [], seen, st, _, h => h.congr fun x y => by simp
  | b :: ns, seen, st, hn, h => by
    have := y1q ns (a := a) (fun y hy => hn y (List.mem_cons_of_mem _ hy)) (y7e (a := a) (hn b (List.mem_cons_self ..)) h)
    refine this.congr fun x y => ?_
    rw [List.mem_cons]
    constructor
    · rintro ((h | ⟨h1, h2⟩) | ⟨h1, h2⟩)
      · exact Or.inl h
      · exact Or.inr ⟨h1, Or.inl h2⟩
      · exact Or.inr ⟨h1, Or.inr h2⟩
    · rintro (h | ⟨h1, h2 | h2⟩)
      · exact Or.inl (Or.inl h)
      · exact Or.inl (Or.inr ⟨h1, h2⟩)
      · exact Or.inr ⟨h1, h2⟩
theorem y1r {red : Int → Int → Int} {inn ns : List Int} (hn : ∀ b ∈ ns, 0 ≤ b) : ∀ (l : List Int) {seen : Int → Int → Prop} {st : Int × Int}, Found red inn seen st → Found red inn (fun x y => seen x y ∨ (x ∈ l ∧ y ∈ ns)) (l.foldl (bstA red ns inn) st)
  | [], seen, st, h => h.congr fun x y => by simp
  | a :: l, seen, st, h => by
    refine (y1r hn l (y1q ns (a := a) hn h)).congr fun x y => ?_
    rw [List.mem_cons]
    constructor
    · rintro ((h | ⟨h1, h2⟩) | ⟨h1, h2⟩)
      · exact Or.inl h
      · exact Or.inr ⟨Or.inl h1, h2⟩
      · exact Or.inr ⟨Or.inr h1, h2⟩
    · rintro (h | ⟨h1 | h1, h2⟩)
      · exact Or.inl (Or.inl h)
      · exact Or.inl (Or.inr ⟨h1, h2⟩)
      · exact Or.inr ⟨h1, h2⟩
theorem y26 {red : Int → Int → Int} {inn ns : List Int} (hn : ∀ b ∈ ns, 0 ≤ b) : Found red inn (fun x y => x ∈ inn ∧ y ∈ ns) (z8b red ns inn) :=
 (y1r hn inn (st := (-1, 0)) (seen := fun _ _ => False) (Or.inl ⟨by decide, fun _ _ h => h.elim⟩)).congr fun x y => by simp
theorem y25 {red : Int → Int → Int} {inn ns : List Int} (hn : ∀ b ∈ ns, 0 ≤ b) (hd : ns.Nodup) (hl : inn.length < ns.length) (h0 : inn ≠ []) :
  (z8b red ns inn).1 ∈ ns ∧ (z8b red ns inn).1 ∉ inn ∧ (∃ a ∈ inn, (z8b red ns inn).2 = red a (z8b red ns inn).1) ∧ ∀ a ∈ inn, ∀ b ∈ ns, b ∉ inn → (z8b red ns inn).2 ≤ red a b := by
 rcases y26 (red := red) (inn := inn) hn with ⟨h1, h2⟩ | ⟨h1, h2, ⟨a, h3, h4⟩, h5⟩
 ·obtain ⟨a, ha⟩ := List.exists_mem_of_ne_nil _ h0
  have := zim hd fun y hy => h2 a y ⟨ha, hy⟩
  omega
 ·exact ⟨h3.2, h2, ⟨a, h3.1, h4⟩, fun a ha b hb hbi => h5 a b ⟨ha, hb⟩ hbi⟩
theorem ya2 {red : Int → Int → Int} {ns : List Int} (hs : ∀ a ∈ ns, ∀ b ∈ ns, red a b = red b a) (hn : ∀ b ∈ ns, 0 ≤ b) (hd : ns.Nodup) :
    ∀ (k : Nat) (T : List (Int × Int)) (st : List Int × Int), (∀ f ∈ T, f.1 ∈ ns ∧ f.2 ∈ ns) → st.1 ≠ [] → st.1.length + k = ns.length → T.length = k → (∀ v ∈ ns, Reach T (· ∈ st.1) v) → (y1l red ns k [] st).2 ≤ st.2 + (T.map fun f => red f.1 f.2).sum
  | 0, T, st, _, _, _, hT, _ => by
    rw [List.length_eq_zero_iff.1 hT]
    show st.2 ≤ st.2 + 0
    omega
  | k + 1, T, st, hTn, h0, hlen, hT, hr => by
    obtain ⟨h1, h2, ⟨a, ha, h3⟩, h4⟩ := y25 (red := red) hn hd (inn := st.1) (by omega) h0
    obtain ⟨f, y, x, hf, hy, hx, hfe, hR⟩ := exchange h2 (hr _ h1)
    have hfw : (z8b red ns st.1).2 ≤ red f.1 f.2 := by
      rcases hfe with rfl | rfl
      · exact h4 y hy x (hTn _ hf).2 hx
      · have := h4 y hy x (hTn _ hf).1 hx
        rw [hs y (hTn _ hf).2 x (hTn _ hf).1] at this; exact this
    have := ya2 hs hn hd k (T.erase f) (st.1 ++ [(z8b red ns st.1).1], st.2 + (z8b red ns st.1).2) (fun g hg => hTn g (List.mem_of_mem_erase hg)) (by simp) (by simp only [List.length_append, List.length_singleton]; omega) (by rw [List.length_erase_of_mem hf]; omega) (fun v hv => by
      have := hR v (hr v hv)
      have e : (fun z => z ∈ st.1 ∨ z = (z8b red ns st.1).1) = (· ∈ st.1 ++ [(z8b red ns st.1).1]) := by funext z; simp
      rw [e] at this
      exact this)
    rw [y02 (fun f => red f.1 f.2) hf]
    show (y1l red ns k [] (st.1 ++ [(z8b red ns st.1).1], st.2 + (z8b red ns st.1).2)).2 ≤ _
    dsimp only at this
    omega
end Go.Lift
namespace Go.Lift
open Go
theorem ye9 {r : z02} (hr : z5d r = true) : (0 ≤ r.2.2.2.2.2.2.1 ∧ r.2.2.2.2.2.2.1 ≤ 10000) ∧ (0 ≤ r.2.2.2.2.2.2.2.1 ∧ r.2.2.2.2.2.2.2.1 ≤ 10000) ∧ (0 ≤ r.2.2.2.2.2.2.2.2 ∧ r.2.2.2.2.2.2.2.2 ≤ 10000) := by
 unfold z5d inB at hr
 simp only [Bool.and_eq_true, decide_eq_true_eq] at hr
 exact ⟨hr.1.1.2, hr.1.2, hr.2⟩
theorem y5j {l : List z00} (hl : l.all zc6 = true) {i : Int} (h : 0 ≤ i ∧ i < (l.length : Int)) : (500 ≤ (lget z1e l i).1 ∧ (lget z1e l i).1 ≤ 2500) ∧ (1 ≤ (lget z1e l i).2.1 ∧ (lget z1e l i).2.1 ≤ 300000) ∧ (1 ≤ (lget z1e l i).2.2.1 ∧ (lget z1e l i).2.2.1 ≤ 99) ∧ (1 ≤ (lget z1e l i).2.2.2 ∧ (lget z1e l i).2.2.2 ≤ 10000) := by
 have := List.all_eq_true.1 hl _ (y3j h)
 unfold zc6 inB at this
 simp only [Bool.and_eq_true, decide_eq_true_eq] at this
 exact ⟨this.1.1.1, this.1.1.2, this.1.2, this.2⟩
theorem zng {n : Int} (h : -1000000 ≤ n ∧ n ≤ 1000000) : szI n = (n.natAbs : Int) := by
 unfold szI imax
 rw [z0j (by omega) (by omega)]
 split <;> omega
def yee (r : z02) (l : List z00) (a b : Int) : Int :=
 r.2.2.2.2.2.2.1 * (((lget z1e l a).1 - (lget z1e l b).1).natAbs : Int) + r.2.2.2.2.2.2.2.1 * (((lget z1e l a).2.1 - (lget z1e l b).2.1).natAbs : Int) + r.2.2.2.2.2.2.2.2 * (((lget z1e l a).2.2.1 - (lget z1e l b).2.2.1).natAbs : Int)
theorem yei {p n P N : Int} (hp : 0 ≤ p ∧ p ≤ P) (hn : 0 ≤ n ∧ n ≤ N) : 0 ≤ p * n ∧ p * n ≤ P * N := by
 refine ⟨Int.mul_nonneg hp.1 hn.1, ?_⟩
 exact Int.mul_le_mul hp.2 hn.2 hn.1 (Int.le_trans hp.1 hp.2)
theorem zso {r : z02} {l : List z00} (hr : z5d r = true) (hl : l.all zc6 = true) {a b : Int} (ha : 0 ≤ a ∧ a < (l.length : Int)) (hb : 0 ≤ b ∧ b < (l.length : Int)) :
  z45 r l a b = yee r l a b ∧ 0 ≤ z45 r l a b ∧ z45 r l a b ≤ 3100000000 := by
 obtain ⟨r1, r2, r3⟩ := ye9 hr
 obtain ⟨a1, a2, a3, _⟩ := y5j hl ha
 obtain ⟨b1, b2, b3, _⟩ := y5j hl hb
 unfold z45 y99 yee
 generalize lget z1e l a = x at *
 generalize lget z1e l b = y at *
 rw [z0j (x := x.1 - y.1) (by omega) (by omega), z0j (x := x.2.1 - y.2.1) (by omega) (by omega), z0j (x := x.2.2.1 - y.2.2.1) (by omega) (by omega), zng (by omega), zng (by omega), zng (by omega)]
 have m1 := yei r1 (n := ((x.1 - y.1).natAbs : Int)) (N := 2000) (by omega)
 have m2 := yei r2 (n := ((x.2.1 - y.2.1).natAbs : Int)) (N := 300000) (by omega)
 have m3 := yei r3 (n := ((x.2.2.1 - y.2.2.1).natAbs : Int)) (N := 99) (by omega)
 generalize r.2.2.2.2.2.2.1 * ((x.1 - y.1).natAbs : Int) = z1 at *
 generalize r.2.2.2.2.2.2.2.1 * ((x.2.1 - y.2.1).natAbs : Int) = z2 at *
 generalize r.2.2.2.2.2.2.2.2 * ((x.2.2.1 - y.2.2.1).natAbs : Int) = z3 at *
 rw [z0j (x := z1) (by omega) (by omega), z0j (x := z2) (by omega) (by omega), z0j (x := z3) (by omega) (by omega), z0j (x := z1 + z2) (by omega) (by omega), z0j (x := z1 + z2 + z3) (by omega) (by omega)]
 exact ⟨rfl, by omega, by omega⟩
theorem zx2 {r : z02} {l : List z00} (hr : z5d r = true) (hl : l.all zc6 = true) {a b : Int} (ha : 0 ≤ a ∧ a < (l.length : Int)) (hb : 0 ≤ b ∧ b < (l.length : Int)) :
  z45 r l a b = z45 r l b a := by
 rw [(zso hr hl ha hb).1, (zso hr hl hb ha).1]
 unfold yee
 rw [show ((lget z1e l a).1 - (lget z1e l b).1).natAbs = ((lget z1e l b).1 - (lget z1e l a).1).natAbs by omega, show ((lget z1e l a).2.1 - (lget z1e l b).2.1).natAbs = ((lget z1e l b).2.1 - (lget z1e l a).2.1).natAbs by omega, show ((lget z1e l a).2.2.1 - (lget z1e l b).2.2.1).natAbs = ((lget z1e l b).2.2.1 - (lget z1e l a).2.2.1).natAbs by omega]
def zqm (p : List Int) : Prop := ∀ x ∈ p, -10000 ≤ x ∧ x ≤ 10000
theorem zyv {p : List Int} {i : Int} (h : 0 ≤ i ∧ i < (p.length : Int)) : lget 0 p i ∈ p := by
 unfold lget
 have hi : i.toNat < p.length := by omega
 rw [List.getD_eq_getElem?_getD, List.getElem?_eq_getElem hi]
 exact List.getElem_mem _
def redQ (r : z02) (l : List z00) (p : List Int) (a b : Int) : Int := z45 r l a b - lget 0 p a - lget 0 p b
theorem yd8 {r : z02} {l : List z00} {p : List Int} (hr : z5d r = true) (hl : l.all zc6 = true) (hp : zqm p) (hpl : p.length = l.length) {a b : Int} (ha : 0 ≤ a ∧ a < (l.length : Int)) (hb : 0 ≤ b ∧ b < (l.length : Int)) :
  -4000000000 ≤ redQ r l p a b ∧ redQ r l p a b ≤ 4000000000 ∧ wi64 (wi64 (z45 r l a b - lget 0 p a) - lget 0 p b) = redQ r l p a b := by
 have h := (zso hr hl ha hb).2
 have h1 := hp _ (zyv (p := p) (i := a) (by omega))
 have h2 := hp _ (zyv (p := p) (i := b) (by omega))
 unfold redQ
 refine ⟨by omega, by omega, ?_⟩
 rw [z0j (x := z45 r l a b - lget 0 p a) (by omega) (by omega), z0j (by omega) (by omega)]
theorem zus {red : Int → Int → Int} {n : Nat} {F : List Int × Int → Option ((List Int × Int) ⊕ Int)} (hn : n ≤ 100)
    (hred : ∀ a b, 0 ≤ a ∧ a < (n : Int) → 0 ≤ b ∧ b < (n : Int) → -4000000000 ≤ red a b ∧ red a b ≤ 4000000000)
    (hstep : ∀ inn sum, inn ≠ [] → inn.length < n → (∀ a ∈ inn, 0 ≤ a ∧ a < (n : Int)) → -400000000000 ≤ sum ∧ sum ≤ 400000000000 → -4000000000 ≤ (z8b red (upto n) inn).2 ∧ (z8b red (upto n) inn).2 ≤ 4000000000 → F (inn, sum) = some (.inl (inn ++ [(z8b red (upto n) inn).1], sum + (z8b red (upto n) inn).2)))
    (hend : ∀ inn sum, inn.length = n → F (inn, sum) = some (.inr sum)) :
    ∀ (k : Nat) (inn : List Int) (sum : Int), inn ≠ [] → inn.length + k = n → (∀ a ∈ inn, 0 ≤ a ∧ a < (n : Int)) → -(4000000000 * inn.length) ≤ sum ∧ sum ≤ 4000000000 * inn.length → z2d F (inn, sum) = some (y1l red (upto n) k [] (inn, sum)).2 ∧ -(4000000000 * n) ≤ (y1l red (upto n) k [] (inn, sum)).2 ∧ (y1l red (upto n) k [] (inn, sum)).2 ≤ 4000000000 * n
  | 0, inn, sum, h0, hk, ha, hs => by
    have hk' : inn.length = n := by omega
    rw [← hk']
    exact ⟨zhp (hend _ _ hk'), hs.1, hs.2⟩
  | k + 1, inn, sum, h0, hk, ha, hs => by
    obtain ⟨h1, h2, ⟨a, ham, h3⟩, h4⟩ := y25 (red := red) (ns := upto n) (fun b hb => (z6k.1 hb).1) (zhh n) (inn := inn) (by rw [z3b]; omega) h0
    have hb := hred a _ (ha a ham) (z6k.1 h1)
    rw [← h3] at hb
    rw [zqw (hstep inn sum h0 (by omega) ha (by omega) hb)]
    have := zus hn hred hstep hend k (inn ++ [(z8b red (upto n) inn).1]) (sum + (z8b red (upto n) inn).2) (by simp) (by rw [List.length_append, List.length_singleton]; omega) (fun b hb => by
      rcases List.mem_append.1 hb with h | h
      · exact ha b h
      · rw [List.mem_singleton.1 h]; exact z6k.1 h1) (by rw [List.length_append, List.length_singleton]; omega)
    exact this
def zok (r : z02) (l : List z00) (p : List Int) : Int := (y1l (redQ r l p) (upto l.length) (l.length - 1) [] ([0], 0)).2
theorem y83 {r : z02} {l : List z00} {p : List Int} (hr : z5d r = true) (hl : l.all zc6 = true) (hp : zqm p) (hpl : p.length = l.length) (h0 : 0 < l.length) (h7 : l.length ≤ 7) :
    z3h (r, l) p = some (zok r l p) ∧ -40000000000 ≤ zok r l p ∧ zok r l p ≤ 40000000000 := by
  have hred := fun a b ha hb => yd8 (p := p) hr hl hp hpl (a := a) (b := b) ha hb
  have key := zus (red := redQ r l p) (n := l.length) (F := fun s =>
    bif decide ((List.length s.1 : Int) < (List.length (r, l).2 : Int)) then
      (z2d (S := Int × Int × Int) (R := Int × Int) (fun s_1 =>
        bif decide (s_1.2.2 < (List.length s.1 : Int)) then
          chk (decide ((0 : Int) ≤ s_1.2.2) && decide (s_1.2.2 < (List.length s.1 : Int))) (
            (z2d (S := Int × Int × Int) (R := Int × Int) (fun s_2 =>
              bif decide (s_2.2.2 < (List.length (r, l).2 : Int)) then
                (z2b (r, l) (lget 0 s.1 s_1.2.2) s_2.2.2).bind fun (t_2 : Int) =>
                chk (decide ((0 : Int) ≤ (lget 0 s.1 s_1.2.2)) && decide ((lget 0 s.1 s_1.2.2) < (List.length p : Int))) (
                  chk (decide ((0 : Int) ≤ s_2.2.2) && decide (s_2.2.2 < (List.length p : Int))) (
                    (slices_Contains_int s.1 s_2.2.2).bind fun (t_3 : Bool) =>
                    (bif ((!t_3) && ((decide (s_2.1 < 0)) || (decide (wi64 ((wi64 (t_2 - (lget 0 p (lget 0 s.1 s_1.2.2)))) - (lget 0 p s_2.2.2)) < s_2.2.1)))) then
                      some (s_2.2.2, wi64 ((wi64 (t_2 - (lget 0 p (lget 0 s.1 s_1.2.2)))) - (lget 0 p s_2.2.2)))
                    else
                      some (s_2.1, s_2.2.1)).bind fun (j : Int × Int) =>
                    some (.inl (j.1, j.2, wi64 (s_2.2.2 + 1)))))
              else
                some (.inr (s_2.1, s_2.2.1))) (s_1.1, s_1.2.1, 0)).bind fun (b : Int × Int) =>
            some (.inl (b.1, b.2, wi64 (s_1.2.2 + 1))))
        else
          some (.inr (s_1.1, s_1.2.1))) ((-1), 0, 0)).bind fun (b_1 : Int × Int) =>
      (app s.1 [b_1.1]).bind fun (t_4 : List Int) =>
      some (.inl (t_4, wi64 (s.2 + b_1.2)))
    else
      some (.inr s.2)) (by omega) (fun a b ha hb => ⟨(hred a b ha hb).1, (hred a b ha hb).2.1⟩) (fun inn sum hi0 hi ha hs hb => ?_) (fun inn sum hi => ?_) (l.length - 1) [0] 0 (by simp) (by simp; omega) (by simp; omega) (by simp)
  · unfold z3h zok
    refine ⟨?_, by omega, by omega⟩
    show Option.bind _ _ = _
    rw [show ([0], (0 : Int)) = (([0] : List Int), (0 : Int)) from rfl]
    exact Option.bind_eq_some_iff.2 ⟨_, key.1, rfl⟩
  · show (bif decide ((List.length inn : Int) < (List.length l : Int)) then _ else _) = _
    rw [z07 (by omega), cond_true]
    refine Option.bind_eq_some_iff.2 ⟨z8b (redQ r l p) (upto l.length) inn, z6r (X := Int) (l := inn) (fun pre => ((pre.foldl (bstA (redQ r l p) (upto l.length) inn) (-1, 0)).1, (pre.foldl (bstA (redQ r l p) (upto l.length) inn) (-1, 0)).2, (pre.length : Int))) (fun pre a post e => ?_) ?_, ?_⟩
    · have haR := ha a (by rw [e]; simp)
      simp only [z7s e, z59 e, zah e (show inn.length ≤ 4294967296 by omega)]
      rw [List.foldl_append, List.foldl_cons, List.foldl_nil, List.length_append, List.length_singleton]
      generalize List.foldl (bstA (redQ r l p) (upto l.length) inn) (-1, 0) pre = st
      refine Option.bind_eq_some_iff.2 ⟨bstA (redQ r l p) (upto l.length) inn st a, z6r (X := Int) (l := upto l.length) (fun q => ((q.foldl (bst (redQ r l p) inn a) st).1, (q.foldl (bst (redQ r l p) inn a) st).2, (q.length : Int))) (fun q x po e2 => ?_) ?_, rfl⟩
      · obtain ⟨hx, hq⟩ := upto_at e2
        have hxR : 0 ≤ x ∧ x < (l.length : Int) := by omega
        show (bif decide ((q.length : Int) < (l.length : Int)) then _ else _) = _
        rw [z07 (by omega), cond_true, ← hx]
        simp only
        rw [yag haR hxR, Option.bind_some, z18 (by rw [z07 (by omega), z07 (by omega)]; rfl), z18 (by rw [z07 (by omega), z07 (by omega)]; rfl), (hred a x haR hxR).2.2, zl1 (by omega), Option.bind_some, z0j (x := x + 1) (by omega) (by omega), List.foldl_append, List.foldl_cons, List.foldl_nil, List.length_append, List.length_singleton, show ((q.length + 1 : Nat) : Int) = x + 1 by omega]
        generalize List.foldl (bst (redQ r l p) inn a) st q = t
        unfold bst
        cases inn.contains x with
        | true => rfl
        | false =>
          by_cases hd : t.1 < 0
          · simp [hd]
          · by_cases hd2 : redQ r l p a x < t.2 <;> simp [hd, hd2]
      · show (bif decide (((upto l.length).length : Int) < (l.length : Int)) then _ else _) = _
        rw [z3b, z0v (by omega), cond_false]
        rfl
    · simp only [step_end]; rfl
    · simp only
      rw [zlc (by simp; omega), Option.bind_some, z0j (by omega) (by omega)]
  · show (bif decide ((List.length inn : Int) < (List.length l : Int)) then _ else _) = _
    rw [z0v (by omega), cond_false]
end Go.Lift
namespace Go.Lift
open Go
def topS (t : Int × Int) (x : Int) : Int × Int := (max t.1 x, max t.2 (min t.1 x))
def top2 (p : List Int) : Int × Int := p.foldl topS (-10000, -10000)
theorem y01 (t : Int × Int) (x y : Int) : topS (topS t x) y = topS (topS t y) x := by
 unfold topS
 simp only [Prod.mk.injEq]
 omega
theorem zxf {A B : Type} {f : B → A → B} (hc : ∀ b x y, f (f b x) y = f (f b y) x) {l m : List A} (h : l.Perm m) : ∀ b, l.foldl f b = m.foldl f b := by
 induction h with
 | nil => intro b; rfl
 | cons x _ ih => intro b; exact ih _
 | swap x y l => intro b; simp only [List.foldl_cons]; rw [hc]
 | trans _ _ h1 h2 => intro b; rw [h1, h2]
theorem y2k {c : Int} : ∀ (l : List Int) (t : Int × Int), t.2 ≤ t.1 → t.1 ≤ c → (∀ x ∈ l, x ≤ c) → (l.foldl topS t).2 ≤ (l.foldl topS t).1 ∧ (l.foldl topS t).1 ≤ c
  | [], t, h1, h2, _ => ⟨h1, h2⟩
  | x :: l, t, h1, h2, h3 => by
    have hx := h3 x (List.mem_cons_self ..)
    exact y2k l (topS t x) (by unfold topS; simp only; omega) (by unfold topS; simp only; omega) fun y hy => h3 y (List.mem_cons_of_mem _ hy)
theorem y2l {pre : List Int} {a b : Int} (h1 : ∀ x ∈ pre, x ≤ a) (h2 : a ≤ b) (h3 : -10000 ≤ a) : top2 (pre ++ [a, b]) = (b, a) := by
 unfold top2
 rw [List.foldl_append]
 obtain ⟨h4, h5⟩ := y2k (c := a) pre (-10000, -10000) (by simp) h3 h1
 generalize List.foldl topS (-10000, -10000) pre = t at *
 show topS (topS t a) b = _
 unfold topS
 simp only [Prod.mk.injEq]
 omega
theorem zta {A : Type} : ∀ {l : List A}, 2 ≤ l.length → ∃ pre a b, l = pre ++ [a, b]
  | [], h => by simp at h
  | [x], h => by simp at h
  | [x, y], _ => ⟨[], x, y, rfl⟩
  | x :: y :: z :: l, h => by
    obtain ⟨pre, a, b, e⟩ := zta (l := y :: z :: l) (by simp)
    exact ⟨x :: pre, a, b, by rw [e]; rfl⟩
theorem ztb {p : List Int} (hp : zqm p) (h2 : 2 ≤ p.length) : ∃ pre a b, (p.mergeSort fun a b => decide (a ≤ b)) = pre ++ [a, b] ∧ top2 p = (b, a) ∧ (-10000 ≤ a ∧ a ≤ 10000) ∧ (-10000 ≤ b ∧ b ≤ 10000) := by
 have hperm := List.mergeSort_perm p fun a b => decide (a ≤ b)
 have hsort := List.pairwise_mergeSort (le := fun a b : Int => decide (a ≤ b)) (fun a b c h1 h2 => by
  simp only [decide_eq_true_eq] at *; omega) (fun a b => by simp only [Bool.or_eq_true, decide_eq_true_eq]; omega) p
 obtain ⟨pre, a, b, e⟩ := zta (l := p.mergeSort fun a b => decide (a ≤ b)) (by rw [hperm.length_eq]; exact h2)
 rw [e] at hperm hsort
 have ha := hp a (hperm.subset (by simp))
 have hb := hp b (hperm.subset (by simp))
 have hs := List.pairwise_append.1 hsort
 refine ⟨pre, a, b, e, ?_, ha, hb⟩
 rw [← y2l (pre := pre) (a := a) (b := b) (fun x hx => by
  have := hs.2.2 x hx a (by simp)
  simpa using this) (by
  have := (List.pairwise_cons.1 hs.2.1).1 b (by simp)
  simpa using this) ha.1]
 exact zxf y01 hperm.symm _
theorem ybd (l : List Int) (x : Int) : (l ++ [x]).sum = l.sum + x := by simp
theorem ybe {p : List Int} (hp : zqm p) : -(10000 * p.length) ≤ p.sum ∧ p.sum ≤ 10000 * p.length := by
  induction p with
  | nil => simp
  | cons x p ih =>
    have := ih fun y hy => hp y (List.mem_cons_of_mem _ hy)
    have hx := hp x (List.mem_cons_self ..)
    rw [List.sum_cons, List.length_cons]
    omega
def zi3 (r : z02) (l : List z00) (p : List Int) : Int := if l.length = 1 then 0 else zok r l p + 2 * p.sum - (top2 p).1 - (top2 p).2
def z3p (n : Nat) (p : List Int) : Int := if p.length ≠ n then 10 else bif p.all (inB · (-10000) 10000) then 0 else 2
theorem zu0 {n : Nat} {p : List Int} (h : z3p n p = 0) : p.length = n ∧ zqm p := by
  unfold z3p at h
  split at h
  · exact absurd h (by decide)
  · rename_i hl
    cases ha : p.all (inB · (-10000) 10000) with
    | false => rw [ha] at h; exact absurd (show (2 : Int) = 0 from h) (by decide)
    | true =>
      refine ⟨by omega, fun x hx => ?_⟩
      have := List.all_eq_true.1 ha x hx
      unfold inB at this
      simpa using this
theorem zs4 {l : List z00} {p : List Int} (hl : l.length ≤ 4294967296) : zax l p = some (z3p l.length p) := by
 unfold zax z3p
 by_cases h : p.length = l.length
 ·have hp : p.length ≤ 4294967296 := by omega
  rw [if_neg (by omega), show ((p.length : Int) != (l.length : Int)) = false by rw [h]; simp, cond_false]
  rw [z4u (l := p) (g := fun _ x => bif !inB x (-10000) 10000 then some 2 else none) (fun pre x post e => by
    rw [z7s e, z59 e, zah e hp, zc0, Option.bind_some]
    unfold inB
    cases decide (-10000 ≤ x ∧ x ≤ 10000) <;> rfl) step_end, Option.bind_some, zhy (fun x => !inB x (-10000) 10000) 2, zj9]
  cases p.all (inB · (-10000) 10000) <;> rfl
 ·rw [if_pos h, show ((p.length : Int) != (l.length : Int)) = true by rw [bne_iff_ne]; omega, cond_true]
theorem zy7 {r : z02} {l : List z00} {p : List Int} (hl : l.length ≤ 4294967296) (hp : p.length ≤ 4294967296) :
  z3d r l p = some (if z4j r l = 0 then (if z3p l.length p = 0 then (zi3 r l p, 0) else (0, z3p l.length p)) else (0, z4j r l)) := by
 unfold z3d
 have hE : z4z [z4j r l, (if ((p.length : Int) == (l.length : Int)) = true then 0 else 10), (if (!(p.any fun x => !inB x (-10000) 10000)) = true then (0 : Int) else 2)] = if z4j r l = 0 then z3p l.length p else z4j r l := by
  rw [zj9]
  unfold z3p
  simp only [z4z]
  by_cases h : p.length = l.length
  ·rw [h]
   cases p.all (inB · (-10000) 10000) <;> simp
  ·have : ¬ ((p.length : Int) = (l.length : Int)) := by omega
   simp [h, this]
 rw [zyn hl, Option.bind_some, zpu (p := fun x => !inB x (-10000) 10000) (fun x _ => by unfold z4r inB; rw [z7f]; rfl) hp, Option.bind_some, z6l, Option.bind_some, z6l, Option.bind_some, ziz (by simp), Option.bind_some, hE]
 by_cases h0 : z4j r l = 0
 rotate_left
 ·rw [if_neg h0, if_neg h0, show (z4j r l != 0) = true by rw [bne_iff_ne]; exact h0, cond_true]
 rw [if_pos h0, if_pos h0]
 by_cases h1 : z3p l.length p = 0
 rotate_left
 ·rw [if_neg h1, show (z3p l.length p != 0) = true by rw [bne_iff_ne]; exact h1, cond_true]
 rw [if_pos h1, show (z3p l.length p != 0) = false by rw [h1]; rfl, cond_false]
 obtain ⟨hpl, hpb⟩ := zu0 h1
 obtain ⟨hl0, hl7⟩ := z8n h0
 obtain ⟨hr, hi⟩ := zhm h0
 unfold zi3
 by_cases h2 : l.length = 1
 ·rw [if_pos h2, show ((l.length : Int) == 1) = true by rw [h2]; rfl, cond_true]
 rw [if_neg h2, show ((l.length : Int) == 1) = false by rw [beq_eq_false_iff_ne]; omega, cond_false]
 have hsum := ybe hpb
 refine Option.bind_eq_some_iff.2 ⟨2 * p.sum, z6r (X := Int) (l := p) (fun pre => (2 * pre.sum, (pre.length : Int))) (fun pre x post e => ?_) ?_, ?_⟩
 ·have hx := hpb x (by rw [e]; simp)
  have hs := ybe (p := pre) fun y hy => hpb y (by rw [e]; exact List.mem_append_left _ hy)
  have hL : p.length = pre.length + (post.length + 1) := by rw [e, List.length_append, List.length_cons]
  simp only [z7s e, z59 e, zah e hp]
  rw [ybd, z0j (x := 2 * x) (by omega) (by omega), z0j (by omega) (by omega), List.length_append, List.length_singleton, Int.mul_add]
  rfl
 ·simp only [step_end]
 obtain ⟨pre, a, b, e, ht, ha, hb⟩ := ztb hpb (by omega)
 unfold z44 z3j
 rw [z07 (show p.length ≤ 1000000 by omega), cond_true, Option.bind_some, z07 (show p.length ≤ 1000000 by omega), cond_true, Option.bind_some]
 have hlen : (p.mergeSort fun a b => decide (a ≤ b)).length = p.length := (List.mergeSort_perm p _).length_eq
 have hle : (pre ++ [a, b]).length = p.length := by rw [← e, hlen]
 rw [e, hle, z0j (x := (p.length : Int) - 2) (by omega) (by omega)]
 obtain ⟨ht1, ht2, ht3⟩ := y83 hr hi hpb hpl hl0 hl7
 have hpre : pre.length + 2 = p.length := by simpa using hle
 have hd : List.drop (Int.toNat ((p.length : Int) - 2)) (List.take (Int.toNat (p.length : Int)) (pre ++ [a, b])) = [a, b] := by
  rw [Int.toNat_natCast, ← hle, List.take_length, hle, show ((p.length : Int) - 2).toNat = pre.length by omega, List.drop_left]
 rw [z18 (by rw [z07 (by omega), z07 (by omega), z07 (by omega)]; rfl), hd]
 simp only
 rw [ht1, Option.bind_some, z18 (by rfl), z18 (by rfl), show lget 0 [a, b] 0 = a from rfl, show lget 0 [a, b] 1 = b from rfl]
 rw [z0j (x := zok r l p + 2 * p.sum) (by omega) (by omega), z0j (x := zok r l p + 2 * p.sum - a) (by omega) (by omega), z0j (by omega) (by omega), ht]
 congr 2
 omega
def zk5 (T : Int) (p : List Int) : Int := p.foldl (fun s x => s + 2 * x) T
theorem zwo (T : Int) (p : List Int) : zk5 T p = T + 2 * p.sum := by
 unfold zk5
 induction p generalizing T with
 | nil => simp
 | cons x p ih => rw [List.foldl_cons, ih, List.sum_cons]; omega
theorem y03 (T : Int) (p : List Int) (x : Int) : zk5 T (p ++ [x]) = zk5 T p + 2 * x := by unfold zk5; rw [List.foldl_append]; rfl
theorem yd2 {r : z02} {l : List z00} {p : List Int} (h0 : z4j r l = 0) (h1 : z3p l.length p = 0) : zlx r l p = some (zi3 r l p) := by
  obtain ⟨hpl, hp⟩ := zu0 h1
  obtain ⟨hl0, hl7⟩ := z8n h0
  obtain ⟨hr, hi⟩ := zhm h0
  unfold zlx zi3
  by_cases h2 : l.length = 1
  · rw [if_pos h2, show ((l.length : Int) == 1) = true by rw [h2]; rfl, cond_true]
  rw [if_neg h2, show ((l.length : Int) == 1) = false by rw [beq_eq_false_iff_ne]; omega, cond_false]
  have hred := fun a b ha hb => yd8 (p := p) hr hi hp hpl (a := a) (b := b) ha hb
  obtain ⟨_, ht2, ht3⟩ := y83 hr hi hp hpl hl0 hl7
  refine Option.bind_eq_some_iff.2 ⟨zok r l p, (zus (red := redQ r l p) (n := l.length) (by omega) (fun a b ha hb => ⟨(hred a b ha hb).1, (hred a b ha hb).2.1⟩) (fun inn sum hi0 hin ha hs hb => ?_) (fun inn sum hin => ?_) (l.length - 1) [0] 0 (by simp) (by simp; omega) (by simp; omega) (by simp)).1, ?_⟩
  · show (bif decide ((List.length inn : Int) < (List.length l : Int)) then _ else _) = _
    rw [z07 (by omega), cond_true]
    refine Option.bind_eq_some_iff.2 ⟨((z8b (redQ r l p) (upto l.length) inn).2, (z8b (redQ r l p) (upto l.length) inn).1), z6r (X := Int) (l := inn) (fun pre => ((pre.foldl (bstA (redQ r l p) (upto l.length) inn) (-1, 0)).2, (pre.foldl (bstA (redQ r l p) (upto l.length) inn) (-1, 0)).1, (pre.length : Int))) (fun pre a post e => ?_) ?_, ?_⟩
    · have haR := ha a (by rw [e]; simp)
      have hL : inn.length = pre.length + (post.length + 1) := by rw [e, List.length_append, List.length_cons]
      show (bif decide ((pre.length : Int) < (inn.length : Int)) then _ else _) = _
      rw [z07 (by omega), cond_true]
      rw [List.foldl_append, List.foldl_cons, List.foldl_nil, List.length_append, List.length_singleton]
      generalize List.foldl (bstA (redQ r l p) (upto l.length) inn) (-1, 0) pre = st
      refine Option.bind_eq_some_iff.2 ⟨((bstA (redQ r l p) (upto l.length) inn st a).2, (bstA (redQ r l p) (upto l.length) inn st a).1), z6r (X := Int) (l := upto l.length) (fun q => ((q.foldl (bst (redQ r l p) inn a) st).2, (q.foldl (bst (redQ r l p) inn a) st).1, (q.length : Int))) (fun q x po e2 => ?_) ?_, ?_⟩
      · obtain ⟨hx, hq⟩ := upto_at e2
        have hxR : 0 ≤ x ∧ x < (l.length : Int) := by omega
        show (bif decide ((q.length : Int) < (l.length : Int)) then _ else _) = _
        rw [z07 (by omega), cond_true, ← hx]
        simp only [z59 e]
        rw [ydu (by omega), Option.bind_some, z0j (x := x + 1) (by omega) (by omega), List.foldl_append, List.foldl_cons, List.foldl_nil, List.length_append, List.length_singleton, show ((q.length + 1 : Nat) : Int) = x + 1 by omega]
        generalize List.foldl (bst (redQ r l p) inn a) st q = t
        unfold bst
        cases inn.contains x with
        | true => rfl
        | false =>
          have ct : ∀ {A : Type} {k : Option A}, chk true k = k := fun {A k} => rfl
          rw [cond_false]
          simp only [z07 (show (0 : Int) ≤ (pre.length : Int) by omega), z07 (show (pre.length : Int) < (inn.length : Int) by omega), z07 haR.1, z07 haR.2, z07 hxR.1, z07 (show a < (p.length : Int) by omega), z07 (show x < (p.length : Int) by omega), Bool.and_self, ct, y98, Option.bind_some]
          rw [show y99 r (lget (0, (0, (0, 0))) l a) (lget (0, (0, (0, 0))) l x) = z45 r l a x from rfl, (hred a x haR hxR).2.2]
          by_cases hd : t.1 < 0
          · simp [hd]
          · by_cases hd2 : redQ r l p a x < t.2 <;> simp [hd, hd2]
      · show (bif decide (((upto l.length).length : Int) < (l.length : Int)) then _ else _) = _
        rw [z3b, z0v (by omega), cond_false]
        rfl
      · simp only
        rw [z0j (by omega) (by omega)]
        rfl
    · show (bif decide ((inn.length : Int) < (inn.length : Int)) then _ else _) = _
      rw [z0v (by omega), cond_false]; rfl
    · simp only
      rw [zlc (by simp; omega), Option.bind_some, z0j (by omega) (by omega)]
  · show (bif decide ((List.length inn : Int) < (List.length l : Int)) then _ else _) = _
    rw [z0v (by omega), cond_false]
  have hsum := ybe hp
  obtain ⟨pre, a, b, e, ht, ha, hb⟩ := ztb hp (by omega)
  refine Option.bind_eq_some_iff.2 ⟨(zk5 (zok r l p) p, (top2 p).1, (top2 p).2), z6r (X := Int) (l := p) (fun pre => (zk5 (zok r l p) pre, (top2 pre).1, (top2 pre).2, (pre.length : Int))) (fun pre x post e => ?_) ?_, ?_⟩
  · have hx := hp x (by rw [e]; simp)
    have hs := ybe (p := pre) fun y hy => hp y (by rw [e]; exact List.mem_append_left _ hy)
    have hL : p.length = pre.length + (post.length + 1) := by rw [e, List.length_append, List.length_cons]
    simp only [z7s e, z59 e, zah e (show p.length ≤ 4294967296 by omega), zvd e]
    rw [z07 (show (pre.length : Int) < (p.length : Int) by omega), cond_true]
    have hf := zwo (zok r l p) pre
    rw [y03, z0j (x := 2 * x) (by omega) (by omega), z0j (x := zk5 (zok r l p) pre + 2 * x) (by omega) (by omega), List.length_append, List.length_singleton]
    have htop : top2 (pre ++ [x]) = topS (top2 pre) x := by unfold top2; rw [List.foldl_append]; rfl
    have hle := y2k (c := 10000) pre (-10000, -10000) (by simp) (by simp) fun y hy => (hp y (by rw [e]; exact List.mem_append_left _ hy)).2
    replace hle : (top2 pre).2 ≤ (top2 pre).1 ∧ _ := hle
    rw [htop]
    unfold topS
    generalize top2 pre = t at *
    by_cases h3 : x > t.1
    · rw [z07 h3, cond_true, show max t.1 x = x by omega, show max t.2 (min t.1 x) = t.1 by omega]; rfl
    · rw [z0v h3, cond_false, show max t.1 x = t.1 by omega, show min t.1 x = x by omega]
      by_cases h4 : x > t.2
      · rw [z07 h4, cond_true, show max t.2 x = x by omega]; rfl
      · rw [z0v h4, cond_false, show max t.2 x = t.2 by omega]; rfl
  · show (bif decide ((p.length : Int) < (p.length : Int)) then _ else _) = _
    rw [z0v (by omega), cond_false]
  · simp only
    rw [ht, zwo]
    simp only
    rw [z0j (x := zok r l p + 2 * p.sum - b) (by omega) (by omega), z0j (by omega) (by omega)]
theorem yb7 {a : List Int} (h : a.length ≤ 4294967296) : zlb a a = some true := by
 unfold zlb
 rw [show ((a.length : Int) != (a.length : Int)) = false by simp, cond_false]
 rw [z4u (l := a) (g := fun _ _ => (none : Option Bool)) (fun pre x post e => by
  rw [z7s e, zvd e, zah e h, show (lget 0 a (pre.length : Int) != lget 0 a (pre.length : Int)) = false by simp, cond_false]) step_end, Option.bind_some]
 have : ∀ (m pre : List Int), z1h (fun _ _ => (none : Option Bool)) pre m = none := by
  intro m
  induction m with
  | nil => intro pre; rfl
  | cons x m ih => intro pre; exact ih _
 rw [this]; rfl
theorem zod (hw : z7b = some true) (r : z02) (l : List z00) (p : List Int) :
    z5r r l p = some true := by
  unfold z5r zm2
  rw [hw, Option.bind_some, Bool.not_true, cond_false]
  simp only [Option.bind_some]
  cases hc : ((!decide ((List.length l : Int) ≤ 9)) || decide ((List.length p : Int) > 10)) with
  | true => rfl
  | false =>
  rw [cond_false]
  have hs10 : p.length ≤ 10 ∧ l.length ≤ 9 := by
    simp only [Bool.or_eq_false_iff, decide_eq_false_iff_not, Bool.not_eq_false', decide_eq_true_eq] at hc
    omega
  have hs : p.length ≤ 4294967296 := by omega
  have hl : l.length ≤ 4294967296 := by omega
  rw [zvw hl, Option.bind_some, Option.bind_some]
  cases hc2 : ((zn2 l == 0) && decide ((List.length l : Int) > 5)) with
  | true => rfl
  | false =>
  rw [cond_false]
  simp only [zaz hl, z7e hs, Option.bind_some, zmg hl, zy7 hl hs, zmh hl]
  by_cases h0 : z4j r l = 0
  rotate_left
  · simp only [if_neg h0]
    rw [show (z4j r l != 0) = true by rw [bne_iff_ne]; exact h0, cond_true]
    simp
  simp only [if_pos h0]
  rw [show (z4j r l != 0) = false by rw [h0]; rfl, cond_false, zs4 hl, Option.bind_some]
  have h5 : ((bif (z3p l.length p != 0) && (((if z3p l.length p = 0 then (zi3 r l p, (0 : Int)) else (0, z3p l.length p)).2 != z3p l.length p) || ((if z3p l.length p = 0 then (zi3 r l p, (0 : Int)) else (0, z3p l.length p)).1 != 0)) then some true else
          (bif (z3p l.length p == 0) then
            (bif ((if z3p l.length p = 0 then (zi3 r l p, (0 : Int)) else (0, z3p l.length p)).2 != 0) then some true else
              (zlx r l p).bind fun (t_9 : Int) =>
              some ((if z3p l.length p = 0 then (zi3 r l p, (0 : Int)) else (0, z3p l.length p)).1 != t_9)).bind fun (c_1 : Bool) =>
            some c_1
          else some false).bind fun (c_2 : Bool) =>
          some c_2)) = some false := by
    by_cases h1 : z3p l.length p = 0
    · simp only [if_pos h1]
      rw [show (z3p l.length p != 0) = false by rw [h1]; rfl, Bool.false_and, cond_false, show (z3p l.length p == 0) = true by rw [h1]; rfl, cond_true, yd2 h0 h1]
      simp
    · simp only [if_neg h1]
      rw [show (z3p l.length p == 0) = false by rw [beq_eq_false_iff_ne]; exact h1]
      simp
  rw [h5, Option.bind_some, cond_false, y49 h0, Option.bind_some]
  cases hcs : zi2 r l with
  | none => rfl
  | some c =>
    have hinv := zzi (q := z45 r l) (p := fun _ => true) (P := fun s => s.length = l.length ∧ ∀ i ∈ s, 0 ≤ i ∧ i < (l.length : Int)) ((z4y l.length (upto l.length)).filter (okP r l [])) none (fun t ht => (zyl (z8n h0).1 (z8n h0).2 t (List.mem_filter.1 ht).1).2) (fun c h => by cases h) c (by
      simp only [if_true]
      exact hcs)
    obtain ⟨⟨h6, h7⟩, h8⟩ := hinv
    rw [show (!(y05 (some c)).2) = false from rfl, cond_false]
    simp only [show (y05 (some c)).1 = c.1 from rfl]
    rw [show ((0 : Int) == 0) = true from rfl, cond_true, yb7 (by omega), Option.bind_some, Option.bind_some, cond_true, zzr (by omega) h7, Option.bind_some, ← h8]
    simp
end Go.Lift
