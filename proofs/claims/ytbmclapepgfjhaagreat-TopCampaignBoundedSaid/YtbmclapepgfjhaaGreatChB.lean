/-
  The bound of prices on both sides; the law of the cheapest campaign.
-/
import Derived.Test.YtbmclapepgfjhaaGreatChA
set_option linter.unusedSectionVars false
set_option linter.unusedVariables false
set_option linter.unusedSimpArgs false
namespace Go.Lift
open Go
inductive Reach (T : List (Int × Int)) (S : Int → Prop) : Int → Prop
 | base {v : Int} : S v → Reach T S v
 | step {u v : Int} : Reach T S u → ((u, v) ∈ T ∨ (v, u) ∈ T) → Reach T S v
inductive Away (T : List (Int × Int)) (S : Int → Prop) (x : Int) : Int → Prop
 | base : ¬ S x → Away T S x x
 | step {u v : Int} : Away T S x u → ((u, v) ∈ T ∨ (v, u) ∈ T) → ¬ S v → Away T S x v
theorem Away.out {T : List (Int × Int)} {S : Int → Prop} {x u : Int} (h : Away T S x u) : ¬ S u := by
 cases h <;> assumption
theorem zth {T : List (Int × Int)} {S : Int → Prop} {b : Int} (h : Reach T S b) : S b ∨ ∃ y x, S y ∧ ¬ S x ∧ ((y, x) ∈ T ∨ (x, y) ∈ T) ∧ Away T S x b := by
 induction h with
 | base h => exact Or.inl h
 | @step u v _ he ih =>
  by_cases hv : S v
  ·exact Or.inl hv
  ·right
   rcases ih with hu | ⟨y, x, hy, hx, hyx, ha⟩
   ·exact ⟨u, v, hu, hv, he, .base hv⟩
   ·exact ⟨y, x, hy, hx, hyx, .step ha he hv⟩
theorem zzw {T : List (Int × Int)} {S S2 : Int → Prop} {f : Int × Int} {x b : Int} (hf : S f.1 ∨ S f.2) (h : Away T S x b) (hb : Reach (T.erase f) S2 b) : Reach (T.erase f) S2 x := by
 induction h with
 | base _ => exact hb
 | @step u v hu he hv ih =>
  refine ih (.step hb ?_)
  have hus := hu.out
  have h1 : (u, v) ≠ f := fun e => by subst e; rcases hf with h | h; exact hus h; exact hv h
  have h2 : (v, u) ≠ f := fun e => by subst e; rcases hf with h | h; exact hv h; exact hus h
  rcases he with he | he
  ·exact Or.inr ((List.mem_erase_of_ne h1).2 he)
  ·exact Or.inl ((List.mem_erase_of_ne h2).2 he)
theorem zr5 {A : Type} [BEq A] [LawfulBEq A] (w : A → Int) : ∀ {T : List A} {f : A}, f ∈ T → ((T.map w).sum) = w f + ((T.erase f).map w).sum
 | x :: T, f, h => by
  by_cases e : x = f
  ·subst e; rw [List.erase_cons_head, List.map_cons, List.sum_cons]
  ·rw [List.erase_cons_tail (by simpa using e), List.map_cons, List.sum_cons, List.map_cons, List.sum_cons, zr5 w ((List.mem_cons.1 h).resolve_left (fun h => e h.symm))]
   omega
theorem exchange {T : List (Int × Int)} {S : Int → Prop} {b : Int} (hb : ¬ S b) (h : Reach T S b) :
  ∃ f y x, f ∈ T ∧ S y ∧ ¬ S x ∧ (f = (y, x) ∨ f = (x, y)) ∧ ∀ v, Reach T S v → Reach (T.erase f) (fun z => S z ∨ z = b) v := by
 rcases zth h with hs | ⟨y, x, hy, hx, hyx, ha⟩
 ·exact absurd hs hb
 have key : ∀ f : Int × Int, (f = (y, x) ∨ f = (x, y)) → f ∈ T → ∀ v, Reach T S v → Reach (T.erase f) (fun z => S z ∨ z = b) v := by
  intro f hf hfT v hv
  have hfs : S f.1 ∨ S f.2 := by rcases hf with rfl | rfl; exact Or.inl hy; exact Or.inr hy
  have hX : Reach (T.erase f) (fun z => S z ∨ z = b) x := zzw hfs ha (.base (Or.inr rfl))
  induction hv with
  | base h => exact .base (Or.inl h)
  | @step u v _ he ih =>
   by_cases hs : S v
   ·exact .base (Or.inl hs)
   by_cases hvx : v = x
   ·rw [hvx]; exact hX
   ·refine .step ih ?_
    have h1 : (u, v) ≠ f := by
     rcases hf with rfl | rfl
     ·intro e; exact hvx (Prod.mk.inj e).2
     ·intro e; exact hs ((Prod.mk.inj e).2 ▸ hy)
    have h2 : (v, u) ≠ f := by
     rcases hf with rfl | rfl
     ·intro e; exact hs ((Prod.mk.inj e).1 ▸ hy)
     ·intro e; exact hvx (Prod.mk.inj e).1
    rcases he with he | he
    ·exact Or.inl ((List.mem_erase_of_ne h1).2 he)
    ·exact Or.inr ((List.mem_erase_of_ne h2).2 he)
 rcases hyx with h | h
 ·exact ⟨(y, x), y, x, h, hy, hx, Or.inl rfl, key _ (Or.inl rfl) h⟩
 ·exact ⟨(x, y), y, x, h, hy, hx, Or.inr rfl, key _ (Or.inr rfl) h⟩
def bst (red : Int → Int → Int) (inn : List Int) (a : Int) (st : Int × Int) (b : Int) : Int × Int := if inn.contains b then st else if st.1 < 0 ∨ red a b < st.2 then (b, red a b) else st
def bstA (red : Int → Int → Int) (ns inn : List Int) (st : Int × Int) (a : Int) : Int × Int := ns.foldl (bst red inn a) st
def z4w (red : Int → Int → Int) (ns inn : List Int) : Int × Int := inn.foldl (bstA red ns inn) (-1, 0)
def zla (red : Int → Int → Int) (ns : List Int) : Nat → List Int → List Int × Int → List Int × Int
 | 0, _, st => st
 | k + 1, _, st => zla red ns k [] (st.1 ++ [(z4w red ns st.1).1], st.2 + (z4w red ns st.1).2)
def Found (red : Int → Int → Int) (inn : List Int) (seen : Int → Int → Prop) (st : Int × Int) : Prop :=
 (st.1 < 0 ∧ ∀ a b, seen a b → b ∈ inn) ∨ (0 ≤ st.1 ∧ st.1 ∉ inn ∧ (∃ a, seen a st.1 ∧ st.2 = red a st.1) ∧ ∀ a b, seen a b → b ∉ inn → st.2 ≤ red a b)
theorem Found.congr {red : Int → Int → Int} {inn : List Int} {s1 s2 : Int → Int → Prop} {st : Int × Int} (h : Found red inn s1 st) (e : ∀ a b, s1 a b ↔ s2 a b) : Found red inn s2 st := by
 have : s1 = s2 := funext fun a => funext fun b => propext (e a b)
 rw [← this]; exact h
theorem zx4 {red : Int → Int → Int} {inn : List Int} {seen : Int → Int → Prop} {st : Int × Int} {a b : Int} (hb : 0 ≤ b) (h : Found red inn seen st) : Found red inn (fun x y => seen x y ∨ (x = a ∧ y = b)) (bst red inn a st b) := by
 unfold bst
 by_cases hc : inn.contains b = true
 ·rw [if_pos hc]
  have hm : b ∈ inn := List.contains_iff_mem.1 hc
  rcases h with ⟨h1, h2⟩ | ⟨h1, h2, ⟨a0, h3, h4⟩, h5⟩
  ·exact Or.inl ⟨h1, fun x y hxy => by rcases hxy with hxy | ⟨_, rfl⟩; exact h2 x y hxy; exact hm⟩
  ·exact Or.inr ⟨h1, h2, ⟨a0, Or.inl h3, h4⟩, fun x y hxy hy => by rcases hxy with hxy | ⟨_, rfl⟩; exact h5 x y hxy hy; exact absurd hm hy⟩
 ·rw [if_neg hc]
  have hm : b ∉ inn := fun hm => hc (List.contains_iff_mem.2 hm)
  by_cases hl : st.1 < 0 ∨ red a b < st.2
  ·rw [if_pos hl]
   refine Or.inr ⟨hb, hm, ⟨a, Or.inr ⟨rfl, rfl⟩, rfl⟩, fun x y hxy hy => ?_⟩
   rcases hxy with hxy | ⟨rfl, rfl⟩
   ·rcases h with ⟨h1, h2⟩ | ⟨h1, h2, ⟨a0, h3, h4⟩, h5⟩
    ·exact absurd (h2 x y hxy) hy
    ·have := h5 x y hxy hy
     show red a b ≤ red x y
     omega
   ·exact Int.le_refl _
  ·rw [if_neg hl]
   rcases h with ⟨h1, h2⟩ | ⟨h1, h2, ⟨a0, h3, h4⟩, h5⟩
   ·exact absurd (Or.inl h1) hl
   ·refine Or.inr ⟨h1, h2, ⟨a0, Or.inl h3, h4⟩, fun x y hxy hy => ?_⟩
    rcases hxy with hxy | ⟨rfl, rfl⟩
    ·exact h5 x y hxy hy
    ·omega
theorem zsg {red : Int → Int → Int} {inn : List Int} {a : Int} : ∀ (ns : List Int) {seen : Int → Int → Prop} {st : Int × Int}, (∀ b ∈ ns, 0 ≤ b) → Found red inn seen st → Found red inn (fun x y => seen x y ∨ (x = a ∧ y ∈ ns)) (bstA red ns inn st a)
 | [], seen, st, _, h => h.congr fun x y => by simp
 | b :: ns, seen, st, hn, h => by
  have := zsg ns (a := a) (fun y hy => hn y (List.mem_cons_of_mem _ hy)) (zx4 (a := a) (hn b (List.mem_cons_self ..)) h)
  refine this.congr fun x y => ?_
  rw [List.mem_cons]
  constructor
  ·rintro ((h | ⟨h1, h2⟩) | ⟨h1, h2⟩)
   ·exact Or.inl h
   ·exact Or.inr ⟨h1, Or.inl h2⟩
   ·exact Or.inr ⟨h1, Or.inr h2⟩
  ·rintro (h | ⟨h1, h2 | h2⟩)
   ·exact Or.inl (Or.inl h)
   ·exact Or.inl (Or.inr ⟨h1, h2⟩)
   ·exact Or.inr ⟨h1, h2⟩
theorem zsh {red : Int → Int → Int} {inn ns : List Int} (hn : ∀ b ∈ ns, 0 ≤ b) : ∀ (l : List Int) {seen : Int → Int → Prop} {st : Int × Int}, Found red inn seen st → Found red inn (fun x y => seen x y ∨ (x ∈ l ∧ y ∈ ns)) (l.foldl (bstA red ns inn) st)
 | [], seen, st, h => h.congr fun x y => by simp
 | a :: l, seen, st, h => by
  refine (zsh hn l (zsg ns (a := a) hn h)).congr fun x y => ?_
  rw [List.mem_cons]
  constructor
  ·rintro ((h | ⟨h1, h2⟩) | ⟨h1, h2⟩)
   ·exact Or.inl h
   ·exact Or.inr ⟨Or.inl h1, h2⟩
   ·exact Or.inr ⟨Or.inr h1, h2⟩
  ·rintro (h | ⟨h1 | h1, h2⟩)
   ·exact Or.inl (Or.inl h)
   ·exact Or.inl (Or.inr ⟨h1, h2⟩)
   ·exact Or.inr ⟨h1, h2⟩
theorem zsu {red : Int → Int → Int} {inn ns : List Int} (hn : ∀ b ∈ ns, 0 ≤ b) : Found red inn (fun x y => x ∈ inn ∧ y ∈ ns) (z4w red ns inn) :=
 (zsh hn inn (st := (-1, 0)) (seen := fun _ _ => False) (Or.inl ⟨by decide, fun _ _ h => h.elim⟩)).congr fun x y => by simp
theorem znp {red : Int → Int → Int} {inn ns : List Int} (hn : ∀ b ∈ ns, 0 ≤ b) (hd : ns.Nodup) (hl : inn.length < ns.length) (h0 : inn ≠ []) :
  (z4w red ns inn).1 ∈ ns ∧ (z4w red ns inn).1 ∉ inn ∧ (∃ a ∈ inn, (z4w red ns inn).2 = red a (z4w red ns inn).1) ∧ ∀ a ∈ inn, ∀ b ∈ ns, b ∉ inn → (z4w red ns inn).2 ≤ red a b := by
 rcases zsu (red := red) (inn := inn) hn with ⟨h1, h2⟩ | ⟨h1, h2, ⟨a, h3, h4⟩, h5⟩
 ·obtain ⟨a, ha⟩ := List.exists_mem_of_ne_nil _ h0
  have := zj1 hd fun y hy => h2 a y ⟨ha, hy⟩
  omega
 ·exact ⟨h3.2, h2, ⟨a, h3.1, h4⟩, fun a ha b hb hbi => h5 a b ⟨ha, hb⟩ hbi⟩
theorem zza {red : Int → Int → Int} {ns : List Int} (hs : ∀ a ∈ ns, ∀ b ∈ ns, red a b = red b a) (hn : ∀ b ∈ ns, 0 ≤ b) (hd : ns.Nodup) :
  ∀ (k : Nat) (T : List (Int × Int)) (st : List Int × Int), (∀ f ∈ T, f.1 ∈ ns ∧ f.2 ∈ ns) → st.1 ≠ [] → st.1.length + k = ns.length → T.length = k → (∀ v ∈ ns, Reach T (· ∈ st.1) v) → (zla red ns k [] st).2 ≤ st.2 + (T.map fun f => red f.1 f.2).sum
 | 0, T, st, _, _, _, hT, _ => by
  rw [List.length_eq_zero_iff.1 hT]
  show st.2 ≤ st.2 + 0
  omega
 | k + 1, T, st, hTn, h0, hlen, hT, hr => by
  obtain ⟨h1, h2, ⟨a, ha, h3⟩, h4⟩ := znp (red := red) hn hd (inn := st.1) (by omega) h0
  obtain ⟨f, y, x, hf, hy, hx, hfe, hR⟩ := exchange h2 (hr _ h1)
  have hfw : (z4w red ns st.1).2 ≤ red f.1 f.2 := by
   rcases hfe with rfl | rfl
   ·exact h4 y hy x (hTn _ hf).2 hx
   ·have := h4 y hy x (hTn _ hf).1 hx
    rw [hs y (hTn _ hf).2 x (hTn _ hf).1] at this; exact this
  have := zza hs hn hd k (T.erase f) (st.1 ++ [(z4w red ns st.1).1], st.2 + (z4w red ns st.1).2) (fun g hg => hTn g (List.mem_of_mem_erase hg)) (by simp) (by simp only [List.length_append, List.length_singleton]; omega) (by rw [List.length_erase_of_mem hf]; omega) (fun v hv => by
   have := hR v (hr v hv)
   have e : (fun z => z ∈ st.1 ∨ z = (z4w red ns st.1).1) = (· ∈ st.1 ++ [(z4w red ns st.1).1]) := by funext z; simp
   rw [e] at this
   exact this)
  rw [zr5 (fun f => red f.1 f.2) hf]
  show (zla red ns k [] (st.1 ++ [(z4w red ns st.1).1], st.2 + (z4w red ns st.1).2)).2 ≤ _
  dsimp only at this
  omega
end Go.Lift
namespace Go.Lift
open Go
theorem zxt {r : z01} (hr : z2l r = true) : (0 ≤ r.2.2.2.2.2.2.1 ∧ r.2.2.2.2.2.2.1 ≤ 10000) ∧ (0 ≤ r.2.2.2.2.2.2.2.1 ∧ r.2.2.2.2.2.2.2.1 ≤ 10000) ∧ (0 ≤ r.2.2.2.2.2.2.2.2 ∧ r.2.2.2.2.2.2.2.2 ≤ 10000) := by
 unfold z2l inB at hr
 simp only [Bool.and_eq_true, decide_eq_true_eq] at hr
 exact ⟨hr.1.1.2, hr.1.2, hr.2⟩
theorem zva {l : List z00} (hl : l.all z9u = true) {i : Int} (h : 0 ≤ i ∧ i < (l.length : Int)) : (500 ≤ (lget z4k l i).1 ∧ (lget z4k l i).1 ≤ 2500) ∧ (1 ≤ (lget z4k l i).2.1 ∧ (lget z4k l i).2.1 ≤ 300000) ∧ (1 ≤ (lget z4k l i).2.2.1 ∧ (lget z4k l i).2.2.1 ≤ 99) ∧ (1 ≤ (lget z4k l i).2.2.2 ∧ (lget z4k l i).2.2.2 ≤ 10000) := by
 have := List.all_eq_true.1 hl _ (y2t h)
 unfold z9u inB at this
 simp only [Bool.and_eq_true, decide_eq_true_eq] at this
 exact ⟨this.1.1.1, this.1.1.2, this.1.2, this.2⟩
theorem zhw {n : Int} (h : -1000000 ≤ n ∧ n ≤ 1000000) : szI n = (n.natAbs : Int) := by
 unfold szI imax
 rw [z0m (by omega) (by omega)]
 split <;> omega
def y0m (r : z01) (l : List z00) (a b : Int) : Int :=
 r.2.2.2.2.2.2.1 * (((lget z4k l a).1 - (lget z4k l b).1).natAbs : Int) + r.2.2.2.2.2.2.2.1 * (((lget z4k l a).2.1 - (lget z4k l b).2.1).natAbs : Int) + r.2.2.2.2.2.2.2.2 * (((lget z4k l a).2.2.1 - (lget z4k l b).2.2.1).natAbs : Int)
theorem y2s {p n P N : Int} (hp : 0 ≤ p ∧ p ≤ P) (hn : 0 ≤ n ∧ n ≤ N) : 0 ≤ p * n ∧ p * n ≤ P * N := by
 refine ⟨Int.mul_nonneg hp.1 hn.1, ?_⟩
 exact Int.mul_le_mul hp.2 hn.2 hn.1 (Int.le_trans hp.1 hp.2)
theorem zh1 {r : z01} {l : List z00} (hr : z2l r = true) (hl : l.all z9u = true) {a b : Int} (ha : 0 ≤ a ∧ a < (l.length : Int)) (hb : 0 ≤ b ∧ b < (l.length : Int)) :
  z3z r l a b = y0m r l a b ∧ 0 ≤ z3z r l a b ∧ z3z r l a b ≤ 3100000000 := by
 obtain ⟨r1, r2, r3⟩ := zxt hr
 obtain ⟨a1, a2, a3, _⟩ := zva hl ha
 obtain ⟨b1, b2, b3, _⟩ := zva hl hb
 unfold z3z y2n y0m
 generalize lget z4k l a = x at *
 generalize lget z4k l b = y at *
 rw [z0m (x := x.1 - y.1) (by omega) (by omega), z0m (x := x.2.1 - y.2.1) (by omega) (by omega), z0m (x := x.2.2.1 - y.2.2.1) (by omega) (by omega), zhw (by omega), zhw (by omega), zhw (by omega)]
 have m1 := y2s r1 (n := ((x.1 - y.1).natAbs : Int)) (N := 2000) (by omega)
 have m2 := y2s r2 (n := ((x.2.1 - y.2.1).natAbs : Int)) (N := 300000) (by omega)
 have m3 := y2s r3 (n := ((x.2.2.1 - y.2.2.1).natAbs : Int)) (N := 99) (by omega)
 generalize r.2.2.2.2.2.2.1 * ((x.1 - y.1).natAbs : Int) = z1 at *
 generalize r.2.2.2.2.2.2.2.1 * ((x.2.1 - y.2.1).natAbs : Int) = z2 at *
 generalize r.2.2.2.2.2.2.2.2 * ((x.2.2.1 - y.2.2.1).natAbs : Int) = z3 at *
 rw [z0m (x := z1) (by omega) (by omega), z0m (x := z2) (by omega) (by omega), z0m (x := z3) (by omega) (by omega), z0m (x := z1 + z2) (by omega) (by omega), z0m (x := z1 + z2 + z3) (by omega) (by omega)]
 exact ⟨rfl, by omega, by omega⟩
theorem zwd {r : z01} {l : List z00} (hr : z2l r = true) (hl : l.all z9u = true) {a b : Int} (ha : 0 ≤ a ∧ a < (l.length : Int)) (hb : 0 ≤ b ∧ b < (l.length : Int)) :
  z3z r l a b = z3z r l b a := by
 rw [(zh1 hr hl ha hb).1, (zh1 hr hl hb ha).1]
 unfold y0m
 rw [show ((lget z4k l a).1 - (lget z4k l b).1).natAbs = ((lget z4k l b).1 - (lget z4k l a).1).natAbs by omega, show ((lget z4k l a).2.1 - (lget z4k l b).2.1).natAbs = ((lget z4k l b).2.1 - (lget z4k l a).2.1).natAbs by omega, show ((lget z4k l a).2.2.1 - (lget z4k l b).2.2.1).natAbs = ((lget z4k l b).2.2.1 - (lget z4k l a).2.2.1).natAbs by omega]
def zbu (p : List Int) : Prop := ∀ x ∈ p, -10000 ≤ x ∧ x ≤ 10000
theorem zq4 {p : List Int} {i : Int} (h : 0 ≤ i ∧ i < (p.length : Int)) : lget 0 p i ∈ p := by
 unfold lget
 have hi : i.toNat < p.length := by omega
 rw [List.getD_eq_getElem?_getD, List.getElem?_eq_getElem hi]
 exact List.getElem_mem _
def redQ (r : z01) (l : List z00) (p : List Int) (a b : Int) : Int := z3z r l a b - lget 0 p a - lget 0 p b
theorem redQ_b {r : z01} {l : List z00} {p : List Int} (hr : z2l r = true) (hl : l.all z9u = true) (hp : zbu p) (hpl : p.length = l.length) {a b : Int} (ha : 0 ≤ a ∧ a < (l.length : Int)) (hb : 0 ≤ b ∧ b < (l.length : Int)) :
  -4000000000 ≤ redQ r l p a b ∧ redQ r l p a b ≤ 4000000000 ∧ wi64 (wi64 (z3z r l a b - lget 0 p a) - lget 0 p b) = redQ r l p a b := by
 have h := (zh1 hr hl ha hb).2
 have h1 := hp _ (zq4 (p := p) (i := a) (by omega))
 have h2 := hp _ (zq4 (p := p) (i := b) (by omega))
 unfold redQ
 refine ⟨by omega, by omega, ?_⟩
 rw [z0m (x := z3z r l a b - lget 0 p a) (by omega) (by omega), z0m (by omega) (by omega)]
theorem zsb {red : Int → Int → Int} {n : Nat} {F : List Int × Int → Option ((List Int × Int) ⊕ Int)} (hn : n ≤ 100)
  (hred : ∀ a b, 0 ≤ a ∧ a < (n : Int) → 0 ≤ b ∧ b < (n : Int) → -4000000000 ≤ red a b ∧ red a b ≤ 4000000000)
  (hstep : ∀ inn sum, inn ≠ [] → inn.length < n → (∀ a ∈ inn, 0 ≤ a ∧ a < (n : Int)) → -400000000000 ≤ sum ∧ sum ≤ 400000000000 → -4000000000 ≤ (z4w red (upto n) inn).2 ∧ (z4w red (upto n) inn).2 ≤ 4000000000 → F (inn, sum) = some (.inl (inn ++ [(z4w red (upto n) inn).1], sum + (z4w red (upto n) inn).2)))
  (hend : ∀ inn sum, inn.length = n → F (inn, sum) = some (.inr sum)) :
  ∀ (k : Nat) (inn : List Int) (sum : Int), inn ≠ [] → inn.length + k = n → (∀ a ∈ inn, 0 ≤ a ∧ a < (n : Int)) → -(4000000000 * inn.length) ≤ sum ∧ sum ≤ 4000000000 * inn.length → z29 F (inn, sum) = some (zla red (upto n) k [] (inn, sum)).2 ∧ -(4000000000 * n) ≤ (zla red (upto n) k [] (inn, sum)).2 ∧ (zla red (upto n) k [] (inn, sum)).2 ≤ 4000000000 * n
 | 0, inn, sum, h0, hk, ha, hs => by
  have hk' : inn.length = n := by omega
  rw [← hk']
  exact ⟨z9t (hend _ _ hk'), hs.1, hs.2⟩
 | k + 1, inn, sum, h0, hk, ha, hs => by
  obtain ⟨h1, h2, ⟨a, ham, h3⟩, h4⟩ := znp (red := red) (ns := upto n) (fun b hb => (z4g.1 hb).1) (zbh n) (inn := inn) (by rw [z3g]; omega) h0
  have hb := hred a _ (ha a ham) (z4g.1 h1)
  rw [← h3] at hb
  rw [zh4 (hstep inn sum h0 (by omega) ha (by omega) hb)]
  have := zsb hn hred hstep hend k (inn ++ [(z4w red (upto n) inn).1]) (sum + (z4w red (upto n) inn).2) (by simp) (by rw [List.length_append, List.length_singleton]; omega) (fun b hb => by
   rcases List.mem_append.1 hb with h | h
   ·exact ha b h
   ·rw [List.mem_singleton.1 h]; exact z4g.1 h1) (by rw [List.length_append, List.length_singleton]; omega)
  exact this
def zlx (r : z01) (l : List z00) (p : List Int) : Int := (zla (redQ r l p) (upto l.length) (l.length - 1) [] ([0], 0)).2
theorem zxg {r : z01} {l : List z00} {p : List Int} (hr : z2l r = true) (hl : l.all z9u = true) (hp : zbu p) (hpl : p.length = l.length) (h0 : 0 < l.length) (h7 : l.length ≤ 7) :
  z2c (r, l) p = some (zlx r l p) ∧ -40000000000 ≤ zlx r l p ∧ zlx r l p ≤ 40000000000 := by
 have hred := fun a b ha hb => redQ_b (p := p) hr hl hp hpl (a := a) (b := b) ha hb
 have key := zsb (red := redQ r l p) (n := l.length) (F := fun s =>
  bif decide ((List.length s.1 : Int) < (List.length (r, l).2 : Int)) then
   (z29 (S := Int × Int × Int) (R := Int × Int) (fun s_1 =>
    bif decide (s_1.2.2 < (List.length s.1 : Int)) then
     chk (decide ((0 : Int) ≤ s_1.2.2) && decide (s_1.2.2 < (List.length s.1 : Int))) (
      (z29 (S := Int × Int × Int) (R := Int × Int) (fun s_2 =>
       bif decide (s_2.2.2 < (List.length (r, l).2 : Int)) then
        (z1e (r, l) (lget 0 s.1 s_1.2.2) s_2.2.2).bind fun (t_2 : Int) =>
        chk (decide ((0 : Int) ≤ (lget 0 s.1 s_1.2.2)) && decide ((lget 0 s.1 s_1.2.2) < (List.length p : Int))) (
         chk (decide ((0 : Int) ≤ s_2.2.2) && decide (s_2.2.2 < (List.length p : Int))) (
          (slices_Contains_int s.1 s_2.2.2).bind fun (t_3 : Bool) =>
          (bif ((!t_3) && ((decide (s_2.1 < 0)) || (decide (wi64 ((wi64 (t_2 - (lget 0 p (lget 0 s.1 s_1.2.2)))) - (lget 0 p s_2.2.2)) < s_2.2.1)))) then
           some (s_2.2.2, wi64 ((wi64 (t_2 - (lget 0 p (lget 0 s.1 s_1.2.2)))) - (lget 0 p s_2.2.2)))
          else
           some (s_2.1, s_2.2.1)).bind fun (j : Int × Int) =>
          some (.inl (j.1, j.2, wi64 (s_2.2.2 + 1)))))
       else
        some (.inr (s_2.1, s_2.2.1))) (s_1.1, s_1.2.1, 0)).bind fun (b : Int × Int) =>
      some (.inl (b.1, b.2, wi64 (s_1.2.2 + 1))))
    else
     some (.inr (s_1.1, s_1.2.1))) ((-1), 0, 0)).bind fun (b_1 : Int × Int) =>
   (app s.1 [b_1.1]).bind fun (t_4 : List Int) =>
   some (.inl (t_4, wi64 (s.2 + b_1.2)))
  else
   some (.inr s.2)) (by omega) (fun a b ha hb => ⟨(hred a b ha hb).1, (hred a b ha hb).2.1⟩) (fun inn sum hi0 hi ha hs hb => ?_) (fun inn sum hi => ?_) (l.length - 1) [0] 0 (by simp) (by simp; omega) (by simp; omega) (by simp)
 ·unfold z2c zlx
  refine ⟨?_, by omega, by omega⟩
  show Option.bind _ _ = _
  rw [show ([0], (0 : Int)) = (([0] : List Int), (0 : Int)) from rfl]
  exact Option.bind_eq_some_iff.2 ⟨_, key.1, rfl⟩
 ·show (bif decide ((List.length inn : Int) < (List.length l : Int)) then _ else _) = _
  rw [z0a (by omega), cond_true]
  refine Option.bind_eq_some_iff.2 ⟨z4w (redQ r l p) (upto l.length) inn, ze0 (X := Int) (l := inn) (fun pre => ((pre.foldl (bstA (redQ r l p) (upto l.length) inn) (-1, 0)).1, (pre.foldl (bstA (redQ r l p) (upto l.length) inn) (-1, 0)).2, (pre.length : Int))) (fun pre a post e => ?_) ?_, ?_⟩
  ·have haR := ha a (by rw [e]; simp)
   simp only [zar e, z82 e, zau e (show inn.length ≤ 4294967296 by omega)]
   rw [List.foldl_append, List.foldl_cons, List.foldl_nil, List.length_append, List.length_singleton]
   generalize List.foldl (bstA (redQ r l p) (upto l.length) inn) (-1, 0) pre = st
   refine Option.bind_eq_some_iff.2 ⟨bstA (redQ r l p) (upto l.length) inn st a, ze0 (X := Int) (l := upto l.length) (fun q => ((q.foldl (bst (redQ r l p) inn a) st).1, (q.foldl (bst (redQ r l p) inn a) st).2, (q.length : Int))) (fun q x po e2 => ?_) ?_, rfl⟩
   ·obtain ⟨hx, hq⟩ := upto_at e2
    have hxR : 0 ≤ x ∧ x < (l.length : Int) := by omega
    show (bif decide ((q.length : Int) < (l.length : Int)) then _ else _) = _
    rw [z0a (by omega), cond_true, ← hx]
    simp only
    rw [zzk haR hxR, Option.bind_some, z1h (by rw [z0a (by omega), z0a (by omega)]; rfl), z1h (by rw [z0a (by omega), z0a (by omega)]; rfl), (hred a x haR hxR).2.2, zd1 (by omega), Option.bind_some, z0m (x := x + 1) (by omega) (by omega), List.foldl_append, List.foldl_cons, List.foldl_nil, List.length_append, List.length_singleton, show ((q.length + 1 : Nat) : Int) = x + 1 by omega]
    generalize List.foldl (bst (redQ r l p) inn a) st q = t
    unfold bst
    cases inn.contains x with
    | true => rfl
    | false =>
     by_cases hd : t.1 < 0
     ·simp [hd]
     ·by_cases hd2 : redQ r l p a x < t.2 <;> simp [hd, hd2]
   ·show (bif decide (((upto l.length).length : Int) < (l.length : Int)) then _ else _) = _
    rw [z3g, z1s (by omega), cond_false]
    rfl
  ·simp only [step_end]; rfl
  ·simp only
   rw [znq (by simp; omega), Option.bind_some, z0m (by omega) (by omega)]
 ·show (bif decide ((List.length inn : Int) < (List.length l : Int)) then _ else _) = _
  rw [z1s (by omega), cond_false]
end Go.Lift
namespace Go.Lift
open Go
def topS (t : Int × Int) (x : Int) : Int × Int := (max t.1 x, max t.2 (min t.1 x))
def top2 (p : List Int) : Int × Int := p.foldl topS (-10000, -10000)
theorem zr3 (t : Int × Int) (x y : Int) : topS (topS t x) y = topS (topS t y) x := by
 unfold topS
 simp only [Prod.mk.injEq]
 omega
theorem zp5 {A B : Type} {f : B → A → B} (hc : ∀ b x y, f (f b x) y = f (f b y) x) {l m : List A} (h : l.Perm m) : ∀ b, l.foldl f b = m.foldl f b := by
 induction h with
 | nil => intro b; rfl
 | cons x _ ih => intro b; exact ih _
 | swap x y l => intro b; simp only [List.foldl_cons]; rw [hc]
 | trans _ _ h1 h2 => intro b; rw [h1, h2]
theorem zxh {c : Int} : ∀ (l : List Int) (t : Int × Int), t.2 ≤ t.1 → t.1 ≤ c → (∀ x ∈ l, x ≤ c) → (l.foldl topS t).2 ≤ (l.foldl topS t).1 ∧ (l.foldl topS t).1 ≤ c
 | [], t, h1, h2, _ => ⟨h1, h2⟩
 | x :: l, t, h1, h2, h3 => by
  have hx := h3 x (List.mem_cons_self ..)
  exact zxh l (topS t x) (by unfold topS; simp only; omega) (by unfold topS; simp only; omega) fun y hy => h3 y (List.mem_cons_of_mem _ hy)
theorem zt7 {pre : List Int} {a b : Int} (h1 : ∀ x ∈ pre, x ≤ a) (h2 : a ≤ b) (h3 : -10000 ≤ a) : top2 (pre ++ [a, b]) = (b, a) := by
 unfold top2
 rw [List.foldl_append]
 obtain ⟨h4, h5⟩ := zxh (c := a) pre (-10000, -10000) (by simp) h3 h1
 generalize List.foldl topS (-10000, -10000) pre = t at *
 show topS (topS t a) b = _
 unfold topS
 simp only [Prod.mk.injEq]
 omega
theorem zm1 {A : Type} : ∀ {l : List A}, 2 ≤ l.length → ∃ pre a b, l = pre ++ [a, b]
 | [], h => by simp at h
 | [x], h => by simp at h
 | [x, y], _ => ⟨[], x, y, rfl⟩
 | x :: y :: z :: l, h => by
  obtain ⟨pre, a, b, e⟩ := zm1 (l := y :: z :: l) (by simp)
  exact ⟨x :: pre, a, b, by rw [e]; rfl⟩
theorem zm2 {p : List Int} (hp : zbu p) (h2 : 2 ≤ p.length) : ∃ pre a b, (p.mergeSort fun a b => decide (a ≤ b)) = pre ++ [a, b] ∧ top2 p = (b, a) ∧ (-10000 ≤ a ∧ a ≤ 10000) ∧ (-10000 ≤ b ∧ b ≤ 10000) := by
 have hperm := List.mergeSort_perm p fun a b => decide (a ≤ b)
 have hsort := List.pairwise_mergeSort (le := fun a b : Int => decide (a ≤ b)) (fun a b c h1 h2 => by
  simp only [decide_eq_true_eq] at *; omega) (fun a b => by simp only [Bool.or_eq_true, decide_eq_true_eq]; omega) p
 obtain ⟨pre, a, b, e⟩ := zm1 (l := p.mergeSort fun a b => decide (a ≤ b)) (by rw [hperm.length_eq]; exact h2)
 rw [e] at hperm hsort
 have ha := hp a (hperm.subset (by simp))
 have hb := hp b (hperm.subset (by simp))
 have hs := List.pairwise_append.1 hsort
 refine ⟨pre, a, b, e, ?_, ha, hb⟩
 rw [← zt7 (pre := pre) (a := a) (b := b) (fun x hx => by
  have := hs.2.2 x hx a (by simp)
  simpa using this) (by
  have := (List.pairwise_cons.1 hs.2.1).1 b (by simp)
  simpa using this) ha.1]
 exact zp5 zr3 hperm.symm _
theorem y08 (l : List Int) (x : Int) : (l ++ [x]).sum = l.sum + x := by simp
theorem y2g {p : List Int} (hp : zbu p) : -(10000 * p.length) ≤ p.sum ∧ p.sum ≤ 10000 * p.length := by
 induction p with
 | nil => simp
 | cons x p ih =>
  have := ih fun y hy => hp y (List.mem_cons_of_mem _ hy)
  have hx := hp x (List.mem_cons_self ..)
  rw [List.sum_cons, List.length_cons]
  omega
def zc3 (r : z01) (l : List z00) (p : List Int) : Int := if l.length = 1 then 0 else zlx r l p + 2 * p.sum - (top2 p).1 - (top2 p).2
def z6h (n : Nat) (p : List Int) : Int := if p.length ≠ n then 10 else bif p.all (inB · (-10000) 10000) then 0 else 2
theorem zmj {n : Nat} {p : List Int} (h : z6h n p = 0) : p.length = n ∧ zbu p := by
 unfold z6h at h
 split at h
 ·exact absurd h (by decide)
 ·rename_i hl
  cases ha : p.all (inB · (-10000) 10000) with
  | false => rw [ha] at h; exact absurd (show (2 : Int) = 0 from h) (by decide)
  | true =>
   refine ⟨by omega, fun x hx => ?_⟩
   have := List.all_eq_true.1 ha x hx
   unfold inB at this
   simpa using this
theorem zl4 {l : List z00} {p : List Int} (hl : l.length ≤ 4294967296) : z6g l p = some (z6h l.length p) := by
 unfold z6g z6h
 by_cases h : p.length = l.length
 ·have hp : p.length ≤ 4294967296 := by omega
  rw [if_neg (by omega), show ((p.length : Int) != (l.length : Int)) = false by rw [h]; simp, cond_false]
  rw [z5p (l := p) (g := fun _ x => bif !inB x (-10000) 10000 then some 2 else none) (fun pre x post e => by
   rw [zar e, z82 e, zau e hp, zgq, Option.bind_some]
   unfold inB
   cases decide (-10000 ≤ x ∧ x ≤ 10000) <;> rfl) step_end, Option.bind_some, zh9 (fun x => !inB x (-10000) 10000) 2, zf2]
  cases p.all (inB · (-10000) 10000) <;> rfl
 ·rw [if_pos h, show ((p.length : Int) != (l.length : Int)) = true by rw [bne_iff_ne]; omega, cond_true]
theorem zpk {r : z01} {l : List z00} {p : List Int} (hl : l.length ≤ 4294967296) (hp : p.length ≤ 4294967296) :
  z1u r l p = some (if z4r r l = 0 then (if z6h l.length p = 0 then (zc3 r l p, 0) else (0, z6h l.length p)) else (0, z4r r l)) := by
 unfold z1u
 have hE : zd0 [z4r r l, (if ((p.length : Int) == (l.length : Int)) = true then 0 else 10), (if (!(p.any fun x => !inB x (-10000) 10000)) = true then (0 : Int) else 2)] = if z4r r l = 0 then z6h l.length p else z4r r l := by
  rw [zf2]
  unfold z6h
  simp only [zd0]
  by_cases h : p.length = l.length
  ·rw [h]
   cases p.all (inB · (-10000) 10000) <;> simp
  ·have : ¬ ((p.length : Int) = (l.length : Int)) := by omega
   simp [h, this]
 rw [ztn hl, Option.bind_some, zjl (p := fun x => !inB x (-10000) 10000) (fun x _ => by unfold z3l inB; rw [zfq]; rfl) hp, Option.bind_some, z7h, Option.bind_some, z7h, Option.bind_some, zlo (by simp), Option.bind_some, hE]
 by_cases h0 : z4r r l = 0
 rotate_left
 ·rw [if_neg h0, if_neg h0, show (z4r r l != 0) = true by rw [bne_iff_ne]; exact h0, cond_true]
 rw [if_pos h0, if_pos h0]
 by_cases h1 : z6h l.length p = 0
 rotate_left
 ·rw [if_neg h1, show (z6h l.length p != 0) = true by rw [bne_iff_ne]; exact h1, cond_true]
 rw [if_pos h1, show (z6h l.length p != 0) = false by rw [h1]; rfl, cond_false]
 obtain ⟨hpl, hpb⟩ := zmj h1
 obtain ⟨hl0, hl7⟩ := zdv h0
 obtain ⟨hr, hi⟩ := zro h0
 unfold zc3
 by_cases h2 : l.length = 1
 ·rw [if_pos h2, show ((l.length : Int) == 1) = true by rw [h2]; rfl, cond_true]
 rw [if_neg h2, show ((l.length : Int) == 1) = false by rw [beq_eq_false_iff_ne]; omega, cond_false]
 have hsum := y2g hpb
 refine Option.bind_eq_some_iff.2 ⟨2 * p.sum, ze0 (X := Int) (l := p) (fun pre => (2 * pre.sum, (pre.length : Int))) (fun pre x post e => ?_) ?_, ?_⟩
 ·have hx := hpb x (by rw [e]; simp)
  have hs := y2g (p := pre) fun y hy => hpb y (by rw [e]; exact List.mem_append_left _ hy)
  have hL : p.length = pre.length + (post.length + 1) := by rw [e, List.length_append, List.length_cons]
  simp only [zar e, z82 e, zau e hp]
  rw [y08, z0m (x := 2 * x) (by omega) (by omega), z0m (by omega) (by omega), List.length_append, List.length_singleton, Int.mul_add]
  rfl
 ·simp only [step_end]
 obtain ⟨pre, a, b, e, ht, ha, hb⟩ := zm2 hpb (by omega)
 unfold z34 z2e
 rw [z0a (show p.length ≤ 1000000 by omega), cond_true, Option.bind_some, z0a (show p.length ≤ 1000000 by omega), cond_true, Option.bind_some]
 have hlen : (p.mergeSort fun a b => decide (a ≤ b)).length = p.length := (List.mergeSort_perm p _).length_eq
 have hle : (pre ++ [a, b]).length = p.length := by rw [← e, hlen]
 rw [e, hle, z0m (x := (p.length : Int) - 2) (by omega) (by omega)]
 obtain ⟨ht1, ht2, ht3⟩ := zxg hr hi hpb hpl hl0 hl7
 have hpre : pre.length + 2 = p.length := by simpa using hle
 have hd : List.drop (Int.toNat ((p.length : Int) - 2)) (List.take (Int.toNat (p.length : Int)) (pre ++ [a, b])) = [a, b] := by
  rw [Int.toNat_natCast, ← hle, List.take_length, hle, show ((p.length : Int) - 2).toNat = pre.length by omega, List.drop_left]
 rw [z1h (by rw [z0a (by omega), z0a (by omega), z0a (by omega)]; rfl), hd]
 simp only
 rw [ht1, Option.bind_some, z1h (by rfl), z1h (by rfl), show lget 0 [a, b] 0 = a from rfl, show lget 0 [a, b] 1 = b from rfl]
 rw [z0m (x := zlx r l p + 2 * p.sum) (by omega) (by omega), z0m (x := zlx r l p + 2 * p.sum - a) (by omega) (by omega), z0m (by omega) (by omega), ht]
 congr 2
 omega
theorem y02 {a : List Int} (h : a.length ≤ 4294967296) : zaz a a = some true := by
 unfold zaz
 rw [show ((a.length : Int) != (a.length : Int)) = false by simp, cond_false]
 rw [z5p (l := a) (g := fun _ _ => (none : Option Bool)) (fun pre x post e => by
  rw [zar e, zvn e, zau e h, show (lget 0 a (pre.length : Int) != lget 0 a (pre.length : Int)) = false by simp, cond_false]) step_end, Option.bind_some]
 have : ∀ (m pre : List Int), z26 (fun _ _ => (none : Option Bool)) pre m = none := by
  intro m
  induction m with
  | nil => intro pre; rfl
  | cons x m ih => intro pre; exact ih _
 rw [this]; rfl
end Go.Lift
