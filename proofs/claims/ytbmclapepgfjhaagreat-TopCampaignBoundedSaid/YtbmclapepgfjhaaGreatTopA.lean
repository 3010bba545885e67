/-
  Doubled prices, beginnings of items.
-/
import Derived.Test.YtbmclapepgfjhaaGreatBoA
import Derived.Test.YtbmclapepgfjhaaGreatCaA
set_option linter.unusedSectionVars false
set_option linter.unusedVariables false
set_option linter.unusedSimpArgs false
namespace Go.Lift
open Go
theorem zvc {q : Int → Int → Int} {ok : List Int → Bool} {s : List Int} {last : Int} : ∀ (ps : List Int) (st : Int × Int), (∀ p ∈ ps, 0 ≤ p ∧ p ≤ (s.length : Int)) → (st.1 < 0 ∨ ((0 ≤ st.1 ∧ st.1 ≤ (s.length : Int)) ∧ ok (insI s st.1 last) = true)) →
  ((ps.foldl (insP q ok s last) st).1 < 0 ∨ ((0 ≤ (ps.foldl (insP q ok s last) st).1 ∧ (ps.foldl (insP q ok s last) st).1 ≤ (s.length : Int)) ∧ ok (insI s (ps.foldl (insP q ok s last) st).1 last) = true))
 | [], st, _, h => h
 | p :: ps, st, hp, h => by
  rw [List.foldl_cons]
  refine zvc ps _ (fun x hx => hp x (List.mem_cons_of_mem _ hx)) ?_
  unfold insP
  split
  ·rename_i hc
   simp only [Bool.and_eq_true] at hc
   exact Or.inr ⟨hp p (List.mem_cons_self ..), hc.1⟩
  ·exact h
theorem zwu (r : z01) (l : List z00) (s : List Int) : (zky r l s).1 < 0 ∨ ((0 ≤ (zky r l s).1 ∧ (zky r l s).1 ≤ (s.length : Int)) ∧ okP r l [] (insI s (zky r l s).1 ((l.length : Int) - 1)) = true) :=
 zvc _ _ (fun p hp => by have := z4g.1 hp; omega) (Or.inl (by decide))
theorem zz5 {s : List Int} {n : Nat} {p : Int} (h : s.Perm (upto n)) : (insI s p (n : Int)).Perm (upto (n + 1)) := by
 unfold insI
 rw [zr1]
 have h1 : (s.take p.toNat ++ (n : Int) :: s.drop p.toNat).Perm ((n : Int) :: (s.take p.toNat ++ s.drop p.toNat)) := List.perm_middle
 rw [List.take_append_drop] at h1
 exact (h1.trans (h.cons _)).trans (List.perm_append_comm (l₁ := [(n : Int)]))
theorem zwn {n : Nat} {i : Int} (h : 0 ≤ i ∧ i < (n : Int)) : lget 0 (upto n) i = i := by
 unfold lget upto
 have hi : i.toNat < n := by omega
 rw [List.getD_eq_getElem?_getD, List.getElem?_map, List.getElem?_range hi]
 show ((i.toNat : Nat) : Int) = i
 omega
theorem zw4 {l : List z00} {n : Nat} (h : n ≤ l.length) : l.take n = (upto n).map (lget z4k l) := by
 unfold upto
 rw [List.map_map]
 refine List.ext_getElem (by simp; omega) fun i h1 h2 => ?_
 rw [List.length_take] at h1
 simp only [List.getElem_map, List.getElem_range, Function.comp, List.getElem_take]
 unfold lget
 rw [Int.toNat_natCast, List.getD_eq_getElem?_getD, List.getElem?_eq_getElem (by omega)]
 rfl
theorem zo7 {r : z01} {l : List z00} {n : Nat} (h : n ≤ l.length) {s : List Int} (hs : ∀ i ∈ s, 0 ≤ i ∧ i < (n : Int)) : okP r (l.take n) [] s = okP r l [] s := by
 rw [zw4 h, zyq s [] (by simpa [z3g] using hs), List.map_nil]
 congr 1
 conv => rhs; rw [← List.map_id s]
 exact List.map_congr_left fun i hi => zwn (hs i hi)
def zb1 (r : z01) : z01 := (r.1, (r.2.1, (r.2.2.1, (r.2.2.2.1, (r.2.2.2.2.1, (r.2.2.2.2.2.1, (2 * r.2.2.2.2.2.2.1, (2 * r.2.2.2.2.2.2.2.1, 2 * r.2.2.2.2.2.2.2.2))))))))
theorem zyp (r : z01) (l : List z00) : okP (zb1 r) l = okP r l := rfl
theorem zmn {r : z01} {l : List z00} (hr : z2l r = true) (hw : z2l (zb1 r) = true) (hl : l.all z9u = true) {a b : Int} (ha : 0 ≤ a ∧ a < (l.length : Int)) (hb : 0 ≤ b ∧ b < (l.length : Int)) : z3z (zb1 r) l a b = 2 * z3z r l a b := by
 rw [(zh1 hw hl ha hb).1, (zh1 hr hl ha hb).1]
 unfold y0m zb1
 simp only [Int.mul_assoc, Int.mul_add]
theorem zvv {q q2 : Int → Int → Int} {P : Int → Prop} (h : ∀ a b, P a → P b → q2 a b = 2 * q a b) : ∀ (s : List Int), (∀ x ∈ s, P x) → PS q2 s = 2 * PS q s
 | [], _ => rfl
 | [_], _ => rfl
 | a :: b :: l, hs => by
  have ih := zvv h (b :: l) fun x hx => hs x (List.mem_cons_of_mem _ hx)
  show q2 a b + PS q2 (b :: l) = 2 * (q a b + PS q (b :: l))
  rw [ih, h a b (hs a (by simp)) (hs b (by simp))]
  omega
def dbl (b : Option (List Int × Int)) : Option (List Int × Int) := b.map fun c => (c.1, 2 * c.2)
theorem zpe {q q2 : Int → Int → Int} : ∀ (cs : List (List Int)) (b : Option (List Int × Int)), (∀ s ∈ cs, z7p q2 s = 2 * z7p q s) → cs.foldl (zgm q2) (dbl b) = dbl (cs.foldl (zgm q) b)
 | [], b, _ => rfl
 | s :: cs, b, h => by
  rw [List.foldl_cons, List.foldl_cons, ← zpe cs _ fun t ht => h t (List.mem_cons_of_mem _ ht)]
  congr 1
  have hs := h s (List.mem_cons_self ..)
  unfold zgm
  cases b with
  | none => show some (s, z7p q2 s) = dbl (some (s, z7p q s)); rw [hs]; rfl
  | some c =>
   show (if z7p q2 s < 2 * c.2 then some (s, z7p q2 s) else some (c.1, 2 * c.2)) = dbl (if z7p q s < c.2 then some (s, z7p q s) else some c)
   rw [hs]
   by_cases hd : z7p q s < c.2
   ·rw [if_pos hd, if_pos (by omega)]; rfl
   ·rw [if_neg hd, if_neg (by omega)]; rfl
theorem zso {r : z01} {l : List z00} (hr : z2l r = true) (hw : z2l (zb1 r) = true) (hl : l.all z9u = true) (h0 : 0 < l.length) (h7 : l.length ≤ 7) : zd2 (zb1 r) l = dbl (zd2 r l) := by
 unfold zd2
 rw [zyp]
 refine zpe _ none fun s hs => ?_
 obtain ⟨a, b, c⟩ := zuv h0 h7 s (List.mem_filter.1 hs).1
 rw [(zqj hw hl c (by omega)).1, (zqj hr hl c (by omega)).1]
 exact zvv (P := fun i => 0 ≤ i ∧ i < (l.length : Int)) (fun a b ha hb => zmn hr hw hl ha hb) s c
theorem zss {red red2 : Int → Int → Int} {inn : List Int} {a : Int} : ∀ (ns : List Int) (st : Int × Int), (∀ b ∈ ns, red2 a b = 2 * red a b) → bstA red2 ns inn (st.1, 2 * st.2) a = ((bstA red ns inn st a).1, 2 * (bstA red ns inn st a).2)
 | [], st, _ => rfl
 | b :: ns, st, h => by
  have hb := h b (List.mem_cons_self ..)
  have hstep : bst red2 inn a (st.1, 2 * st.2) b = ((bst red inn a st b).1, 2 * (bst red inn a st b).2) := by
   unfold bst
   rw [hb]
   by_cases hc : inn.contains b = true
   ·rw [if_pos hc, if_pos hc]
   ·rw [if_neg hc, if_neg hc]
    by_cases hd : st.1 < 0 ∨ red a b < st.2
    ·rw [if_pos hd, if_pos (by dsimp only; omega)]
    ·rw [if_neg hd, if_neg (by dsimp only; omega)]
  unfold bstA at *
  rw [List.foldl_cons, List.foldl_cons, hstep]
  exact zss ns _ fun y hy => h y (List.mem_cons_of_mem _ hy)
theorem zst {red red2 : Int → Int → Int} {ns inn : List Int} (h : ∀ a ∈ inn, ∀ b ∈ ns, red2 a b = 2 * red a b) : z4w red2 ns inn = ((z4w red ns inn).1, 2 * (z4w red ns inn).2) := by
 have key : ∀ (m : List Int) (st : Int × Int), (∀ a ∈ m, ∀ b ∈ ns, red2 a b = 2 * red a b) → m.foldl (bstA red2 ns inn) (st.1, 2 * st.2) = ((m.foldl (bstA red ns inn) st).1, 2 * (m.foldl (bstA red ns inn) st).2) := by
  intro m
  induction m with
  | nil => intro st _; rfl
  | cons a m ih =>
   intro st hm
   rw [List.foldl_cons, List.foldl_cons, zss ns st fun b hb => hm a (List.mem_cons_self ..) b hb]
   exact ih _ fun x hx => hm x (List.mem_cons_of_mem _ hx)
 exact key inn (-1, 0) h
theorem zp1 {red red2 : Int → Int → Int} {n : Nat} (h : ∀ a b, 0 ≤ a ∧ a < (n : Int) → 0 ≤ b ∧ b < (n : Int) → red2 a b = 2 * red a b) : ∀ (k : Nat) (st : List Int × Int), st.1 ≠ [] → st.1.length + k = n → (∀ a ∈ st.1, 0 ≤ a ∧ a < (n : Int)) →
  zla red2 (upto n) k [] (st.1, 2 * st.2) = ((zla red (upto n) k [] st).1, 2 * (zla red (upto n) k [] st).2)
 | 0, st, _, _, _ => rfl
 | k + 1, st, h0, hk, ha => by
  obtain ⟨h1, _⟩ := znp (red := red) (ns := upto n) (fun b hb => (z4g.1 hb).1) (zbh n) (inn := st.1) (by rw [z3g]; omega) h0
  show zla red2 (upto n) k [] (st.1 ++ [(z4w red2 (upto n) st.1).1], 2 * st.2 + (z4w red2 (upto n) st.1).2) = _
  rw [zst (red := red) fun a haa b hb => h a b (ha a haa) (z4g.1 hb), ← Int.mul_add]
  exact zp1 h k (st.1 ++ [(z4w red (upto n) st.1).1], st.2 + (z4w red (upto n) st.1).2) (by simp) (by rw [List.length_append, List.length_singleton]; omega) fun b hb => by
   rcases List.mem_append.1 hb with h | h
   ·exact ha b h
   ·rw [List.mem_singleton.1 h]; exact z4g.1 h1
theorem zoy (p : List Int) (i : Int) : lget 0 (p.map (2 * ·)) i = 2 * lget 0 p i := by
 unfold lget
 rw [List.getD_eq_getElem?_getD, List.getD_eq_getElem?_getD, List.getElem?_map]
 cases p[i.toNat]? <;> rfl
theorem zok : ∀ (l : List Int) (t : Int × Int), (l.map (2 * ·)).foldl topS (2 * t.1, 2 * t.2) = (2 * (l.foldl topS t).1, 2 * (l.foldl topS t).2)
 | [], t => rfl
 | x :: l, t => by
  have : topS (2 * t.1, 2 * t.2) (2 * x) = (2 * (topS t x).1, 2 * (topS t x).2) := by
   unfold topS
   simp only [Prod.mk.injEq]
   omega
  rw [List.map_cons, List.foldl_cons, List.foldl_cons, this]
  exact zok l _
theorem zol {x y : Int} {l : List Int} (hx : -10000 ≤ x) (hy : -10000 ≤ y) : top2 (x :: y :: l) = l.foldl topS (max x y, min x y) := by
 unfold top2
 rw [List.foldl_cons, List.foldl_cons]
 congr 1
 unfold topS
 simp only [Prod.mk.injEq]
 omega
theorem zw2 {p : List Int} (h2 : 2 ≤ p.length) (hp : zbu p) (hq : zbu (p.map (2 * ·))) : top2 (p.map (2 * ·)) = (2 * (top2 p).1, 2 * (top2 p).2) := by
 match p, h2 with
 | x :: y :: l, _ =>
  have hx := hp x (by simp)
  have hy := hp y (by simp)
  have hx2 := hq (2 * x) (by simp)
  have hy2 := hq (2 * y) (by simp)
  rw [List.map_cons, List.map_cons, zol hx2.1 hy2.1, zol hx.1 hy.1, ← zok]
  congr 1
  simp only [Prod.mk.injEq]
  omega
theorem zxj (p : List Int) : (p.map (2 * ·)).sum = 2 * p.sum := by
 induction p with
 | nil => rfl
 | cons x p ih => rw [List.map_cons, List.sum_cons, List.sum_cons, ih]; omega
theorem zuc {r : z01} {l : List z00} {p : List Int} (hr : z2l r = true) (hw : z2l (zb1 r) = true) (hl : l.all z9u = true) (hp : zbu p) (hq : zbu (p.map (2 * ·))) (hpl : p.length = l.length) (h0 : 0 < l.length) : zc3 (zb1 r) l (p.map (2 * ·)) = 2 * zc3 r l p := by
 unfold zc3
 by_cases h1 : l.length = 1
 ·rw [if_pos h1, if_pos h1]; rfl
 rw [if_neg h1, if_neg h1, zw2 (by omega) hp hq, zxj]
 have hg := zp1 (red := redQ r l p) (red2 := redQ (zb1 r) l (p.map (2 * ·))) (n := l.length) (fun a b ha hb => by
  unfold redQ
  rw [zmn hr hw hl ha hb, zoy, zoy]
  omega) (l.length - 1) ([0], 0) (by simp) (by simp; omega) (by simp; omega)
 have ht : zlx (zb1 r) l (p.map (2 * ·)) = 2 * zlx r l p := by
  unfold zlx
  have := congrArg Prod.snd hg
  exact this
 rw [ht]
 omega
end Go.Lift
