/-
  Moves in a yard in plain terms; what blocks; what is taken at once is never worse.
-/
import Derived.Test.YtbmclapepgfjhaaGreatYaB
set_option linter.unusedSectionVars false
set_option linter.unusedVariables false
set_option linter.unusedSimpArgs false
namespace Go.Lift
open Go
theorem zpv {x y : ByteArray} : seqb x y = true ↔ x = y := by
 unfold seqb
 rw [beq_iff_eq]
 constructor
 ·intro h
  rw [ByteArray.toList_eq, ByteArray.toList_eq] at h
  exact ByteArray.ext (Array.toList_inj.mp h)
 ·intro h; rw [h]
instance decBA : DecidableEq ByteArray := fun a b => decidable_of_iff (seqb a b = true) zpv
theorem z2f {l : List ByteArray} {x : ByteArray} : hasB l x = true ↔ x ∈ l := by
 unfold hasB
 rw [List.any_eq_true]
 constructor
 ·rintro ⟨z, hz, h⟩
  rw [← zpv.1 h]
  exact hz
 ·exact fun h => ⟨x, h, zpv.2 rfl⟩
abbrev YdT := List (List ByteArray)
abbrev StT := YdT × List ByteArray
def pl (y : YdT) (a : Nat) : List ByteArray := y.getD a []
def popY (y : YdT) (a : Nat) : YdT := y.set a (pl y a).dropLast
def zat (y : YdT) (b : Nat) (x : ByteArray) : YdT := y.set b (pl y b ++ [x])
theorem zk1 {y : YdT} {a : Nat} (h : a < y.length) : ∃ l1 l2, y = l1 ++ pl y a :: l2 ∧ l1.length = a ∧ ∀ q, y.set a q = l1 ++ q :: l2 := by
 refine ⟨y.take a, y.drop (a + 1), ?_, by rw [List.length_take]; omega, fun q => ?_⟩
 ·unfold pl
  rw [List.getD_eq_getElem?_getD, List.getElem?_eq_getElem h, Option.getD_some]
  rw [List.getElem_cons_drop, List.take_append_drop]
 ·rw [List.set_eq_take_append_cons_drop, if_pos h]
theorem zds (y : YdT) (a : Nat) : (popY y a).length = y.length := by unfold popY; rw [List.length_set]
theorem y19 (y : YdT) (b : Nat) (x : ByteArray) : (zat y b x).length = y.length := by unfold zat; rw [List.length_set]
theorem zxa {y : YdT} {a i : Nat} {q : List ByteArray} (h : a < y.length) : pl (y.set a q) i = if i = a then q else pl y i := by
 unfold pl
 rw [List.getD_eq_getElem?_getD, List.getD_eq_getElem?_getD, List.getElem?_set]
 by_cases e : i = a
 ·subst e; rw [if_pos rfl, if_pos rfl, if_pos h]; rfl
 ·rw [if_neg (Ne.symm e), if_neg e]
theorem zxb {y : YdT} {a i : Nat} (h : a < y.length) : pl (popY y a) i = if i = a then (pl y a).dropLast else pl y i := zxa h
theorem y1d {y : YdT} {b i : Nat} {x : ByteArray} (h : b < y.length) : pl (zat y b x) i = if i = b then pl y b ++ [x] else pl y i := zxa h
theorem y1e {y : YdT} {a : Nat} (h : a < y.length) : pl y a ∈ y := by
 unfold pl
 rw [List.getD_eq_getElem?_getD, List.getElem?_eq_getElem h, Option.getD_some]
 exact List.getElem_mem h
theorem zlp {y : YdT} {a : Nat} {q : List ByteArray} {x : ByteArray} (h : pl y a = q ++ [x]) : a < y.length := by
 rcases Nat.lt_or_ge a y.length with h1 | h1
 ·exact h1
 ·unfold pl at h
  rw [List.getD_eq_getElem?_getD, List.getElem?_eq_none h1, Option.getD_none] at h
  simp at h
theorem zam {y : YdT} {a : Nat} {q : List ByteArray} {x : ByteArray} (h : pl y a = q ++ [x]) : y.flatten.Perm (x :: (popY y a).flatten) := by
 obtain ⟨l1, l2, h1, h2, h3⟩ := zk1 (zlp h)
 have e : popY y a = l1 ++ q :: l2 := by
  unfold popY
  rw [h3, h, List.dropLast_concat]
 rw [e]
 rw [h] at h1
 rw [h1]
 simp only [List.flatten_append, List.flatten_cons, List.append_assoc, List.singleton_append]
 refine List.Perm.trans (List.Perm.append_left l1.flatten (List.perm_middle (l₁ := q) (a := x) (l₂ := l2.flatten))) ?_
 exact List.perm_middle
theorem zo4 {y : YdT} {b : Nat} {x : ByteArray} (h : b < y.length) : (zat y b x).flatten.Perm (x :: y.flatten) := by
 obtain ⟨l1, l2, h1, h2, h3⟩ := zk1 h
 have e : zat y b x = l1 ++ (pl y b ++ [x]) :: l2 := by unfold zat; rw [h3]
 rw [e]
 rw (occs := .pos [2]) [h1]
 simp only [List.flatten_append, List.flatten_cons, List.append_assoc, List.singleton_append]
 refine List.Perm.trans (List.Perm.append_left l1.flatten (List.perm_middle (l₁ := pl y b) (a := x) (l₂ := l2.flatten))) ?_
 exact List.perm_middle
inductive Stp : StT → (Int × Int) → StT → Nat → Prop
 | out {y : YdT} {left q : List ByteArray} {x : ByteArray} {a : Nat} : pl y a = q ++ [x] → Stp (y, x :: left) ((a : Int), -1) (popY y a, left) 0
 | mv {y : YdT} {left q : List ByteArray} {x : ByteArray} {a b : Nat} : pl y a = q ++ [x] → b < y.length → a ≠ b → (pl y b).length < 6 → Stp (y, left) ((a : Int), (b : Int)) (zat (popY y a) b x, left) 1
inductive Run : StT → List (Int × Int) → StT → Nat → Prop
 | nil (s : StT) : Run s [] s 0
 | cons {s s1 s2 : StT} {m : Int × Int} {l : List (Int × Int)} {c k : Nat} : Stp s m s1 c → Run s1 l s2 k → Run s (m :: l) s2 (c + k)
theorem Stp.det {s s1 s2 : StT} {m : Int × Int} {c d : Nat} (h : Stp s m s1 c) (k : Stp s m s2 d) : s1 = s2 ∧ c = d := by
 cases h with
 | @out y left q x a h1 =>
  generalize hm : ((a : Int), (-1 : Int)) = m at k
  cases k with
  | @out _ _ q' x' a' h2 =>
   simp only [Prod.mk.injEq, Int.natCast_inj, and_true] at hm
   subst hm
   exact ⟨rfl, rfl⟩
  | @mv _ _ q' x' a' b' h2 h3 h4 h5 =>
   simp only [Prod.mk.injEq] at hm
   omega
 | @mv y left q x a b h1 h2 h3 h4 =>
  generalize hm : ((a : Int), (b : Int)) = m at k
  cases k with
  | @out _ _ q' x' a' h2 =>
   simp only [Prod.mk.injEq] at hm
   omega
  | @mv _ _ q' x' a' b' g1 g2 g3 g4 =>
   simp only [Prod.mk.injEq, Int.natCast_inj] at hm
   obtain ⟨rfl, rfl⟩ := hm
   rw [h1] at g1
   obtain ⟨rfl, e⟩ := List.append_inj' g1 rfl
   simp only [List.cons.injEq, and_true] at e
   subst e
   exact ⟨rfl, rfl⟩
theorem Run.append {s1 s2 s3 : StT} {l1 l2 : List (Int × Int)} {j k : Nat} (h : Run s1 l1 s2 j) (h2 : Run s2 l2 s3 k) : Run s1 (l1 ++ l2) s3 (j + k) := by
 induction h with
 | nil s => rw [Nat.zero_add]; exact h2
 | cons hs _ ih => rw [Nat.add_assoc]; exact .cons hs (ih h2)
theorem Run.one {s s1 : StT} {m : Int × Int} {c : Nat} (h : Stp s m s1 c) : Run s [m] s1 c := by
 have := Run.cons h (Run.nil s1)
 rwa [Nat.add_zero] at this
structure Vd (names req : List ByteArray) (p : Nat) (s : StT) : Prop where
 len : s.1.length = p
 small : ∀ a, (pl s.1 a).length ≤ 6
 nd : s.1.flatten.Nodup
 sub : ∀ x ∈ s.1.flatten, x ∈ names
 left : s.2 = req.filter fun x => hasB s.1.flatten x
theorem zm4 {P : ByteArray → Bool} {req left : List ByteArray} {x : ByteArray} (hn : req.Nodup) (h : x :: left = req.filter P) : left = req.filter fun z => P z && decide (z ≠ x) := by
 have h1 : (req.filter P).filter (fun z => decide (z ≠ x)) = left := by
  rw [← h]
  have hnd : (x :: left).Nodup := by rw [h]; exact hn.filter _
  rw [List.nodup_cons] at hnd
  rw [List.filter_cons_of_neg (by simp), List.filter_eq_self.2]
  intro z hz
  simp only [decide_eq_true_eq]
  exact fun e => hnd.1 (e ▸ hz)
 rw [← h1, List.filter_filter]
 congr 1
 funext z
 exact Bool.and_comm _ _
theorem Vd.stp {names req : List ByteArray} {p : Nat} {s s' : StT} {m : Int × Int} {c : Nat} (hr : req.Nodup) (h : Vd names req p s) (hs : Stp s m s' c) : Vd names req p s' := by
 cases hs with
 | @out y left q x a h1 =>
  have hf := zam h1
  have hnd := hf.nodup h.nd
  rw [List.nodup_cons] at hnd
  have hlt := zlp h1
  refine ⟨(zds y a).trans h.len, fun i => ?_, hnd.2, fun z hz => h.sub z (hf.mem_iff.2 (List.mem_cons_of_mem _ hz)), ?_⟩
  ·show (pl (popY y a) i).length ≤ 6
   rw [zxb hlt]
   split
   ·have := h.small a
    simp only at this
    rw [List.length_dropLast]; omega
   ·exact h.small i
  ·show left = _
   rw [zm4 hr h.left]
   congr 1
   funext z
   simp only
   rw [Bool.eq_iff_iff]
   simp only [Bool.and_eq_true, decide_eq_true_eq, z2f]
   constructor
   ·rintro ⟨h2, h3⟩
    rcases List.mem_cons.1 (hf.mem_iff.1 h2) with e | e
    ·exact absurd e h3
    ·exact e
   ·intro h2
    exact ⟨hf.mem_iff.2 (List.mem_cons_of_mem _ h2), fun e => hnd.1 (e ▸ h2)⟩
 | @mv y left q x a b h1 h2 h3 h4 =>
  have hlt := zlp h1
  have hb : b < (popY y a).length := by rw [zds]; exact h2
  have hf : (zat (popY y a) b x).flatten.Perm y.flatten := (zo4 hb).trans (zam h1).symm
  refine ⟨by show (zat _ b x).length = p; rw [y19, zds]; exact h.len, fun i => ?_, hf.symm.nodup h.nd, fun z hz => h.sub z (hf.mem_iff.1 hz), ?_⟩
  ·show (pl (zat (popY y a) b x) i).length ≤ 6
   rw [y1d hb]
   split
   ·rw [zxb hlt, if_neg (Ne.symm h3), List.length_append, List.length_singleton]; omega
   ·rw [zxb hlt]
    split
    ·have := h.small a
     simp only at this
     rw [List.length_dropLast]; omega
    ·exact h.small i
  ·show left = _
   refine h.left.trans ?_
   congr 1
   funext z
   simp only
   rw [Bool.eq_iff_iff, z2f, z2f]
   exact hf.mem_iff.symm
theorem Vd.run {names req : List ByteArray} {p : Nat} {s s' : StT} {l : List (Int × Int)} {k : Nat} (hr : req.Nodup) (h : Vd names req p s) (hs : Run s l s' k) : Vd names req p s' := by
 induction hs with
 | nil _ => exact h
 | cons hs _ ih => exact ih (h.stp hr hs)
theorem Vd.lnd {names req : List ByteArray} {p : Nat} {s : StT} (hr : req.Nodup) (h : Vd names req p s) : s.2.Nodup := by rw [h.left]; exact hr.filter _
theorem Vd.lsub {names req : List ByteArray} {p : Nat} {s : StT} (h : Vd names req p s) : ∀ x ∈ s.2, x ∈ s.1.flatten := by
 intro x hx
 rw [h.left, List.mem_filter] at hx
 exact z2f.1 hx.2
end Go.Lift
namespace Go.Lift
open Go
def hL (left : List ByteArray) (y : YdT) : Nat := (blkA left y).length
abbrev hS (s : StT) : Nat := hL s.2 s.1
theorem zpg (req : List ByteArray) (x : ByteArray) : ∀ (r pre : List ByteArray), blkG req pre (r ++ [x]) = blkG req pre r ++ (bif (pre ++ r).any (blkQ req x) then [x] else [])
 | [], pre => by
  rw [List.nil_append, zb4, List.append_nil]
  show _ ++ [] = [] ++ _
  rw [List.append_nil, List.nil_append]
 | z :: r, pre => by
  rw [List.cons_append, zb4, zb4, zpg req x r (pre ++ [z]), List.append_assoc, List.append_assoc]
  rfl
theorem zra (left : List ByteArray) (l1 l2 : YdT) (q : List ByteArray) : hL left (l1 ++ q :: l2) = hL left l1 + (blkG left [] q).length + hL left l2 := by
 unfold hL blkA
 rw [List.flatMap_append, List.flatMap_cons, List.length_append, List.length_append]
 omega
theorem h_set {left : List ByteArray} {y : YdT} {a : Nat} {q : List ByteArray} (h : a < y.length) : hL left (y.set a q) + (blkG left [] (pl y a)).length = hL left y + (blkG left [] q).length := by
 obtain ⟨l1, l2, h1, h2, h3⟩ := zk1 h
 rw [h3, zra]
 rw (occs := .pos [2]) [h1]
 rw [zra]
 omega
theorem h_pop {left : List ByteArray} {y : YdT} {a : Nat} {q : List ByteArray} {x : ByteArray} (h : pl y a = q ++ [x]) : hL left y = hL left (popY y a) + (bif q.any (blkQ left x) then 1 else 0) := by
 have := h_set (left := left) (q := (pl y a).dropLast) (zlp h)
 unfold popY
 rw [h, List.dropLast_concat, zpg, List.length_append, List.nil_append] at this
 rw [h, List.dropLast_concat]
 cases hc : q.any (blkQ left x) <;> rw [hc] at this <;> simp at this ⊢ <;> omega
theorem h_push {left : List ByteArray} {y : YdT} {b : Nat} {x : ByteArray} (h : b < y.length) : hL left y ≤ hL left (zat y b x) := by
 have := h_set (left := left) (q := pl y b ++ [x]) h
 rw [zpg, List.length_append] at this
 unfold zat
 omega
theorem zja (x z : ByteArray) (l : List ByteArray) : zo6 (x :: l) z = if x = z then 0 else zo6 l z + 1 := by
 unfold zo6
 rw [zuj]
 by_cases h : x = z
 ·rw [if_pos h, show seqb x z = true from zpv.2 h]; rfl
 ·rw [if_neg h]
  have : seqb x z = false := by
   cases e : seqb x z with
   | false => rfl
   | true => exact absurd (zpv.1 e) h
  rw [this]; rfl
theorem zzw (x z : ByteArray) (l : List ByteArray) : blkQ (x :: l) x z = false := by
 unfold blkQ
 rw [zja x x, if_pos rfl]
 exact decide_eq_false (by omega)
theorem zut {x u z : ByteArray} {l : List ByteArray} (h1 : x ≠ u) (h2 : x ≠ z) : blkQ (x :: l) u z = blkQ l u z := by
 unfold blkQ
 rw [zja, zja, if_neg h1, if_neg h2]
 congr 1
 simp only [eq_iff_iff]
 omega
theorem zuu {x : ByteArray} {l : List ByteArray} : ∀ (r pre : List ByteArray), (∀ u ∈ pre, x ≠ u) → (∀ u ∈ r, x ≠ u) → blkG (x :: l) pre r = blkG l pre r
 | [], pre, _, _ => rfl
 | z :: r, pre, h1, h2 => by
  have hz := h2 z (by simp)
  rw [zb4, zb4, zuu r (pre ++ [z]) (fun u hu => by
   rcases List.mem_append.1 hu with h | h
   ·exact h1 u h
   ·rw [List.mem_singleton.1 h]; exact hz) (fun u hu => h2 u (List.mem_cons_of_mem _ hu))]
  congr 2
  rw [Bool.eq_iff_iff]
  simp only [List.any_eq_true]
  constructor
  ·rintro ⟨u, hu, h⟩
   exact ⟨u, hu, by rw [← zut hz (h1 u hu)]; exact h⟩
  ·rintro ⟨u, hu, h⟩
   exact ⟨u, hu, by rw [zut hz (h1 u hu)]; exact h⟩
theorem y2g {x : ByteArray} {l : List ByteArray} : ∀ {y : YdT}, x ∉ y.flatten → hL (x :: l) y = hL l y
 | [], _ => rfl
 | q :: y, h => by
  rw [List.flatten_cons, List.mem_append, not_or] at h
  have ih := y2g (l := l) h.2
  unfold hL blkA at ih ⊢
  rw [List.flatMap_cons, List.flatMap_cons, List.length_append, List.length_append, ih, zuu q [] (fun u hu => by cases hu) (fun u hu e => h.1 (by rw [e]; exact hu))]
theorem h_out {y : YdT} {left q : List ByteArray} {x : ByteArray} {a : Nat} (hn : y.flatten.Nodup) (h : pl y a = q ++ [x]) : hL (x :: left) y = hL left (popY y a) := by
 rw [h_pop h]
 have hnd := (zam h).nodup hn
 rw [List.nodup_cons] at hnd
 have : q.any (blkQ (x :: left) x) = false := by
  rw [List.any_eq_false]
  intro z _
  rw [zzw]
  exact Bool.false_ne_true
 rw [this, cond_false, Nat.add_zero]
 exact y2g hnd.1
theorem y70 {s s' : StT} {m : Int × Int} {c : Nat} (hn : s.1.flatten.Nodup) (h : Stp s m s' c) : hS s ≤ c + hS s' := by
 cases h with
 | @out y left q x a h1 =>
  show hL (x :: left) y ≤ 0 + hL left (popY y a)
  rw [h_out (show y.flatten.Nodup from hn) h1]; omega
 | @mv y left q x a b h1 h2 h3 h4 =>
  show hL left y ≤ 1 + hL left (zat (popY y a) b x)
  have e1 := h_pop (left := left) h1
  have e2 := h_push (left := left) (y := popY y a) (b := b) (x := x) (by rw [zds]; exact h2)
  cases hc : q.any (blkQ left x) <;> rw [hc] at e1 <;> simp at e1 <;> omega
theorem y4s {names req : List ByteArray} {p : Nat} {s s' : StT} {l : List (Int × Int)} {k : Nat} (hr : req.Nodup) (hv : Vd names req p s) (h : Run s l s' k) : hS s ≤ k + hS s' := by
 induction h with
 | nil s => omega
 | cons hs _ ih =>
  have := y70 hv.nd hs
  have := ih (hv.stp hr hs)
  omega
theorem y56 (u z : ByteArray) : blkQ [] u z = false := by
 unfold blkQ zo6 fIdx
 exact decide_eq_false (by omega)
theorem zyb : ∀ (r pre : List ByteArray), blkG [] pre r = []
 | [], _ => rfl
 | z :: r, pre => by
  rw [zb4, zyb r]
  have : pre.any (blkQ [] z) = false := by
   rw [List.any_eq_false]
   intro u _
   rw [y56]
   exact Bool.false_ne_true
  rw [this]
  rfl
theorem y4t (y : YdT) : hL [] y = 0 := by
 unfold hL blkA
 rw [List.length_eq_zero_iff, List.flatMap_eq_nil_iff]
 intro q _
 exact zyb q []
end Go.Lift
namespace Go.Lift
open Go
theorem zrj {y : YdT} {x : ByteArray} {i : Nat} (h : zj7 y x = some i) : ∃ q, pl y i = q ++ [x] := by
 unfold zj7 at h
 rw [List.findIdx?_eq_some_iff_getElem] at h
 obtain ⟨hi, h1, _⟩ := h
 have hpl : pl y i = y[i] := by
  unfold pl
  rw [List.getD_eq_getElem?_getD, List.getElem?_eq_getElem hi, Option.getD_some]
 rw [hpl]
 generalize y[i] = p at h1
 by_cases hp : 0 < p.length
 ·rw [decide_eq_true hp, cond_true] at h1
  have := zpv.1 h1
  refine ⟨p.dropLast, ?_⟩
  rw [← this, List.getD_eq_getElem?_getD, List.getElem?_eq_getElem (by omega), Option.getD_some]
  have hne : p ≠ [] := List.ne_nil_of_length_pos hp
  have e : p[p.length - 1] = p.getLast hne := (List.getLast_eq_getElem hne).symm
  rw [e]
  exact (List.dropLast_concat_getLast hne).symm
 ·rw [decide_eq_false hp, cond_false] at h1
  cases h1
theorem zym {y : YdT} {x : ByteArray} (h : zj7 y x = none) (a : Nat) (q : List ByteArray) : pl y a ≠ q ++ [x] := by
 intro e
 have hlt := zlp e
 unfold zj7 at h
 rw [List.findIdx?_eq_none_iff] at h
 have := h _ (y1e hlt)
 rw [e] at this
 rw [decide_eq_true (by rw [List.length_append, List.length_singleton]; omega), cond_true] at this
 rw [List.getD_eq_getElem?_getD, List.length_append, List.length_singleton, Nat.add_sub_cancel, List.getElem?_append_right (Nat.le_refl _), Nat.sub_self] at this
 simp only [List.getElem?_cons_zero, Option.getD_some] at this
 rw [zpv.2 rfl] at this
 cases this
def z6a : Nat → StT → StT
 | 0, s => s
 | k + 1, s => match s.2 with
  | [] => s
  | x :: l => match zj7 s.1 x with
   | none => s
   | some i => z6a k (popY s.1 i, l)
def tS (s : StT) : StT := z6a s.2.length s
def zv1 (s : StT) : Prop := ∀ x l, s.2 = x :: l → ∀ a q, pl s.1 a ≠ q ++ [x]
theorem zqa : ∀ (k : Nat) (s : StT), ∃ l, Run s l (z6a k s) 0 ∧ l.length + (z6a k s).2.length = s.2.length
 | 0, s => ⟨[], .nil s, by simp [z6a]⟩
 | k + 1, (y, []) => ⟨[], .nil _, by simp [z6a]⟩
 | k + 1, (y, x :: l) => by
  unfold z6a
  simp only
  cases h : zj7 y x with
  | none => exact ⟨[], .nil _, by simp⟩
  | some i =>
   obtain ⟨q, hq⟩ := zrj h
   obtain ⟨ms, h1, h2⟩ := zqa k (popY y i, l)
   refine ⟨((i : Int), -1) :: ms, ?_, ?_⟩
   ·have := Run.cons (.out hq) h1
    exact this
   ·simp only [List.length_cons] at h2 ⊢
    omega
theorem zk8 : ∀ (k : Nat) (s : StT), s.2.length ≤ k → zv1 (z6a k s)
 | 0, (y, []), _ => fun x l h => by cases h
 | 0, (y, x :: l), h => by simp at h
 | k + 1, (y, []), _ => fun x l h => by
  unfold z6a at h
  cases h
 | k + 1, (y, x :: l), h => by
  unfold z6a
  simp only
  cases ht : zj7 y x with
  | none =>
   intro z r e a q
   simp only [List.cons.injEq] at e
   obtain ⟨rfl, _⟩ := e
   exact zym ht a q
  | some i =>
   refine zk8 k (popY y i, l) ?_
   simp only [List.length_cons] at h ⊢
   omega
theorem y0b (s : StT) : ∃ l, Run s l (tS s) 0 ∧ l.length + (tS s).2.length = s.2.length := zqa _ s
theorem znl (s : StT) : zv1 (tS s) := zk8 _ s (Nat.le_refl _)
def FR (R : List ByteArray) (p : List ByteArray) : List ByteArray := p.filter fun z => !hasB R z
theorem ztl {y : YdT} {R : List ByteArray} (a : Nat) : pl (y.map (FR R)) a = FR R (pl y a) := by
 unfold pl
 rw [List.getD_eq_getElem?_getD, List.getD_eq_getElem?_getD, List.getElem?_map]
 cases y[a]? <;> rfl
theorem y5k {y : YdT} (a : Nat) : y.set a (pl y a) = y := by
 rcases Nat.lt_or_ge a y.length with h | h
 ·obtain ⟨l1, l2, h1, _, h3⟩ := zk1 h
  rw [h3]
  exact h1.symm
 ·exact List.set_eq_of_length_le h
theorem zwu {R q : List ByteArray} {x : ByteArray} : FR R (q ++ [x]) = FR R q ++ (if hasB R x = true then [] else [x]) := by
 unfold FR
 rw [List.filter_append]
 congr 1
 cases h : hasB R x <;> simp [h]
theorem zok {y : YdT} {R q : List ByteArray} {x : ByteArray} {a : Nat} (h : pl y a = q ++ [x]) (hx : hasB R x = true) : (popY y a).map (FR R) = y.map (FR R) := by
 have e : FR R q = pl (y.map (FR R)) a := by rw [ztl, h, zwu, if_pos hx, List.append_nil]
 unfold popY
 rw [List.map_set, h, List.dropLast_concat, e, y5k]
theorem y23 {y : YdT} {R q : List ByteArray} {x : ByteArray} {a : Nat} (h : pl y a = q ++ [x]) (hx : hasB R x = false) : (popY y a).map (FR R) = popY (y.map (FR R)) a ∧ pl (y.map (FR R)) a = FR R q ++ [x] := by
 have e : pl (y.map (FR R)) a = FR R q ++ [x] := by rw [ztl, h, zwu, if_neg (by rw [hx]; exact Bool.false_ne_true)]
 refine ⟨?_, e⟩
 unfold popY
 rw [List.map_set, h, List.dropLast_concat, e, List.dropLast_concat]
theorem zu0 {y : YdT} {R : List ByteArray} {x : ByteArray} {b : Nat} : (zat y b x).map (FR R) = if hasB R x = true then y.map (FR R) else zat (y.map (FR R)) b x := by
 unfold zat
 rw [List.map_set, zwu, ztl]
 by_cases hx : hasB R x = true
 ·rw [if_pos hx, if_pos hx, List.append_nil, ← ztl, y5k]
 ·rw [if_neg hx, if_neg hx]
theorem y3d {R p : List ByteArray} (h : ∀ z ∈ p, z ∉ R) : FR R p = p := by
 unfold FR
 rw [List.filter_eq_self]
 intro z hz
 cases e : hasB R z with
 | false => rfl
 | true => exact absurd (z2f.1 e) (h z hz)
theorem zkn {y : YdT} {R : List ByteArray} (h : ∀ z ∈ y.flatten, z ∉ R) : y.map (FR R) = y := by
 conv => rhs; rw [← List.map_id y]
 refine List.map_congr_left fun p hp => ?_
 exact y3d fun z hz => h z (List.mem_flatten.2 ⟨p, hp, hz⟩)
theorem FR_FR {R S p : List ByteArray} : FR S (FR R p) = FR (R ++ S) p := by
 unfold FR
 rw [List.filter_filter]
 congr 1
 funext z
 have : hasB (R ++ S) z = (hasB R z || hasB S z) := by unfold hasB; rw [List.any_append]
 rw [this]
 cases hasB R z <;> cases hasB S z <;> rfl
def zpq (s t : StT) : Prop := ∃ R, s.2 = R ++ t.2 ∧ t.1 = s.1.map (FR R)
theorem zpq.refl (s : StT) : zpq s s := ⟨[], rfl, (zkn fun z _ h => by cases h).symm⟩
theorem y3a {s : StT} {y : YdT} {l q : List ByteArray} {x : ByteArray} {i : Nat} (hn : s.1.flatten.Nodup) (h : zpq s (y, x :: l)) (hp : pl y i = q ++ [x]) : zpq s (popY y i, l) := by
 obtain ⟨R, h1, h2⟩ := h
 simp only at h1 h2
 refine ⟨R ++ [x], by simp [h1], ?_⟩
 have hny : y.flatten.Nodup := by
  rw [h2]
  have : (s.1.map (FR R)).flatten = s.1.flatten.filter fun z => !hasB R z := by
   rw [List.filter_flatten]; rfl
  rw [this]
  exact hn.filter _
 have hnd := (zam hp).nodup hny
 rw [List.nodup_cons] at hnd
 have e1 : (popY y i).map (FR [x]) = popY y i := zkn fun z hz hz2 => by
  rw [List.mem_singleton] at hz2
  exact hnd.1 (hz2 ▸ hz)
 show popY y i = _
 rw [← e1, zok hp (z2f.2 (by simp)), h2, List.map_map]
 refine List.map_congr_left fun p _ => ?_
 exact FR_FR
theorem zjv {s : StT} (hn : s.1.flatten.Nodup) : ∀ (k : Nat) (t : StT), zpq s t → zpq s (z6a k t)
 | 0, t, h => h
 | k + 1, (y, []), h => h
 | k + 1, (y, x :: l), h => by
  unfold z6a
  simp only
  cases ht : zj7 y x with
  | none => exact h
  | some i =>
   obtain ⟨q, hq⟩ := zrj ht
   exact zjv hn k _ (y3a hn h hq)
theorem y39 {names req : List ByteArray} {p : Nat} {s s' t : StT} {m : Int × Int} {c : Nat} (hr : req.Nodup) (hv : Vd names req p s) (ha : zpq s t) (ht : zv1 t) (h : Stp s m s' c) :
  zpq s' t ∨ (c = 1 ∧ ∃ t1, Stp t m t1 1 ∧ zpq s' t1) := by
 obtain ⟨R, h1, h2⟩ := ha
 obtain ⟨yt, lt⟩ := t
 simp only at h1 h2
 cases h with
 | @out y left q x a hp =>
  left
  cases R with
  | nil =>
   exfalso
   simp only [List.nil_append] at h1
   have e : yt = y := by rw [h2]; exact zkn fun z _ h => by cases h
   exact ht x left h1.symm a q (by show pl yt a = _; rw [e]; exact hp)
  | cons x' R =>
   simp only [List.cons_append, List.cons.injEq] at h1
   obtain ⟨rfl, h1⟩ := h1
   refine ⟨R, h1, ?_⟩
   have hnd := (zam hp).nodup hv.nd
   rw [List.nodup_cons] at hnd
   show yt = (popY y a).map (FR R)
   rw [h2, ← zok hp (R := x :: R) (z2f.2 (by simp))]
   refine List.map_congr_left fun z hz => ?_
   unfold FR
   refine List.filter_congr fun u hu => ?_
   have hne : x ≠ u := fun e => hnd.1 (by rw [e]; exact List.mem_flatten.2 ⟨z, hz, hu⟩)
   have : seqb x u = false := by
    cases e : seqb x u with
    | false => rfl
    | true => exact absurd (zpv.1 e) hne
   show (!(seqb x u || hasB R u)) = !hasB R u
   rw [this, Bool.false_or]
 | @mv y left q x a b hp hb hab hl =>
  cases hx : hasB R x with
  | true =>
   left
   refine ⟨R, h1, ?_⟩
   show yt = (zat (popY y a) b x).map (FR R)
   rw [zu0, if_pos hx, zok hp hx]
   exact h2
  | false =>
   right
   obtain ⟨k1, k2⟩ := y23 hp hx
   refine ⟨rfl, (zat (popY yt a) b x, lt), ?_, R, h1, ?_⟩
   ·rw [h2]
    refine .mv k2 (by rw [List.length_map]; exact hb) hab ?_
    rw [ztl]
    exact Nat.lt_of_le_of_lt (List.length_filter_le _ _) hl
   ·show zat (popY yt a) b x = (zat (popY y a) b x).map (FR R)
    rw [zu0, if_neg (by rw [hx]; exact Bool.false_ne_true), k1, h2]
def TStp (t t' : StT) : Prop := ∃ m t1, Stp t m t1 1 ∧ t' = tS t1
inductive TRun (t0 : StT) : StT → Nat → Prop
 | nil : TRun t0 t0 0
 | snoc {t t' : StT} {k : Nat} : TRun t0 t k → TStp t t' → TRun t0 t' (k + 1)
theorem TRun.head {s t : StT} (h : TStp s t) : ∀ {u : StT} {k : Nat}, TRun t u k → TRun s u (k + 1) := by
 intro u k hk
 induction hk with
 | nil => exact .snoc .nil h
 | snoc _ h2 ih => exact .snoc ih h2
theorem sim {names req : List ByteArray} {p : Nat} (hr : req.Nodup) {s s' : StT} {l : List (Int × Int)} {k : Nat} (h : Run s l s' k) : ∀ {t : StT}, Vd names req p s → s'.2 = [] → zpq s t → zv1 t → ∃ t' j, TRun t t' j ∧ j ≤ k ∧ t'.2 = [] := by
 induction h with
 | nil s =>
  intro t hv h0 ha ht
  obtain ⟨R, h1, _⟩ := ha
  rw [h0] at h1
  exact ⟨t, 0, .nil, Nat.le_refl _, (List.append_eq_nil_iff.1 h1.symm).2⟩
 | @cons s s1 s2 m l c k hs hl ih =>
  intro t hv h0 ha ht
  have hv1 := hv.stp hr hs
  rcases y39 hr hv ha ht hs with h1 | ⟨rfl, t1, h1, h2⟩
  ·obtain ⟨t', j, g1, g2, g3⟩ := ih hv1 h0 h1 ht
   exact ⟨t', j, g1, by omega, g3⟩
  ·obtain ⟨t', j, g1, g2, g3⟩ := ih hv1 h0 (zjv hv1.nd _ _ h2) (znl t1)
   exact ⟨t', j + 1, g1.head ⟨m, t1, h1, rfl⟩, by omega, g3⟩
theorem sim0 {names req : List ByteArray} {p : Nat} (hr : req.Nodup) {s s' : StT} {l : List (Int × Int)} {k : Nat} (h : Run s l s' k) (hv : Vd names req p s) (h0 : s'.2 = []) : ∃ t' j, TRun (tS s) t' j ∧ j ≤ k ∧ t'.2 = [] :=
 sim hr h hv h0 (zjv hv.nd _ _ (zpq.refl s)) (znl s)
end Go.Lift
namespace Go.Lift
open Go
structure Cx (names req : List ByteArray) (p : Nat) : Prop where
 nl : names.length ≤ 6
 nm : ∀ x ∈ names, z7l x = true
 rn : req.Nodup
 rs : ∀ x ∈ req, x ∈ names
 p4 : p ≤ 4
theorem Cx.rl {names req : List ByteArray} {p : Nat} (h : Cx names req p) : req.length ≤ 6 :=
 Nat.le_trans (List.Nodup.length_le_of_subset h.rn h.rs) h.nl
theorem zqp {x : ByteArray} (h : z7l x = true) : 1 ≤ x.size ∧ x.size ≤ 12 := by
 unfold z7l at h
 rw [Bool.and_eq_true, decide_eq_true_eq] at h
 omega
theorem Vd.left_le {names req : List ByteArray} {p : Nat} (hc : Cx names req p) {s : StT} (h : Vd names req p s) : s.2.length ≤ 6 := by
 rw [h.left]
 exact Nat.le_trans (List.length_filter_le _ _) hc.rl
theorem Vd.piles {names req : List ByteArray} {p : Nat} {s : StT} (h : Vd names req p s) : ∀ q ∈ s.1, q.length ≤ 6 := by
 intro q hq
 obtain ⟨a, ha, rfl⟩ := List.mem_iff_getElem.1 hq
 have := h.small a
 unfold pl at this
 rw [List.getD_eq_getElem?_getD, List.getElem?_eq_getElem ha, Option.getD_some] at this
 exact this
theorem Vd.few {names req : List ByteArray} {p : Nat} (hc : Cx names req p) {s : StT} (h : Vd names req p s) : Few s.1 s.2 := by
 have hs : ∀ x ∈ s.1.flatten, x.size ≤ 20 := fun x hx => by have := (zqp (hc.nm x (h.sub x hx))).2; omega
 refine ⟨by have := h.len; have := hc.p4; omega, ⟨by have := h.left_le hc; omega, fun x hx => hs x (h.lsub x hx)⟩, fun q hq => ⟨by have := h.piles q hq; omega, fun x hx => hs x (List.mem_flatten.2 ⟨q, hq, hx⟩)⟩⟩
abbrev stN (n : z2c) : StT := (n.1, n.2.1)
theorem zon (y : YdT) (a : Nat) : lget [] y (a : Int) = pl y a := rfl
theorem zxn {y : YdT} {a : Nat} {q : List ByteArray} : lset y (a : Int) q = y.set a q := rfl
theorem zqb {q : List ByteArray} {x : ByteArray} : (q ++ [x]).take ((q ++ [x]).length - 1) = q := by
 rw [List.length_append, List.length_singleton, Nat.add_sub_cancel, List.take_left']
 rfl
theorem zty {y : YdT} {a : Nat} {q : List ByteArray} {x : ByteArray} (h : pl y a = q ++ [x]) : zbl y ((a : Int), -1) = some (popY y a) := by
 unfold zbl popY
 simp only [zon, h, zqb, zxn, List.dropLast_concat]
 rfl
theorem zxl {y : YdT} {a b : Nat} {q : List ByteArray} {x : ByteArray} (h : pl y a = q ++ [x]) (hb : b < y.length) (hab : a ≠ b) (hl : (pl y b).length ≤ 1000) : zbl y ((a : Int), (b : Int)) = some (zat (popY y a) b x) := by
 have e : lget ByteArray.empty (q ++ [x]) ((((q ++ [x]).length : Nat) : Int) - 1) = x := by
  rw [List.length_append, List.length_singleton, show ((q.length + 1 : Nat) : Int) - 1 = (q.length : Int) by omega]
  exact z1z (post := [])
 unfold zbl
 simp only [zon, h, zqb, zxn, e]
 have hb1 : ((b : Int) != -1) = true := by rw [bne_iff_ne]; omega
 have h1 : pl (y.set a q) b = pl y b := by rw [zxa (zlp h), if_neg (Ne.symm hab)]
 rw [hb1, cond_true, h1, zhm (by rw [List.length_singleton]; omega), Option.bind_some]
 unfold zat popY
 rw [h, List.dropLast_concat, h1]
theorem zw0 {names req : List ByteArray} {p : Nat} (hc : Cx names req p) {n : z2c} {m : Int × Int} {s' : StT} {c : Nat} (hv : Vd names req p (stN n)) (hs : Stp (stN n) m s' c) (hm : n.2.2.1.length ≤ 1000000) (hw : 0 ≤ n.2.2.2 ∧ n.2.2.2 ≤ 4294967296) :
  z0l n m = some (s'.1, s'.2, n.2.2.1 ++ [m], n.2.2.2 + (c : Int)) := by
 obtain ⟨y, left, ms, wk⟩ := n
 have hlen : y.length = p := hv.len
 have hp4 := hc.p4
 have hall : y.all (fun p => decide (p.length ≤ 999)) = true := by
  rw [List.all_eq_true]
  intro q hq
  have := hv.piles q hq
  exact decide_eq_true (by omega)
 unfold z0l zqn
 generalize hst : stN (y, left, ms, wk) = st at hs
 cases hs with
 | @out y' left' q x a hp =>
  simp only [stN, Prod.mk.injEq] at hst
  obtain ⟨rfl, rfl⟩ := hst
  have hlt := zlp hp
  simp only [zon, hp]
  rw [z01 (show (0 : Int) ≤ (a : Int) by omega), z01 (show (a : Int) < (y.length : Int) by omega), z01 (show 0 < (q ++ [x]).length by rw [List.length_append, List.length_singleton]; omega), show ((-1 : Int) == -1) = true from rfl, cond_true, z01 (show 0 < (x :: left').length by simp), z01 (show y.length ≤ 1000 by omega), hall, z01 (show ms.length ≤ 1000000 from hm)]
  simp only [Bool.and_self, cond_true]
  rw [zty hp, Option.bind_some]
  simp
 | @mv y' left' q x a b hp hb hab hl =>
  simp only [stN, Prod.mk.injEq] at hst
  obtain ⟨rfl, rfl⟩ := hst
  have hlt := zlp hp
  have hb1 : ((b : Int) == -1) = false := by rw [beq_eq_false_iff_ne]; omega
  have hb2 : ((b : Int) != (a : Int)) = true := by rw [bne_iff_ne]; omega
  simp only [zon, hp]
  rw [z01 (show (0 : Int) ≤ (a : Int) by omega), z01 (show (a : Int) < (y.length : Int) by omega), z01 (show 0 < (q ++ [x]).length by rw [List.length_append, List.length_singleton]; omega), hb1, cond_false, z01 (show (0 : Int) ≤ (b : Int) by omega), z01 (show (b : Int) < (y.length : Int) by omega), hb2, z01 (show y.length ≤ 1000 by omega), hall, z01 (show ms.length ≤ 1000000 from hm)]
  simp only [Bool.and_self, cond_true, cond_false]
  rw [zxl hp hb hab (by omega), Option.bind_some, z1p (by simp only at hw; omega) (by simp only at hw; omega)]
  rfl
theorem zt1 {names req : List ByteArray} {p : Nat} (hc : Cx names req p) : ∀ (k : Nat) (n : z2c), Vd names req p (stN n) → n.2.2.1.length + k ≤ 1000000 → 0 ≤ n.2.2.2 ∧ n.2.2.2 ≤ 4294967296 →
  ∃ l, zbh k n = some ((z6a k (stN n)).1, (z6a k (stN n)).2, n.2.2.1 ++ l, n.2.2.2) ∧ Run (stN n) l (z6a k (stN n)) 0 ∧ l.length + (z6a k (stN n)).2.length = n.2.1.length
 | 0, n, hv, hm, hw => ⟨[], by simp [zbh, z6a], .nil _, by simp [z6a]⟩
 | k + 1, (y, [], ms, wk), hv, hm, hw => ⟨[], by simp [zbh, z6a], .nil _, by simp [z6a]⟩
 | k + 1, (y, x :: left, ms, wk), hv, hm, hw => by
  unfold zbh z6a
  simp only
  cases ht : zj7 y x with
  | none => exact ⟨[], by simp, .nil _, by simp⟩
  | some i =>
   obtain ⟨q, hq⟩ := zrj ht
   have hs : Stp (y, x :: left) ((i : Int), -1) (popY y i, left) 0 := .out hq
   have hnx := zw0 hc hv hs (by simp only at hm ⊢; omega) hw
   have hv2 : Vd names req p (stN (popY y i, left, ms ++ [((i : Int), -1)], wk + ((0 : Nat) : Int))) := hv.stp hc.rn hs
   obtain ⟨l, h1, h2, h3⟩ := zt1 hc k (popY y i, left, ms ++ [((i : Int), -1)], wk + ((0 : Nat) : Int)) hv2 (by simp only [List.length_append, List.length_singleton] at hm ⊢; omega) (by simp only at hw ⊢; omega)
   refine ⟨((i : Int), -1) :: l, ?_, .cons hs h2, ?_⟩
   ·show (z0l (y, x :: left, ms, wk) ((i : Int), -1)).bind (fun t => zbh k t) = _
    rw [hnx, Option.bind_some]
    refine h1.trans ?_
    simp only [List.append_assoc, List.singleton_append]
    rw [show wk + ((0 : Nat) : Int) = wk by omega]
   ·have h3' : l.length + (z6a k (popY y i, left)).2.length = left.length := h3
    show l.length + 1 + (z6a k (popY y i, left)).2.length = left.length + 1
    omega
theorem y3g {names req : List ByteArray} {p : Nat} (hc : Cx names req p) {s : StT} (hv : Vd names req p s) : zc9 s.1 = true := by
 have hlen := hv.len
 have hp4 := hc.p4
 unfold zc9
 rw [z01 (show s.1.length ≤ 1000 by omega), Bool.true_and, List.all_eq_true]
 intro q hq
 have := hv.piles q hq
 exact decide_eq_true (by omega)
theorem y3n {names req : List ByteArray} {p : Nat} (hc : Cx names req p) {n : z2c} (hv : Vd names req p (stN n)) (hm : n.2.2.1.length ≤ 999990) (hw : 0 ≤ n.2.2.2 ∧ n.2.2.2 ≤ 4294967296) :
  ∃ l, z3a n = some ((tS (stN n)).1, (tS (stN n)).2, n.2.2.1 ++ l, n.2.2.2) ∧ Run (stN n) l (tS (stN n)) 0 ∧ l.length + (tS (stN n)).2.length = n.2.1.length := by
 have hl := hv.left_le hc
 simp only at hl
 unfold z3a
 rw [y3g hc hv, z01 (show n.2.1.length ≤ 1000 by omega)]
 simp only [Bool.and_self, cond_true]
 exact zt1 hc n.2.1.length n hv (by omega) hw
theorem y55 {names req : List ByteArray} {p : Nat} (hc : Cx names req p) {s : StT} (hv : Vd names req p s) : z19 s.1 s.2 = some (blkA s.2 s.1) := zpf (hv.few hc)
theorem hS_le {names req : List ByteArray} {p : Nat} (hc : Cx names req p) {s : StT} (hv : Vd names req p s) : hS s ≤ 6 := by
 have h1 : hS s ≤ s.1.flatten.length := by
  have : ∀ y : YdT, hL s.2 y ≤ y.flatten.length := by
   intro y
   induction y with
   | nil => exact Nat.le_refl _
   | cons q y ih =>
    unfold hL blkA at ih ⊢
    rw [List.flatMap_cons, List.flatten_cons, List.length_append, List.length_append]
    have := zsq s.2 q []
    omega
  exact this s.1
 have h2 := List.Nodup.length_le_of_subset hv.nd hv.sub
 have := hc.nl
 omega
end Go.Lift
