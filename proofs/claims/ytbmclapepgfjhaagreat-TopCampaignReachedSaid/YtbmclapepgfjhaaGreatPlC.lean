/-
  That there are plans; how a plan is checked; the law holds of the plain functions.
-/
import Derived.Test.YtbmclapepgfjhaaGreatPlB
set_option linter.unusedSectionVars false
set_option linter.unusedVariables false
set_option linter.unusedSimpArgs false
namespace Go.Lift
open Go
theorem y1f {y : YdT} {a : Nat} (h : a < y.length) (q : List ByteArray) : (y.set a q).flatten.length + (pl y a).length = y.flatten.length + q.length := by
 obtain ⟨l1, l2, h1, h2, h3⟩ := zk1 h
 rw [h3]
 rw (occs := .pos [2]) [h1]
 simp only [List.flatten_append, List.flatten_cons, List.length_append]
 omega
theorem pl_two {y : YdT} {a b : Nat} (ha : a < y.length) (hb : b < y.length) (h : a ≠ b) : (pl y a).length + (pl y b).length ≤ y.flatten.length := by
 have h1 := y1f ha []
 have h2 := y1f (y := y.set a []) (a := b) (by rw [List.length_set]; exact hb) []
 rw [zxa ha, if_neg (Ne.symm h)] at h2
 rw [List.length_nil] at h1 h2
 omega
theorem y2x {names req : List ByteArray} {p : Nat} (hc : Cx names req p) (hp : 2 ≤ p) {left q : List ByteArray} {x : ByteArray} {a : Nat} : ∀ (k : Nat) {y : YdT} {r : List ByteArray}, r.length = k → Vd names req p (y, left) → pl y a = q ++ x :: r → ∃ l y1, Run (y, left) l (y1, left) k ∧ pl y1 a = q ++ [x] := by
 intro k
 induction k with
 | zero =>
  intro y r hr hv hpl
  rw [List.eq_nil_of_length_eq_zero hr] at hpl
  exact ⟨[], y, .nil _, hpl⟩
 | succ k ih =>
  intro y r hr hv hpl
  obtain ⟨r', z, rfl⟩ := zno (l := r) (by omega)
  have hpl' : pl y a = (q ++ x :: r') ++ [z] := by rw [hpl]; simp
  have ha := zlp hpl'
  have hlen : y.length = p := hv.len
  obtain ⟨b, hb, hab⟩ : ∃ b, b < y.length ∧ a ≠ b := by
   by_cases h : a = 0
   ·exact ⟨1, by omega, by omega⟩
   ·exact ⟨0, by omega, h⟩
  have h2 := pl_two ha hb hab
  have h6 : y.flatten.length ≤ 6 := Nat.le_trans (List.Nodup.length_le_of_subset hv.nd hv.sub) hc.nl
  have h3 : (pl y b).length < 6 := by
   rw [hpl] at h2
   simp only [List.length_append, List.length_cons] at h2
   omega
  have hs : Stp (y, left) ((a : Int), (b : Int)) (zat (popY y a) b z, left) 1 := .mv hpl' hb hab h3
  have hv1 := hv.stp hc.rn hs
  obtain ⟨l, y1, h4, h5⟩ := ih (y := zat (popY y a) b z) (r := r') (by simp only [List.length_append, List.length_singleton] at hr; omega) hv1 (by
   rw [y1d (by rw [zds]; exact hb), if_neg hab, zxb ha, if_pos rfl, hpl', List.dropLast_concat])
  refine ⟨((a : Int), (b : Int)) :: l, y1, ?_, h5⟩
  have := Run.cons hs h4
  rwa [Nat.add_comm] at this
theorem y1b {names req : List ByteArray} {p : Nat} (hc : Cx names req p) (hp : 2 ≤ p) : ∀ (left : List ByteArray) {y : YdT}, Vd names req p (y, left) → ∃ l s' w, Run (y, left) l s' w ∧ s'.2 = [] ∧ w ≤ 5 * left.length
 | [], y, _ => ⟨[], _, 0, .nil _, rfl, Nat.zero_le _⟩
 | x :: left, y, hv => by
  have hx := hv.lsub x (by simp)
  simp only at hx
  rw [List.mem_flatten] at hx
  obtain ⟨q0, hq0, hxq⟩ := hx
  obtain ⟨a, ha, rfl⟩ := List.mem_iff_getElem.1 hq0
  have hpl : pl y a = y[a] := by
   unfold pl
   rw [List.getD_eq_getElem?_getD, List.getElem?_eq_getElem ha, Option.getD_some]
  rw [← hpl] at hxq
  obtain ⟨q, r, e⟩ := List.append_of_mem hxq
  have h6 := hv.small a
  simp only at h6
  rw [e] at h6
  simp only [List.length_append, List.length_cons] at h6
  obtain ⟨l1, y1, h1, h2⟩ := y2x hc hp r.length rfl hv e
  have hv1 := hv.run hc.rn h1
  have hs : Stp (y1, x :: left) ((a : Int), -1) (popY y1 a, left) 0 := .out h2
  obtain ⟨l2, s', w, h3, h4, h5⟩ := y1b hc hp left (hv1.stp hc.rn hs)
  refine ⟨_, s', _, h1.append (.cons hs h3), h4, ?_⟩
  rw [List.length_cons]
  omega
theorem y6c {s s' : StT} {l : List (Int × Int)} {w : Nat} (h : Run s l s' w) : l.length + s'.2.length = w + s.2.length := by
 induction h with
 | nil s => simp
 | @cons s s1 s2 m l c k hs hl ih =>
  cases hs with
  | out hp => simp only [List.length_cons] at ih ⊢; omega
  | mv hp _ _ _ => simp only [List.length_cons] at ih ⊢; omega
theorem zyz {names req : List ByteArray} {p : Nat} (hc : Cx names req p) {y : YdT} (hv : Vd names req p (y, req)) {l : List (Int × Int)} {s' : StT} {w : Nat} (h : Run (y, req) l s' w) (h0 : s'.2 = []) : ∃ l' s'' w', Run (y, req) l' s'' w' ∧ s''.2 = [] ∧ w' ≤ 30 := by
 have hl := hc.rl
 rcases Nat.lt_or_ge p 2 with hp | hp
 ·refine ⟨l, s', w, h, h0, ?_⟩
  have key : ∀ {s s' : StT} {l : List (Int × Int)} {w : Nat}, Run s l s' w → s.1.length < 2 → w = 0 := by
   intro s s' l w h
   induction h with
   | nil s => intro _; rfl
   | cons hs _ ih =>
    intro hlt
    cases hs with
    | out hp => rw [ih (by simpa [zds] using hlt)]
    | mv hp hb hab _ =>
     have := zlp hp
     simp only at hlt
     omega
  have := key h (by have := hv.len; simp only at this ⊢; omega)
  omega
 ·obtain ⟨l', s'', w', h1, h2, h3⟩ := y1b hc hp req hv
  exact ⟨l', s'', w', h1, h2, by omega⟩
theorem zxd {all' : List ByteArray} : ∀ {p : List ByteArray} {all : List ByteArray}, z7w all p = .inl all' → all.Nodup → all' = all ++ p ∧ all'.Nodup ∧ ∀ x ∈ p, z7l x = true
 | [], all, h, hn => by
  have : all = all' := Sum.inl.inj h
  subst this
  exact ⟨by simp, hn, fun x hx => by cases hx⟩
 | x :: p, all, h, hn => by
  rw [zc6] at h
  cases h1 : z7l x with
  | false => rw [h1] at h; cases h
  | true =>
   cases h2 : hasB all x with
   | true => rw [h1, h2] at h; cases h
   | false =>
    rw [h1, h2] at h
    have hx : x ∉ all := fun e => by rw [z2f.2 e] at h2; cases h2
    obtain ⟨e1, e2, e3⟩ := zxd (p := p) (all := all ++ [x]) h (by
     rw [List.nodup_append]
     refine ⟨hn, by simp, fun a ha b hb => ?_⟩
     rw [List.mem_singleton] at hb
     subst hb
     exact fun e => hx (e ▸ ha))
    refine ⟨by rw [e1]; simp, e2, fun z hz => ?_⟩
    rcases List.mem_cons.1 hz with rfl | hz
    ·exact h1
    ·exact e3 z hz
theorem zrg {all' : List ByteArray} : ∀ {y : YdT} {i : Nat} {all : List ByteArray}, zeq i all y = .inl all' → all.Nodup → all' = all ++ y.flatten ∧ all'.Nodup ∧ (∀ q ∈ y, q.length ≤ 6) ∧ ∀ x ∈ y.flatten, z7l x = true
 | [], i, all, h, hn => by
  have : all = all' := Sum.inl.inj h
  subst this
  exact ⟨by simp, hn, fun q hq => (by cases hq), fun x hx => (by cases hx)⟩
 | p :: y, i, all, h, hn => by
  rw [zc5] at h
  by_cases hl : ((p.length : Int) > 6)
  ·rw [z01 hl] at h; cases h
  ·rw [z09 hl, cond_false] at h
   cases hp : z7w all p with
   | inr e => rw [hp] at h; cases h
   | inl all1 =>
    rw [hp] at h
    obtain ⟨e1, e2, e3⟩ := zxd hp hn
    obtain ⟨f1, f2, f3, f4⟩ := zrg (y := y) h e2
    refine ⟨by rw [f1, e1]; simp, f2, fun q hq => ?_, fun x hx => ?_⟩
    ·rcases List.mem_cons.1 hq with rfl | hq
     ·omega
     ·exact f3 q hq
    ·rw [List.flatten_cons] at hx
     rcases List.mem_append.1 hx with hx | hx
     ·exact e3 x hx
     ·exact f4 x hx
theorem zq9 {y : YdT} (h : (zbu y).2 = 0) : y.length ≤ 4 ∧ y.flatten.Nodup ∧ (∀ q ∈ y, q.length ≤ 6) ∧ ∀ x ∈ y.flatten, z7l x = true := by
 unfold zbu at h
 by_cases h0 : (y.length : Int) = 0
 ·rw [h0] at h; cases h
 ·rw [show ((y.length : Int) == 0) = false by rw [beq_eq_false_iff_ne]; exact h0, cond_false] at h
  by_cases h1 : (y.length : Int) > 4
  ·rw [z01 h1] at h; cases h
  ·rw [z09 h1, cond_false] at h
   cases hg : zeq 0 [] y with
   | inr e =>
    rw [hg] at h
    obtain ⟨i, e⟩ := e
    exfalso
    have key : ∀ {y : YdT} {j : Nat} {all : List ByteArray}, zeq j all y = .inr (i, e) → e ≠ 0 := by
     intro y
     induction y with
     | nil => intro j all h; cases h
     | cons p y ih =>
      intro j all h
      rw [zc5] at h
      by_cases hl : ((p.length : Int) > 6)
      ·rw [z01 hl] at h; cases h; decide
      ·rw [z09 hl, cond_false] at h
       cases hp : z7w all p with
       | inl all1 => rw [hp] at h; exact ih h
       | inr e' =>
        rw [hp] at h
        have h := Sum.inr.inj h
        simp only [Prod.mk.injEq] at h
        obtain ⟨_, rfl⟩ := h
        clear hg
        have k2 : ∀ {p : List ByteArray} {all : List ByteArray}, z7w all p = .inr e' → e' ≠ 0 := by
         intro p
         induction p with
         | nil => intro all h; cases h
         | cons x p ih =>
          intro all h
          rw [zc6] at h
          cases h1 : z7l x with
          | false => rw [h1] at h; cases h; decide
          | true =>
           cases h2 : hasB all x with
           | true => rw [h1, h2] at h; cases h; decide
           | false => rw [h1, h2] at h; exact ih h
        exact k2 hp
    exact key hg h
   | inl all =>
    obtain ⟨_, e2, e3, e4⟩ := zrg hg List.nodup_nil
    have e1 := (zrg hg List.nodup_nil).1
    rw [List.nil_append] at e1
    exact ⟨by omega, by rw [← e1]; exact e2, e3, e4⟩
theorem y0t {y : YdT} : ∀ {r pre : List ByteArray}, reqG y pre r = 0 → pre.Nodup → (pre ++ r).Nodup ∧ ∀ x ∈ r, x ∈ y.flatten
 | [], pre, _, hn => ⟨by simpa using hn, fun x hx => by cases hx⟩
 | x :: r, pre, h, hn => by
  rw [zkf] at h
  cases h1 : y.any fun p => hasB p x with
  | false => rw [h1] at h; cases h
  | true =>
   cases h2 : hasB pre x with
   | true => rw [h1, h2] at h; cases h
   | false =>
    rw [h1, h2] at h
    have hx : x ∉ pre := fun e => by rw [z2f.2 e] at h2; cases h2
    obtain ⟨e1, e2⟩ := y0t (r := r) (pre := pre ++ [x]) h (by
     rw [List.nodup_append]
     refine ⟨hn, by simp, fun a ha b hb => ?_⟩
     rw [List.mem_singleton] at hb
     subst hb
     exact fun e => hx (e ▸ ha))
    refine ⟨by simpa using e1, fun z hz => ?_⟩
    rcases List.mem_cons.1 hz with rfl | hz
    ·rw [List.any_eq_true] at h1
     obtain ⟨q, hq, h1⟩ := h1
     exact List.mem_flatten.2 ⟨q, hq, z2f.1 h1⟩
    ·exact e2 z hz
theorem zri {y : YdT} {req : List ByteArray} (hy : (zbu y).2 = 0) (hr : reqE y req = 0) (h6 : y.flatten.length ≤ 6) : Cx y.flatten req y.length ∧ Vd y.flatten req y.length (y, req) := by
 obtain ⟨h1, h2, h3, h4⟩ := zq9 hy
 obtain ⟨e1, e2⟩ := y0t hr List.nodup_nil
 refine ⟨⟨h6, h4, by simpa using e1, e2, h1⟩, ⟨rfl, fun a => ?_, h2, fun x hx => hx, ?_⟩⟩
 ·show (pl y a).length ≤ 6
  rcases Nat.lt_or_ge a y.length with h | h
  ·exact h3 _ (y1e h)
  ·unfold pl
   rw [List.getD_eq_getElem?_getD, List.getElem?_eq_none h, Option.getD_none]
   exact Nat.zero_le _
 ·show req = req.filter _
  rw [List.filter_eq_self.2]
  intro x hx
  exact z2f.2 (e2 x hx)
end Go.Lift
namespace Go.Lift
open Go
theorem zoh {y : YdT} {a : Nat} (ha : a < y.length) : zac y ((a : Int), -1) = 0 ↔ 0 < (pl y a).length := by
 have e : zac y ((a : Int), -1) = (bif !inR (a : Int) 0 ((y.length : Int) - 1) || (!inR (-1) 0 ((y.length : Int) - 1) && ((-1 : Int) != -1)) then 6 else bif ((pl y a).length : Int) == 0 then 11 else bif (a : Int) == -1 then 3 else bif ((-1 : Int) != -1) && decide (((lget [] y (-1)).length : Int) ≥ 6) then 16 else 0) := rfl
 rw [e]
 unfold inR
 rw [z01 (show (0 : Int) ≤ (a : Int) ∧ (a : Int) ≤ (y.length : Int) - 1 by omega), show ((-1 : Int) != -1) = false from rfl, show ((a : Int) == -1) = false by rw [beq_eq_false_iff_ne]; omega]
 simp only [Bool.not_true, Bool.false_and, Bool.and_false, Bool.or_self, cond_false]
 by_cases h : (pl y a).length = 0
 ·rw [h]; simp
 ·rw [show (((pl y a).length : Int) == 0) = false by rw [beq_eq_false_iff_ne]; omega, cond_false]
  simp only [true_iff]
  omega
theorem zog {y : YdT} {m : Int × Int} (h : zac y m = 0) : ∃ a : Nat, m.1 = (a : Int) ∧ a < y.length ∧ (m.2 = -1 ∨ ∃ b : Nat, m.2 = (b : Int) ∧ b < y.length) := by
 unfold zac inR at h
 by_cases h1 : 0 ≤ m.1 ∧ m.1 ≤ (y.length : Int) - 1
 ·refine ⟨m.1.toNat, by omega, by omega, ?_⟩
  by_cases h2 : 0 ≤ m.2 ∧ m.2 ≤ (y.length : Int) - 1
  ·exact .inr ⟨m.2.toNat, by omega, by omega⟩
  ·by_cases h3 : m.2 = -1
   ·exact .inl h3
   ·rw [z09 h2, show (m.2 != -1) = true by rw [bne_iff_ne]; exact h3] at h
    simp at h
 ·rw [z09 h1] at h
  simp at h
def topY (y : YdT) (a : Int) : ByteArray := (lget [] y a).getLastD ByteArray.empty
def zfd (s : StT) (m : Int × Int) : Bool := match s.2 with
 | [] => true
 | x :: _ => !seqb (topY s.1 m.1) x
def okM (s : StT) (m : Int × Int) : Int := if zac s.1 m = 0 then (if m.2 = -1 ∧ zfd s m = true then 24 else 0) else zac s.1 m
def nxS (s : StT) (m : Int × Int) : StT := if m.2 = -1 then (popY s.1 m.1.toNat, s.2.drop 1) else (zat (popY s.1 m.1.toNat) m.2.toNat (topY s.1 m.1), s.2)
def cpG : Nat → Nat → StT → List (Int × Int) → Int × Int
 | i, w, s, [] => if s.2 = [] then ((w : Int), 0) else ((i : Int), 14)
 | i, w, s, m :: ms => if okM s m = 0 then cpG (i + 1) (if m.2 = -1 then w else w + 1) (nxS s m) ms else ((i : Int), okM s m)
theorem zk6 {y : YdT} {a : Nat} {q : List ByteArray} {x : ByteArray} (h : pl y a = q ++ [x]) : topY y (a : Int) = x := by
 unfold topY
 rw [zon, h, List.getLastD_eq_getLast?, List.getLast?_append]
 rfl
theorem y1w {s : StT} {m : Int × Int} (h : okM s m = 0) : Stp s m (nxS s m) (if m.2 = -1 then 0 else 1) := by
 obtain ⟨y, left⟩ := s
 obtain ⟨m1, m2⟩ := m
 unfold okM at h
 by_cases h0 : zac y (m1, m2) = 0
 ·rw [if_pos h0] at h
  obtain ⟨a, e1, ha, hb⟩ := zog h0
  simp only at e1 hb h
  subst e1
  rcases hb with rfl | ⟨b, rfl, hb⟩
  ·rw [zoh ha] at h0
   obtain ⟨q, x, hq⟩ := zno h0
   have hr : zfd (y, left) ((a : Int), -1) = false := by
    cases e : zfd (y, left) ((a : Int), -1) with
    | false => rfl
    | true => rw [if_pos ⟨rfl, e⟩] at h; cases h
   unfold zfd at hr
   cases left with
   | nil => cases hr
   | cons z left =>
    simp only [zk6 hq] at hr
    have : seqb x z = true := by simpa using hr
    obtain rfl := zpv.1 this
    exact .out hq
  ·rw [zn5 ha hb] at h0
   obtain ⟨h3, h4, h5⟩ := h0
   obtain ⟨q, x, hq⟩ := zno h3
   have e : nxS (y, left) ((a : Int), (b : Int)) = (zat (popY y a) b x, left) := by
    unfold nxS
    rw [if_neg (show ¬ ((b : Int) = -1) by omega)]
    simp only [zk6 hq]
    rfl
   rw [e, if_neg (show ¬ ((b : Int) = -1) by omega)]
   exact .mv hq hb h4 h5
 ·rw [if_neg h0] at h
  exact absurd h h0
theorem y0c {s s' : StT} {m : Int × Int} {c : Nat} (h : Stp s m s' c) : okM s m = 0 := by
 cases h with
 | @out y left q x a hp =>
  unfold okM
  have h0 : zac y ((a : Int), -1) = 0 := by
   rw [zoh (zlp hp), hp, List.length_append, List.length_singleton]
   omega
  have hr : zfd (y, x :: left) ((a : Int), -1) = false := by
   unfold zfd
   simp only [zk6 hp]
   rw [zpv.2 rfl]
   rfl
  rw [if_pos h0, if_neg (by rw [hr]; rintro ⟨_, h⟩; cases h)]
 | @mv y left q x a b hp hb hab hl =>
  unfold okM
  have h0 : zac y ((a : Int), (b : Int)) = 0 := by
   rw [zn5 (zlp hp) hb, hp, List.length_append, List.length_singleton]
   exact ⟨by omega, hab, hl⟩
  rw [if_pos h0, if_neg]
  rintro ⟨h, _⟩
  have : (b : Int) = -1 := h
  omega
theorem y7d {s s' : StT} {ms : List (Int × Int)} {c : Nat} (h : Run s ms s' c) : s'.2 = [] → ∀ i w, cpG i w s ms = (((w + c : Nat) : Int), 0) := by
 induction h with
 | nil s =>
  intro h0 i w
  unfold cpG
  rw [if_pos h0, Nat.add_zero]
 | @cons s s1 s2 m l c k hs hl ih =>
  intro h0 i w
  have h1 := y0c hs
  obtain ⟨e1, e2⟩ := hs.det (y1w h1)
  unfold cpG
  rw [if_pos h1, ← e1, ih h0]
  congr 2
  rw [e2]
  split <;> omega
theorem top_ok {y : YdT} {a : Nat} (hy : y.length ≤ 1000) (hp : ∀ q ∈ y, q.length ≤ 1000) (ha : a < y.length) (h : 0 < (pl y a).length) : z45 y (a : Int) = some (topY y (a : Int)) := by
 obtain ⟨q, x, hq⟩ := zno h
 have hl := hp _ (y1e ha)
 unfold z45
 rw [z2v (z0g (z01 (by omega)) (z01 (by omega))), z2v (z0g (z01 (by omega)) (z01 (by omega)))]
 simp only
 rw [hq] at hl
 rw [show lget [] y (a : Int) = q ++ [x] from hq]
 rw [List.length_append, List.length_singleton] at hl
 rw [List.length_append, List.length_singleton, z1p (by omega) (by omega), z2v (z0g (z01 (by omega)) (z01 (by omega))), zk6 hq]
 have e : lget ByteArray.empty (q ++ [x]) (((q.length + 1 : Nat) : Int) - 1) = x := by
  rw [show ((q.length + 1 : Nat) : Int) - 1 = (q.length : Int) by omega]
  exact z1z (post := [])
 rw [e]
theorem y2t {names req : List ByteArray} {p : Nat} (hc : Cx names req p) {moves : List (Int × Int)} (hm : moves.length ≤ 40) {F : Int × z2m → Option ((Int × z2m) ⊕ (z2m ⊕ (Int × Int)))} (hF : F = fun s =>
   let t_2 : Int := s.1
   let n : z2m := s.2
   bif decide (t_2 < (List.length moves : Int)) then
    chk (decide ((0 : Int) ≤ t_2) && decide (t_2 < (List.length moves : Int))) (
     let m : (Int × Int) := lget (0, 0) moves t_2
     (z0w n.1 m).bind fun (t_3 : Int) =>
     bif (t_3 != 0) then
      Option.map Sum.inr (Option.map Sum.inr (
       some (t_2, t_3)))
     else
      (bif (m.2 == (-1)) then
       (bif ((List.length n.2.1 : Int) == 0) then some true else
        (z45 n.1 m.1).bind fun (t_4 : ByteArray) =>
        chk (decide ((0 : Int) ≤ 0) && decide (0 < (List.length n.2.1 : Int))) (
         some (!seqb t_4 (lget ByteArray.empty n.2.1 0)))).bind fun (c : Bool) =>
       some c
      else some false).bind fun (c_1 : Bool) =>
      bif c_1 then
       Option.map Sum.inr (Option.map Sum.inr (
        some (t_2, 24)))
      else
       (z0l n m).bind fun (t_5 : z2m) =>
       some (.inl (wi64 (t_2 + 1), t_5)))
   else
    some (.inr (.inl n))) : ∀ (rest : List (Int × Int)) {pre : List (Int × Int)} {n : z2c} {w : Nat}, moves = pre ++ rest → Vd names req p (stN n) → n.2.2.2 = (w : Int) → n.2.2.1.length = pre.length → w ≤ pre.length →
  ∃ j, z1s F ((pre.length : Int), n) = some j ∧ (match j with
   | .inl n1 => (if n1.2.1 = [] then (n1.2.2.2, 0) else ((moves.length : Int), 14))
   | .inr r => r) = cpG pre.length w (stN n) rest
 | [], pre, n, w, hpre, hv, hw, hl, hwp => by
  rw [List.append_nil] at hpre
  subst hpre
  refine ⟨.inl n, zi7 ?_, ?_⟩
  ·rw [hF]
   simp only []
   rw [z09 (show ¬ (moves.length : Int) < (moves.length : Int) by omega), cond_false]
  ·unfold cpG
   show (if n.2.1 = [] then (n.2.2.2, 0) else ((moves.length : Int), 14)) = (if n.2.1 = [] then ((w : Int), 0) else ((moves.length : Int), 14))
   rw [hw]
 | m :: rest, pre, n, w, hpre, hv, hw, hl, hwp => by
  have hlen := congrArg List.length hpre
  rw [List.length_append, List.length_cons] at hlen
  have hx : lget ((0, 0) : Int × Int) moves (pre.length : Int) = m := by rw [hpre]; exact z1z
  have hy : n.1.length ≤ 1000 := by have := hv.len; have := hc.p4; simp only at *; omega
  have hy6 : ∀ q ∈ n.1, q.length ≤ 1000 := fun q hq => by have := hv.piles q hq; omega
  have step : F ((pre.length : Int), n) = if okM (stN n) m = 0 then (z0l n m).bind fun t => some (.inl (((pre ++ [m]).length : Int), t)) else some (.inr (.inr ((pre.length : Int), okM (stN n) m))) := by
   rw [hF]
   simp only []
   rw [z01 (show (pre.length : Int) < (moves.length : Int) by omega), cond_true, z2v (z0g (z01 (by omega)) rfl), hx, zi6 hy, Option.bind_some]
   unfold okM
   by_cases h0 : zac n.1 m = 0
   ·rw [h0, show ((0 : Int) != 0) = false from rfl, cond_false, if_pos (show (0 : Int) = 0 from rfl)]
    obtain ⟨m1, m2⟩ := m
    obtain ⟨a, e1, ha, hb⟩ := zog h0
    simp only at e1 hb
    subst e1
    have hfin : (z0l n ((a : Int), m2)).bind (fun t => some (Sum.inl (wi64 ((pre.length : Int) + 1), t)) : z2c → Option ((Int × z2c) ⊕ (z2c ⊕ (Int × Int)))) = (z0l n ((a : Int), m2)).bind fun t => some (.inl (((pre ++ [((a : Int), m2)]).length : Int), t)) := by
     rw [z1p (by omega) (by omega), List.length_append, List.length_singleton]
     rfl
    by_cases h1 : m2 = -1
    ·subst h1
     rw [zoh ha] at h0
     simp only [show ((-1 : Int) == -1) = true from rfl, cond_true, true_and]
     unfold zfd
     cases hl0 : n.2.1 with
     | nil =>
      rw [show (((([] : List ByteArray).length : Nat) : Int) == 0) = true from rfl, cond_true]
      simp only [Option.bind_some, cond_true, hl0, stN, if_true]
      rfl
     | cons z left =>
      rw [show ((((z :: left).length : Nat) : Int) == 0) = false by rw [beq_eq_false_iff_ne, List.length_cons]; omega, cond_false, top_ok hy hy6 ha h0, Option.bind_some, z2v (show (decide ((0 : Int) ≤ 0) && decide (0 < (((z :: left).length : Nat) : Int))) = true from z0g (z01 (Int.le_refl 0)) (z01 (by rw [List.length_cons]; omega)))]
      have e0 : lget ByteArray.empty (z :: left) 0 = z := rfl
      simp only [Option.bind_some, e0, stN, hl0]
      cases hq : seqb (topY n.1 (a : Int)) z with
      | true =>
       simp only [Bool.not_true, cond_false, Bool.false_eq_true, if_false, if_true]
       exact hfin
      | false =>
       simp only [Bool.not_false, cond_true, if_true]
       rfl
    ·simp only [show (m2 == -1) = false by rw [beq_eq_false_iff_ne]; exact h1, cond_false, Option.bind_some, h1, false_and, if_false, if_true]
     exact hfin
   ·rw [show (zac n.1 m != 0) = true by rw [bne_iff_ne]; exact h0, cond_true, if_neg (show ¬ zac (stN n).1 m = 0 from h0), if_neg (show ¬ zac (stN n).1 m = 0 from h0)]
    rfl
  unfold cpG
  by_cases h0 : okM (stN n) m = 0
  ·rw [if_pos h0] at step ⊢
   have hs := y1w h0
   have hnx := zw0 hc hv hs (by omega) (by omega)
   rw [hnx, Option.bind_some] at step
   obtain ⟨j, h1, h2⟩ := y2t hc hm hF rest (pre := pre ++ [m]) (n := ((nxS (stN n) m).1, (nxS (stN n) m).2, n.2.2.1 ++ [m], n.2.2.2 + ((if m.2 = -1 then 0 else 1 : Nat) : Int))) (w := if m.2 = -1 then w else w + 1) (by rw [hpre]; simp) (hv.stp hc.rn hs) (by simp only [hw]; split <;> omega) (by simp [hl]) (by rw [List.length_append, List.length_singleton]; split <;> omega)
   refine ⟨j, (zqv step).trans h1, ?_⟩
   rw [h2, List.length_append, List.length_singleton]
  ·rw [if_neg h0] at step ⊢
   exact ⟨_, zi7 step, rfl⟩
theorem zv4 {names req : List ByteArray} {p : Nat} (hc : Cx names req p) {y : YdT} (hv : Vd names req p (y, req)) (hF : Few y req) (hy : (zbu y).2 = 0) (hr : reqE y req = 0) (moves : List (Int × Int)) :
  z3m y req moves = some (if moves.length ≤ 40 then cpG 0 0 (y, req) moves else (0, 8)) := by
 unfold z3m
 rw [zeb hF, hy, hr, Option.bind_some]
 simp only [show ((0 : Int) != 0) = false from rfl, show ((0 : Int) == 0) = true from rfl, cond_false, cond_true]
 rw [z48, Option.bind_some]
 by_cases hm : moves.length ≤ 40
 ·rw [z01 (show (moves.length : Int) ≤ 40 by omega), if_pos rfl, zfr (by simp), Option.bind_some, if_pos hm]
  simp only [show zg3 [0, 0] = 0 from rfl, show ((0 : Int) != 0) = false from rfl, cond_false]
  obtain ⟨j, h1, h2⟩ := y2t hc hm rfl moves (pre := []) (n := (y, req, [], 0)) (w := 0) rfl hv rfl rfl (Nat.le_refl _)
  rw [show (([] : List (Int × Int)).length : Int) = 0 from rfl] at h1
  rw [h1, Option.bind_some]
  rw [List.length_nil] at h2
  rw [← h2]
  cases j with
  | inr r => rfl
  | inl n1 =>
   simp only []
   by_cases h0 : n1.2.1 = []
   ·rw [h0, if_pos rfl, z09 (show ¬ ((([] : List ByteArray).length : Nat) : Int) > 0 by simp), cond_false]
   ·rw [if_neg h0, z01 (show ((n1.2.1.length : Nat) : Int) > 0 by have := List.length_pos_iff.2 h0; omega), cond_true]
 ·rw [z09 (show ¬ (moves.length : Int) ≤ 40 by omega), if_neg (by simp), zfr (by simp), Option.bind_some, if_neg hm]
  rfl
theorem y01 {names req : List ByteArray} {p : Nat} (hc : Cx names req p) {y : YdT} (hv : Vd names req p (y, req)) (hF : Few y req) (hy : (zbu y).2 = 0) (hr : reqE y req = 0) :
  ∃ r : List (Int × Int) × Bool, z2z y req = some (r.1, if r.2 then 0 else 12) ∧ Best req y r := by
 obtain ⟨r, h1, h2⟩ := y6i hc hv
 refine ⟨r, ?_, h2⟩
 unfold z2z
 rw [zeb hF, hy, hr, Option.bind_some]
 simp only [show ((0 : Int) != 0) = false from rfl, show ((0 : Int) == 0) = true from rfl, cond_false, cond_true]
 rw [h1, Option.bind_some, z48, Option.bind_some]
end Go.Lift
namespace Go.Lift
open Go
theorem zww {l : List (Int × Int)} (h : l.length ≤ 1000) : zcn l = some l := by
 unfold zcn
 rw [zhm (by rw [List.length_nil]; omega), Option.bind_some, List.nil_append]
theorem zt8 {y : YdT} : ∀ {r pre : List ByteArray}, (pre ++ r).Nodup → (∀ x ∈ r, x ∈ y.flatten) → reqG y pre r = 0
 | [], pre, _, _ => rfl
 | x :: r, pre, hn, hs => by
  rw [zkf]
  have h1 : (y.any fun p => hasB p x) = true := by
   obtain ⟨q, hq, hx⟩ := List.mem_flatten.1 (hs x (by simp))
   rw [List.any_eq_true]
   exact ⟨q, hq, z2f.2 hx⟩
  have h2 : hasB pre x = false := by
   cases e : hasB pre x with
   | false => rfl
   | true =>
    rw [List.nodup_append] at hn
    exact absurd rfl (hn.2.2 x (z2f.1 e) x (by simp))
  rw [h1, h2]
  exact zt8 (by simpa using hn) fun z hz => hs z (List.mem_cons_of_mem _ hz)
structure Ready (y : YdT) (req : List ByteArray) : Prop where
 few : Few y req
 ye : (zbu y).2 = 0
 re : reqE y req = 0
 six : y.flatten.length ≤ 6
theorem Ready.cx {y : YdT} {req : List ByteArray} (h : Ready y req) : Cx y.flatten req y.length := (zri h.ye h.re h.six).1
theorem Ready.vd {y : YdT} {req : List ByteArray} (h : Ready y req) : Vd y.flatten req y.length (y, req) := (zri h.ye h.re h.six).2
theorem Ready.best {y : YdT} {req : List ByteArray} (h : Ready y req) : ∃ r : List (Int × Int) × Bool, z2z y req = some (r.1, if r.2 then 0 else 12) ∧
  (r.2 = true → ∃ w : Nat, z3m y req r.1 = some ((w : Int), 0) ∧ r.1.length = w + req.length ∧ r.1.length ≤ 36 ∧ hL req y ≤ w ∧ (∃ s, Run (y, req) r.1 s w ∧ s.2 = []) ∧ ∀ l s c, Run (y, req) l s c → s.2 = [] → w ≤ c) ∧
  (r.2 = false → r.1 = [] ∧ ∀ l s c, Run (y, req) l s c → s.2 ≠ []) := by
 obtain ⟨r, h1, h2, h3⟩ := y01 h.cx h.vd h.few h.ye h.re
 refine ⟨r, h1, fun e => ?_, h3⟩
 obtain ⟨s, w, g1, g2, g3, g4⟩ := h2 e
 obtain ⟨l', s'', w', f1, f2, f3⟩ := zyz h.cx h.vd g1 g2
 have hw := g4 _ _ _ f1 f2
 have hl := h.cx.rl
 have hh := y4s h.cx.rn h.vd g1
 have hz : hS s = 0 := by
  show hL s.2 s.1 = 0
  rw [g2]
  exact y4t _
 refine ⟨w, ?_, g3, by omega, ?_, ⟨s, g1, g2⟩, g4⟩
 ·rw [zv4 h.cx h.vd h.few h.ye h.re, if_pos (by omega), y7d g1 g2, Nat.zero_add]
 ·have : hL req y ≤ w + hS s := hh
  omega
end Go.Lift
