/-
  Slabs, orders, and the lengths of coils, on both sides.
-/
import Derived.Test.YtggnjngdmadbaaaGreatDoorPlainA
set_option linter.unusedSectionVars false
set_option linter.unusedVariables false
set_option linter.unusedSimpArgs false
namespace Go.Lift
open Go
theorem cand (a b : Bool) : (bif a then some b else some false) = some (a && b) := by cases a <;> rfl
theorem yco {A : Type} (k : Option A) : chk true k = k := rfl
theorem cor (a b : Bool) : (bif a then some true else some b) = some (a || b) := by cases a <;> rfl
def inR (n lo hi : Int) : Bool := decide (lo ≤ n ∧ n ≤ hi)
def y8b (s : z09) : Bool := ((inR s.2.1 1 99 && inR s.2.2.1 1 300000) && inR s.2.2.2.1 500 2500) && inR s.2.2.2.2 1 20000
def zc5 (s : z09) : Int := bif zqt s.1 then (bif y8b s then 0 else 2) else 4
theorem zs5 {s : z09} (h : s.1.size ≤ 9223372036854775807) : z36 s = some (zc5 s) := by
 unfold z36 z2s z1s z2r
 simp only [z7f, Option.bind_some, cand, y1f h, z6l, show ((10 : Nat) != 0) = true from rfl, yco]
 rw [ziz (by simp), Option.bind_some]
 unfold zc5 y8b inR
 generalize (((decide (1 ≤ s.2.1 ∧ s.2.1 ≤ 99) && decide (1 ≤ s.2.2.1 ∧ s.2.2.1 ≤ 300000)) && decide (500 ≤ s.2.2.2.1 ∧ s.2.2.2.1 ≤ 2500)) && decide (1 ≤ s.2.2.2.2 ∧ s.2.2.2.2 ≤ 20000)) = b
 cases zqt s.1 <;> cases b <;> rfl
theorem y7v {s : z09} (h : s.1.size ≤ 9223372036854775807) : zhl s = some (zc5 s) := by
 unfold zhl zav
 simp only [zc0, Option.bind_some, cor, y2h h, show ((10 : Nat) != 0) = true from rfl, yco]
 unfold zc5 y8b inR
 rw [show ((((!decide (1 ≤ s.2.1 ∧ s.2.1 ≤ 99) || !decide (1 ≤ s.2.2.1 ∧ s.2.2.1 ≤ 300000)) || !decide (500 ≤ s.2.2.2.1 ∧ s.2.2.2.1 ≤ 2500)) || !decide (1 ≤ s.2.2.2.2 ∧ s.2.2.2.2 ≤ 20000))) = !((((decide (1 ≤ s.2.1 ∧ s.2.1 ≤ 99) && decide (1 ≤ s.2.2.1 ∧ s.2.2.1 ≤ 300000)) && decide (500 ≤ s.2.2.2.1 ∧ s.2.2.2.1 ≤ 2500)) && decide (1 ≤ s.2.2.2.2 ∧ s.2.2.2.2 ≤ 20000))) by simp only [Bool.not_and]]
 generalize (((decide (1 ≤ s.2.1 ∧ s.2.1 ≤ 99) && decide (1 ≤ s.2.2.1 ∧ s.2.2.1 ≤ 300000)) && decide (500 ≤ s.2.2.2.1 ∧ s.2.2.2.1 ≤ 2500)) && decide (1 ≤ s.2.2.2.2 ∧ s.2.2.2.2 ≤ 20000)) = b
 cases zqt s.1 <;> cases b <;> rfl
def ordB (o : z01) : Bool := ((((inR o.2.1 1 99 && inR o.2.2.1 1 300000) && inR o.2.2.2.1 0 (wi64 (o.2.2.1 - 1))) && inR o.2.2.2.2.1 500 2500) && inR o.2.2.2.2.2.1.1 0 20000) && inR o.2.2.2.2.2.1.2 0 20000
def ordE (o : z01) : Int := bif zqt o.1 then (bif ordB o then (bif decide (o.2.2.2.2.2.1.1 ≤ o.2.2.2.2.2.1.2) then (bif (Int.tmod o.2.2.2.2.2.1.1 10 == 0) && (Int.tmod o.2.2.2.2.2.1.2 10 == 0) then (bif inR o.2.2.2.2.2.2 0 100000 then 0 else 2) else 3) else 9) else 2) else 4
theorem zqc {o : z01} (h : o.1.size ≤ 9223372036854775807) : z13 o = some (ordE o) := by
 unfold z13 z2s z1s z2r z5t
 simp only [z7f, Option.bind_some, cand, y1f h, z6l, show ((10 : Nat) != 0) = true from rfl, yco]
 rw [ziz (by simp), Option.bind_some]
 unfold ordE ordB inR
 generalize (((((decide (1 ≤ o.2.1 ∧ o.2.1 ≤ 99) && decide (1 ≤ o.2.2.1 ∧ o.2.2.1 ≤ 300000)) && decide (0 ≤ o.2.2.2.1 ∧ o.2.2.2.1 ≤ wi64 (o.2.2.1 - 1))) && decide (500 ≤ o.2.2.2.2.1 ∧ o.2.2.2.2.1 ≤ 2500)) && decide (0 ≤ o.2.2.2.2.2.1.1 ∧ o.2.2.2.2.2.1.1 ≤ 20000)) && decide (0 ≤ o.2.2.2.2.2.1.2 ∧ o.2.2.2.2.2.1.2 ≤ 20000)) = b
 generalize decide (o.2.2.2.2.2.1.1 ≤ o.2.2.2.2.2.1.2) = c
 generalize ((Int.tmod o.2.2.2.2.2.1.1 10 == 0) && (Int.tmod o.2.2.2.2.2.1.2 10 == 0)) = d
 generalize decide (0 ≤ o.2.2.2.2.2.2 ∧ o.2.2.2.2.2.2 ≤ 100000) = e
 cases zqt o.1 <;> cases b <;> cases c <;> cases d <;> cases e <;> rfl
theorem y4a {o : z01} (h : o.1.size ≤ 9223372036854775807) : zff o = some (ordE o) := by
 unfold zff zav
 simp only [zc0, Option.bind_some, cor, y2h h, show ((10 : Nat) != 0) = true from rfl, yco]
 unfold ordE ordB inR
 rw [show ((((((!decide (1 ≤ o.2.1 ∧ o.2.1 ≤ 99) || !decide (1 ≤ o.2.2.1 ∧ o.2.2.1 ≤ 300000)) || !decide (0 ≤ o.2.2.2.1 ∧ o.2.2.2.1 ≤ wi64 (o.2.2.1 - 1))) || !decide (500 ≤ o.2.2.2.2.1 ∧ o.2.2.2.2.1 ≤ 2500)) || !decide (0 ≤ o.2.2.2.2.2.1.1 ∧ o.2.2.2.2.2.1.1 ≤ 20000)) || !decide (0 ≤ o.2.2.2.2.2.1.2 ∧ o.2.2.2.2.2.1.2 ≤ 20000))) =
  !((((((decide (1 ≤ o.2.1 ∧ o.2.1 ≤ 99) && decide (1 ≤ o.2.2.1 ∧ o.2.2.1 ≤ 300000)) && decide (0 ≤ o.2.2.2.1 ∧ o.2.2.2.1 ≤ wi64 (o.2.2.1 - 1))) && decide (500 ≤ o.2.2.2.2.1 ∧ o.2.2.2.2.1 ≤ 2500)) && decide (0 ≤ o.2.2.2.2.2.1.1 ∧ o.2.2.2.2.2.1.1 ≤ 20000)) && decide (0 ≤ o.2.2.2.2.2.1.2 ∧ o.2.2.2.2.2.1.2 ≤ 20000))) by simp only [Bool.not_and]]
 rw [show decide (o.2.2.2.2.2.1.1 > o.2.2.2.2.2.1.2) = !decide (o.2.2.2.2.2.1.1 ≤ o.2.2.2.2.2.1.2) by rw [← decide_not]; congr 1; rw [eq_iff_iff]; omega]
 rw [show (Int.tmod o.2.2.2.2.2.1.1 10 != 0 || Int.tmod o.2.2.2.2.2.1.2 10 != 0) = !((Int.tmod o.2.2.2.2.2.1.1 10 == 0) && (Int.tmod o.2.2.2.2.2.1.2 10 == 0)) by simp only [Bool.not_and]; rfl]
 generalize (((((decide (1 ≤ o.2.1 ∧ o.2.1 ≤ 99) && decide (1 ≤ o.2.2.1 ∧ o.2.2.1 ≤ 300000)) && decide (0 ≤ o.2.2.2.1 ∧ o.2.2.2.1 ≤ wi64 (o.2.2.1 - 1))) && decide (500 ≤ o.2.2.2.2.1 ∧ o.2.2.2.2.1 ≤ 2500)) && decide (0 ≤ o.2.2.2.2.2.1.1 ∧ o.2.2.2.2.2.1.1 ≤ 20000)) && decide (0 ≤ o.2.2.2.2.2.1.2 ∧ o.2.2.2.2.2.1.2 ≤ 20000)) = b
 generalize decide (o.2.2.2.2.2.1.1 ≤ o.2.2.2.2.2.1.2) = c
 generalize ((Int.tmod o.2.2.2.2.2.1.1 10 == 0) && (Int.tmod o.2.2.2.2.2.1.2 10 == 0)) = d
 generalize decide (0 ≤ o.2.2.2.2.2.2 ∧ o.2.2.2.2.2.2 ≤ 100000) = e
 cases zqt o.1 <;> cases b <;> cases c <;> cases d <;> cases e <;> rfl
end Go.Lift
namespace Go.Lift
open Go
structure yb6 (s : z09) : Prop where
 g : 1 ≤ s.2.1 ∧ s.2.1 ≤ 99
 t : 1 ≤ s.2.2.1 ∧ s.2.2.1 ≤ 300000
 w : 500 ≤ s.2.2.2.1 ∧ s.2.2.2.1 ≤ 2500
 l : 1 ≤ s.2.2.2.2 ∧ s.2.2.2.2 ≤ 20000
structure OrdV (o : z01) : Prop where
 t : 1 ≤ o.2.2.1 ∧ o.2.2.1 ≤ 300000
 tol : 0 ≤ o.2.2.2.1 ∧ o.2.2.2.1 ≤ o.2.2.1 - 1
 w : 500 ≤ o.2.2.2.2.1 ∧ o.2.2.2.2.1 ≤ 2500
theorem y4h {s : z09} (h : zc5 s = 0) : zqt s.1 = true ∧ yb6 s := by
  unfold zc5 at h
  cases hn : zqt s.1 with
  | false => rw [hn] at h; cases h
  | true =>
    rw [hn, cond_true] at h
    cases hb : y8b s with
    | false => rw [hb] at h; cases h
    | true =>
      unfold y8b inR at hb
      simp only [Bool.and_eq_true, decide_eq_true_eq] at hb
      exact ⟨rfl, hb.1.1.1, hb.1.1.2, hb.1.2, hb.2⟩
theorem y9b {o : z01} (h : ordE o = 0) : OrdV o := by
  unfold ordE at h
  cases hn : zqt o.1 with
  | false => rw [hn] at h; cases h
  | true =>
    rw [hn, cond_true] at h
    cases hb : ordB o with
    | false => rw [hb] at h; cases h
    | true =>
      unfold ordB inR at hb
      simp only [Bool.and_eq_true, decide_eq_true_eq] at hb
      obtain ⟨⟨⟨⟨⟨_, h1⟩, h2⟩, h3⟩, _⟩, _⟩ := hb
      rw [z0j (by omega) (by omega)] at h2
      exact ⟨h1, h2, h3⟩
def zjb (s : z09) (o : z01) : Bool := (s.2.1 == o.2.1) && inR s.2.2.2.1 o.2.2.2.2.1 (wi64 (o.2.2.2.2.1 + 100))
theorem y4g (s : z09) (o : z01) : z5h s o = some (zjb s o) := by
 unfold z5h
 simp only [z7f, Option.bind_some, cand]
 rfl
theorem ycz {s : z09} {o : z01} (hs : yb6 s) (ho : OrdV o) : zox s o = some (zjb s o) := by
 unfold zox
 simp only [zc0, Option.bind_some, cand]
 have h1 := hs.w
 have h2 := ho.w
 unfold zjb inR
 rw [z0j (x := s.2.2.2.1 - o.2.2.2.2.1) (by omega) (by omega), z0j (x := o.2.2.2.2.1 + 100) (by omega) (by omega)]
 congr 2
 rw [decide_eq_decide]
 omega
def volI (s : z09) : Int := s.2.2.1 * s.2.2.2.1 * s.2.2.2.2
def zk4 (o : z01) : Int := (o.2.2.1 - o.2.2.2.1) * o.2.2.2.2.1
def zrp (o : z01) : Int := (o.2.2.1 + o.2.2.2.1) * o.2.2.2.2.1
def y7h (s : z09) (o : z01) : Int × Int := (volI s / zrp o, (volI s + zk4 o - 1) / zk4 o)
theorem zm1 {a b A B : Int} (ha : 0 ≤ a) (hA : a ≤ A) (hb : 0 ≤ b) (hB : b ≤ B) : 0 ≤ a * b ∧ a * b ≤ A * B :=
 ⟨Int.mul_nonneg ha hb, Int.mul_le_mul hA hB hb (by omega)⟩
theorem znd {s : z09} (h : yb6 s) : 500 ≤ volI s ∧ volI s ≤ 15000000000000 ∧ 0 ≤ s.2.2.1 * s.2.2.2.1 ∧ s.2.2.1 * s.2.2.2.1 ≤ 750000000 := by
 have h1 := h.t; have h2 := h.w; have h3 := h.l
 have a := zm1 (a := s.2.2.1) (b := s.2.2.2.1) (A := 300000) (B := 2500) (by omega) (by omega) (by omega) (by omega)
 have b := zm1 (a := s.2.2.1 * s.2.2.2.1) (b := s.2.2.2.2) (A := 750000000) (B := 20000) (by omega) (by omega) (by omega) (by omega)
 have c : 1 * 500 ≤ s.2.2.1 * s.2.2.2.1 := Int.mul_le_mul h1.1 h2.1 (by omega) (by omega)
 have d : 500 * 1 ≤ s.2.2.1 * s.2.2.2.1 * s.2.2.2.2 := Int.mul_le_mul (by omega) h3.1 (by omega) (by omega)
 unfold volI
 omega
theorem zk3 {o : z01} (h : OrdV o) : 500 ≤ zk4 o ∧ zk4 o ≤ 750000000 := by
 have h1 := h.t; have h2 := h.w; have h3 := h.tol
 have a := zm1 (a := o.2.2.1 - o.2.2.2.1) (b := o.2.2.2.2.1) (A := 300000) (B := 2500) (by omega) (by omega) (by omega) (by omega)
 have c : 1 * 500 ≤ (o.2.2.1 - o.2.2.2.1) * o.2.2.2.2.1 := Int.mul_le_mul (by omega) h2.1 (by omega) (by omega)
 unfold zk4
 omega
theorem zie {o : z01} (h : OrdV o) : 500 ≤ zrp o ∧ zrp o ≤ 1500000000 := by
 have h1 := h.t; have h2 := h.w; have h3 := h.tol
 have a := zm1 (a := o.2.2.1 + o.2.2.2.1) (b := o.2.2.2.2.1) (A := 600000) (B := 2500) (by omega) (by omega) (by omega) (by omega)
 have c : 1 * 500 ≤ (o.2.2.1 + o.2.2.2.1) * o.2.2.2.2.1 := Int.mul_le_mul (by omega) h2.1 (by omega) (by omega)
 unfold zrp
 omega
theorem y4e {s : z09} (h : yb6 s) : wi64 (wi64 (s.2.2.1 * s.2.2.2.1) * s.2.2.2.2) = volI s := by
 have := znd h
 rw [z0j (x := s.2.2.1 * s.2.2.2.1) (by omega) (by omega)]
 exact z0j (x := volI s) (by omega) (by omega)
theorem zzv {o : z01} (h : OrdV o) : wi64 (wi64 (o.2.2.1 - o.2.2.2.1) * o.2.2.2.2.1) = zk4 o := by
 have := zk3 h
 have h1 := h.t; have h3 := h.tol
 rw [z0j (x := o.2.2.1 - o.2.2.2.1) (by omega) (by omega)]
 exact z0j (x := zk4 o) (by omega) (by omega)
theorem zwl {o : z01} (h : OrdV o) : wi64 (wi64 (o.2.2.1 + o.2.2.2.1) * o.2.2.2.2.1) = zrp o := by
 have := zie h
 have h1 := h.t; have h3 := h.tol
 rw [z0j (x := o.2.2.1 + o.2.2.2.1) (by omega) (by omega)]
 exact z0j (x := zrp o) (by omega) (by omega)
theorem zrd {a b : Int} (ha : 0 ≤ a) (hb : 1 ≤ b) : 0 ≤ a / b ∧ a / b ≤ a :=
 ⟨Int.ediv_nonneg ha (by omega), Int.ediv_le_self _ ha⟩
theorem yf5 {s : z09} {o : z01} (hs : s.1.size ≤ 9223372036854775807) (ho : o.1.size ≤ 9223372036854775807) :
  z2p s o = some (if z4z [zc5 s, ordE o, if zjb s o then 0 else 13] = 0 then (y7h s o, 0) else ((0, 0), z4z [zc5 s, ordE o, if zjb s o then 0 else 13])) := by
 unfold z2p
 rw [zs5 hs, Option.bind_some, zqc ho, Option.bind_some, y4g, Option.bind_some, z6l, Option.bind_some, ziz (by simp), Option.bind_some]
 generalize hc : z4z [zc5 s, ordE o, if zjb s o then 0 else 13] = c
 by_cases h0 : c = 0
 ·rw [if_pos h0, show (c != 0) = false by rw [h0]; rfl, cond_false]
  subst h0
  have h1 : zc5 s = 0 ∧ ordE o = 0 := by
   simp only [z4z] at hc
   by_cases a : zc5 s = 0
   ·rw [if_pos a] at hc
    by_cases b : ordE o = 0
    ·exact ⟨a, b⟩
    ·rw [if_neg b] at hc; exact absurd hc b
   ·rw [if_neg a] at hc; exact absurd hc a
  have hsv := (y4h h1.1).2
  have hov := y9b h1.2
  have b1 := znd hsv
  have b2 := zk3 hov
  have b3 := zie hov
  simp only [y4e hsv, zzv hov, zwl hov]
  rw [z18 (show (zrp o != 0) = true by rw [bne_iff_ne]; omega), z18 (show (zk4 o != 0) = true by rw [bne_iff_ne]; omega)]
  have d1 := zrd (a := volI s) (b := zrp o) (by omega) (by omega)
  have d2 := zrd (a := volI s + zk4 o - 1) (b := zk4 o) (by omega) (by omega)
  rw [z0j (x := volI s + zk4 o) (by omega) (by omega), z0j (x := volI s + zk4 o - 1) (by omega) (by omega), Int.tdiv_eq_ediv_of_nonneg (by omega), Int.tdiv_eq_ediv_of_nonneg (by omega), z0j (by omega) (by omega), z0j (by omega) (by omega)]
  rfl
 ·rw [if_neg h0, show (c != 0) = true by rw [bne_iff_ne]; exact h0, cond_true]
theorem y64 {n d : Int} (hn : -4611686018427387904 ≤ n) (hn2 : n ≤ 4611686018427387904) (hd : 1 ≤ d) : zmb n d = some (n / d) := by
 have hb : -4611686018427387904 ≤ n / d ∧ n / d ≤ 4611686018427387904 := by
  refine ⟨?_, ?_⟩
  ·refine Int.le_ediv_of_mul_le (by omega) ?_
   have : 4611686018427387904 * 1 ≤ 4611686018427387904 * d := Int.mul_le_mul_of_nonneg_left hd (by omega)
   omega
  ·by_cases h : 0 ≤ n
   ·have := Int.ediv_le_self d h; omega
   ·have := Int.ediv_neg_of_neg_of_pos (a := n) (b := d) (by omega) (by omega); omega
 have ht := Int.tdiv_eq_ediv (a := n) (b := d)
 have hm := Int.mul_tdiv_add_tmod n d
 have hm2 := Int.mul_ediv_add_emod n d
 have hr1 := Int.emod_nonneg n (show d ≠ 0 by omega)
 have hr2 := Int.emod_lt_of_pos n (show 0 < d by omega)
 unfold zmb
 simp only [z18 (show (d != 0) = true by rw [bne_iff_ne]; omega)]
 by_cases h : 0 ≤ n
 ·have e : n.tdiv d = n / d := Int.tdiv_eq_ediv_of_nonneg h
  have e2 : 0 ≤ n.tmod d := Int.tmod_nonneg _ h
  rw [e, z0j (x := n / d) (by omega) (by omega), z0v (by omega), cond_false]
  rfl
 ·by_cases hz : n % d = 0
  ·have e : n.tdiv d = n / d := Int.tdiv_eq_ediv_of_dvd (Int.dvd_of_emod_eq_zero hz)
   have e2 : n.tmod d = 0 := by rw [e] at hm; omega
   rw [e, z0j (x := n / d) (by omega) (by omega), e2, z0v (by omega), cond_false]
   rfl
  ·have hnd : ¬ d ∣ n := fun hd => hz (Int.emod_eq_zero_of_dvd hd)
   have e : n.tdiv d = n / d + 1 := by
    rw [ht, if_neg (by intro hc; rcases hc with hc | hc; exact h hc; exact hnd hc), Int.sign_eq_one_of_pos (by omega)]
   have e2 : n.tmod d < 0 := by
    rw [e, Int.mul_add, Int.mul_one] at hm
    omega
   rw [e, z0j (x := n / d + 1) (by omega) (by omega), z07 e2, cond_true, Option.bind_some, z0j (by omega) (by omega)]
   congr 1
   omega
theorem yf6 {v d : Int} (hd : 1 ≤ d) : -(-v / d) = (v + d - 1) / d := by
 have hm := Int.mul_ediv_add_emod v d
 have hr1 := Int.emod_nonneg v (show d ≠ 0 by omega)
 have hr2 := Int.emod_lt_of_pos v (show 0 < d by omega)
 by_cases hz : v % d = 0
 ·have hdv := Int.dvd_of_emod_eq_zero hz
  rw [Int.neg_ediv_of_dvd hdv, Int.neg_neg]
  have f1 : (v + d - 1) / d = v / d := by
   have e : v + d - 1 = (d - 1) + d * (v / d) := by omega
   have g := Int.add_mul_ediv_left (d - 1) (v / d) (show d ≠ 0 by omega)
   rw [← e, Int.ediv_eq_zero_of_lt (a := d - 1) (by omega) (by omega)] at g
   omega
  exact f1.symm
 ·have e1 : v + d - 1 = (v % d - 1) + d * (v / d + 1) := by rw [Int.mul_add, Int.mul_one]; omega
  have e2 : -v = (d - v % d) + d * (-(v / d + 1)) := by rw [Int.mul_neg, Int.mul_add, Int.mul_one]; omega
  have g1 := Int.add_mul_ediv_left (v % d - 1) (v / d + 1) (show d ≠ 0 by omega)
  rw [← e1, Int.ediv_eq_zero_of_lt (a := v % d - 1) (by omega) (by omega)] at g1
  have g2 := Int.add_mul_ediv_left (d - v % d) (-(v / d + 1)) (show d ≠ 0 by omega)
  rw [← e2, Int.ediv_eq_zero_of_lt (a := d - v % d) (by omega) (by omega)] at g2
  omega
theorem yfl {s : z09} {o : z01} (hs : yb6 s) (ho : OrdV o) : zbe s o = some (y7h s o) := by
 have b1 := znd hs
 have b2 := zk3 ho
 have b3 := zie ho
 have d2 := zrd (a := volI s + zk4 o - 1) (b := zk4 o) (by omega) (by omega)
 unfold zbe zzk
 simp only [y4e hs, zzv ho, zwl ho]
 have hc := yf6 (v := volI s) (d := zk4 o) (by omega)
 rw [y64 (by omega) (by omega) (by omega), Option.bind_some, z0j (x := 0 - volI s) (by omega) (by omega), y64 (by omega) (by omega) (by omega), Option.bind_some, Option.bind_some, show (0 - volI s) = -volI s by omega, show (0 - -volI s / zk4 o) = -(-volI s / zk4 o) by omega, hc, z0j (by omega) (by omega)]
 rfl
end Go.Lift
