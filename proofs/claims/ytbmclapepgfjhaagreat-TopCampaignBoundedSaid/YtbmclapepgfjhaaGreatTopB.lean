/-
  FROM BOTH SIDES holds of the plain functions.
-/
import Derived.Test.YtbmclapepgfjhaaGreatTopA
set_option linter.unusedSectionVars false
set_option linter.unusedVariables false
set_option linter.unusedSimpArgs false
namespace Go.Lift
open Go
theorem zu0 {r : z01} {l : List z00} (hr : z2l r = true) (hi : l.all z9u = true) (h7 : l.length ≤ 7) {n : Nat} (hn : n < l.length) {s : List Int} (hs : s.Perm (upto n)) : insE r (l.take (n + 1)) s = 0 := by
 have hl : (l.take (n + 1)).length = n + 1 := by rw [List.length_take]; omega
 have h0 : z4r r (l.take (n + 1)) = 0 := by
  unfold z4r
  rw [hr, cond_true]
  unfold zkx
  rw [if_neg (by omega), if_neg (by omega), if_pos ?_]
  rw [List.all_eq_true] at hi ⊢
  exact fun x hx => hi x (List.mem_of_mem_take hx)
 unfold insE
 rw [if_pos h0, hl]
 have h1 : seqE ((n + 1 : Nat) : Int) s = 0 := zuk.2 ⟨fun x hx => by have := z4g.1 (hs.subset hx); omega, hs.symm.nodup (zbh n)⟩
 rw [if_pos h1]
 have h2 : s.contains (((n + 1 : Nat) : Int) - 1) = false := by
  cases hc : s.contains (((n + 1 : Nat) : Int) - 1) with
  | false => rfl
  | true =>
   have := z4g.1 (hs.subset (List.contains_iff_mem.1 hc))
   omega
 rw [h2]
 rfl
theorem zwt {r : z01} {l : List z00} (hr : z2l r = true) (hi : l.all z9u = true) (h7 : l.length ≤ 7) {n : Nat} (hn : n < l.length) {s : List Int} (hs : s.Perm (upto n)) :
  z0z r (l.take (n + 1)) s = some (0, 12) ∨ ∃ p : Int, (0 ≤ p ∧ p ≤ (s.length : Int)) ∧ z0z r (l.take (n + 1)) s = some (p, 0) ∧ (insI s p (n : Int)).Perm (upto (n + 1)) ∧ okP r l [] (insI s p (n : Int)) = true := by
 have hl : (l.take (n + 1)).length = n + 1 := by rw [List.length_take]; omega
 have hsl : s.length = n := by rw [hs.length_eq, z3g]
 rw [zqv (by omega) (by omega), if_pos (zu0 hr hi h7 hn hs)]
 rcases zwu r (l.take (n + 1)) s with h | ⟨h1, h2⟩
 ·left; rw [if_pos h]
 ·right
  rw [if_neg (by omega)]
  have hp := zz5 (p := (zky r (l.take (n + 1)) s).1) hs
  refine ⟨_, h1, rfl, hp, ?_⟩
  rw [hl, show (((n + 1 : Nat) : Int) - 1) = (n : Int) by omega] at h2
  rw [zo7 (by omega) fun i hi => z4g.1 (hp.subset hi)] at h2
  exact h2
theorem y1i {r : z01} {l : List z00} (hr : z2l r = true) (hi : l.all z9u = true) (h0 : 0 < l.length) (h7 : l.length ≤ 7) {F : List Int × Int → Option ((List Int × Int) ⊕ (List Int ⊕ Bool))}
  (hF : ∀ s : List Int × Int, F s = bif decide (s.2 < (List.length l : Int)) then
      chk (decide ((0 : Int) ≤ 0) && decide ((0 : Int) ≤ (wi64 (s.2 + 1))) && decide ((wi64 (s.2 + 1)) ≤ (List.length l : Int))) (
       (z20 (List.drop (Int.toNat 0) (List.take (Int.toNat (wi64 (s.2 + 1))) l))).bind fun (t_7 : (List z00)) =>
       (z2p s.1).bind fun (t_8 : (List Int)) =>
       (z0z r t_7 t_8).bind fun (r_3 : Int × Int) =>
       bif (r_3.2 == 12) then
        some (.inr (.inl []))
       else
        (bif (r_3.2 != 0) then some true else
         (z1t r_3.1 0 (List.length s.1 : Int)).bind fun (t_9 : Bool) =>
         some (!t_9)).bind fun (c_5 : Bool) =>
        bif c_5 then
         Option.map Sum.inr (Option.map Sum.inr (
          some false))
        else
         chk (decide ((0 : Int) ≤ 0) && decide ((0 : Int) ≤ r_3.1) && decide (r_3.1 ≤ (List.length s.1 : Int))) (
          (z2p (List.drop (Int.toNat 0) (List.take (Int.toNat r_3.1) s.1))).bind fun (t_10 : List Int) =>
          (app t_10 [s.2]).bind fun (t_11 : List Int) =>
          chk (decide ((0 : Int) ≤ r_3.1) && decide ((r_3.1 : Int) ≤ (List.length s.1 : Int)) && decide ((List.length s.1 : Int) ≤ (List.length s.1 : Int))) (
           (app t_11 (List.drop (Int.toNat r_3.1) (List.take (Int.toNat (List.length s.1 : Int)) s.1))).bind fun (t_12 : List Int) =>
           some (.inl (t_12, wi64 (s.2 + 1))))))
     else
      some (.inr (.inl s.1))) : z29 F ([], 0) = some (.inl []) ∨ ∃ s, z29 F ([], 0) = some (.inl s) ∧ s.Perm (upto l.length) ∧ okP r l [] s = true := by
 have key : ∀ (k n : Nat) (s : List Int), n + k = l.length → s.Perm (upto n) → (okP r l [] s = true) → z29 F (s, (n : Int)) = some (.inl []) ∨ ∃ s', z29 F (s, (n : Int)) = some (.inl s') ∧ s'.Perm (upto l.length) ∧ okP r l [] s' = true := by
  intro k
  induction k with
  | zero =>
   intro n s hn hp ho
   right
   refine ⟨s, z9t ?_, by rw [← show n = l.length by omega]; exact hp, ho⟩
   rw [hF]
   simp only
   rw [z1s (by omega), cond_false]
  | succ k ih =>
   intro n s hn hp ho
   have hsl : s.length = n := by rw [hp.length_eq, z3g]
   have hstep : F (s, (n : Int)) = (z0z r (l.take (n + 1)) s).bind fun (r_3 : Int × Int) =>
       bif (r_3.2 == 12) then
        some (.inr (.inl []))
       else
        (bif (r_3.2 != 0) then some true else
         (z1t r_3.1 0 (List.length s : Int)).bind fun (t_9 : Bool) =>
         some (!t_9)).bind fun (c_5 : Bool) =>
        bif c_5 then
         Option.map Sum.inr (Option.map Sum.inr (
          some false))
        else
         chk (decide ((0 : Int) ≤ 0) && decide ((0 : Int) ≤ r_3.1) && decide (r_3.1 ≤ (List.length s : Int))) (
          (z2p (List.drop (Int.toNat 0) (List.take (Int.toNat r_3.1) s))).bind fun (t_10 : List Int) =>
          (app t_10 [(n : Int)]).bind fun (t_11 : List Int) =>
          chk (decide ((0 : Int) ≤ r_3.1) && decide ((r_3.1 : Int) ≤ (List.length s : Int)) && decide ((List.length s : Int) ≤ (List.length s : Int))) (
           (app t_11 (List.drop (Int.toNat r_3.1) (List.take (Int.toNat (List.length s : Int)) s))).bind fun (t_12 : List Int) =>
           some (.inl (t_12, (n : Int) + 1)))) := by
    rw [hF]
    simp only
    have htk : List.drop (Int.toNat 0) (List.take (Int.toNat ((n : Int) + 1)) l) = l.take (n + 1) := by
     rw [show ((n : Int) + 1).toNat = n + 1 by omega]; rfl
    rw [z0a (show (n : Int) < (l.length : Int) by omega), cond_true, z0m (x := (n : Int) + 1) (by omega) (by omega), z1h (by rw [z0a (show (0 : Int) ≤ 0 by omega), z0a (show (0 : Int) ≤ (n : Int) + 1 by omega), z0a (show (n : Int) + 1 ≤ (l.length : Int) by omega)]; rfl), htk, zl1 (by rw [List.length_take]; omega), Option.bind_some, zet (by omega), Option.bind_some]
   rcases zwt hr hi h7 (show n < l.length by omega) hp with h | ⟨p, ⟨hp0, hp1⟩, h, hperm, hok⟩
   ·left
    refine z9t ?_
    rw [hstep, h]
    rfl
   ·have hlen := zvd (s := s) (p := p) (x := (n : Int)) hp0 hp1
    have htk : List.drop (Int.toNat 0) (List.take (Int.toNat p) s) = s.take p.toNat := rfl
    have hdr : List.drop (Int.toNat p) (List.take (Int.toNat (s.length : Int)) s) = s.drop p.toNat := by rw [Int.toNat_natCast, List.take_length]
    have hcat : s.take p.toNat ++ [(n : Int)] ++ s.drop p.toNat = insI s p (n : Int) := by unfold insI; simp
    have hil : (s.take p.toNat ++ [(n : Int)] ++ s.drop p.toNat).length = s.length + 1 := by rw [hcat, hlen]
    have hgo : F (s, (n : Int)) = some (.inl (insI s p (n : Int), ((n + 1 : Nat) : Int))) := by
     rw [hstep, h, Option.bind_some]
     simp only
     rw [show ((0 : Int) == 12) = false from rfl, cond_false, show ((0 : Int) != 0) = false from rfl, cond_false, zgq, Option.bind_some, z0a (show 0 ≤ p ∧ p ≤ (s.length : Int) from ⟨hp0, hp1⟩), Option.bind_some, Bool.not_true, cond_false]
     rw [z1h (by rw [z0a (show (0 : Int) ≤ 0 by omega), z0a hp0, z0a hp1]; rfl), htk, zet (by rw [List.length_take]; omega), Option.bind_some, znq (by rw [List.length_take]; simp; omega), Option.bind_some, z1h (by rw [z0a hp0, z0a hp1, z0a (show (s.length : Int) ≤ s.length by omega)]; rfl), hdr, znq (by rw [List.length_append] at hil; rw [hil]; omega), Option.bind_some, hcat]
     rfl
    rw [zh4 hgo]
    exact ih (n + 1) _ (by omega) hperm hok
 exact key l.length 0 [] (by omega) (List.Perm.refl _) rfl
theorem y11 {p : List Int} (hp : zbu p) (hpl : p.length ≤ 1000) {F : List Int × Int → Option ((List Int × Int) ⊕ List Int)} (hF : ∀ s : List Int × Int, F s = bif decide (s.2 < (List.length p : Int)) then
    chk (decide ((0 : Int) ≤ s.2) && decide (s.2 < (List.length p : Int))) (
     (app s.1 [wi64 (2 * (lget 0 p s.2))]).bind fun (t_17 : List Int) =>
     some (.inl (t_17, wi64 (s.2 + 1))))
   else
    some (.inr s.1)) : z29 F ([], 0) = some (p.map (2 * ·)) := by
 refine ze0 (X := Int) (l := p) (fun pre => (pre.map (2 * ·), (pre.length : Int))) (fun pre x post e => ?_) ?_
 ·have hL : p.length = pre.length + (post.length + 1) := by rw [e, List.length_append, List.length_cons]
  have hx := hp x (by rw [e]; simp)
  rw [hF]
  simp only [z82 e]
  rw [z0a (show (pre.length : Int) < (p.length : Int) by omega), cond_true, z1h (by rw [z0a (by omega)]; rfl), z0m (x := 2 * x) (by omega) (by omega), znq (by simp; omega), Option.bind_some, z0m (by omega) (by omega), List.map_append, List.length_append]
  rfl
 ·rw [hF]
  simp only
  rw [z1s (by omega), cond_false]
theorem zw6 {r : z01} (hr : z2l r = true) : (0 ≤ r.2.2.1 ∧ r.2.2.1 ≤ 300000) ∧ (0 ≤ r.2.2.2.1 ∧ r.2.2.2.1 ≤ 300000) ∧ (0 ≤ r.2.2.2.2.2.1 ∧ r.2.2.2.2.2.1 ≤ 70000) := by
 unfold z2l inB at hr
 simp only [Bool.and_eq_true, decide_eq_true_eq] at hr
 exact ⟨hr.1.1.1.1.1.1.2, hr.1.1.1.1.1.2, hr.1.1.1.2⟩
theorem zt4 {a : List Int} (h : a.length ≤ 4294967296) : zaz a a = some true := y02 h
end Go.Lift
namespace Go.Lift
open Go
theorem dblR {r : z01} (hr : z2l r = true) : (r.1, (r.2.1, (r.2.2.1, (r.2.2.2.1, (r.2.2.2.2.1, (r.2.2.2.2.2.1, (wi64 (2 * r.2.2.2.2.2.2.1), (wi64 (2 * r.2.2.2.2.2.2.2.1), wi64 (2 * r.2.2.2.2.2.2.2.2))))))))) = zb1 r := by
 obtain ⟨h1, h2, h3⟩ := zxt hr
 rw [z0m (x := 2 * r.2.2.2.2.2.2.1) (by omega) (by omega), z0m (x := 2 * r.2.2.2.2.2.2.2.1) (by omega) (by omega), z0m (x := 2 * r.2.2.2.2.2.2.2.2) (by omega) (by omega)]
 rfl
def zzq : Option (List Int × Int) → List Int × Int × Int
 | none => ([], 0, 12)
 | some c => (c.1, c.2, 0)
theorem znw {r : z01} {l : List z00} (hl : l.length ≤ 4294967296) (h0 : z4r r l = 0) : z0x r l = some (zzq (zd2 r l)) := by
 rw [y1w hl, if_pos h0]
 cases zd2 r l <;> rfl
theorem zgr (hw : z1d = some true) {r : z01} {x : z5s} :
  z1l r x = some true := by
 obtain ⟨l, p⟩ := x
 unfold z1l
 dsimp only
 rw [hw, Option.bind_some, Bool.not_true, cond_false]
 by_cases h6 : (l.length : Int) > 5
 ·rw [z0a h6]; rfl
 rw [z1s h6, cond_false, zxb (by omega), Option.bind_some, Option.bind_some]
 by_cases h0 : z4r r l = 0
 rotate_left
 ·rw [show (z4r r l != 0) = true by rw [bne_iff_ne]; exact h0]; rfl
 rw [show (z4r r l != 0) = false by rw [h0]; rfl, cond_false, zl4 (by omega), Option.bind_some, Option.bind_some]
 by_cases h2 : z6h l.length p = 0
 rotate_left
 ·rw [show (z6h l.length p != 0) = true by rw [bne_iff_ne]; exact h2]; rfl
 rw [show (z6h l.length p != 0) = false by rw [h2]; rfl, cond_false]
 obtain ⟨hpl, hp⟩ := zmj h2
 obtain ⟨hl0, hl7⟩ := zdv h0
 obtain ⟨hr, hi⟩ := zro h0
 have hl : l.length ≤ 4294967296 := by omega
 simp only [zl1 hl, zet (show p.length ≤ 4294967296 by omega), Option.bind_some]
 rw [znw hl h0, Option.bind_some, zpk hl (by omega), if_pos h0, if_pos h2, Option.bind_some]
 obtain ⟨best, n, e, hres, hcase⟩ : ∃ best n e, zzq (zd2 r l) = (best, n, e) ∧ ((zd2 r l = none ∧ best = [] ∧ n = 0 ∧ e = 12) ∨ (zd2 r l = some (best, n) ∧ e = 0)) := by
  cases hc : zd2 r l with
  | none => exact ⟨_, _, _, rfl, Or.inl ⟨rfl, rfl, rfl, rfl⟩⟩
  | some c => exact ⟨_, _, _, rfl, Or.inr ⟨rfl, rfl⟩⟩
 rw [hres]
 simp only
 have hbest : e = 0 → best.Perm (upto l.length) ∧ okP r l [] best = true ∧ n = z7p (z3z r l) best ∧ (∀ s, s.Perm (upto l.length) → okP r l [] s = true → n ≤ z7p (z3z r l) s) ∧ 0 ≤ n ∧ n ≤ 400000000000 ∧ zc3 r l p ≤ n := fun he => by
  rcases hcase with ⟨_, _, _, h⟩ | ⟨h, _⟩
  ·rw [he] at h; cases h
  ·obtain ⟨c1, c2, c3, c4⟩ := znj h
   have hcl := c1.length_eq
   rw [z3g] at hcl
   have cc := zqj hr hi (zm6 (zlh c1)) (by omega)
   have hb := y1k hr hi hp hpl hl0 c1
   rw [← cc.1] at hb
   simp only at c3 hcl cc hb c4
   exact ⟨c1, c2, c3, c4, by omega, by omega, by omega⟩
 have hlen : e = 0 → best.length = l.length := fun he => by have := (hbest he).1.length_eq; rw [z3g] at this; exact this
 have hbl : best.length ≤ 4294967296 := by
  rcases hcase with ⟨_, h, _, _⟩ | ⟨_, h⟩
  ·rw [h]; simp
  ·rw [hlen h]; omega
 have he : e = 0 ∨ e = 12 := by rcases hcase with ⟨_, _, _, h⟩ | ⟨_, h⟩; exact Or.inr h; exact Or.inl h
 have hc4 : (bif ((0 : Int) != 0) || ((e != 0) && (e != 12)) then some true else
    (bif (e == 0) then
     (bif ((decide (n < zc3 r l p)) || ((List.length best : Int) != (List.length l : Int))) then some true else
      (z5w l best).bind fun (t_6 : Int) =>
      some (t_6 != 0)).bind fun (c_2 : Bool) =>
     some c_2
    else some false).bind fun (c_3 : Bool) =>
    some c_3) = some false := by
  rcases he with he | he
  ·obtain ⟨b1, b2, b3, b4, b5, b6, b7⟩ := hbest he
   subst he
   rw [z1s (show ¬ n < zc3 r l p by omega), show ((best.length : Int) != (l.length : Int)) = false by rw [hlen rfl]; simp, zoh hl hbl, zlh b1]
   rfl
  ·subst he; rfl
 rw [hc4, Option.bind_some, cond_false]
 have hnn : 0 ≤ n ∧ n ≤ 400000000000 := by
  rcases he with he | he
  ·have := hbest he; omega
  ·rcases hcase with ⟨_, _, h, _⟩ | ⟨_, h⟩
   ·omega
   ·omega
 have hbuild := y1i hr hi hl0 hl7 (F := fun s => bif decide (s.2 < (List.length l : Int)) then
      chk (decide ((0 : Int) ≤ 0) && decide ((0 : Int) ≤ (wi64 (s.2 + 1))) && decide ((wi64 (s.2 + 1)) ≤ (List.length l : Int))) (
       (z20 (List.drop (Int.toNat 0) (List.take (Int.toNat (wi64 (s.2 + 1))) l))).bind fun (t_7 : (List z00)) =>
       (z2p s.1).bind fun (t_8 : (List Int)) =>
       (z0z r t_7 t_8).bind fun (r_3 : Int × Int) =>
       bif (r_3.2 == 12) then
        some (.inr (.inl []))
       else
        (bif (r_3.2 != 0) then some true else
         (z1t r_3.1 0 (List.length s.1 : Int)).bind fun (t_9 : Bool) =>
         some (!t_9)).bind fun (c_5 : Bool) =>
        bif c_5 then
         Option.map Sum.inr (Option.map Sum.inr (
          some false))
        else
         chk (decide ((0 : Int) ≤ 0) && decide ((0 : Int) ≤ r_3.1) && decide (r_3.1 ≤ (List.length s.1 : Int))) (
          (z2p (List.drop (Int.toNat 0) (List.take (Int.toNat r_3.1) s.1))).bind fun (t_10 : List Int) =>
          (app t_10 [s.2]).bind fun (t_11 : List Int) =>
          chk (decide ((0 : Int) ≤ r_3.1) && decide ((r_3.1 : Int) ≤ (List.length s.1 : Int)) && decide ((List.length s.1 : Int) ≤ (List.length s.1 : Int))) (
           (app t_11 (List.drop (Int.toNat r_3.1) (List.take (Int.toNat (List.length s.1 : Int)) s.1))).bind fun (t_12 : List Int) =>
           some (.inl (t_12, wi64 (s.2 + 1))))))
     else
      some (.inr (.inl s.1))) (fun s => rfl)
 have rest : (z29 (S := (List Int) × Int) (R := (List Int)) (fun s_1 =>
       bif decide (s_1.2 < (List.length p : Int)) then
        chk (decide ((0 : Int) ≤ s_1.2) && decide (s_1.2 < (List.length p : Int))) (
         (app s_1.1 [wi64 (2 * (lget 0 p s_1.2))]).bind fun (t_17 : List Int) =>
         some (.inl (t_17, wi64 (s_1.2 + 1))))
       else
        some (.inr s_1.1)) ([], 0)) = some (p.map (2 * ·)) := y11 hp (by omega) fun s => rfl
 have hstr : (chk (2 != 0) (
        chk (2 != 0) (
         chk (2 != 0) (
          (z0x (r.1, (r.2.1, (wi64 (Int.tdiv r.2.2.1 2), (wi64 (Int.tdiv r.2.2.2.1 2), (r.2.2.2.2.1, (wi64 (Int.tdiv r.2.2.2.2.2.1 2), r.2.2.2.2.2.2)))))) l).bind fun (r_8 : (List Int) × Int × Int) =>
          some (((r_8.2.2 == 12) && (r_8.2.1 == 0)) || (((r_8.2.2 == 0) && (e == 0)) && (decide (r_8.2.1 ≥ n))))))) : Option Bool) = some true := by
  rw [z1h (by rfl), z1h (by rfl), z1h (by rfl)]
  obtain ⟨v1, v2, v3⟩ := zw6 hr
  have t1 : Int.tdiv r.2.2.1 2 = r.2.2.1 / 2 := Int.tdiv_eq_ediv_of_nonneg v1.1
  have t2 : Int.tdiv r.2.2.2.1 2 = r.2.2.2.1 / 2 := Int.tdiv_eq_ediv_of_nonneg v2.1
  have t3 : Int.tdiv r.2.2.2.2.2.1 2 = r.2.2.2.2.2.1 / 2 := Int.tdiv_eq_ediv_of_nonneg v3.1
  rw [t1, t2, t3, z0m (x := r.2.2.1 / 2) (by omega) (by omega), z0m (x := r.2.2.2.1 / 2) (by omega) (by omega), z0m (x := r.2.2.2.2.2.1 / 2) (by omega) (by omega)]
  obtain ⟨w, hw⟩ : ∃ w : z01, w = (r.1, (r.2.1, (r.2.2.1 / 2, (r.2.2.2.1 / 2, (r.2.2.2.2.1, (r.2.2.2.2.2.1 / 2, r.2.2.2.2.2.2)))))) := ⟨_, rfl⟩
  rw [← hw]
  have hwr : z2l w = true := by
   rw [hw]
   have hr' := hr
   unfold z2l inB at hr' ⊢
   simp only [Bool.and_eq_true, decide_eq_true_eq] at hr' ⊢
   exact ⟨⟨⟨⟨⟨⟨⟨⟨hr'.1.1.1.1.1.1.1.1, hr'.1.1.1.1.1.1.1.2⟩, by omega⟩, by omega⟩, hr'.1.1.1.1.2⟩, by omega⟩, hr'.1.1.2⟩, hr'.1.2⟩, hr'.2⟩
  have hwo : z4r w l = 0 := by
   unfold z4r at h0 ⊢
   rw [hr] at h0
   rw [hwr]
   exact h0
  have hwide : y3e w r := by
   rw [hw]
   refine ⟨rfl, ?_, ?_, ?_, ?_, ?_⟩ <;> dsimp only <;> omega
  have hq : z3z w l = z3z r l := zrk (by rw [hw]) l
  rw [znw hl hwo, Option.bind_some]
  cases hd : zd2 w l with
  | none => rfl
  | some d =>
   obtain ⟨d1, d2, d3, d4⟩ := znj hd
   rw [hq] at d3
   have hok := zrt hi hwr hr hwide d.1 [] (by simpa using zm6 (zlh d1)) d2
   rcases he with he | he
   ·obtain ⟨b1, b2, b3, b4, b5, b6, b7⟩ := hbest he
    have := b4 d.1 d1 hok
    have hdec : decide ((zzq (some d)).2.1 ≥ n) = true := z0a (show d.2 ≥ n by omega)
    rw [he, hdec]
    rfl
   ·rcases hcase with ⟨h, _⟩ | ⟨_, h⟩
    ·have := znk h d.1 d1
     rw [hok] at this; cases this
    ·rw [he] at h; cases h
 have hdbl : ((bif ((bif z2l (zb1 r) then (0 : Int) else 2) == 0) then
       (z6g l (p.map (2 * ·))).bind fun (t_19 : Int) =>
       some (t_19 == 0)
      else some false).bind fun (c_6 : Bool) =>
      (bif c_6 then
       (z0x (zb1 r) l).bind fun (r_6 : (List Int) × Int × Int) =>
       (z1u (zb1 r) l (p.map (2 * ·))).bind fun (r_7 : Int × Int) =>
       (bif ((r_6.2.2 != e) || (r_6.2.1 != (wi64 (2 * n)))) then some true else
        (zaz r_6.1 best).bind fun (t_22 : Bool) =>
        some (!t_22)).bind fun (c_7 : Bool) =>
       bif ((c_7 || (r_7.2 != 0)) || (r_7.1 != (wi64 (2 * zc3 r l p)))) then
        Option.map Sum.inr (
         some false)
       else
        some (.inl ())
      else
       some (.inl ()) : Option ((Unit) ⊕ (Bool)))) = some (.inl ()) := by
  cases hrt : z2l (zb1 r) with
  | false => rfl
  | true =>
  rw [cond_true, show ((0 : Int) == 0) = true from rfl, cond_true, zl4 hl, Option.bind_some, Option.bind_some]
  by_cases hp2 : z6h l.length (p.map (2 * ·)) = 0
  rotate_left
  ·rw [show (z6h l.length (p.map (2 * ·)) == 0) = false by rw [beq_eq_false_iff_ne]; exact hp2]; rfl
  rw [show (z6h l.length (p.map (2 * ·)) == 0) = true by rw [hp2]; rfl, cond_true]
  have hq := (zmj hp2).2
  have hto : z4r (zb1 r) l = 0 := by
   unfold z4r at h0 ⊢
   rw [hr] at h0
   rw [hrt]
   exact h0
  have htb := zxg hr hi hp hpl hl0 hl7
  have hbq : -1000000000000 ≤ zc3 r l p ∧ zc3 r l p ≤ 1000000000000 := by
   unfold zc3
   by_cases h1 : l.length = 1
   ·rw [if_pos h1]; omega
   ·rw [if_neg h1]
    obtain ⟨pre, a, b, _, ht, ha, hb⟩ := zm2 hp (by omega)
    have hs := y2g hp
    rw [ht]
    dsimp only
    omega
  rw [znw hl hto, Option.bind_some, zso hr hrt hi hl0 hl7, zpk hl (by rw [List.length_map]; omega), if_pos hto, if_pos hp2, Option.bind_some, zuc hr hrt hi hp hq hpl hl0, z0m (x := 2 * n) (by omega) (by omega), z0m (x := 2 * zc3 r l p) (by omega) (by omega)]
  rcases hcase with ⟨h, b1, b2, b3⟩ | ⟨h, b3⟩
  ·rw [h, b1, b2, b3]
   show ((bif ((12 : Int) != 12) || ((0 : Int) != 2 * 0) then some true else (zaz [] []).bind fun t_22 => some (!t_22)).bind _) = _
   rw [zt4 (by simp)]
   simp
  ·rw [h, b3]
   show ((bif ((0 : Int) != 0) || (2 * n != 2 * n) then some true else (zaz best best).bind fun t_22 => some (!t_22)).bind _) = _
   rw [zt4 hbl]
   simp
 rcases hbuild with hb | ⟨s, hb, hsp, hso⟩
 ·rw [hb, Option.bind_some]
  simp only
  rw [show ((([] : List Int).length : Int) == (l.length : Int)) = false by rw [beq_eq_false_iff_ne]; simp; omega, cond_false, Option.bind_some]
  simp only
  obtain ⟨c6, hc6, hf6⟩ := Option.bind_eq_some_iff.1 hdbl
  rw [rest, Option.bind_some, dblR hr, zij, Option.bind_some, hc6, Option.bind_some, hf6, Option.bind_some]
  exact hstr
 ·rw [hb, Option.bind_some]
  simp only
  have hsl : s.length = l.length := by rw [hsp.length_eq, z3g]
  have hss := zlh hsp
  have hce : e = 0 ∧ n ≤ z7p (z3z r l) s := by
   rcases hcase with ⟨h, _⟩ | ⟨_, h⟩
   ·have := znk h s hsp
    rw [hso] at this; cases this
   ·exact ⟨h, (hbest h).2.2.2.1 s hsp hso⟩
  rw [show ((s.length : Int) == (l.length : Int)) = true by rw [hsl]; simp, cond_true, zet (by omega), Option.bind_some, zog h0 (by omega) hss, Option.bind_some, Option.bind_some, y04 h0 (by omega) hss, Option.bind_some, hso]
  simp only
  rw [z1s (show ¬ z7p (z3z r l) s < n by omega), hce.1]
  rw [show ((((bif true then (12 : Int) else 0) != 12 || (0 : Int) != 0) || ((0 : Int) != 0)) || false) = false from rfl, cond_false, Option.bind_some]
  simp only
  rw [rest, Option.bind_some, dblR hr, zij, Option.bind_some]
  rw [hce.1] at hdbl hstr
  obtain ⟨c6, hc6, hf6⟩ := Option.bind_eq_some_iff.1 hdbl
  rw [hc6, Option.bind_some, hf6, Option.bind_some]
  exact hstr
end Go.Lift
