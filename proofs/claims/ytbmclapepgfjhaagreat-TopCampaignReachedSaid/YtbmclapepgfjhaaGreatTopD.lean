/-
  Yards and requests of whatever size are checked; plans, move by move.
-/
import Derived.Test.YtbmclapepgfjhaaGreatPlC
set_option linter.unusedSectionVars false
set_option linter.unusedVariables false
set_option linter.unusedSimpArgs false
namespace Go.Lift
open Go
theorem y1g {y : List (List ByteArray)} {i : Int} (hi : (decide ((0 : Int) ≤ i) && decide (i < (List.length y : Int))) = true) {p : List ByteArray} (hp : lget [] y i = p) (hl : p.length ≤ 8) (hs : ∀ x ∈ p, x.size ≤ 9223372036854775807) {all : List ByteArray} (ha : all.length ≤ 1000) :
  z1s (S := (List ByteArray) × Int) (R := ((List ByteArray)) ⊕ (((List ByteArray) × Int) ⊕ (((List ByteArray)) ⊕ (Int × Int)))) (fun s_1 =>
     let all_1 : (List ByteArray) := s_1.1
     let k : Int := s_1.2
     chk (decide ((0 : Int) ≤ i) && decide (i < (List.length y : Int))) (
      bif decide (k < (List.length (lget [] y i) : Int)) then
       chk (decide ((0 : Int) ≤ i) && decide (i < (List.length y : Int))) (
        chk (decide ((0 : Int) ≤ k) && decide (k < (List.length (lget [] y i) : Int))) (
         (zcx (lget ByteArray.empty (lget [] y i) k)).bind fun (t : Bool) =>
         bif !t then
          Option.map Sum.inr (Option.map Sum.inr (
           Option.map Sum.inr (Option.map Sum.inr (
            some (i, 4)))))
         else
          chk (decide ((0 : Int) ≤ i) && decide (i < (List.length y : Int))) (
           chk (decide ((0 : Int) ≤ k) && decide (k < (List.length (lget [] y i) : Int))) (
            (z47 all_1 (lget ByteArray.empty (lget [] y i) k)).bind fun (t_1 : Bool) =>
            bif t_1 then
             Option.map Sum.inr (Option.map Sum.inr (
              Option.map Sum.inr (Option.map Sum.inr (
               some (i, 5)))))
            else
             chk (decide ((0 : Int) ≤ i) && decide (i < (List.length y : Int))) (
              chk (decide ((0 : Int) ≤ k) && decide (k < (List.length (lget [] y i) : Int))) (
               (app all_1 [lget ByteArray.empty (lget [] y i) k]).bind fun (t_2 : List ByteArray) =>
               some (.inl (t_2, wi64 (k + 1)))))))))
      else
       some (.inr (.inl all_1)))) (all, 0) = some (match z7w all p with | .inl all' => .inl all' | .inr e => .inr (.inr (.inr (i, e)))) := by
 rw [hp, hi]
 refine z0n (X := ByteArray) (fun rest s => ∃ pre all', p = pre ++ rest ∧ s = (all', (pre.length : Int)) ∧ all'.length ≤ 1000 + pre.length ∧ z7w all p = z7w all' rest) ?_ ?_ (l := p) ⟨[], all, rfl, rfl, by simpa using ha, rfl⟩
 ·rintro x rest _ ⟨pre, all', h1, rfl, h3, h2⟩
  have hlen := congrArg List.length h1
  rw [List.length_append, List.length_cons] at hlen
  have hg : lget ByteArray.empty p (pre.length : Int) = x := by rw [h1]; exact z1z
  have hx := hs x (by rw [h1]; simp)
  have hk : (decide ((0 : Int) ≤ (pre.length : Int)) && decide ((pre.length : Int) < (p.length : Int))) = true := z0g (z01 (by omega)) (z01 (by omega))
  simp only []
  rw [hk, z01 (show (pre.length : Int) < (p.length : Int) by omega), hg]
  simp only [cond_true, zgn]
  rw [zv2 (by omega), Option.bind_some, zc8 (by omega), zhm (by rw [List.length_singleton]; omega)]
  rw [zc6] at h2
  cases hn : z7l x with
  | false =>
   rw [hn] at h2
   refine Or.inr ?_
   rw [h2]
   rfl
  | true =>
   cases hh : hasB all' x with
   | true =>
    rw [hn, hh] at h2
    refine Or.inr ?_
    rw [h2]
    rfl
   | false =>
    rw [hn, hh] at h2
    refine Or.inl ⟨(all' ++ [x], ((pre ++ [x]).length : Int)), ?_, pre ++ [x], all' ++ [x], by rw [h1]; simp, rfl, by rw [List.length_append, List.length_append, List.length_singleton]; omega, h2⟩
    show some (Sum.inl (all' ++ [x], wi64 ((pre.length : Int) + 1))) = _
    rw [z1p (by omega) (by omega), List.length_append, List.length_singleton]
    rfl
 ·rintro _ ⟨pre, all', h1, rfl, h3, h2⟩
  rw [List.append_nil] at h1
  subst h1
  simp only [zgn]
  rw [z09 (show ¬ (p.length : Int) < (p.length : Int) by omega), cond_false, h2]
  rfl
theorem zn1 {y : List (List ByteArray)} (hy : y.length ≤ 6) (hps : ∀ p ∈ y, ∀ x ∈ p, x.size ≤ 9223372036854775807) : z6i y = some (zbu y) := by
 unfold z6i zbu
 cases (y.length : Int) == 0 with
 | true => rfl
 | false =>
  rw [cond_false, cond_false]
  cases h4 : decide ((y.length : Int) > 4) with
  | true => rfl
  | false =>
   rw [cond_false, cond_false]
   have hl : ∀ F : (List ByteArray) × Int → Option (((List ByteArray) × Int) ⊕ ((List ByteArray) ⊕ (Int × Int))),
     (∀ (pre rest : List (List ByteArray)) (p : List ByteArray) (all : List ByteArray), y = pre ++ p :: rest → all.length ≤ 8 * pre.length → F (all, (pre.length : Int)) = bif decide ((p.length : Int) > 6) then some (.inr (.inr ((pre.length : Int), 8))) else match z7w all p with | .inl all' => some (.inl (all', ((pre.length + 1 : Nat) : Int))) | .inr e => some (.inr (.inr ((pre.length : Int), e)))) →
     (∀ all : List ByteArray, F (all, (y.length : Int)) = some (.inr (.inl all))) → z1s F ([], 0) = some (match zeq 0 [] y with | .inl all => .inl all | .inr e => .inr e) := fun F h1 h2 => by
    refine z0n (X := List ByteArray) (fun rest s => ∃ pre all, y = pre ++ rest ∧ s = (all, (pre.length : Int)) ∧ all.length ≤ 8 * pre.length ∧ zeq 0 [] y = zeq pre.length all rest) ?_ ?_ (l := y) ⟨[], [], rfl, rfl, Nat.le_refl _, rfl⟩
    ·rintro p rest _ ⟨pre, all, e1, rfl, e0, e2⟩
     rw [h1 pre rest p all e1 e0]
     rw [zc5] at e2
     cases e3 : decide ((p.length : Int) > 6) with
     | true => rw [e3] at e2; refine Or.inr ?_; rw [cond_true]; rw [e2]; rfl
     | false =>
      rw [e3, cond_false] at e2
      rw [cond_false]
      cases e4 : z7w all p with
      | inl all' =>
       rw [e4] at e2
       have hpl := zo8 e4
       have : ¬ (p.length : Int) > 6 := of_decide_eq_false e3
       exact Or.inl ⟨_, rfl, pre ++ [p], all', by rw [e1]; simp, by rw [List.length_append, List.length_singleton], by rw [List.length_append, List.length_singleton]; omega, by rw [List.length_append, List.length_singleton]; exact e2⟩
      | inr e => rw [e4] at e2; refine Or.inr ?_; rw [e2]
    ·rintro _ ⟨pre, all, e1, rfl, e0, e2⟩
     rw [List.append_nil] at e1
     subst e1
     rw [h2 all, e2]
     rfl
   rw [hl]
   ·rw [Option.bind_some]
    cases e : zeq 0 [] y with
    | inr z => rfl
    | inl all =>
     simp only []
     cases decide ((all.length : Int) > 8) <;> rfl
   ·intro pre rest p all e1 e0
    have hlen := congrArg List.length e1
    rw [List.length_append, List.length_cons] at hlen
    have hg : lget [] y (pre.length : Int) = p := by rw [e1]; exact z1z
    have hp := hps p (by rw [e1]; simp)
    have hin : (decide ((0 : Int) ≤ (pre.length : Int)) && decide ((pre.length : Int) < (List.length y : Int))) = true := z0g (z01 (by omega)) (z01 (by omega))
    by_cases h6 : (p.length : Int) > 6
    ·simp only []
     rw [hg, hin, z01 (show (pre.length : Int) < (y.length : Int) by omega), cond_true, zgn, z01 h6]
     rfl
    ·have hc := y1g hin hg (by omega) hp (all := all) (by omega)
     simp only []
     rw [hc, hg, hin, z01 (show (pre.length : Int) < (y.length : Int) by omega), cond_true, zgn, z09 h6]
     rw [cond_false, cond_false, Option.bind_some]
     cases z7w all p with
     | inl all' => simp only []; rw [z1p (by omega) (by omega)]; rfl
     | inr e => rfl
   ·intro all
    simp only []
    rw [z09 (show ¬ (y.length : Int) < (y.length : Int) by omega), cond_false]
theorem zwl : ∀ {z : YdT}, (∀ q ∈ z, q.length ≤ 8) → z.flatten.length ≤ 8 * z.length
 | [], _ => Nat.zero_le _
 | q :: z, h => by
  have h1 := h q (by simp)
  have h2 := zwl (z := z) fun r hr => h r (List.mem_cons_of_mem _ hr)
  rw [List.flatten_cons, List.length_append, List.length_cons]
  omega
theorem zq7 {y : List (List ByteArray)} {request : List ByteArray} (hy : y.length ≤ 6) (hps : ∀ p ∈ y, p.length ≤ 8) : z95 y request = some (reqE y request) := by
 have hfl := zwl hps
 unfold z95
 have hl : ∀ F : Int → Option (Int ⊕ (Unit ⊕ Int)), (∀ (pre post : List ByteArray) (x : ByteArray), request = pre ++ x :: post → pre.length ≤ 60000 → F (pre.length : Int) = bif !(y.any fun p => hasB p x) then some (.inr (.inr 6)) else bif hasB pre x then some (.inr (.inr 23)) else some (.inl ((pre.length + 1 : Nat) : Int))) → F (request.length : Int) = some (.inr (.inl ())) →
   z1s F 0 = some (bif reqE y request == 0 then .inl () else .inr (reqE y request)) := fun F h1 h2 => by
  refine z0n (X := ByteArray) (fun rest s => ∃ pre, request = pre ++ rest ∧ s = (pre.length : Int) ∧ (pre.Nodup ∧ ∀ z ∈ pre, z ∈ y.flatten) ∧ reqE y request = reqG y pre rest) ?_ ?_ (l := request) ⟨[], rfl, rfl, ⟨List.nodup_nil, fun z hz => (by cases hz)⟩, rfl⟩
  ·rintro x rest _ ⟨pre, e1, rfl, ⟨en, es⟩, e2⟩
   rw [h1 pre rest x e1 (by have := List.Nodup.length_le_of_subset en es; omega)]
   rw [zkf] at e2
   cases e3 : y.any fun p => hasB p x with
   | false => rw [e3] at e2; refine Or.inr ?_; rw [e2]; rfl
   | true =>
    cases e4 : hasB pre x with
    | true => rw [e3, e4] at e2; refine Or.inr ?_; rw [e2]; rfl
    | false =>
     rw [e3, e4] at e2
     have hx : x ∉ pre := fun e => by rw [z2f.2 e] at e4; cases e4
     rw [List.any_eq_true] at e3
     obtain ⟨q, hq, e3⟩ := e3
     refine Or.inl ⟨_, rfl, pre ++ [x], by rw [e1]; simp, by rw [List.length_append, List.length_singleton], ⟨?_, fun z hz => ?_⟩, e2⟩
     ·rw [List.nodup_append]
      refine ⟨en, by simp, fun a ha b hb => ?_⟩
      rw [List.mem_singleton] at hb
      subst hb
      exact fun e => hx (e ▸ ha)
     ·rcases List.mem_append.1 hz with hz | hz
      ·exact es z hz
      ·rw [List.mem_singleton.1 hz]
       exact List.mem_flatten.2 ⟨q, hq, z2f.1 e3⟩
  ·rintro _ ⟨pre, e1, rfl, _, e2⟩
   rw [List.append_nil] at e1
   subst e1
   rw [h2, e2]
   rfl
 rw [hl]
 ·rw [Option.bind_some]
  cases e : reqE y request == 0 with
  | true =>
   have : reqE y request = 0 := by simpa using e
   rw [this]; rfl
  | false => rfl
 ·intro pre post x hx hpl
  have hlen := congrArg List.length hx
  rw [List.length_append, List.length_cons] at hlen
  have hg : lget ByteArray.empty request (pre.length : Int) = x := by rw [hx]; exact z1z
  have hin : (decide ((0 : Int) ≤ (pre.length : Int)) && decide ((pre.length : Int) < (List.length request : Int))) = true := z0g (z01 (by omega)) (z01 (by omega))
  have hf := zzu (x := x) hy hps hin hg
  simp only [] at hf
  simp only []
  have c1 : (decide ((0 : Int) ≤ 0) && decide ((0 : Int) ≤ (pre.length : Int)) && decide ((pre.length : Int) ≤ (request.length : Int))) = true := z0g (z0g rfl (z01 (by omega))) (z01 (by omega))
  rw [hf, hin, c1, z01 (show (pre.length : Int) < (request.length : Int) by omega), cond_true, Option.bind_some, hg, zrk (show request = pre ++ (x :: post) from hx), zc8 (by omega), z1p (by omega) (by omega), zgn, zgn, Option.bind_some]
  cases y.any fun p => hasB p x with
  | false => rfl
  | true => cases hasB pre x <;> rfl
 ·rw [z09 (show ¬ (request.length : Int) < (request.length : Int) by omega), cond_false]
end Go.Lift
namespace Go.Lift
open Go
theorem zv7 {y : YdT} (hy : y.length ≤ 6) (hps : ∀ p ∈ y, ∀ x ∈ p, x.size ≤ 9223372036854775807) : z8o y = some (zbu y).2 := by
 unfold z8o
 rw [zn1 hy hps, Option.bind_some]
theorem zt3 {y : YdT} (hy : y.length ≤ 6) (hp : ∀ q ∈ y, q.length ≤ 8) : z1k y = some (y.flatten.length : Int) := by
 unfold z1k
 rw [Option.bind_eq_some_iff]
 refine ⟨_, z0n (X := List ByteArray) (fun rest s => ∃ pre, y = pre ++ rest ∧ s = ((pre.flatten.length : Int), (pre.length : Int))) ?_ ?_ (l := y) ⟨[], rfl, rfl⟩, rfl⟩
 ·rintro x rest _ ⟨pre, h1, rfl⟩
  have hlen := congrArg List.length h1
  rw [List.length_append, List.length_cons] at hlen
  have hx : lget [] y (pre.length : Int) = x := by rw [h1]; exact z1z
  have h8 := hp x (by rw [h1]; simp)
  have hf := zwl (z := pre) fun q hq => hp q (by rw [h1]; simp [hq])
  refine Or.inl ⟨(((pre ++ [x]).flatten.length : Int), ((pre ++ [x]).length : Int)), ?_, pre ++ [x], by rw [h1]; simp, rfl⟩
  simp only []
  rw [z01 (show (pre.length : Int) < (y.length : Int) by omega), cond_true, z2v (z0g (z01 (by omega)) rfl), hx, z1p (by omega) (by omega), z1p (by omega) (by omega), List.flatten_append, List.length_append, List.length_append, List.length_singleton]
  simp
 ·rintro _ ⟨pre, h1, rfl⟩
  rw [List.append_nil] at h1
  subst h1
  simp only []
  rw [z09 (show ¬ (y.length : Int) < (y.length : Int) by omega), cond_false]
theorem zud (x : ByteArray) : ∀ y : YdT, hasB y.flatten x = y.any fun p => hasB p x
 | [] => rfl
 | p :: y => by
  have ih := zud x y
  unfold hasB at ih ⊢
  rw [List.flatten_cons, List.any_append, ih, List.any_cons]
theorem zwd {y : YdT} (hy : y.length ≤ 6) (hp : ∀ q ∈ y, q.length ≤ 8) (x : ByteArray) : z1a y x = some (hasB y.flatten x) := by
 rw [zud]
 unfold z1a
 have key : z1s (S := Int) (R := (Unit) ⊕ (Bool)) (fun i =>
  bif decide (i < (List.length y : Int)) then
   chk (decide ((0 : Int) ≤ i) && decide (i < (List.length y : Int))) (
    (z47 (lget [] y i) x).bind fun (t : Bool) =>
    bif t then
     Option.map Sum.inr (Option.map Sum.inr (
      some true))
    else
     some (.inl (wi64 (i + 1))))
  else
   some (.inr (.inl ()))) 0 = some (if (y.any fun p => hasB p x) = true then .inr true else .inl ()) := by
  refine z0n (X := List ByteArray) (fun rest s => ∃ pre, y = pre ++ rest ∧ s = (pre.length : Int) ∧ (y.any fun p => hasB p x) = rest.any fun p => hasB p x) ?_ ?_ (l := y) ⟨[], rfl, rfl, rfl⟩
  ·rintro p rest _ ⟨pre, h1, rfl, h2⟩
   have hlen := congrArg List.length h1
   rw [List.length_append, List.length_cons] at hlen
   have hg : lget [] y (pre.length : Int) = p := by rw [h1]; exact z1z
   have h8 := hp p (by rw [h1]; simp)
   rw [z01 (show (pre.length : Int) < (y.length : Int) by omega), cond_true, z2v (z0g (z01 (by omega)) rfl), hg, zc8 (by omega), Option.bind_some]
   rw [List.any_cons] at h2
   cases e : hasB p x with
   | true =>
    rw [e, Bool.true_or] at h2
    refine Or.inr ?_
    rw [h2, if_pos rfl]
    rfl
   | false =>
    rw [e, Bool.false_or] at h2
    refine Or.inl ⟨((pre ++ [p]).length : Int), ?_, pre ++ [p], by rw [h1]; simp, rfl, h2⟩
    rw [cond_false, z1p (by omega) (by omega), List.length_append, List.length_singleton]
    rfl
  ·rintro _ ⟨pre, h1, rfl, h2⟩
   rw [List.append_nil] at h1
   subst h1
   rw [h2]
   rw [z09 (show ¬ (y.length : Int) < (y.length : Int) by omega), cond_false]
   rfl
 rw [key, Option.bind_some]
 cases y.any fun p => hasB p x <;> rfl
theorem zxe : ∀ {p all : List ByteArray}, (all ++ p).Nodup → (∀ x ∈ p, z7l x = true) → z7w all p = .inl (all ++ p)
 | [], all, _, _ => by rw [List.append_nil]; rfl
 | x :: p, all, hn, hp => by
  have h2 : hasB all x = false := by
   cases e : hasB all x with
   | false => rfl
   | true =>
    rw [List.nodup_append] at hn
    exact absurd rfl (hn.2.2 x (z2f.1 e) x (by simp))
  rw [zc6, hp x (by simp), h2]
  have := zxe (p := p) (all := all ++ [x]) (by simpa using hn) fun z hz => hp z (List.mem_cons_of_mem _ hz)
  simpa using this
theorem zwy : ∀ {y : YdT} {i : Nat} {all : List ByteArray}, (all ++ y.flatten).Nodup → (∀ q ∈ y, q.length ≤ 6) → (∀ x ∈ y.flatten, z7l x = true) → zeq i all y = .inl (all ++ y.flatten)
 | [], i, all, _, _, _ => by rw [List.flatten_nil, List.append_nil]; rfl
 | p :: y, i, all, hn, hl, hp => by
  rw [List.flatten_cons] at hn hp ⊢
  have h6 := hl p (by simp)
  have e1 : z7w all p = .inl (all ++ p) := zxe (by
   rw [← List.append_assoc] at hn
   exact (List.nodup_append.1 hn).1) fun x hx => hp x (List.mem_append_left _ hx)
  rw [zc5, z09 (show ¬ (p.length : Int) > 6 by omega), cond_false, e1]
  have := zwy (y := y) (i := i + 1) (all := all ++ p) (by simpa using hn) (fun q hq => hl q (List.mem_cons_of_mem _ hq)) fun x hx => hp x (List.mem_append_right _ hx)
  simpa using this
theorem y3h {y : YdT} (h0 : 0 < y.length) (h4 : y.length ≤ 4) (hn : y.flatten.Nodup) (hl : ∀ q ∈ y, q.length ≤ 6) (hp : ∀ x ∈ y.flatten, z7l x = true) (h6 : y.flatten.length ≤ 6) : (zbu y).2 = 0 := by
 unfold zbu
 have e := zwy (y := y) (i := 0) (all := []) (by simpa using hn) hl hp
 rw [List.nil_append] at e
 rw [show ((y.length : Int) == 0) = false by rw [beq_eq_false_iff_ne]; omega, cond_false, z09 (show ¬ (y.length : Int) > 4 by omega), cond_false, e]
 simp only []
 rw [z09 (show ¬ (y.flatten.length : Int) > 8 by omega)]
 rfl
theorem zn4 {names req : List ByteArray} {p : Nat} (hc : Cx names req p) (h0 : 0 < p) {s : StT} (hv : Vd names req p s) : Ready s.1 s.2 := by
 have h6 : s.1.flatten.length ≤ 6 := Nat.le_trans (List.Nodup.length_le_of_subset hv.nd hv.sub) hc.nl
 refine ⟨hv.few hc, y3h (by rw [hv.len]; exact h0) (by rw [hv.len]; exact hc.p4) hv.nd hv.piles (fun x hx => hc.nm x (hv.sub x hx)) h6, ?_, h6⟩
 exact zt8 (by simpa using hv.lnd hc.rn) hv.lsub
theorem y3b {y left : YdT × List ByteArray} {m : Int × Int} {c : Nat} (hR : Ready y.1 y.2) (hs : Stp y m left c) : z4t y.1 m = some (left.1, 0) := by
 have h0 := y0c hs
 have hm : zac y.1 m = 0 := by
  unfold okM at h0
  by_cases e : zac y.1 m = 0
  ·exact e
  ·rw [if_neg e] at h0; exact absurd h0 e
 have hmv : zbl y.1 m = some left.1 := by
  cases hs with
  | out hp => exact zty hp
  | mv hp hb hab hl => exact zxl hp hb hab (Nat.le_trans (Nat.le_of_lt hl) (by decide))
 have hlen := hR.few.1
 unfold z4t
 rw [y07 hR.few, cond_true, zms hR.few, Option.bind_some, hR.ye, show ((0 : Int) == 0) = true from rfl, cond_true, zi6 (by omega), Option.bind_some, hm, show ((0 : Int) != 0) = false from rfl, cond_false, hmv, Option.bind_some]
theorem y0m {s s' : StT} {l : List (Int × Int)} {k : Nat} (h : Run s l s' k) : s'.1.flatten.length + s.2.length = s.1.flatten.length + s'.2.length := by
 induction h with
 | nil s => rfl
 | @cons s s1 s2 m l c k hs hl ih =>
  cases hs with
  | @out y left q x a hp =>
   have := (zam hp).length_eq
   simp only [List.length_cons] at this ih ⊢
   omega
  | @mv y left q x a b hp hb hab _ =>
   have h1 := (zam hp).length_eq
   have h2 := (zo4 (y := popY y a) (b := b) (x := x) (by rw [zds]; exact hb)).length_eq
   simp only [List.length_cons] at h1 h2 ih ⊢
   omega
theorem y6b {s s' : StT} {l : List (Int × Int)} {k : Nat} (h : Run s l s' k) : ∀ z ∈ s.1.flatten, z ∉ s.2 → z ∈ s'.1.flatten := by
 induction h with
 | nil s => exact fun z hz _ => hz
 | @cons s s1 s2 m l c k hs hl ih =>
  intro z hz hn
  cases hs with
  | @out y left q x a hp =>
   simp only [List.mem_cons, not_or] at hn
   exact ih z ((List.mem_cons.1 ((zam hp).mem_iff.1 hz)).resolve_left hn.1) hn.2
  | @mv y left q x a b hp hb hab _ =>
   exact ih z ((zo4 (y := popY y a) (b := b) (x := x) (by rw [zds]; exact hb)).mem_iff.2 ((zam hp).mem_iff.1 hz)) hn
end Go.Lift
namespace Go.Lift
open Go
theorem Run.cons_inv {s s' : StT} {m : Int × Int} {l : List (Int × Int)} {k : Nat} (h : Run s (m :: l) s' k) : ∃ s1 c k', Stp s m s1 c ∧ Run s1 l s' k' ∧ k = c + k' := by
 cases h with
 | cons hs hl => exact ⟨_, _, _, hs, hl, rfl⟩
theorem Run.nil_inv {s s' : StT} {k : Nat} (h : Run s [] s' k) : s = s' ∧ k = 0 := by
 cases h
 exact ⟨rfl, rfl⟩
theorem y3i {y : YdT} {req : List ByteArray} {w : Nat} (hbest : ∀ l s c, Run (y, req) l s c → s.2 = [] → w ≤ c) {pre : List (Int × Int)} {s s' : StT} {k0 k : Nat} {rest : List (Int × Int)} (h1 : Run (y, req) pre s k0) (h2 : Run s rest s' k) (h0 : s'.2 = []) (hk : k0 + k = w) (hR : Ready s.1 s.2) :
  ∃ l : List (Int × Int), z2z s.1 s.2 = some (l, 0) ∧ l.length = k + s.2.length ∧ l.length ≤ 36 := by
 obtain ⟨r, p1, p2, p3⟩ := hR.best
 cases hr : r.2 with
 | false => exact absurd h0 ((p3 hr).2 _ _ _ h2)
 | true =>
  obtain ⟨w3, c1, c2, c3, c4, ⟨s3, c5, c6⟩, c7⟩ := p2 hr
  have e1 := c7 _ _ _ h2 h0
  have e2 := hbest _ _ _ (h1.append c5) c6
  refine ⟨r.1, ?_, by omega, c3⟩
  rw [p1, hr]
  rfl
theorem zhq (hw : z1l = some true) (x : z4i) (hs : ∀ p ∈ x.1, ∀ z ∈ p, z.size ≤ 9223372036854775807) : z1u x = some true := by
 obtain ⟨y, request⟩ := x
 simp only at hs
 unfold z1u
 rw [hw, Option.bind_some, Bool.not_true, cond_false]
 by_cases h4 : (y.length : Int) > 4
 ·rw [z01 h4]; rfl
 ·rw [z09 h4, cond_false]
  simp only
  rw [zv7 (by omega) hs]
  simp only [Option.bind_some]
  cases hye : (zbu y).2 != 0 with
  | true => rfl
  | false =>
   have hye0 : (zbu y).2 = 0 := by simpa using hye
   obtain ⟨v1, v2, v3, v4⟩ := zq9 hye0
   have hp8 : ∀ q ∈ y, q.length ≤ 8 := fun q hq => by have := v3 q hq; omega
   rw [cond_false, zq7 (by omega) hp8]
   simp only [Option.bind_some]
   cases hre : reqE y request != 0 with
   | true => rfl
   | false =>
    have hre0 : reqE y request = 0 := by simpa using hre
    rw [cond_false, zt3 (by omega) hp8]
    simp only [Option.bind_some]
    by_cases h6 : (y.flatten.length : Int) > 6
    ·rw [z01 h6]; rfl
    ·rw [z09 h6, cond_false]
     obtain ⟨hc, hv⟩ := zri hye0 hre0 (show y.flatten.length ≤ 6 by omega)
     have h0 : 0 < y.length := by
      rcases Nat.eq_zero_or_pos y.length with e | e
      ·exfalso
       rw [List.eq_nil_of_length_eq_zero e] at hye0
       cases hye0
      ·exact e
     have hR : Ready y request := zn4 hc h0 hv
     have hF := hR.few
     have hrl := hR.cx.rl
     obtain ⟨r, p1, p2, p3⟩ := hR.best
     have hcy := zjy hF
     have hct : z30 request = some request := zhs (by omega)
     rw [hcy, hct]
     simp only [Option.bind_some]
     rw [p1]
     simp only [Option.bind_some]
     cases hr2 : r.2 with
     | false =>
      obtain ⟨q1, _⟩ := p3 hr2
      rw [q1]
      rfl
     | true =>
      obtain ⟨w, c1, c2, c3, c4, ⟨s', c5, c6⟩, c7⟩ := p2 hr2
      obtain ⟨plan, b⟩ := r
      simp only at hr2 c1 c2 c3 c5
      subst hr2
      simp only [if_true, show ((0 : Int) != 0) = false from rfl, cond_false]
      rw [zww (by omega)]
      simp only [Option.bind_some]
      rw [c1]
      simp only [Option.bind_some, show ((0 : Int) != 0) = false from rfl, cond_false]
      rw [z1p (by omega) (by omega), show ((plan.length : Int) != (w : Int) + (request.length : Int)) = false by rw [c2]; simp, Bool.false_or, z09 (show ¬ (plan.length : Int) > 40 by omega), cond_false]
      have hlen0 := y6c c5
      have hvs' := hv.run hc.rn c5
      rw [z0n (X := Int × Int) (t := Sum.inl ((0 : Int), s'.1, s'.2)) (fun rest s => ∃ (pre : List (Int × Int)) (now : YdT) (left : List ByteArray) (k0 k : Nat), plan = pre ++ rest ∧ s = ((k : Int), now, left, (pre.length : Int)) ∧ Run (y, request) pre (now, left) k0 ∧ Run (now, left) rest s' k ∧ k0 + k = w) ?step ?fin (l := plan) (s := ((w : Int), y, request, (0 : Int))) ⟨[], y, request, 0, w, rfl, rfl, .nil _, c5, Nat.zero_add _⟩]
      case step =>
       rintro m rest _ ⟨pre, now, left, k0, k, hpl, rfl, g1, g2, g3⟩
       have hlen := congrArg List.length hpl
       rw [List.length_append, List.length_cons] at hlen
       have hx : lget ((0, 0) : Int × Int) plan (pre.length : Int) = m := by rw [hpl]; exact z1z
       have hvn := hv.run hc.rn g1
       have hRn : Ready now left := zn4 hc h0 hvn
       have hFn := hRn.few
       have hll := hRn.cx.rl
       obtain ⟨s1, c, k', t1, t2, t3⟩ := g2.cons_inv
       have hv1 := hvn.stp hc.rn t1
       have hR1 : Ready s1.1 s1.2 := zn4 hc h0 hv1
       obtain ⟨l3, b1, b2, b3⟩ := y3i c7 g1 g2 c6 g3 hRn
       have hbk : (blkA left now).length ≤ k := by
        have hh := y4s hc.rn hvn g2
        have hz : hS s' = 0 := by
         show hL s'.2 s'.1 = 0
         rw [c6]; exact y4t _
        have : hL left now ≤ k + hS s' := hh
        have e : hL left now = (blkA left now).length := rfl
        omega
       have hin : (decide ((0 : Int) ≤ (pre.length : Int)) && decide ((pre.length : Int) < (plan.length : Int))) = true := z0g (z01 (by omega)) (z01 (by omega))
       have hctn : z30 left = some left := zhs (by omega)
       have hcyn := zjy hFn
       have hmvd : z4t now m = some (s1.1, 0) := y3b (y := (now, left)) hRn t1
       have hye1 : z8o s1.1 = some 0 := by
        unfold z8o
        rw [zpl hR1.few, Option.bind_some, hR1.ye]
       have hcy1 := zjy hR1.few
       refine Or.inl ⟨((k' : Int), s1.1, s1.2, ((pre ++ [m]).length : Int)), ?_, pre ++ [m], s1.1, s1.2, k0 + c, k', by rw [hpl]; simp, rfl, g1.append (Run.one t1), t2, by omega⟩
       simp only []
       rw [z01 (show (pre.length : Int) < (plan.length : Int) by omega), cond_true, hcyn, hctn]
       simp only [Option.bind_some]
       rw [zv6 hFn, hRn.ye, hRn.re]
       simp only [Option.bind_some, show ((0 : Int) != 0) = false from rfl, show ((0 : Int) == 0) = true from rfl, cond_false, cond_true]
       rw [b1]
       simp only [Option.bind_some, show ((0 : Int) != 0) = false from rfl, Bool.false_or]
       rw [z09 (show ¬ ((blkA left now).length : Int) > (k : Int) by omega), cond_false, z1p (show -9223372036854775808 ≤ (k : Int) + (left.length : Int) by omega) (by omega), show ((l3.length : Int) != (k : Int) + (left.length : Int)) = false by rw [b2]; simp]
       simp only [Option.bind_some, cond_false]
       have hin' : (decide ((0 : Int) ≤ (pre.length : Int)) && true) = true := by rw [z01 (show (0 : Int) ≤ (pre.length : Int) by omega)]; rfl
       rw [hin', hx]
       simp only [zgn]
       rw [hmvd]
       simp only [Option.bind_some, show ((0 : Int) != 0) = false from rfl, cond_false]
       rw [hye1]
       simp only [Option.bind_some, show ((0 : Int) != 0) = false from rfl, cond_false]
       cases t1 with
       | @out _ left1 q z a hp =>
        have hpf := zam hp
        have hnd := hpf.nodup hvn.nd
        rw [List.nodup_cons] at hnd
        have ha1 : z1a (popY now a) z = some false := by
         rw [zwd hR1.few.1 fun q hq => (hR1.few.2.2 q hq).1]
         cases e : hasB (popY now a).flatten z with
         | false => rfl
         | true => exact absurd (z2f.1 e) hnd.1
        have ha2 : z1a now z = some true := by
         rw [zwd hFn.1 fun q hq => (hFn.2.2 q hq).1, z2f.2 (hpf.mem_iff.2 (by simp))]
        have e0 : lget ByteArray.empty (z :: left1) 0 = z := rfl
        have hz1 : (decide ((0 : Int) ≤ 0) && decide (0 < (((z :: left1).length : Nat) : Int))) = true := z0g (z01 (Int.le_refl 0)) (z01 (by rw [List.length_cons]; omega))
        have hz2 : (decide ((0 : Int) ≤ 1) && decide ((1 : Int) ≤ (((z :: left1).length : Nat) : Int)) && decide ((((z :: left1).length : Nat) : Int) ≤ (((z :: left1).length : Nat) : Int))) = true := z0g (z0g (z01 (by decide)) (z01 (by rw [List.length_cons]; omega))) (z01 (Int.le_refl _))
        have hz3 : List.drop (Int.toNat 1) (List.take (Int.toNat (((z :: left1).length : Nat) : Int)) (z :: left1)) = left1 := by
         rw [Int.toNat_natCast, List.take_length]
         rfl
        simp only [show ((-1 : Int) == -1) = true from rfl, cond_true]
        rw [show ((((z :: left1).length : Nat) : Int) == 0) = false by rw [beq_eq_false_iff_ne, List.length_cons]; omega, cond_false, hz1, hz2, e0, hz3]
        simp only [zgn]
        rw [ha1, ha2]
        simp only [Option.bind_some, cond_false, Bool.not_true]
        rw [hcy1]
        simp only [Option.bind_some]
        rw [z1p (by omega) (by omega), List.length_append, List.length_singleton, t3]
        simp
       | @mv _ _ q z a b hp hb hab hl =>
        simp only [show ((b : Int) == -1) = false by rw [beq_eq_false_iff_ne]; omega, cond_false, Option.bind_some]
        rw [hcy1]
        simp only [Option.bind_some]
        rw [z1p (show -9223372036854775808 ≤ (k : Int) - 1 by omega) (by omega), z1p (by omega) (by omega), List.length_append, List.length_singleton, show (k : Int) - 1 = (k' : Int) by omega]
        rfl
      case fin =>
       rintro _ ⟨pre, now, left, k0, k, hpl, rfl, g1, g2, g3⟩
       rw [List.append_nil] at hpl
       subst hpl
       obtain ⟨e1, e2⟩ := g2.nil_inv
       subst e2
       rw [← e1]
       simp only []
       rw [z09 (show ¬ (plan.length : Int) < (plan.length : Int) by omega), cond_false]
       rfl
      have hR' : Ready s'.1 s'.2 := zn4 hc h0 hvs'
      have hsl := y0m c5
      rw [c6] at hsl
      simp only [List.length_nil, Nat.add_zero] at hsl
      simp only [Option.bind_some]
      rw [c6]
      simp only [show ((0 : Int) != 0) = false from rfl, Bool.false_or, List.length_nil]
      rw [show ((((0 : Nat) : Int)) != 0) = false from rfl, cond_false, zt3 hR'.few.1 fun q hq => (hR'.few.2.2 q hq).1]
      simp only [Option.bind_some]
      rw [z1p (by omega) (by omega), show ((s'.1.flatten.length : Int) != (y.flatten.length : Int) - (request.length : Int)) = false by rw [show (s'.1.flatten.length : Int) = (y.flatten.length : Int) - (request.length : Int) by omega]; simp]
      simp only [cond_false]
      have hstay : ∀ z ∈ y.flatten, (hasB s'.1.flatten z == hasB request z) = false := by
       intro z hz
       by_cases hq : z ∈ request
       ·have h1 : z ∉ s'.1.flatten := fun hm => by
         have := hvs'.left
         rw [c6] at this
         have hm2 : z ∈ request.filter fun x => hasB s'.1.flatten x := List.mem_filter.2 ⟨hq, z2f.2 hm⟩
         rw [← this] at hm2
         cases hm2
        rw [z2f.2 hq]
        cases e : hasB s'.1.flatten z with
        | false => rfl
        | true => exact absurd (z2f.1 e) h1
       ·have h1 := y6b c5 z hz hq
        rw [z2f.2 h1]
        cases e : hasB request z with
        | false => rfl
        | true => exact absurd (z2f.1 e) hq
      have hpl : ∀ (i : Nat) (q : List ByteArray), y[i]? = some q → lget [] y (i : Int) = q := fun i q hq => by
       unfold lget
       rw [Int.toNat_natCast, List.getD_eq_getElem?_getD, hq]
       rfl
      rw [z0n (X := List ByteArray) (t := Sum.inl ()) (fun rest s => ∃ pre, y = pre ++ rest ∧ s = (pre.length : Int)) ?s1 ?s2 (l := y) (s := (0 : Int)) ⟨[], rfl, rfl⟩]
      ·rfl
      case s1 =>
       rintro q rest _ ⟨pre, e1, rfl⟩
       have hlen := congrArg List.length e1
       rw [List.length_append, List.length_cons] at hlen
       have hx : lget [] y (pre.length : Int) = q := by rw [e1]; exact z1z
       have hq8 := hp8 q (by rw [e1]; simp)
       have hin : (decide ((0 : Int) ≤ (pre.length : Int)) && true) = true := by rw [z01 (show (0 : Int) ≤ (pre.length : Int) by omega)]; rfl
       refine Or.inl ⟨((pre ++ [q]).length : Int), ?_, pre ++ [q], by rw [e1]; simp, rfl⟩
       rw [z01 (show (pre.length : Int) < (y.length : Int) by omega), cond_true, hin, hx]
       simp only [zgn]
       rw [z0n (X := ByteArray) (t := Sum.inl ()) (fun rest s => ∃ pre, q = pre ++ rest ∧ s = (pre.length : Int)) ?i1 ?i2 (l := q) (s := (0 : Int)) ⟨[], rfl, rfl⟩]
       ·simp only [Option.bind_some]
        rw [z1p (by omega) (by omega), List.length_append, List.length_singleton]
        rfl
       case i1 =>
        rintro z rest2 _ ⟨pre2, e2, rfl⟩
        have hlen2 := congrArg List.length e2
        rw [List.length_append, List.length_cons] at hlen2
        have hz : lget ByteArray.empty q (pre2.length : Int) = z := by rw [e2]; exact z1z
        have hin2 : (decide ((0 : Int) ≤ (pre2.length : Int)) && true) = true := by rw [z01 (show (0 : Int) ≤ (pre2.length : Int) by omega)]; rfl
        refine Or.inl ⟨((pre2 ++ [z]).length : Int), ?_, pre2 ++ [z], by rw [e2]; simp, rfl⟩
        rw [z01 (show (pre2.length : Int) < (q.length : Int) by omega), cond_true, hin2, hz]
        simp only [zgn]
        rw [zwd hR'.few.1 fun q hq => (hR'.few.2.2 q hq).1, Option.bind_some, zc8 (by omega), Option.bind_some, hstay z (List.mem_flatten.2 ⟨q, by rw [e1]; simp, by rw [e2]; simp⟩), cond_false, z1p (by omega) (by omega), List.length_append, List.length_singleton]
        rfl
       case i2 =>
        rintro _ ⟨pre2, e2, rfl⟩
        rw [List.append_nil] at e2
        subst e2
        rw [z09 (show ¬ (q.length : Int) < (q.length : Int) by omega), cond_false]
      case s2 =>
       rintro _ ⟨pre, e1, rfl⟩
       rw [List.append_nil] at e1
       subst e1
       rw [z09 (show ¬ (y.length : Int) < (y.length : Int) by omega), cond_false]
end Go.Lift
