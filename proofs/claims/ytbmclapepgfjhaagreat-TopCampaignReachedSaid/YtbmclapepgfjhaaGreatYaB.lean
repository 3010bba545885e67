/-
  Blocking slabs on both sides; the law holds of the plain functions.
-/
import Derived.Test.YtbmclapepgfjhaaGreatYaA
set_option linter.unusedSectionVars false
set_option linter.unusedVariables false
set_option linter.unusedSimpArgs false
namespace Go.Lift
open Go
def fIdx {X : Type} (P : X → Bool) : List X → Nat
 | [] => 0
 | x :: r => bif P x then 0 else fIdx P r + 1
theorem zuj {X : Type} (P : X → Bool) (x : X) (r : List X) : fIdx P (x :: r) = bif P x then 0 else fIdx P r + 1 := rfl
theorem zwn {X : Type} (P : X → Bool) : ∀ l : List X, fIdx P l ≤ l.length
 | [] => Nat.le_refl _
 | x :: r => by
  have := zwn P r
  unfold fIdx
  cases P x
  ·rw [cond_false, List.length_cons]; omega
  ·rw [cond_true]; exact Nat.zero_le _
theorem zl3 {X : Type} (P : X → Bool) : ∀ l : List X, l.any P = decide (fIdx P l < l.length)
 | [] => rfl
 | x :: r => by
  have ih := zl3 P r
  unfold fIdx
  rw [List.any_cons, List.length_cons]
  cases P x
  ·rw [cond_false, Bool.false_or, ih]
   congr 1
   rw [eq_iff_iff]; omega
  ·rw [cond_true, Bool.true_or, z01 (by omega)]
theorem zoy {X R : Type} {l : List X} {P : X → Bool} {F : Int → Option (Int ⊕ R)} {g : Nat → R} {e : R}
  (hstep : ∀ (pre post : List X) (x : X), l = pre ++ x :: post → F (pre.length : Int) = some (bif P x then .inr (g pre.length) else .inl ((pre.length + 1 : Nat) : Int)))
  (hend : F (l.length : Int) = some (.inr e)) : z1s F 0 = some (if fIdx P l < l.length then g (fIdx P l) else e) := by
 refine z0n (X := X) (fun rest s => ∃ pre, l = pre ++ rest ∧ s = (pre.length : Int) ∧ fIdx P l = pre.length + fIdx P rest) ?_ ?_ (l := l) ⟨[], rfl, rfl, by simp⟩
 ·rintro x rest _ ⟨pre, h1, rfl, h2⟩
  have hlen := congrArg List.length h1
  rw [List.length_append, List.length_cons] at hlen
  rw [hstep pre rest x h1]
  rw [zuj] at h2
  cases hx : P x with
  | true =>
   rw [hx, cond_true, Nat.add_zero] at h2
   exact Or.inr (by rw [h2, if_pos (by omega)]; rfl)
  | false =>
   rw [hx, cond_false] at h2
   exact Or.inl ⟨_, rfl, pre ++ [x], by rw [h1]; simp, by rw [List.length_append, List.length_singleton], by rw [h2, List.length_append, List.length_singleton]; omega⟩
 ·rintro _ ⟨pre, h1, rfl, h2⟩
  rw [List.append_nil] at h1
  subst h1
  rw [hend, if_neg (by rw [h2]; omega)]
def idxI (l : List ByteArray) (x : ByteArray) : Int := if fIdx (fun z => seqb z x) l < l.length then ((fIdx (fun z => seqb z x) l : Nat) : Int) else -1
theorem zsw {l : List ByteArray} {x : ByteArray} (h : l.length ≤ 60000) : slices_Index_string l x = some (idxI l x) := by
 unfold slices_Index_string idxI
 have hf := zoy (l := l) (P := fun z => seqb z x) (R := Unit ⊕ Int) (g := fun k => .inr (k : Int)) (e := .inl ()) (F := fun t =>
  bif decide (t < (List.length l : Int)) then
   chk (decide ((0 : Int) ≤ t) && decide (t < (List.length l : Int))) (
    bif seqb x (lget ByteArray.empty l t) then
     Option.map Sum.inr (Option.map Sum.inr (
      some t))
    else
     some (.inl (wi64 (t + 1))))
  else
   some (.inr (.inl ()))) (fun pre post z hz => by
  have hlen := congrArg List.length hz
  rw [List.length_append, List.length_cons] at hlen
  have hg : lget ByteArray.empty l (pre.length : Int) = z := by rw [hz]; exact z1z
  rw [z01 (show (pre.length : Int) < (l.length : Int) by omega), cond_true, z2v (z0g (z01 (by omega)) rfl), hg, z1p (by omega) (by omega), znr x z]
  cases seqb z x <;> rfl) (by rw [z09 (show ¬ (l.length : Int) < (l.length : Int) by omega), cond_false])
 rw [hf, Option.bind_some]
 by_cases hlt : fIdx (fun z => seqb z x) l < l.length
 ·rw [if_pos hlt, if_pos hlt]
 ·rw [if_neg hlt, if_neg hlt]
theorem zjz {l : List ByteArray} {x : ByteArray} (h : l.length ≤ 60000) : slices_Contains_string l x = some (hasB l x) := by
 unfold slices_Contains_string hasB
 rw [zsw h, Option.bind_some, zl3]
 unfold idxI
 by_cases hlt : fIdx (fun z => seqb z x) l < l.length
 ·rw [if_pos hlt, z01 hlt, z01 (by omega)]
 ·rw [if_neg hlt, z09 hlt, z09 (by omega)]
theorem zpp {s : List (List ByteArray)} {f : List ByteArray → Option Bool} {Q : List ByteArray → Bool} (h : s.length ≤ 60000) (hf : ∀ p ∈ s, f p = some (Q p)) : z0y s f = some (s.any Q) := by
 unfold z0y z26
 have hl := zoy (l := s) (P := Q) (R := Unit ⊕ Int) (g := fun k => .inr (k : Int)) (e := .inl ()) (F := fun t =>
  bif decide (t < (List.length s : Int)) then
   chk (decide ((0 : Int) ≤ t) && decide (t < (List.length s : Int))) (
    (f (lget [] s t)).bind fun (t_1 : Bool) =>
    bif t_1 then
     Option.map Sum.inr (Option.map Sum.inr (
      some t))
    else
     some (.inl (wi64 (t + 1))))
  else
   some (.inr (.inl ()))) (fun pre post z hz => by
  have hlen := congrArg List.length hz
  rw [List.length_append, List.length_cons] at hlen
  have hg : lget [] s (pre.length : Int) = z := by rw [hz]; exact z1z
  rw [z01 (show (pre.length : Int) < (s.length : Int) by omega), cond_true, z2v (z0g (z01 (by omega)) rfl), hg, hf z (by rw [hz]; simp), Option.bind_some, z1p (by omega) (by omega)]
  cases Q z <;> rfl) (by rw [z09 (show ¬ (s.length : Int) < (s.length : Int) by omega), cond_false])
 rw [hl, Option.bind_some, zl3]
 by_cases hlt : fIdx Q s < s.length
 ·rw [if_pos hlt, z01 hlt]
  show some (decide (((fIdx Q s : Nat) : Int) ≥ 0)) = _
  rw [z01 (by omega)]
 ·rw [if_neg hlt, z09 hlt]; rfl
theorem zll {s : List ByteArray} {f : ByteArray → Option Bool} {Q : ByteArray → Bool} (h : s.length ≤ 60000) (hf : ∀ p ∈ s, f p = some (Q p)) : z0j s f = some (s.any Q) := by
 unfold z0j z1g
 have hl := zoy (l := s) (P := Q) (R := Unit ⊕ Int) (g := fun k => .inr (k : Int)) (e := .inl ()) (F := fun t =>
  bif decide (t < (List.length s : Int)) then
   chk (decide ((0 : Int) ≤ t) && decide (t < (List.length s : Int))) (
    (f (lget ByteArray.empty s t)).bind fun (t_1 : Bool) =>
    bif t_1 then
     Option.map Sum.inr (Option.map Sum.inr (
      some t))
    else
     some (.inl (wi64 (t + 1))))
  else
   some (.inr (.inl ()))) (fun pre post z hz => by
  have hlen := congrArg List.length hz
  rw [List.length_append, List.length_cons] at hlen
  have hg : lget ByteArray.empty s (pre.length : Int) = z := by rw [hz]; exact z1z
  rw [z01 (show (pre.length : Int) < (s.length : Int) by omega), cond_true, z2v (z0g (z01 (by omega)) rfl), hg, hf z (by rw [hz]; simp), Option.bind_some, z1p (by omega) (by omega)]
  cases Q z <;> rfl) (by rw [z09 (show ¬ (s.length : Int) < (s.length : Int) by omega), cond_false])
 rw [hl, Option.bind_some, zl3]
 by_cases hlt : fIdx Q s < s.length
 ·rw [if_pos hlt, z01 hlt]
  show some (decide (((fIdx Q s : Nat) : Int) ≥ 0)) = _
  rw [z01 (by omega)]
 ·rw [if_neg hlt, z09 hlt]; rfl
end Go.Lift
namespace Go.Lift
open Go
def reqG (y : List (List ByteArray)) : List ByteArray → List ByteArray → Int
 | _, [] => 0
 | pre, x :: r => bif !(y.any fun p => hasB p x) then 6 else bif hasB pre x then 23 else reqG y (pre ++ [x]) r
theorem zkf (y : List (List ByteArray)) (pre : List ByteArray) (x : ByteArray) (r : List ByteArray) : reqG y pre (x :: r) = bif !(y.any fun p => hasB p x) then 6 else bif hasB pre x then 23 else reqG y (pre ++ [x]) r := rfl
def reqE (y : List (List ByteArray)) (request : List ByteArray) : Int := reqG y [] request
theorem zzu {y : List (List ByteArray)} {x : ByteArray} (hy : y.length ≤ 6) (hp : ∀ p ∈ y, p.length ≤ 8) {request : List ByteArray} {i : Int} (hi : (decide ((0 : Int) ≤ i) && decide (i < (List.length request : Int))) = true) (hx : lget ByteArray.empty request i = x) : z1s (S := Bool × Int) (R := Bool) (fun s =>
   let found : Bool := s.1
   let k : Int := s.2
   bif decide (k < (List.length y : Int)) then
    (bif found then some true else
     chk (decide ((0 : Int) ≤ k) && decide (k < (List.length y : Int))) (
      chk (decide ((0 : Int) ≤ i) && decide (i < (List.length request : Int))) (
       (z47 (lget [] y k) (lget ByteArray.empty request i)).bind fun (t : Bool) =>
       some t))).bind fun (c : Bool) =>
    some (.inl (c, wi64 (k + 1)))
   else
    some (.inr found)) (false, 0) = some (y.any fun p => hasB p x) := by
 rw [hi, hx]
 refine z0n (X := List ByteArray) (fun rest s => ∃ pre b, y = pre ++ rest ∧ s = (b, (pre.length : Int)) ∧ (y.any fun p => hasB p x) = (b || rest.any fun p => hasB p x)) ?_ ?_ (l := y) ⟨[], false, rfl, rfl, by simp⟩
 ·rintro p rest _ ⟨pre, b, h1, rfl, h2⟩
  have hlen := congrArg List.length h1
  rw [List.length_append, List.length_cons] at hlen
  have hg : lget [] y (pre.length : Int) = p := by rw [h1]; exact z1z
  refine Or.inl ⟨(b || hasB p x, ((pre ++ [p]).length : Int)), ?_, pre ++ [p], b || hasB p x, by rw [h1]; simp, rfl, by rw [h2, List.any_cons, Bool.or_assoc]⟩
  simp only []
  rw [z01 (show (pre.length : Int) < (y.length : Int) by omega), cond_true, z2v (z0g (z01 (by omega)) rfl), hg, zgn, zc8 (by have := hp p (by rw [h1]; simp); omega), Option.bind_some, z1p (by omega) (by omega), List.length_append, List.length_singleton]
  cases b <;> rfl
 ·rintro _ ⟨pre, b, h1, rfl, h2⟩
  rw [List.append_nil] at h1
  subst h1
  simp only []
  rw [z09 (show ¬ (y.length : Int) < (y.length : Int) by omega), cond_false, h2]
  simp
theorem zrk {X : Type} {l pre post : List X} (h : l = pre ++ post) : List.drop (Int.toNat 0) (List.take (Int.toNat (pre.length : Int)) l) = pre := by
 rw [h, Int.toNat_natCast, List.take_left]
 rfl
theorem zeb {y : List (List ByteArray)} {request : List ByteArray} (h : Few y request) : z1f y request = some (bif (zbu y).2 != 0 then ([], (zbu y).2) else bif reqE y request == 0 then (y, 0) else ([], reqE y request)) := by
 have hF := h
 obtain ⟨hy, ⟨hr, _⟩, hps⟩ := h
 unfold z1f
 rw [zvw hF, Option.bind_some]
 cases he : (zbu y).2 != 0 with
 | true => rfl
 | false =>
  rw [cond_false, cond_false]
  have hl : ∀ F : Int → Option (Int ⊕ (Unit ⊕ (List (List ByteArray) × Int))), (∀ (pre post : List ByteArray) (x : ByteArray), request = pre ++ x :: post → F (pre.length : Int) = bif !(y.any fun p => hasB p x) then some (.inr (.inr ([], 6))) else bif hasB pre x then some (.inr (.inr ([], 23))) else some (.inl ((pre.length + 1 : Nat) : Int))) → F (request.length : Int) = some (.inr (.inl ())) →
    z1s F 0 = some (bif reqE y request == 0 then .inl () else .inr ([], reqE y request)) := fun F h1 h2 => by
   refine z0n (X := ByteArray) (fun rest s => ∃ pre, request = pre ++ rest ∧ s = (pre.length : Int) ∧ reqE y request = reqG y pre rest) ?_ ?_ (l := request) ⟨[], rfl, rfl, rfl⟩
   ·rintro x rest _ ⟨pre, e1, rfl, e2⟩
    rw [h1 pre rest x e1]
    rw [zkf] at e2
    cases e3 : y.any fun p => hasB p x with
    | false => rw [e3] at e2; refine Or.inr ?_; rw [e2]; rfl
    | true =>
     cases e4 : hasB pre x with
     | true => rw [e3, e4] at e2; refine Or.inr ?_; rw [e2]; rfl
     | false =>
      rw [e3, e4] at e2
      exact Or.inl ⟨_, rfl, pre ++ [x], by rw [e1]; simp, by rw [List.length_append, List.length_singleton], e2⟩
   ·rintro _ ⟨pre, e1, rfl, e2⟩
    rw [List.append_nil] at e1
    subst e1
    rw [h2, e2]
    rfl
  rw [hl]
  ·rw [Option.bind_some]
   cases e : reqE y request == 0 <;> rfl
  ·intro pre post x hx
   have hlen := congrArg List.length hx
   rw [List.length_append, List.length_cons] at hlen
   have hg : lget ByteArray.empty request (pre.length : Int) = x := by rw [hx]; exact z1z
   have hc : z0y y (fun z => z1q z x) = some (y.any fun p => hasB p x) := zpp (by omega) fun p hp => by
    unfold z1q
    rw [zjz (by have := (hps p hp).1; omega)]; rfl
   have hin : (decide ((0 : Int) ≤ (pre.length : Int)) && decide ((pre.length : Int) < (List.length request : Int))) = true := z0g (z01 (by omega)) (z01 (by omega))
   have c1 : (decide ((0 : Int) ≤ 0) && decide ((0 : Int) ≤ (pre.length : Int)) && decide ((pre.length : Int) ≤ (request.length : Int))) = true := z0g (z0g rfl (z01 (by omega))) (z01 (by omega))
   simp only []
   rw [hin, c1, hg, hc, z01 (show (pre.length : Int) < (request.length : Int) by omega), cond_true, zgn, Option.bind_some, z48, Option.bind_some, zrk (show request = pre ++ (x :: post) from hx), zgn, zjz (by omega), Option.bind_some, z48, Option.bind_some, zfr (by simp), Option.bind_some, z1p (by omega) (by omega)]
   cases y.any fun p => hasB p x with
   | false => cases hasB pre x <;> rfl
   | true => cases hasB pre x <;> rfl
  ·rw [z09 (show ¬ (request.length : Int) < (request.length : Int) by omega), cond_false]
end Go.Lift
namespace Go.Lift
open Go
def zo6 (request : List ByteArray) (x : ByteArray) : Nat := fIdx (fun z => seqb z x) request
def blkQ (request : List ByteArray) (name below : ByteArray) : Bool := decide ((zo6 request below : Int) < (zo6 request name : Int))
theorem zus {request : List ByteArray} (h : request.length ≤ 10) (below name : ByteArray) : z0x below request name = some (blkQ request name below) := by
 unfold z0x z5x blkQ zo6
 rw [zjz (by omega), Option.bind_some, zsw (by omega), Option.bind_some, zsw (by omega)]
 unfold hasB idxI
 rw [zl3]
 have h1 := zwn (fun z => seqb z below) request
 have h2 := zwn (fun z => seqb z name) request
 generalize fIdx (fun z => seqb z below) request = a at *
 generalize fIdx (fun z => seqb z name) request = b at *
 by_cases ha : a < request.length
 ·rw [z01 ha, cond_true, if_pos ha]
  by_cases hb : b < request.length
  ·rw [if_pos hb, z09 (show ¬ (b : Int) < 0 by omega), cond_false, Option.bind_some, Option.bind_some]
   simp only [Option.bind_some]
  ·rw [if_neg hb, z01 (show (-1 : Int) < 0 by omega), cond_true, z01 (show (a : Int) < (b : Int) by omega)]
   rfl
 ·rw [z09 ha, cond_false, z09 (show ¬ (a : Int) < (b : Int) by omega)]; rfl
def blkG (request : List ByteArray) : List ByteArray → List ByteArray → List ByteArray
 | _, [] => []
 | pre, x :: r => (bif pre.any (blkQ request x) then [x] else []) ++ blkG request (pre ++ [x]) r
theorem zb4 (request pre : List ByteArray) (x : ByteArray) (r : List ByteArray) : blkG request pre (x :: r) = (bif pre.any (blkQ request x) then [x] else []) ++ blkG request (pre ++ [x]) r := rfl
theorem zsq (request : List ByteArray) : ∀ (r pre : List ByteArray), (blkG request pre r).length ≤ r.length
 | [], _ => Nat.le_refl _
 | x :: r, pre => by
  have := zsq request r (pre ++ [x])
  rw [zb4, List.length_append, List.length_cons]
  cases pre.any (blkQ request x)
  ·rw [cond_false, List.length_nil]; omega
  ·rw [cond_true, List.length_singleton]; omega
theorem y43 {y : List (List ByteArray)} {request : List ByteArray} (hr : request.length ≤ 10) {t : Int} {p : List ByteArray} (hp : lget [] y t = p) (hl : p.length ≤ 8) {out : List ByteArray} (ho : out.length ≤ 100) :
  z1s (S := (List ByteArray) × Int) (R := (List ByteArray)) (fun s_1 =>
    let out_1 : (List ByteArray) := s_1.1
    let t_1 : Int := s_1.2
    bif decide (t_1 < (List.length (lget [] y t) : Int)) then
     chk (decide ((0 : Int) ≤ t_1) && decide (t_1 < (List.length (lget [] y t) : Int))) (
      let name : ByteArray := lget ByteArray.empty (lget [] y t) t_1
      chk (decide ((0 : Int) ≤ 0) && decide ((0 : Int) ≤ t_1) && decide (t_1 ≤ (List.length (lget [] y t) : Int))) (
       (z0j (List.drop (Int.toNat 0) (List.take (Int.toNat t_1) (lget [] y t))) (fun x => z0x x request name)).bind fun (t_2 : Bool) =>
       (bif t_2 then
        (app out_1 [name]).bind fun (t_3 : List ByteArray) =>
        some t_3
       else
        some out_1).bind fun (out_2 : (List ByteArray)) =>
       some (.inl (out_2, wi64 (t_1 + 1)))))
    else
     some (.inr out_1)) (out, 0) = some (out ++ blkG request [] p) := by
 rw [hp]
 refine z0n (X := ByteArray) (fun rest s => ∃ pre o, p = pre ++ rest ∧ s = (o, (pre.length : Int)) ∧ o.length ≤ 100 + pre.length ∧ out ++ blkG request [] p = o ++ blkG request pre rest) ?_ ?_ (l := p) ⟨[], out, rfl, rfl, by simpa using ho, rfl⟩
 ·rintro x rest _ ⟨pre, o, h1, rfl, h3, h2⟩
  have hlen := congrArg List.length h1
  rw [List.length_append, List.length_cons] at hlen
  have hg : lget ByteArray.empty p (pre.length : Int) = x := by rw [h1]; exact z1z
  have hin : (decide ((0 : Int) ≤ (pre.length : Int)) && decide ((pre.length : Int) < (List.length p : Int))) = true := z0g (z01 (by omega)) (z01 (by omega))
  have c1 : (decide ((0 : Int) ≤ 0) && decide ((0 : Int) ≤ (pre.length : Int)) && decide ((pre.length : Int) ≤ (p.length : Int))) = true := z0g (z0g rfl (z01 (by omega))) (z01 (by omega))
  have hc : z0j pre (fun z => z0x z request x) = some (pre.any (blkQ request x)) := zll (by omega) fun z hz => zus hr z x
  simp only []
  rw [hin, c1, z01 (show (pre.length : Int) < (p.length : Int) by omega), cond_true, zgn, zgn, hg, zrk (show p = pre ++ (x :: rest) from h1), hc, Option.bind_some, zhm (by rw [List.length_singleton]; omega), z1p (by omega) (by omega)]
  rw [zb4] at h2
  cases hq : pre.any (blkQ request x) with
  | true =>
   rw [hq, cond_true] at h2
   exact Or.inl ⟨(o ++ [x], ((pre.length + 1 : Nat) : Int)), rfl, pre ++ [x], o ++ [x], by rw [h1]; simp, by rw [List.length_append, List.length_singleton], by rw [List.length_append, List.length_append, List.length_singleton]; omega, by rw [h2]; simp⟩
  | false =>
   rw [hq, cond_false] at h2
   exact Or.inl ⟨(o, ((pre.length + 1 : Nat) : Int)), rfl, pre ++ [x], o, by rw [h1]; simp, by rw [List.length_append, List.length_singleton], by rw [List.length_append, List.length_singleton]; omega, by rw [h2]; simp⟩
 ·rintro _ ⟨pre, o, h1, rfl, h3, h2⟩
  rw [List.append_nil] at h1
  subst h1
  simp only []
  rw [z09 (show ¬ (p.length : Int) < (p.length : Int) by omega), cond_false, h2]
  show _ = some (Sum.inr (o ++ []))
  rw [List.append_nil]
def blkA (request : List ByteArray) (y : List (List ByteArray)) : List ByteArray := y.flatMap (blkG request [])
theorem zyc {request : List ByteArray} : ∀ {y : List (List ByteArray)}, (∀ p ∈ y, p.length ≤ 8) → (blkA request y).length ≤ 8 * y.length
 | [], _ => Nat.le_refl _
 | p :: y, h => by
  have h1 := zyc (request := request) (y := y) fun q hq => h q (List.mem_cons_of_mem _ hq)
  have h2 := zsq request p []
  have h3 := h p List.mem_cons_self
  unfold blkA at h1 ⊢
  rw [List.flatMap_cons, List.length_append, List.length_cons]
  omega
theorem zz0 {y : List (List ByteArray)} {request : List ByteArray} (hy : y.length ≤ 6) (hp : ∀ p ∈ y, p.length ≤ 8) {F : (List ByteArray) × Int → Option (((List ByteArray) × Int) ⊕ List ByteArray)}
  (h1 : ∀ (pre post : List (List ByteArray)) (p : List ByteArray) (out : List ByteArray), y = pre ++ p :: post → out.length ≤ 100 → F (out, (pre.length : Int)) = some (.inl (out ++ blkG request [] p, ((pre.length + 1 : Nat) : Int)))) (h2 : ∀ out, F (out, (y.length : Int)) = some (.inr out)) : z1s F ([], 0) = some (blkA request y) := by
 refine z0n (X := List ByteArray) (fun rest s => ∃ pre, y = pre ++ rest ∧ s = (blkA request pre, (pre.length : Int))) ?_ ?_ (l := y) ⟨[], rfl, rfl⟩
 ·rintro p rest _ ⟨pre, e1, rfl⟩
  have hlen := congrArg List.length e1
  rw [List.length_append, List.length_cons] at hlen
  have hb := zyc (request := request) (y := pre) fun q hq => hp q (by rw [e1]; exact List.mem_append_left _ hq)
  refine Or.inl ⟨_, h1 pre rest p _ e1 (by omega), pre ++ [p], by rw [e1]; simp, ?_⟩
  unfold blkA
  rw [List.flatMap_append, List.length_append, List.length_singleton]
  simp
 ·rintro _ ⟨pre, e1, rfl⟩
  rw [List.append_nil] at e1
  subst e1
  rw [h2]
theorem zpf {y : List (List ByteArray)} {request : List ByteArray} (h : Few y request) : z19 y request = some (blkA request y) := by
 obtain ⟨hy, ⟨hr, _⟩, hps⟩ := h
 unfold z19
 rw [zz0 (request := request) hy (fun p hp => (hps p hp).1)]
 ·rfl
 ·intro pre post p out hx ho
  have hlen := congrArg List.length hx
  rw [List.length_append, List.length_cons] at hlen
  have hg : lget [] y (pre.length : Int) = p := by rw [hx]; exact z1z
  have hb := y43 (request := request) hr hg (hps p (by rw [hx]; simp)).1 ho
  simp only [] at hb ⊢
  rw [hb, z01 (show (pre.length : Int) < (y.length : Int) by omega), cond_true, z2v (z0g (z01 (by omega)) rfl), Option.bind_some, z1p (by omega) (by omega)]
  rfl
 ·intro out
  simp only []
  rw [z09 (show ¬ (y.length : Int) < (y.length : Int) by omega), cond_false]
theorem zv6 {y : List (List ByteArray)} {request : List ByteArray} (h : Few y request) : z2i y request = some (bif (zbu y).2 != 0 then ([], (zbu y).2) else bif reqE y request == 0 then (blkA request y, 0) else ([], reqE y request)) := by
 unfold z2i
 rw [zeb h, Option.bind_some]
 cases he : (zbu y).2 != 0 with
 | true => simp only [cond_true]; rw [he]; rfl
 | false =>
  rw [cond_false, cond_false]
  cases hq : reqE y request == 0 with
  | true => simp only [cond_true]; rw [zpf h]; rfl
  | false => simp only [cond_false]; rw [show (reqE y request != 0) = true by rw [bne, hq]; rfl]; rfl
end Go.Lift
