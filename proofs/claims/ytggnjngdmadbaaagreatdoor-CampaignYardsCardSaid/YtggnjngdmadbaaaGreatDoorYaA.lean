/-
  Few piles, their copies, moves on both sides.
-/
import Derived.Test.YtggnjngdmadbaaaGreatDoorYaF
import Derived.Test.YtggnjngdmadbaaaGreatDoorPlainB
set_option linter.unusedSectionVars false
set_option linter.unusedVariables false
set_option linter.unusedSimpArgs false
namespace Go.Lift
open Go
def zgw (l : List ByteArray) (most : Nat) : Bool := decide (l.length ≤ most) && l.all fun x => decide (x.size ≤ 20)
theorem y97 (l : List ByteArray) {most : Nat} (hm : most ≤ 1000) : zf0 l (most : Int) = some (zgw l most) := by
 unfold zf0 zgw
 by_cases h : l.length ≤ most
 ·rw [z06 (show ¬ (l.length : Int) > (most : Int) by omega), cond_false, z03 h, Bool.true_and]
  have hl : z1v (S := Int) (R := (Unit) ⊕ (Bool)) (fun i =>
   bif decide (i < (List.length l : Int)) then
    chk (decide ((0 : Int) ≤ i) && decide (i < (List.length l : Int))) (
     bif decide ((ByteArray.size (lget ByteArray.empty l i) : Int) > 20) then
      Option.map Sum.inr (Option.map Sum.inr (
       some false))
     else
      some (.inl (wi64 (i + 1))))
   else
    some (.inr (.inl ()))) 0 = some (bif l.all (fun x => decide (x.size ≤ 20)) then .inl () else .inr false) := by
   refine z0y (X := ByteArray) (fun rest s => ∃ pre, l = pre ++ rest ∧ s = (pre.length : Int) ∧ l.all (fun x => decide (x.size ≤ 20)) = rest.all (fun x => decide (x.size ≤ 20))) ?_ ?_ (l := l) ⟨[], rfl, rfl, rfl⟩
   ·rintro x rest _ ⟨pre, h1, rfl, h2⟩
    have hlen := congrArg List.length h1
    rw [List.length_append, List.length_cons] at hlen
    have hg : lget ByteArray.empty l (pre.length : Int) = x := by rw [h1]; exact z3f
    rw [z03 (show (pre.length : Int) < (l.length : Int) by omega), cond_true, z09 (z0c (z03 (by omega)) rfl), hg]
    by_cases hx : x.size ≤ 20
    ·refine Or.inl ⟨((pre ++ [x]).length : Int), ?_, pre ++ [x], by rw [h1]; simp, rfl, ?_⟩
     ·rw [z06 (show ¬ (x.size : Int) > 20 by omega), cond_false, z07 (by omega) (by omega), List.length_append, List.length_singleton]; rfl
     ·rw [h2, List.all_cons, z03 hx, Bool.true_and]
    ·refine Or.inr ?_
     rw [z03 (show (x.size : Int) > 20 by omega), cond_true, h2, List.all_cons, z06 hx, Bool.false_and]
     rfl
   ·rintro _ ⟨pre, h1, rfl, h2⟩
    rw [List.append_nil] at h1
    subst h1
    rw [z06 (show ¬ (l.length : Int) < (l.length : Int) by omega), cond_false, h2]
    rfl
  rw [hl, Option.bind_some]
  cases l.all (fun x => decide (x.size ≤ 20)) <;> rfl
 ·rw [z03 (show (l.length : Int) > (most : Int) by omega), cond_true, z06 h]; rfl
def fewB (y : List (List ByteArray)) (request : List ByteArray) : Bool := (decide (y.length ≤ 6) && zgw request 10) && y.all fun p => zgw p 8
theorem y7c (y : List (List ByteArray)) (request : List ByteArray) : zfx y request = some (fewB y request) := by
 unfold zfx fewB
 rw [show zf0 request 10 = some (zgw request 10) from y97 request (most := 10) (by omega), Option.bind_some]
 by_cases h : y.length ≤ 6
 ·rw [z06 (show ¬ (y.length : Int) > 6 by omega), cond_false, Option.bind_some, z03 h, Bool.true_and]
  cases hr : zgw request 10 with
  | false => rfl
  | true =>
   rw [Bool.not_true, cond_false, Bool.true_and]
   have hl : z1v (S := Int) (R := (Unit) ⊕ (Bool)) (fun i =>
   bif decide (i < (List.length y : Int)) then
    chk (decide ((0 : Int) ≤ i) && decide (i < (List.length y : Int))) (
     (zf0 (lget [] y i) 8).bind fun (t_1 : Bool) =>
     bif !t_1 then
      Option.map Sum.inr (Option.map Sum.inr (
       some false))
     else
      some (.inl (wi64 (i + 1))))
   else
    some (.inr (.inl ()))) 0 = some (bif y.all (fun p => zgw p 8) then .inl () else .inr false) := by
    refine z0y (X := List ByteArray) (fun rest s => ∃ pre, y = pre ++ rest ∧ s = (pre.length : Int) ∧ y.all (fun p => zgw p 8) = rest.all (fun p => zgw p 8)) ?_ ?_ (l := y) ⟨[], rfl, rfl, rfl⟩
    ·rintro x rest _ ⟨pre, h1, rfl, h2⟩
     have hlen := congrArg List.length h1
     rw [List.length_append, List.length_cons] at hlen
     have hg : lget [] y (pre.length : Int) = x := by rw [h1]; exact z3f
     rw [z03 (show (pre.length : Int) < (y.length : Int) by omega), cond_true, z09 (z0c (z03 (by omega)) rfl), hg, show zf0 x 8 = some (zgw x 8) from y97 x (most := 8) (by omega), Option.bind_some]
     cases hx : zgw x 8 with
     | true =>
      refine Or.inl ⟨((pre ++ [x]).length : Int), ?_, pre ++ [x], by rw [h1]; simp, rfl, ?_⟩
      ·rw [Bool.not_true, cond_false, z07 (by omega) (by omega), List.length_append, List.length_singleton]; rfl
      ·rw [h2, List.all_cons, hx, Bool.true_and]
     | false =>
      refine Or.inr ?_
      rw [Bool.not_false, cond_true, h2, List.all_cons, hx, Bool.false_and]
      rfl
    ·rintro _ ⟨pre, h1, rfl, h2⟩
     rw [List.append_nil] at h1
     subst h1
     rw [z06 (show ¬ (y.length : Int) < (y.length : Int) by omega), cond_false, h2]
     rfl
   rw [hl, Option.bind_some]
   cases y.all (fun p => zgw p 8) <;> rfl
 ·rw [z03 (show (y.length : Int) > 6 by omega), cond_true, Option.bind_some, cond_true, z06 h]; rfl
def Few (y : List (List ByteArray)) (request : List ByteArray) : Prop := y.length ≤ 6 ∧ (request.length ≤ 10 ∧ ∀ x ∈ request, x.size ≤ 20) ∧ ∀ p ∈ y, p.length ≤ 8 ∧ ∀ x ∈ p, x.size ≤ 20
theorem y98 {l : List ByteArray} {most : Nat} (h : zgw l most = true) : l.length ≤ most ∧ ∀ x ∈ l, x.size ≤ 20 := by
 unfold zgw at h
 rw [Bool.and_eq_true, decide_eq_true_eq, List.all_eq_true] at h
 exact ⟨h.1, fun x hx => of_decide_eq_true (h.2 x hx)⟩
theorem few_of {y : List (List ByteArray)} {request : List ByteArray} (h : fewB y request = true) : Few y request := by
 unfold fewB at h
 rw [Bool.and_eq_true, Bool.and_eq_true, decide_eq_true_eq, List.all_eq_true] at h
 exact ⟨h.1.1, y98 h.1.2, fun p hp => y98 (h.2 p hp)⟩
theorem zss {l : List ByteArray} (h : l.length ≤ 1000) : zb5 l = some l := by
 unfold zb5
 rw [z6y (by simp; omega)]; rfl
theorem zwj {y : List (List ByteArray)} (hy : y.length ≤ 1000) {g : List ByteArray → Option (List ByteArray)} (hg : ∀ p ∈ y, g p = some p) : z1v (S := (List (List ByteArray)) × Int) (R := (List (List ByteArray))) (fun s =>
  let out : (List (List ByteArray)) := s.1
  let i : Int := s.2
  bif decide (i < (List.length y : Int)) then
   chk (decide ((0 : Int) ≤ i) && decide (i < (List.length y : Int))) (
    (g (lget [] y i)).bind fun (t : (List ByteArray)) =>
    (app out [t]).bind fun (t_1 : List (List ByteArray)) =>
    some (.inl (t_1, wi64 (i + 1))))
  else
   some (.inr out)) ([], 0) = some y := by
 refine z0y (X := List ByteArray) (fun rest s => ∃ pre, y = pre ++ rest ∧ s = (pre, (pre.length : Int))) ?_ ?_ (l := y) ⟨[], rfl, rfl⟩
 ·rintro x rest _ ⟨pre, h1, rfl⟩
  have hlen := congrArg List.length h1
  rw [List.length_append, List.length_cons] at hlen
  have hx : lget [] y (pre.length : Int) = x := by rw [h1]; exact z3f
  refine Or.inl ⟨(pre ++ [x], ((pre ++ [x]).length : Int)), ?_, pre ++ [x], by rw [h1]; simp, rfl⟩
  simp only []
  rw [z03 (show (pre.length : Int) < (y.length : Int) by omega), cond_true, z09 (z0c (z03 (by omega)) rfl), hx, hg x (by rw [h1]; simp), Option.bind_some, z6y (by rw [List.length_singleton]; omega), Option.bind_some, z07 (by omega) (by omega), List.length_append, List.length_singleton]
  rfl
 ·rintro _ ⟨pre, h1, rfl⟩
  rw [List.append_nil] at h1
  subst h1
  simp only []
  rw [z06 (show ¬ (y.length : Int) < (y.length : Int) by omega), cond_false]
theorem y81 {y : List (List ByteArray)} {request : List ByteArray} (h : Few y request) : z8u y = some y := by
 unfold z8u
 rw [zwj (by have := h.1; omega) (fun p hp => zss (by have := (h.2.2 p hp).1; omega)), Option.bind_some]
theorem yjm {y : List (List ByteArray)} {request : List ByteArray} (h : Few y request) : z35 y = some y := by
 unfold z35
 rw [zwj (by have := h.1; omega) (fun p hp => by
  unfold slices_Clone_string
  rw [z6y (by have := (h.2.2 p hp).1; simp; omega)]; rfl), Option.bind_some]
end Go.Lift
namespace Go.Lift
open Go
theorem zup (a b : ByteArray) : seqb a b = seqb b a := by
 unfold seqb
 exact Bool.eq_iff_iff.2 ⟨fun h => by rw [beq_iff_eq] at h ⊢; exact h.symm, fun h => by rw [beq_iff_eq] at h ⊢; exact h.symm⟩
def hasB (l : List ByteArray) (x : ByteArray) : Bool := l.any fun z => seqb z x
theorem zs3 {l : List ByteArray} {x : ByteArray} (hl : l.length ≤ 60000) : z9i l x = some (hasB l x) := by
 unfold z9i
 have h : z1v (S := Int) (R := (Unit) ⊕ (Bool)) (fun i =>
  bif decide (i < (List.length l : Int)) then
   chk (decide ((0 : Int) ≤ i) && decide (i < (List.length l : Int))) (
    bif seqb (lget ByteArray.empty l i) x then
     Option.map Sum.inr (Option.map Sum.inr (
      some true))
    else
     some (.inl (wi64 (i + 1))))
  else
   some (.inr (.inl ()))) 0 = some (bif hasB l x then .inr true else .inl ()) := by
  unfold hasB
  refine z0y (X := ByteArray) (fun rest s => ∃ pre, l = pre ++ rest ∧ s = (pre.length : Int) ∧ l.any (fun z => seqb z x) = rest.any (fun z => seqb z x)) ?_ ?_ (l := l) ⟨[], rfl, rfl, rfl⟩
  ·rintro z rest _ ⟨pre, h1, rfl, h2⟩
   have hlen := congrArg List.length h1
   rw [List.length_append, List.length_cons] at hlen
   have hg : lget ByteArray.empty l (pre.length : Int) = z := by rw [h1]; exact z3f
   rw [z03 (show (pre.length : Int) < (l.length : Int) by omega), cond_true, z09 (z0c (z03 (by omega)) rfl), hg]
   cases hx : seqb z x with
   | false =>
    refine Or.inl ⟨((pre ++ [z]).length : Int), ?_, pre ++ [z], by rw [h1]; simp, rfl, ?_⟩
    ·rw [cond_false, z07 (by omega) (by omega), List.length_append, List.length_singleton]; rfl
    ·rw [h2, List.any_cons, hx, Bool.false_or]
   | true =>
    refine Or.inr ?_
    rw [cond_true, h2, List.any_cons, hx, Bool.true_or]
    rfl
  ·rintro _ ⟨pre, h1, rfl, h2⟩
   rw [List.append_nil] at h1
   subst h1
   rw [z06 (show ¬ (l.length : Int) < (l.length : Int) by omega), cond_false, h2]
   rfl
 rw [h, Option.bind_some]
 cases hasB l x <;> rfl
def mp (all : List ByteArray) : List (ByteArray × Bool) := all.map fun z => (z, true)
theorem ymy (all : List ByteArray) (x : ByteArray) : mget .str .bool (mp all) x = hasB all x := by
 unfold mget mp hasB
 induction all with
 | nil => rfl
 | cons z all ih =>
  rw [List.map_cons, List.any_cons, List.find?_cons]
  have e : Ty.eqb .str x (z, true).1 = seqb z x := zup x z
  rw [e]
  cases seqb z x with
  | true => rfl
  | false => rw [Bool.false_or, ← ih]
theorem yey : ∀ {all : List ByteArray} {x : ByteArray}, hasB all x = false → mput .str .bool (mp all) x true = mp (all ++ [x])
 | [], x, _ => rfl
 | z :: all, x, h => by
  unfold hasB at h
  rw [List.any_cons, Bool.or_eq_false_iff] at h
  show (bif seqb x z then (z, true) :: mp all else (z, true) :: mput .str .bool (mp all) x true) = (z, true) :: mp (all ++ [x])
  rw [zup, h.1, cond_false, yey h.2]
theorem mp_len (all : List ByteArray) : (mp all).length = all.length := by unfold mp; rw [List.length_map]
def zi2 (all : List ByteArray) : List ByteArray → List ByteArray ⊕ Int
 | [] => .inl all
 | x :: r => bif !zpo x then .inr 4 else bif hasB all x then .inr 5 else zi2 (all ++ [x]) r
theorem zyw (all : List ByteArray) (x : ByteArray) (r : List ByteArray) : zi2 all (x :: r) = bif !zpo x then .inr 4 else bif hasB all x then .inr 5 else zi2 (all ++ [x]) r := rfl
theorem y3f {all' : List ByteArray} : ∀ {p : List ByteArray} {all : List ByteArray}, zi2 all p = .inl all' → all'.length = all.length + p.length
 | [], all, h => by unfold zi2 at h; injection h with h; rw [h]; rfl
 | x :: r, all, h => by
  unfold zi2 at h
  cases h1 : zpo x with
  | false => rw [h1] at h; cases h
  | true =>
   cases h2 : hasB all x with
   | true => rw [h1, h2] at h; cases h
   | false =>
    rw [h1, h2] at h
    have := y3f (p := r) (all := all ++ [x]) h
    rw [List.length_append, List.length_singleton] at this
    rw [this, List.length_cons]; omega
def zst : Nat → List ByteArray → List (List ByteArray) → List ByteArray ⊕ (Int × Int)
 | _, all, [] => .inl all
 | i, all, p :: r => bif decide ((p.length : Int) > 6) then .inr ((i : Int), 8) else match zi2 all p with
  | .inl all' => zst (i + 1) all' r
  | .inr e => .inr ((i : Int), e)
theorem zy8 (i : Nat) (all p : List ByteArray) (r : List (List ByteArray)) : zst i all (p :: r) = bif decide ((p.length : Int) > 6) then .inr ((i : Int), 8) else match zi2 all p with
 | .inl all' => zst (i + 1) all' r
 | .inr e => .inr ((i : Int), e) := rfl
def zit (y : List (List ByteArray)) : Int × Int := bif (y.length : Int) == 0 then (0, 10) else bif decide ((y.length : Int) > 4) then (0, 8) else match zst 0 [] y with
 | .inl all => bif decide ((all.length : Int) > 8) then (0, 8) else (0, 0)
 | .inr e => e
theorem ye0 {y : List (List ByteArray)} {t3 : Int} {p : List ByteArray} (hp : lget [] y t3 = p) (hl : p.length ≤ 8) (hs : ∀ x ∈ p, x.size ≤ 20) (all : List ByteArray) :
  z1v (S := Int × (List (ByteArray × Bool))) (R := ((List (ByteArray × Bool))) ⊕ ((Int × (List (ByteArray × Bool))) ⊕ (((List (ByteArray × Bool))) ⊕ (Int × Int)))) (fun s_1 =>
     let t_5 : Int := s_1.1
     let t_6 : (List (ByteArray × Bool)) := s_1.2
     bif decide (t_5 < (List.length (lget [] y t3) : Int)) then
      chk (decide ((0 : Int) ≤ t_5) && decide (t_5 < (List.length (lget [] y t3) : Int))) (
       let name : ByteArray := lget ByteArray.empty (lget [] y t3) t_5
       (z2a name).bind fun (t_7 : Bool) =>
       (z0g t_7 4).bind fun (t_8 : Int) =>
       (z0g (!(mget .str .bool t_6 name)) 5).bind fun (t_9 : Int) =>
       (z1x [t_8, t_9]).bind fun (t_10 : Int) =>
       bif (t_10 != 0) then
        Option.map Sum.inr (Option.map Sum.inr (
         Option.map Sum.inr (Option.map Sum.inr (
          some (t3, t_10)))))
       else
        let t_11 : (List (ByteArray × Bool)) := mput .str .bool t_6 name true
        some (.inl (wi64 (t_5 + 1), t_11)))
     else
      some (.inr (.inl t_6))) (0, mp all) = some (match zi2 all p with | .inl all' => .inl (mp all') | .inr e => .inr (.inr (.inr (t3, e)))) := by
 rw [hp]
 refine z0y (X := ByteArray) (fun rest s => ∃ pre all', p = pre ++ rest ∧ s = ((pre.length : Int), mp all') ∧ zi2 all p = zi2 all' rest) ?_ ?_ (l := p) ⟨[], all, rfl, rfl, rfl⟩
 ·rintro x rest _ ⟨pre, all', h1, rfl, h2⟩
  have hlen := congrArg List.length h1
  rw [List.length_append, List.length_cons] at hlen
  have hg : lget ByteArray.empty p (pre.length : Int) = x := by rw [h1]; exact z3f
  have hx := hs x (by rw [h1]; simp)
  simp only []
  rw [z03 (show (pre.length : Int) < (p.length : Int) by omega), cond_true, z09 (z0c (z03 (by omega)) rfl), hg, zvx (by omega), Option.bind_some, z2x, Option.bind_some, z2x, Option.bind_some, ymy, zdg (by simp), Option.bind_some]
  rw [zyw] at h2
  cases hn : zpo x with
  | false =>
   rw [hn] at h2
   refine Or.inr ?_
   rw [h2]
   cases hasB all' x <;> rfl
  | true =>
   cases hh : hasB all' x with
   | true =>
    rw [hn, hh] at h2
    refine Or.inr ?_
    rw [h2]
    rfl
   | false =>
    rw [hn, hh] at h2
    refine Or.inl ⟨(((pre ++ [x]).length : Int), mp (all' ++ [x])), ?_, pre ++ [x], all' ++ [x], by rw [h1]; simp, rfl, h2⟩
    show some (Sum.inl (wi64 ((pre.length : Int) + 1), mput .str .bool (mp all') x true)) = _
    rw [yey hh, z07 (by omega) (by omega), List.length_append, List.length_singleton]
    rfl
 ·rintro _ ⟨pre, all', h1, rfl, h2⟩
  rw [List.append_nil] at h1
  subst h1
  simp only []
  rw [z06 (show ¬ (p.length : Int) < (p.length : Int) by omega), cond_false, h2]
  rfl
theorem zhe {y : List (List ByteArray)} {request : List ByteArray} (h : Few y request) : z1r y = some (zit y) := by
 obtain ⟨hy, _, hps⟩ := h
 unfold z1r zit
 rw [z2x, Option.bind_some, z2x, Option.bind_some, zdg (by simp), Option.bind_some]
 by_cases h0 : y.length = 0
 ·rw [h0]; rfl
 ·rw [show ((y.length : Int) == 0) = false by rw [beq_eq_false_iff_ne]; omega, cond_false, z03 (show (y.length : Int) > 0 by omega)]
  by_cases h4 : y.length > 4
  ·rw [z03 (show (y.length : Int) > 4 by omega), cond_true, z06 (show ¬ (y.length : Int) ≤ 4 by omega)]; rfl
  ·rw [z06 (show ¬ (y.length : Int) > 4 by omega), cond_false, z03 (show (y.length : Int) ≤ 4 by omega)]
   rw [show (z55 [if (true = true) then (0 : Int) else 10, if (true = true) then (0 : Int) else 8] != 0) = false from rfl, cond_false]
   have hl : ∀ F : Int × (List (ByteArray × Bool)) → Option ((Int × (List (ByteArray × Bool))) ⊕ (((List (ByteArray × Bool))) ⊕ (Int × Int))),
     (∀ (pre rest : List (List ByteArray)) (p : List ByteArray) (all : List ByteArray), y = pre ++ p :: rest → F ((pre.length : Int), mp all) = bif decide ((p.length : Int) > 6) then some (.inr (.inr ((pre.length : Int), 8))) else match zi2 all p with | .inl all' => some (.inl (((pre.length + 1 : Nat) : Int), mp all')) | .inr e => some (.inr (.inr ((pre.length : Int), e)))) →
     (∀ all : List ByteArray, F ((y.length : Int), mp all) = some (.inr (.inl (mp all)))) → z1v F (0, mp []) = some (match zst 0 [] y with | .inl all => .inl (mp all) | .inr e => .inr e) := fun F h1 h2 => by
    refine z0y (X := List ByteArray) (fun rest s => ∃ pre all, y = pre ++ rest ∧ s = ((pre.length : Int), mp all) ∧ zst 0 [] y = zst pre.length all rest) ?_ ?_ (l := y) ⟨[], [], rfl, rfl, rfl⟩
    ·rintro p rest _ ⟨pre, all, e1, rfl, e2⟩
     rw [h1 pre rest p all e1]
     rw [zy8] at e2
     cases e3 : decide ((p.length : Int) > 6) with
     | true => rw [e3] at e2; refine Or.inr ?_; rw [cond_true]; rw [e2]; rfl
     | false =>
      rw [e3, cond_false] at e2
      rw [cond_false]
      cases e4 : zi2 all p with
      | inl all' =>
       rw [e4] at e2
       exact Or.inl ⟨_, rfl, pre ++ [p], all', by rw [e1]; simp, by rw [List.length_append, List.length_singleton], by rw [List.length_append, List.length_singleton]; exact e2⟩
      | inr e => rw [e4] at e2; refine Or.inr ?_; rw [e2]
    ·rintro _ ⟨pre, all, e1, rfl, e2⟩
     rw [List.append_nil] at e1
     subst e1
     rw [h2 all, e2]
     rfl
   rw [show ([] : List (ByteArray × Bool)) = mp [] from rfl, hl]
   ·rw [Option.bind_some]
    cases e : zst 0 [] y with
    | inr z => rfl
    | inl all =>
     simp only []
     rw [z2x, Option.bind_some, mp_len]
     by_cases h8 : (all.length : Int) > 8
     ·rw [z03 h8, z06 (show ¬ (all.length : Int) ≤ 8 by omega)]; rfl
     ·rw [z06 h8, z03 (show (all.length : Int) ≤ 8 by omega)]; rfl
   ·intro pre rest p all e1
    have hlen := congrArg List.length e1
    rw [List.length_append, List.length_cons] at hlen
    have hg : lget [] y (pre.length : Int) = p := by rw [e1]; exact z3f
    have hp := hps p (by rw [e1]; simp)
    have hc := ye0 (t3 := (pre.length : Int)) hg hp.1 hp.2 all
    simp only []
    rw [hc, hg, z03 (show (pre.length : Int) < (y.length : Int) by omega), cond_true, z09 (z0c (z03 (by omega)) rfl)]
    cases decide ((p.length : Int) > 6) with
    | true => rfl
    | false =>
     rw [cond_false, cond_false, Option.bind_some]
     cases zi2 all p with
     | inl all' => simp only []; rw [z07 (by omega) (by omega)]; rfl
     | inr e => rfl
   ·intro all
    simp only []
    rw [z06 (show ¬ (y.length : Int) < (y.length : Int) by omega), cond_false]
end Go.Lift
namespace Go.Lift
open Go
theorem yi9 {y : List (List ByteArray)} {i : Int} (hi : (decide ((0 : Int) ≤ i) && decide (i < (List.length y : Int))) = true) {p : List ByteArray} (hp : lget [] y i = p) (hl : p.length ≤ 8) (hs : ∀ x ∈ p, x.size ≤ 20) {all : List ByteArray} (ha : all.length ≤ 1000) :
  z1v (S := (List ByteArray) × Int) (R := ((List ByteArray)) ⊕ (((List ByteArray) × Int) ⊕ (((List ByteArray)) ⊕ (Int × Int)))) (fun s_1 =>
     let all_1 : (List ByteArray) := s_1.1
     let k : Int := s_1.2
     chk (decide ((0 : Int) ≤ i) && decide (i < (List.length y : Int))) (
      bif decide (k < (List.length (lget [] y i) : Int)) then
       chk (decide ((0 : Int) ≤ i) && decide (i < (List.length y : Int))) (
        chk (decide ((0 : Int) ≤ k) && decide (k < (List.length (lget [] y i) : Int))) (
         (zil (lget ByteArray.empty (lget [] y i) k)).bind fun (t : Bool) =>
         bif !t then
          Option.map Sum.inr (Option.map Sum.inr (
           Option.map Sum.inr (Option.map Sum.inr (
            some (i, 4)))))
         else
          chk (decide ((0 : Int) ≤ i) && decide (i < (List.length y : Int))) (
           chk (decide ((0 : Int) ≤ k) && decide (k < (List.length (lget [] y i) : Int))) (
            (z9i all_1 (lget ByteArray.empty (lget [] y i) k)).bind fun (t_1 : Bool) =>
            bif t_1 then
             Option.map Sum.inr (Option.map Sum.inr (
              Option.map Sum.inr (Option.map Sum.inr (
               some (i, 5)))))
            else
             chk (decide ((0 : Int) ≤ i) && decide (i < (List.length y : Int))) (
              chk (decide ((0 : Int) ≤ k) && decide (k < (List.length (lget [] y i) : Int))) (
               (app all_1 [lget ByteArray.empty (lget [] y i) k]).bind fun (t_2 : List ByteArray) =>
               some (.inl (t_2, wi64 (k + 1)))))))))
      else
       some (.inr (.inl all_1)))) (all, 0) = some (match zi2 all p with | .inl all' => .inl all' | .inr e => .inr (.inr (.inr (i, e)))) := by
 rw [hp, hi]
 refine z0y (X := ByteArray) (fun rest s => ∃ pre all', p = pre ++ rest ∧ s = (all', (pre.length : Int)) ∧ all'.length ≤ 1000 + pre.length ∧ zi2 all p = zi2 all' rest) ?_ ?_ (l := p) ⟨[], all, rfl, rfl, by simpa using ha, rfl⟩
 ·rintro x rest _ ⟨pre, all', h1, rfl, h3, h2⟩
  have hlen := congrArg List.length h1
  rw [List.length_append, List.length_cons] at hlen
  have hg : lget ByteArray.empty p (pre.length : Int) = x := by rw [h1]; exact z3f
  have hx := hs x (by rw [h1]; simp)
  have hk : (decide ((0 : Int) ≤ (pre.length : Int)) && decide ((pre.length : Int) < (p.length : Int))) = true := z0c (z03 (by omega)) (z03 (by omega))
  simp only []
  rw [hk, z03 (show (pre.length : Int) < (p.length : Int) by omega), hg]
  simp only [cond_true, zkr]
  rw [y5e (by omega), Option.bind_some, zs3 (by omega), z6y (by rw [List.length_singleton]; omega)]
  rw [zyw] at h2
  cases hn : zpo x with
  | false =>
   rw [hn] at h2
   refine Or.inr ?_
   rw [h2]
   rfl
  | true =>
   cases hh : hasB all' x with
   | true =>
    rw [hn, hh] at h2
    refine Or.inr ?_
    rw [h2]
    rfl
   | false =>
    rw [hn, hh] at h2
    refine Or.inl ⟨(all' ++ [x], ((pre ++ [x]).length : Int)), ?_, pre ++ [x], all' ++ [x], by rw [h1]; simp, rfl, by rw [List.length_append, List.length_append, List.length_singleton]; omega, h2⟩
    show some (Sum.inl (all' ++ [x], wi64 ((pre.length : Int) + 1))) = _
    rw [z07 (by omega) (by omega), List.length_append, List.length_singleton]
    rfl
 ·rintro _ ⟨pre, all', h1, rfl, h3, h2⟩
  rw [List.append_nil] at h1
  subst h1
  simp only [zkr]
  rw [z06 (show ¬ (p.length : Int) < (p.length : Int) by omega), cond_false, h2]
  rfl
theorem zxc {y : List (List ByteArray)} {request : List ByteArray} (h : Few y request) : zdq y = some (zit y) := by
 obtain ⟨hy, _, hps⟩ := h
 unfold zdq zit
 cases (y.length : Int) == 0 with
 | true => rfl
 | false =>
  rw [cond_false, cond_false]
  cases h4 : decide ((y.length : Int) > 4) with
  | true => rfl
  | false =>
   rw [cond_false, cond_false]
   have hl : ∀ F : (List ByteArray) × Int → Option (((List ByteArray) × Int) ⊕ ((List ByteArray) ⊕ (Int × Int))),
     (∀ (pre rest : List (List ByteArray)) (p : List ByteArray) (all : List ByteArray), y = pre ++ p :: rest → all.length ≤ 8 * pre.length → F (all, (pre.length : Int)) = bif decide ((p.length : Int) > 6) then some (.inr (.inr ((pre.length : Int), 8))) else match zi2 all p with | .inl all' => some (.inl (all', ((pre.length + 1 : Nat) : Int))) | .inr e => some (.inr (.inr ((pre.length : Int), e)))) →
     (∀ all : List ByteArray, F (all, (y.length : Int)) = some (.inr (.inl all))) → z1v F ([], 0) = some (match zst 0 [] y with | .inl all => .inl all | .inr e => .inr e) := fun F h1 h2 => by
    refine z0y (X := List ByteArray) (fun rest s => ∃ pre all, y = pre ++ rest ∧ s = (all, (pre.length : Int)) ∧ all.length ≤ 8 * pre.length ∧ zst 0 [] y = zst pre.length all rest) ?_ ?_ (l := y) ⟨[], [], rfl, rfl, Nat.le_refl _, rfl⟩
    ·rintro p rest _ ⟨pre, all, e1, rfl, e0, e2⟩
     rw [h1 pre rest p all e1 e0]
     rw [zy8] at e2
     cases e3 : decide ((p.length : Int) > 6) with
     | true => rw [e3] at e2; refine Or.inr ?_; rw [cond_true]; rw [e2]; rfl
     | false =>
      rw [e3, cond_false] at e2
      rw [cond_false]
      cases e4 : zi2 all p with
      | inl all' =>
       rw [e4] at e2
       have hpl := y3f e4
       have := (hps p (by rw [e1]; simp)).1
       exact Or.inl ⟨_, rfl, pre ++ [p], all', by rw [e1]; simp, by rw [List.length_append, List.length_singleton], by rw [List.length_append, List.length_singleton]; omega, by rw [List.length_append, List.length_singleton]; exact e2⟩
      | inr e => rw [e4] at e2; refine Or.inr ?_; rw [e2]
    ·rintro _ ⟨pre, all, e1, rfl, e0, e2⟩
     rw [List.append_nil] at e1
     subst e1
     rw [h2 all, e2]
     rfl
   rw [hl]
   ·rw [Option.bind_some]
    cases e : zst 0 [] y with
    | inr z => rfl
    | inl all =>
     simp only []
     cases decide ((all.length : Int) > 8) <;> rfl
   ·intro pre rest p all e1 e0
    have hlen := congrArg List.length e1
    rw [List.length_append, List.length_cons] at hlen
    have hg : lget [] y (pre.length : Int) = p := by rw [e1]; exact z3f
    have hp := hps p (by rw [e1]; simp)
    have hin : (decide ((0 : Int) ≤ (pre.length : Int)) && decide ((pre.length : Int) < (List.length y : Int))) = true := z0c (z03 (by omega)) (z03 (by omega))
    have hc := yi9 hin hg hp.1 hp.2 (all := all) (by omega)
    simp only []
    rw [hc, hg, hin, z03 (show (pre.length : Int) < (y.length : Int) by omega), cond_true, zkr]
    cases decide ((p.length : Int) > 6) with
    | true => rfl
    | false =>
     rw [cond_false, cond_false, Option.bind_some]
     cases zi2 all p with
     | inl all' => simp only []; rw [z07 (by omega) (by omega)]; rfl
     | inr e => rfl
   ·intro all
    simp only []
    rw [z06 (show ¬ (y.length : Int) < (y.length : Int) by omega), cond_false]
end Go.Lift
namespace Go.Lift
open Go
def zey (y : List (List ByteArray)) (m : Int × Int) : Int :=
 bif !inR m.1 0 ((y.length : Int) - 1) || (!inR m.2 0 ((y.length : Int) - 1) && m.2 != -1) then 6 else
 bif ((lget [] y m.1).length : Int) == 0 then 11 else bif m.1 == m.2 then 3 else
 bif m.2 != -1 && decide (((lget [] y m.2).length : Int) ≥ 6) then 16 else 0
theorem zz0 {y : List (List ByteArray)} (hy : y.length ≤ 1000) (m : Int × Int) : z34 y m = some (zey y m) := by
 unfold z34 z4d zey inR
 rw [z07 (x := (y.length : Int) - 1) (by omega) (by omega), z8l, Option.bind_some, z8l, Option.bind_some]
 by_cases h1 : 0 ≤ m.1 ∧ m.1 ≤ (y.length : Int) - 1
 ·rw [z03 h1, Option.bind_some, Bool.not_true, cond_false, Option.bind_some, Option.bind_some, Bool.false_or]
  by_cases h2 : 0 ≤ m.2 ∧ m.2 ≤ (y.length : Int) - 1
  ·have hm : (m.2 != -1) = true := by rw [bne_iff_ne]; omega
   have hm' : (m.2 == -1) = false := by rw [beq_eq_false_iff_ne]; omega
   have hx : imax m.2 0 = m.2 := by unfold imax; rw [if_neg (by omega)]
   rw [z03 h2, Bool.not_true, Bool.false_and, cond_false, cond_false, z09 (z0c (z03 (by omega)) (z03 (by omega))), z2x, Option.bind_some, z2x, Option.bind_some, hm', cond_false, hx, z09 (z0c (z03 (by omega)) (z03 (by omega))), Option.bind_some, z2x, Option.bind_some, zdg (by simp), Option.bind_some, hm]
   by_cases h3 : ((lget [] y m.1).length : Int) = 0
   ·rw [h3]; rfl
   ·rw [show (((lget [] y m.1).length : Int) == 0) = false by rw [beq_eq_false_iff_ne]; exact h3, z03 (show ((lget [] y m.1).length : Int) > 0 by omega), cond_false]
    cases h4 : m.1 == m.2 with
    | true => rw [show (m.1 != m.2) = false by rw [bne, h4]; rfl]; rfl
    | false =>
     rw [show (m.1 != m.2) = true by rw [bne, h4]; rfl, cond_false, Bool.true_and]
     by_cases h5 : ((lget [] y m.2).length : Int) ≥ 6
     ·rw [z03 h5, z06 (show ¬ ((lget [] y m.2).length : Int) < 6 by omega)]; rfl
     ·rw [z06 h5, z03 (show ((lget [] y m.2).length : Int) < 6 by omega)]; rfl
  ·rw [z06 h2]
   by_cases hm1 : m.2 = -1
   ·rw [hm1]
    simp only [Bool.not_false, Bool.true_and, show ((-1 : Int) != -1) = false from rfl, cond_false, show ((-1 : Int) == -1) = true from rfl, cond_true]
    rw [z09 (z0c (z03 (by omega)) (z03 (by omega))), z2x, Option.bind_some, z2x, Option.bind_some, Option.bind_some, z2x, Option.bind_some, zdg (by simp), Option.bind_some]
    by_cases h3 : ((lget [] y m.1).length : Int) = 0
    ·rw [h3]; rfl
    ·rw [show (((lget [] y m.1).length : Int) == 0) = false by rw [beq_eq_false_iff_ne]; exact h3, z03 (show ((lget [] y m.1).length : Int) > 0 by omega), cond_false]
     have h4 : (m.1 == -1) = false := by rw [beq_eq_false_iff_ne]; omega
     rw [h4, show (m.1 != -1) = true by rw [bne, h4]; rfl]
     rfl
   ·rw [show (m.2 != -1) = true by rw [bne_iff_ne]; exact hm1]
    rfl
 ·rw [z06 h1]; rfl
theorem yb6 {y : List (List ByteArray)} {request : List ByteArray} (h : Few y request) {m : Int × Int} (hm : zey y m = 0) : ∃ n, zgx y m = some n ∧ n.length = y.length ∧ ∀ p ∈ n, p.length ≤ 9 := by
 obtain ⟨hy, _, hps⟩ := h
 have h1 : ∀ p ∈ lset y m.1 ((lget [] y m.1).take ((lget [] y m.1).length - 1)), p.length ≤ 8 := fun p hp => by
  unfold lset at hp
  rcases List.mem_or_eq_of_mem_set hp with hp | rfl
  ·exact (hps p hp).1
  ·rw [List.length_take]
   have : (lget [] y m.1).length ≤ 8 := by
    unfold lget
    rw [List.getD_eq_getElem?_getD]
    cases e : y[m.1.toNat]? with
    | none => exact Nat.zero_le _
    | some x => exact (hps x (List.mem_of_getElem? e)).1
   omega
 have h1l : (lset y m.1 ((lget [] y m.1).take ((lget [] y m.1).length - 1))).length = y.length := by unfold lset; rw [List.length_set]
 unfold zgx
 simp only []
 generalize lset y m.1 ((lget [] y m.1).take ((lget [] y m.1).length - 1)) = y1 at h1 h1l
 cases hb : m.2 != -1 with
 | false => exact ⟨y1, rfl, h1l, fun p hp => by have := h1 p hp; omega⟩
 | true =>
  have h2 : (lget [] y1 m.2).length ≤ 8 := by
   unfold lget
   rw [List.getD_eq_getElem?_getD]
   cases e : y1[m.2.toNat]? with
   | none => exact Nat.zero_le _
   | some x => exact h1 x (List.mem_of_getElem? e)
  rw [cond_true, z6y (by rw [List.length_singleton]; omega), Option.bind_some]
  refine ⟨_, rfl, by unfold lset; rw [List.length_set]; exact h1l, fun p hp => ?_⟩
  unfold lset at hp
  rcases List.mem_or_eq_of_mem_set hp with hp | rfl
  ·have := h1 p hp; omega
  ·rw [List.length_append, List.length_singleton]; omega
theorem y6f {y : List (List ByteArray)} {request : List ByteArray} (h : Few y request) : z3h y = some (y, (zit y).2) := by
 unfold z3h
 rw [zhe h, Option.bind_some, yjm h, Option.bind_some]
theorem zty {y : List (List ByteArray)} {request : List ByteArray} (h : Few y request) : zkt y = true := by
 unfold zkt
 refine z0c (z03 (by have := h.1; omega)) (List.all_eq_true.2 fun p hp => z03 ?_)
 have := (h.2.2 p hp).1
 omega
theorem yh8 {y : List (List ByteArray)} {request : List ByteArray} (h : Few y request) (m : Int × Int) (he : (zit y).2 ≠ 0) : z50 y m = some ([], (zit y).2) := by
 unfold z50
 have h0 : ((zit y).2 == 0) = false := by rw [beq_eq_false_iff_ne]; exact he
 rw [zty h, cond_true, zhe h, Option.bind_some, h0, cond_false, Option.bind_some, show ((zit y).2 != 0) = true by rw [bne, h0]; rfl]
 rfl
theorem ycf {y : List (List ByteArray)} {request : List ByteArray} (h : Few y request) (m : Int × Int) (he : (zit y).2 = 0) : ∃ n : List (List ByteArray), z50 y m = some (n, zey y m) ∧ zeu y m = some (n, zey y m) ∧ n.length ≤ 6 ∧ ∀ p ∈ n, p.length ≤ 9 := by
 have hy := h.1
 have hE : (zey y m = 0 → ∃ n, zgx y m = some n ∧ n.length = y.length ∧ ∀ p ∈ n, p.length ≤ 9) := yb6 h
 have hc : z50 y m = bif zey y m != 0 then some ([], zey y m) else (zgx y m).bind fun n => some (n, 0) := by
  unfold z50
  rw [zty h, cond_true, zhe h, Option.bind_some, he, show ((0 : Int) == 0) = true from rfl, cond_true, zz0 (by omega), Option.bind_some]
 have hr : zeu y m = bif zey y m != 0 then some ([], zey y m) else (zgx y m).bind fun n => some (n, 0) := by
  unfold zeu zey inR
  rw [zty h, cond_true, z07 (x := (y.length : Int) - 1) (by omega) (by omega), z6c, Option.bind_some, z6c]
  by_cases h1 : 0 ≤ m.1 ∧ m.1 ≤ (y.length : Int) - 1
  ·rw [z03 h1]
   by_cases h2 : 0 ≤ m.2 ∧ m.2 ≤ (y.length : Int) - 1
   ·have hm : (m.2 != -1) = true := by rw [bne_iff_ne]; omega
    rw [z03 h2, hm]
    simp only [cond_true, Option.bind_some, Bool.not_true, Bool.or_false, cond_false, Bool.false_and, Bool.true_and]
    cases ((lget [] y m.1).length : Int) == 0 with
    | true => rfl
    | false =>
     cases m.1 == m.2 with
     | true => rfl
     | false =>
      cases decide (((lget [] y m.2).length : Int) ≥ 6) with
      | true => rfl
      | false => rfl
   ·rw [z06 h2]
    cases hm : m.2 != -1 with
    | true => rfl
    | false =>
     simp only [cond_true, Option.bind_some, Bool.not_true, Bool.or_false, cond_false, Bool.false_and, Bool.true_and, Bool.not_false]
     cases ((lget [] y m.1).length : Int) == 0 with
     | true => rfl
     | false =>
      cases m.1 == m.2 with
      | true => rfl
      | false => rfl
  ·rw [z06 h1]
   by_cases h2 : 0 ≤ m.2 ∧ m.2 ≤ (y.length : Int) - 1
   ·rw [z03 h2]; cases m.2 != -1 <;> rfl
   ·rw [z06 h2]; cases m.2 != -1 <;> rfl
 cases hz : zey y m != 0 with
 | true =>
  rw [hz] at hc hr
  exact ⟨[], hc, hr, by simp, fun p hp => by cases hp⟩
 | false =>
  have h0 : zey y m = 0 := by simpa using hz
  obtain ⟨n, e1, e2, e3⟩ := hE h0
  rw [hz, cond_false, e1] at hc hr
  rw [h0]
  exact ⟨n, hc, hr, by omega, e3⟩
theorem zzz {l : List ByteArray} (hl : l.length ≤ 60000) : zf8 l l = some true := by
 unfold zf8
 rw [show ((l.length : Int) != (l.length : Int)) = false by simp, cond_false]
 rw [zrd (s := (0 : Int)) (fun k => (k : Int)) l.length (r := .inl ()) rfl]
 ·rfl
 ·intro k hk
  rw [z03 (show (k : Int) < (l.length : Int) by omega), cond_true, z09 (z0c (z03 (by omega)) rfl), z09 (z0c (z03 (by omega)) rfl), show seqb (lget ByteArray.empty l (k : Int)) (lget ByteArray.empty l (k : Int)) = true by unfold seqb; simp, Bool.not_true, cond_false, z07 (by omega) (by omega)]
  rfl
 ·rw [z06 (show ¬ (l.length : Int) < (l.length : Int) by omega), cond_false]
theorem y29 {n : List (List ByteArray)} (hn : n.length ≤ 60000) (hp : ∀ p ∈ n, p.length ≤ 60000) : zfq n n = some true := by
 unfold zfq
 rw [show ((n.length : Int) != (n.length : Int)) = false by simp, cond_false]
 rw [zrd (s := (0 : Int)) (fun k => (k : Int)) n.length (r := .inl ()) rfl]
 ·rfl
 ·intro k hk
  have hk' : (lget [] n (k : Int)).length ≤ 60000 := by
   unfold lget
   rw [Int.toNat_natCast, List.getD_eq_getElem?_getD, List.getElem?_eq_getElem hk]
   exact hp _ (List.getElem_mem hk)
  rw [z03 (show (k : Int) < (n.length : Int) by omega), cond_true, z09 (z0c (z03 (by omega)) rfl), z09 (z0c (z03 (by omega)) rfl), zzz hk', Option.bind_some, Bool.not_true, cond_false, z07 (by omega) (by omega)]
  rfl
 ·rw [z06 (show ¬ (n.length : Int) < (n.length : Int) by omega), cond_false]
end Go.Lift
