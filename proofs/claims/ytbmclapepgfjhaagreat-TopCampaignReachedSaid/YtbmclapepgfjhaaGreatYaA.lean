/-
  Few piles, their copies, moves on both sides.
-/
import Derived.Test.YtbmclapepgfjhaaGreatPlainB
set_option linter.unusedSectionVars false
set_option linter.unusedVariables false
set_option linter.unusedSimpArgs false
namespace Go.Lift
open Go
def Few (y : List (List ByteArray)) (request : List ByteArray) : Prop := y.length ≤ 6 ∧ (request.length ≤ 10 ∧ ∀ x ∈ request, x.size ≤ 20) ∧ ∀ p ∈ y, p.length ≤ 8 ∧ ∀ x ∈ p, x.size ≤ 20
theorem zhs {l : List ByteArray} (h : l.length ≤ 1000) : z30 l = some l := by
 unfold z30
 rw [zhm (by simp; omega)]; rfl
theorem zp4 {y : List (List ByteArray)} (hy : y.length ≤ 1000) {g : List ByteArray → Option (List ByteArray)} (hg : ∀ p ∈ y, g p = some p) : z1s (S := (List (List ByteArray)) × Int) (R := (List (List ByteArray))) (fun s =>
  let out : (List (List ByteArray)) := s.1
  let i : Int := s.2
  bif decide (i < (List.length y : Int)) then
   chk (decide ((0 : Int) ≤ i) && decide (i < (List.length y : Int))) (
    (g (lget [] y i)).bind fun (t : (List ByteArray)) =>
    (app out [t]).bind fun (t_1 : List (List ByteArray)) =>
    some (.inl (t_1, wi64 (i + 1))))
  else
   some (.inr out)) ([], 0) = some y := by
 refine z0n (X := List ByteArray) (fun rest s => ∃ pre, y = pre ++ rest ∧ s = (pre, (pre.length : Int))) ?_ ?_ (l := y) ⟨[], rfl, rfl⟩
 ·rintro x rest _ ⟨pre, h1, rfl⟩
  have hlen := congrArg List.length h1
  rw [List.length_append, List.length_cons] at hlen
  have hx : lget [] y (pre.length : Int) = x := by rw [h1]; exact z1z
  refine Or.inl ⟨(pre ++ [x], ((pre ++ [x]).length : Int)), ?_, pre ++ [x], by rw [h1]; simp, rfl⟩
  simp only []
  rw [z01 (show (pre.length : Int) < (y.length : Int) by omega), cond_true, z2v (z0g (z01 (by omega)) rfl), hx, hg x (by rw [h1]; simp), Option.bind_some, zhm (by rw [List.length_singleton]; omega), Option.bind_some, z1p (by omega) (by omega), List.length_append, List.length_singleton]
  rfl
 ·rintro _ ⟨pre, h1, rfl⟩
  rw [List.append_nil] at h1
  subst h1
  simp only []
  rw [z09 (show ¬ (y.length : Int) < (y.length : Int) by omega), cond_false]
theorem zjy {y : List (List ByteArray)} {request : List ByteArray} (h : Few y request) : z4a y = some y := by
 unfold z4a
 rw [zp4 (by have := h.1; omega) (fun p hp => zhs (by have := (h.2.2 p hp).1; omega)), Option.bind_some]
theorem y50 {y : List (List ByteArray)} {request : List ByteArray} (h : Few y request) : z25 y = some y := by
 unfold z25
 rw [zp4 (by have := h.1; omega) (fun p hp => by
  unfold slices_Clone_string
  rw [zhm (by have := (h.2.2 p hp).1; simp; omega)]; rfl), Option.bind_some]
end Go.Lift
namespace Go.Lift
open Go
theorem znr (a b : ByteArray) : seqb a b = seqb b a := by
 unfold seqb
 exact Bool.eq_iff_iff.2 ⟨fun h => by rw [beq_iff_eq] at h ⊢; exact h.symm, fun h => by rw [beq_iff_eq] at h ⊢; exact h.symm⟩
def hasB (l : List ByteArray) (x : ByteArray) : Bool := l.any fun z => seqb z x
theorem zc8 {l : List ByteArray} {x : ByteArray} (hl : l.length ≤ 60000) : z47 l x = some (hasB l x) := by
 unfold z47
 have h : z1s (S := Int) (R := (Unit) ⊕ (Bool)) (fun i =>
  bif decide (i < (List.length l : Int)) then
   chk (decide ((0 : Int) ≤ i) && decide (i < (List.length l : Int))) (
    bif seqb (lget ByteArray.empty l i) x then
     Option.map Sum.inr (Option.map Sum.inr (
      some true))
    else
     some (.inl (wi64 (i + 1))))
  else
   some (.inr (.inl ()))) 0 = some (bif hasB l x then .inr true else .inl ()) := by
  unfold hasB
  refine z0n (X := ByteArray) (fun rest s => ∃ pre, l = pre ++ rest ∧ s = (pre.length : Int) ∧ l.any (fun z => seqb z x) = rest.any (fun z => seqb z x)) ?_ ?_ (l := l) ⟨[], rfl, rfl, rfl⟩
  ·rintro z rest _ ⟨pre, h1, rfl, h2⟩
   have hlen := congrArg List.length h1
   rw [List.length_append, List.length_cons] at hlen
   have hg : lget ByteArray.empty l (pre.length : Int) = z := by rw [h1]; exact z1z
   rw [z01 (show (pre.length : Int) < (l.length : Int) by omega), cond_true, z2v (z0g (z01 (by omega)) rfl), hg]
   cases hx : seqb z x with
   | false =>
    refine Or.inl ⟨((pre ++ [z]).length : Int), ?_, pre ++ [z], by rw [h1]; simp, rfl, ?_⟩
    ·rw [cond_false, z1p (by omega) (by omega), List.length_append, List.length_singleton]; rfl
    ·rw [h2, List.any_cons, hx, Bool.false_or]
   | true =>
    refine Or.inr ?_
    rw [cond_true, h2, List.any_cons, hx, Bool.true_or]
    rfl
  ·rintro _ ⟨pre, h1, rfl, h2⟩
   rw [List.append_nil] at h1
   subst h1
   rw [z09 (show ¬ (l.length : Int) < (l.length : Int) by omega), cond_false, h2]
   rfl
 rw [h, Option.bind_some]
 cases hasB l x <;> rfl
def mp (all : List ByteArray) : List (ByteArray × Bool) := all.map fun z => (z, true)
theorem y6v (all : List ByteArray) (x : ByteArray) : mget .str .bool (mp all) x = hasB all x := by
 unfold mget mp hasB
 induction all with
 | nil => rfl
 | cons z all ih =>
  rw [List.map_cons, List.any_cons, List.find?_cons]
  have e : Ty.eqb .str x (z, true).1 = seqb z x := znr x z
  rw [e]
  cases seqb z x with
  | true => rfl
  | false => rw [Bool.false_or, ← ih]
theorem y20 : ∀ {all : List ByteArray} {x : ByteArray}, hasB all x = false → mput .str .bool (mp all) x true = mp (all ++ [x])
 | [], x, _ => rfl
 | z :: all, x, h => by
  unfold hasB at h
  rw [List.any_cons, Bool.or_eq_false_iff] at h
  show (bif seqb x z then (z, true) :: mp all else (z, true) :: mput .str .bool (mp all) x true) = (z, true) :: mp (all ++ [x])
  rw [znr, h.1, cond_false, y20 h.2]
theorem mp_len (all : List ByteArray) : (mp all).length = all.length := by unfold mp; rw [List.length_map]
def z7w (all : List ByteArray) : List ByteArray → List ByteArray ⊕ Int
 | [] => .inl all
 | x :: r => bif !z7l x then .inr 4 else bif hasB all x then .inr 5 else z7w (all ++ [x]) r
theorem zc6 (all : List ByteArray) (x : ByteArray) (r : List ByteArray) : z7w all (x :: r) = bif !z7l x then .inr 4 else bif hasB all x then .inr 5 else z7w (all ++ [x]) r := rfl
theorem zo8 {all' : List ByteArray} : ∀ {p : List ByteArray} {all : List ByteArray}, z7w all p = .inl all' → all'.length = all.length + p.length
 | [], all, h => by unfold z7w at h; injection h with h; rw [h]; rfl
 | x :: r, all, h => by
  unfold z7w at h
  cases h1 : z7l x with
  | false => rw [h1] at h; cases h
  | true =>
   cases h2 : hasB all x with
   | true => rw [h1, h2] at h; cases h
   | false =>
    rw [h1, h2] at h
    have := zo8 (p := r) (all := all ++ [x]) h
    rw [List.length_append, List.length_singleton] at this
    rw [this, List.length_cons]; omega
def zeq : Nat → List ByteArray → List (List ByteArray) → List ByteArray ⊕ (Int × Int)
 | _, all, [] => .inl all
 | i, all, p :: r => bif decide ((p.length : Int) > 6) then .inr ((i : Int), 8) else match z7w all p with
  | .inl all' => zeq (i + 1) all' r
  | .inr e => .inr ((i : Int), e)
theorem zc5 (i : Nat) (all p : List ByteArray) (r : List (List ByteArray)) : zeq i all (p :: r) = bif decide ((p.length : Int) > 6) then .inr ((i : Int), 8) else match z7w all p with
 | .inl all' => zeq (i + 1) all' r
 | .inr e => .inr ((i : Int), e) := rfl
def zbu (y : List (List ByteArray)) : Int × Int := bif (y.length : Int) == 0 then (0, 10) else bif decide ((y.length : Int) > 4) then (0, 8) else match zeq 0 [] y with
 | .inl all => bif decide ((all.length : Int) > 8) then (0, 8) else (0, 0)
 | .inr e => e
theorem y1h {y : List (List ByteArray)} {t3 : Int} {p : List ByteArray} (hp : lget [] y t3 = p) (hl : p.length ≤ 8) (hs : ∀ x ∈ p, x.size ≤ 20) (all : List ByteArray) :
  z1s (S := Int × (List (ByteArray × Bool))) (R := ((List (ByteArray × Bool))) ⊕ ((Int × (List (ByteArray × Bool))) ⊕ (((List (ByteArray × Bool))) ⊕ (Int × Int)))) (fun s_1 =>
     let t_5 : Int := s_1.1
     let t_6 : (List (ByteArray × Bool)) := s_1.2
     bif decide (t_5 < (List.length (lget [] y t3) : Int)) then
      chk (decide ((0 : Int) ≤ t_5) && decide (t_5 < (List.length (lget [] y t3) : Int))) (
       let name : ByteArray := lget ByteArray.empty (lget [] y t3) t_5
       (z3i name).bind fun (t_7 : Bool) =>
       (z0d t_7 4).bind fun (t_8 : Int) =>
       (z0d (!(mget .str .bool t_6 name)) 5).bind fun (t_9 : Int) =>
       (z1i [t_8, t_9]).bind fun (t_10 : Int) =>
       bif (t_10 != 0) then
        Option.map Sum.inr (Option.map Sum.inr (
         Option.map Sum.inr (Option.map Sum.inr (
          some (t3, t_10)))))
       else
        let t_11 : (List (ByteArray × Bool)) := mput .str .bool t_6 name true
        some (.inl (wi64 (t_5 + 1), t_11)))
     else
      some (.inr (.inl t_6))) (0, mp all) = some (match z7w all p with | .inl all' => .inl (mp all') | .inr e => .inr (.inr (.inr (t3, e)))) := by
 rw [hp]
 refine z0n (X := ByteArray) (fun rest s => ∃ pre all', p = pre ++ rest ∧ s = ((pre.length : Int), mp all') ∧ z7w all p = z7w all' rest) ?_ ?_ (l := p) ⟨[], all, rfl, rfl, rfl⟩
 ·rintro x rest _ ⟨pre, all', h1, rfl, h2⟩
  have hlen := congrArg List.length h1
  rw [List.length_append, List.length_cons] at hlen
  have hg : lget ByteArray.empty p (pre.length : Int) = x := by rw [h1]; exact z1z
  have hx := hs x (by rw [h1]; simp)
  simp only []
  rw [z01 (show (pre.length : Int) < (p.length : Int) by omega), cond_true, z2v (z0g (z01 (by omega)) rfl), hg, y2c (by omega), Option.bind_some, z48, Option.bind_some, z48, Option.bind_some, y6v, zfr (by simp), Option.bind_some]
  rw [zc6] at h2
  cases hn : z7l x with
  | false =>
   rw [hn] at h2
   refine Or.inr ?_
   rw [h2]
   cases hasB all' x <;> rfl
  | true =>
   cases hh : hasB all' x with
   | true =>
    rw [hn, hh] at h2
    refine Or.inr ?_
    rw [h2]
    rfl
   | false =>
    rw [hn, hh] at h2
    refine Or.inl ⟨(((pre ++ [x]).length : Int), mp (all' ++ [x])), ?_, pre ++ [x], all' ++ [x], by rw [h1]; simp, rfl, h2⟩
    show some (Sum.inl (wi64 ((pre.length : Int) + 1), mput .str .bool (mp all') x true)) = _
    rw [y20 hh, z1p (by omega) (by omega), List.length_append, List.length_singleton]
    rfl
 ·rintro _ ⟨pre, all', h1, rfl, h2⟩
  rw [List.append_nil] at h1
  subst h1
  simp only []
  rw [z09 (show ¬ (p.length : Int) < (p.length : Int) by omega), cond_false, h2]
  rfl
theorem zms {y : List (List ByteArray)} {request : List ByteArray} (h : Few y request) : z15 y = some (zbu y) := by
 obtain ⟨hy, _, hps⟩ := h
 unfold z15 zbu
 rw [z48, Option.bind_some, z48, Option.bind_some, zfr (by simp), Option.bind_some]
 by_cases h0 : y.length = 0
 ·rw [h0]; rfl
 ·rw [show ((y.length : Int) == 0) = false by rw [beq_eq_false_iff_ne]; omega, cond_false, z01 (show (y.length : Int) > 0 by omega)]
  by_cases h4 : y.length > 4
  ·rw [z01 (show (y.length : Int) > 4 by omega), cond_true, z09 (show ¬ (y.length : Int) ≤ 4 by omega)]; rfl
  ·rw [z09 (show ¬ (y.length : Int) > 4 by omega), cond_false, z01 (show (y.length : Int) ≤ 4 by omega)]
   rw [show (zg3 [if (true = true) then (0 : Int) else 10, if (true = true) then (0 : Int) else 8] != 0) = false from rfl, cond_false]
   have hl : ∀ F : Int × (List (ByteArray × Bool)) → Option ((Int × (List (ByteArray × Bool))) ⊕ (((List (ByteArray × Bool))) ⊕ (Int × Int))),
     (∀ (pre rest : List (List ByteArray)) (p : List ByteArray) (all : List ByteArray), y = pre ++ p :: rest → F ((pre.length : Int), mp all) = bif decide ((p.length : Int) > 6) then some (.inr (.inr ((pre.length : Int), 8))) else match z7w all p with | .inl all' => some (.inl (((pre.length + 1 : Nat) : Int), mp all')) | .inr e => some (.inr (.inr ((pre.length : Int), e)))) →
     (∀ all : List ByteArray, F ((y.length : Int), mp all) = some (.inr (.inl (mp all)))) → z1s F (0, mp []) = some (match zeq 0 [] y with | .inl all => .inl (mp all) | .inr e => .inr e) := fun F h1 h2 => by
    refine z0n (X := List ByteArray) (fun rest s => ∃ pre all, y = pre ++ rest ∧ s = ((pre.length : Int), mp all) ∧ zeq 0 [] y = zeq pre.length all rest) ?_ ?_ (l := y) ⟨[], [], rfl, rfl, rfl⟩
    ·rintro p rest _ ⟨pre, all, e1, rfl, e2⟩
     rw [h1 pre rest p all e1]
     rw [zc5] at e2
     cases e3 : decide ((p.length : Int) > 6) with
     | true => rw [e3] at e2; refine Or.inr ?_; rw [cond_true]; rw [e2]; rfl
     | false =>
      rw [e3, cond_false] at e2
      rw [cond_false]
      cases e4 : z7w all p with
      | inl all' =>
       rw [e4] at e2
       exact Or.inl ⟨_, rfl, pre ++ [p], all', by rw [e1]; simp, by rw [List.length_append, List.length_singleton], by rw [List.length_append, List.length_singleton]; exact e2⟩
      | inr e => rw [e4] at e2; refine Or.inr ?_; rw [e2]
    ·rintro _ ⟨pre, all, e1, rfl, e2⟩
     rw [List.append_nil] at e1
     subst e1
     rw [h2 all, e2]
     rfl
   rw [show ([] : List (ByteArray × Bool)) = mp [] from rfl, hl]
   ·rw [Option.bind_some]
    cases e : zeq 0 [] y with
    | inr z => rfl
    | inl all =>
     simp only []
     rw [z48, Option.bind_some, mp_len]
     by_cases h8 : (all.length : Int) > 8
     ·rw [z01 h8, z09 (show ¬ (all.length : Int) ≤ 8 by omega)]; rfl
     ·rw [z09 h8, z01 (show (all.length : Int) ≤ 8 by omega)]; rfl
   ·intro pre rest p all e1
    have hlen := congrArg List.length e1
    rw [List.length_append, List.length_cons] at hlen
    have hg : lget [] y (pre.length : Int) = p := by rw [e1]; exact z1z
    have hp := hps p (by rw [e1]; simp)
    have hc := y1h (t3 := (pre.length : Int)) hg hp.1 hp.2 all
    simp only []
    rw [hc, hg, z01 (show (pre.length : Int) < (y.length : Int) by omega), cond_true, z2v (z0g (z01 (by omega)) rfl)]
    cases decide ((p.length : Int) > 6) with
    | true => rfl
    | false =>
     rw [cond_false, cond_false, Option.bind_some]
     cases z7w all p with
     | inl all' => simp only []; rw [z1p (by omega) (by omega)]; rfl
     | inr e => rfl
   ·intro all
    simp only []
    rw [z09 (show ¬ (y.length : Int) < (y.length : Int) by omega), cond_false]
end Go.Lift
namespace Go.Lift
open Go
theorem y42 {y : List (List ByteArray)} {i : Int} (hi : (decide ((0 : Int) ≤ i) && decide (i < (List.length y : Int))) = true) {p : List ByteArray} (hp : lget [] y i = p) (hl : p.length ≤ 8) (hs : ∀ x ∈ p, x.size ≤ 20) {all : List ByteArray} (ha : all.length ≤ 1000) :
  z1s (S := (List ByteArray) × Int) (R := ((List ByteArray)) ⊕ (((List ByteArray) × Int) ⊕ (((List ByteArray)) ⊕ (Int × Int)))) (fun s_1 =>
     let all_1 : (List ByteArray) := s_1.1
     let k : Int := s_1.2
     chk (decide ((0 : Int) ≤ i) && decide (i < (List.length y : Int))) (
      bif decide (k < (List.length (lget [] y i) : Int)) then
       chk (decide ((0 : Int) ≤ i) && decide (i < (List.length y : Int))) (
        chk (decide ((0 : Int) ≤ k) && decide (k < (List.length (lget [] y i) : Int))) (
         (zcx (lget ByteArray.empty (lget [] y i) k)).bind fun (t : Bool) =>
         bif !t then
          Option.map Sum.inr (Option.map Sum.inr (
           Option.map Sum.inr (Option.map Sum.inr (
            some (i, 4)))))
         else
          chk (decide ((0 : Int) ≤ i) && decide (i < (List.length y : Int))) (
           chk (decide ((0 : Int) ≤ k) && decide (k < (List.length (lget [] y i) : Int))) (
            (z47 all_1 (lget ByteArray.empty (lget [] y i) k)).bind fun (t_1 : Bool) =>
            bif t_1 then
             Option.map Sum.inr (Option.map Sum.inr (
              Option.map Sum.inr (Option.map Sum.inr (
               some (i, 5)))))
            else
             chk (decide ((0 : Int) ≤ i) && decide (i < (List.length y : Int))) (
              chk (decide ((0 : Int) ≤ k) && decide (k < (List.length (lget [] y i) : Int))) (
               (app all_1 [lget ByteArray.empty (lget [] y i) k]).bind fun (t_2 : List ByteArray) =>
               some (.inl (t_2, wi64 (k + 1)))))))))
      else
       some (.inr (.inl all_1)))) (all, 0) = some (match z7w all p with | .inl all' => .inl all' | .inr e => .inr (.inr (.inr (i, e)))) := by
 rw [hp, hi]
 refine z0n (X := ByteArray) (fun rest s => ∃ pre all', p = pre ++ rest ∧ s = (all', (pre.length : Int)) ∧ all'.length ≤ 1000 + pre.length ∧ z7w all p = z7w all' rest) ?_ ?_ (l := p) ⟨[], all, rfl, rfl, by simpa using ha, rfl⟩
 ·rintro x rest _ ⟨pre, all', h1, rfl, h3, h2⟩
  have hlen := congrArg List.length h1
  rw [List.length_append, List.length_cons] at hlen
  have hg : lget ByteArray.empty p (pre.length : Int) = x := by rw [h1]; exact z1z
  have hx := hs x (by rw [h1]; simp)
  have hk : (decide ((0 : Int) ≤ (pre.length : Int)) && decide ((pre.length : Int) < (p.length : Int))) = true := z0g (z01 (by omega)) (z01 (by omega))
  simp only []
  rw [hk, z01 (show (pre.length : Int) < (p.length : Int) by omega), hg]
  simp only [cond_true, zgn]
  rw [zv2 (by omega), Option.bind_some, zc8 (by omega), zhm (by rw [List.length_singleton]; omega)]
  rw [zc6] at h2
  cases hn : z7l x with
  | false =>
   rw [hn] at h2
   refine Or.inr ?_
   rw [h2]
   rfl
  | true =>
   cases hh : hasB all' x with
   | true =>
    rw [hn, hh] at h2
    refine Or.inr ?_
    rw [h2]
    rfl
   | false =>
    rw [hn, hh] at h2
    refine Or.inl ⟨(all' ++ [x], ((pre ++ [x]).length : Int)), ?_, pre ++ [x], all' ++ [x], by rw [h1]; simp, rfl, by rw [List.length_append, List.length_append, List.length_singleton]; omega, h2⟩
    show some (Sum.inl (all' ++ [x], wi64 ((pre.length : Int) + 1))) = _
    rw [z1p (by omega) (by omega), List.length_append, List.length_singleton]
    rfl
 ·rintro _ ⟨pre, all', h1, rfl, h3, h2⟩
  rw [List.append_nil] at h1
  subst h1
  simp only [zgn]
  rw [z09 (show ¬ (p.length : Int) < (p.length : Int) by omega), cond_false, h2]
  rfl
theorem zpl {y : List (List ByteArray)} {request : List ByteArray} (h : Few y request) : z6i y = some (zbu y) := by
 obtain ⟨hy, _, hps⟩ := h
 unfold z6i zbu
 cases (y.length : Int) == 0 with
 | true => rfl
 | false =>
  rw [cond_false, cond_false]
  cases h4 : decide ((y.length : Int) > 4) with
  | true => rfl
  | false =>
   rw [cond_false, cond_false]
   have hl : ∀ F : (List ByteArray) × Int → Option (((List ByteArray) × Int) ⊕ ((List ByteArray) ⊕ (Int × Int))),
     (∀ (pre rest : List (List ByteArray)) (p : List ByteArray) (all : List ByteArray), y = pre ++ p :: rest → all.length ≤ 8 * pre.length → F (all, (pre.length : Int)) = bif decide ((p.length : Int) > 6) then some (.inr (.inr ((pre.length : Int), 8))) else match z7w all p with | .inl all' => some (.inl (all', ((pre.length + 1 : Nat) : Int))) | .inr e => some (.inr (.inr ((pre.length : Int), e)))) →
     (∀ all : List ByteArray, F (all, (y.length : Int)) = some (.inr (.inl all))) → z1s F ([], 0) = some (match zeq 0 [] y with | .inl all => .inl all | .inr e => .inr e) := fun F h1 h2 => by
    refine z0n (X := List ByteArray) (fun rest s => ∃ pre all, y = pre ++ rest ∧ s = (all, (pre.length : Int)) ∧ all.length ≤ 8 * pre.length ∧ zeq 0 [] y = zeq pre.length all rest) ?_ ?_ (l := y) ⟨[], [], rfl, rfl, Nat.le_refl _, rfl⟩
    ·rintro p rest _ ⟨pre, all, e1, rfl, e0, e2⟩
     rw [h1 pre rest p all e1 e0]
     rw [zc5] at e2
     cases e3 : decide ((p.length : Int) > 6) with
     | true => rw [e3] at e2; refine Or.inr ?_; rw [cond_true]; rw [e2]; rfl
     | false =>
      rw [e3, cond_false] at e2
      rw [cond_false]
      cases e4 : z7w all p with
      | inl all' =>
       rw [e4] at e2
       have hpl := zo8 e4
       have := (hps p (by rw [e1]; simp)).1
       exact Or.inl ⟨_, rfl, pre ++ [p], all', by rw [e1]; simp, by rw [List.length_append, List.length_singleton], by rw [List.length_append, List.length_singleton]; omega, by rw [List.length_append, List.length_singleton]; exact e2⟩
      | inr e => rw [e4] at e2; refine Or.inr ?_; rw [e2]
    ·rintro _ ⟨pre, all, e1, rfl, e0, e2⟩
     rw [List.append_nil] at e1
     subst e1
     rw [h2 all, e2]
     rfl
   rw [hl]
   ·rw [Option.bind_some]
    cases e : zeq 0 [] y with
    | inr z => rfl
    | inl all =>
     simp only []
     cases decide ((all.length : Int) > 8) <;> rfl
   ·intro pre rest p all e1 e0
    have hlen := congrArg List.length e1
    rw [List.length_append, List.length_cons] at hlen
    have hg : lget [] y (pre.length : Int) = p := by rw [e1]; exact z1z
    have hp := hps p (by rw [e1]; simp)
    have hin : (decide ((0 : Int) ≤ (pre.length : Int)) && decide ((pre.length : Int) < (List.length y : Int))) = true := z0g (z01 (by omega)) (z01 (by omega))
    have hc := y42 hin hg hp.1 hp.2 (all := all) (by omega)
    simp only []
    rw [hc, hg, hin, z01 (show (pre.length : Int) < (y.length : Int) by omega), cond_true, zgn]
    cases decide ((p.length : Int) > 6) with
    | true => rfl
    | false =>
     rw [cond_false, cond_false, Option.bind_some]
     cases z7w all p with
     | inl all' => simp only []; rw [z1p (by omega) (by omega)]; rfl
     | inr e => rfl
   ·intro all
    simp only []
    rw [z09 (show ¬ (y.length : Int) < (y.length : Int) by omega), cond_false]
end Go.Lift
namespace Go.Lift
open Go
def zac (y : List (List ByteArray)) (m : Int × Int) : Int :=
 bif !inR m.1 0 ((y.length : Int) - 1) || (!inR m.2 0 ((y.length : Int) - 1) && m.2 != -1) then 6 else
 bif ((lget [] y m.1).length : Int) == 0 then 11 else bif m.1 == m.2 then 3 else
 bif m.2 != -1 && decide (((lget [] y m.2).length : Int) ≥ 6) then 16 else 0
theorem zi6 {y : List (List ByteArray)} (hy : y.length ≤ 1000) (m : Int × Int) : z0w y m = some (zac y m) := by
 unfold z0w z2w zac inR
 rw [z1p (x := (y.length : Int) - 1) (by omega) (by omega), zer, Option.bind_some, zer, Option.bind_some]
 by_cases h1 : 0 ≤ m.1 ∧ m.1 ≤ (y.length : Int) - 1
 ·rw [z01 h1, Option.bind_some, Bool.not_true, cond_false, Option.bind_some, Option.bind_some, Bool.false_or]
  by_cases h2 : 0 ≤ m.2 ∧ m.2 ≤ (y.length : Int) - 1
  ·have hm : (m.2 != -1) = true := by rw [bne_iff_ne]; omega
   have hm' : (m.2 == -1) = false := by rw [beq_eq_false_iff_ne]; omega
   have hx : imax m.2 0 = m.2 := by unfold imax; rw [if_neg (by omega)]
   rw [z01 h2, Bool.not_true, Bool.false_and, cond_false, cond_false, z2v (z0g (z01 (by omega)) (z01 (by omega))), z48, Option.bind_some, z48, Option.bind_some, hm', cond_false, hx, z2v (z0g (z01 (by omega)) (z01 (by omega))), Option.bind_some, z48, Option.bind_some, zfr (by simp), Option.bind_some, hm]
   by_cases h3 : ((lget [] y m.1).length : Int) = 0
   ·rw [h3]; rfl
   ·rw [show (((lget [] y m.1).length : Int) == 0) = false by rw [beq_eq_false_iff_ne]; exact h3, z01 (show ((lget [] y m.1).length : Int) > 0 by omega), cond_false]
    cases h4 : m.1 == m.2 with
    | true => rw [show (m.1 != m.2) = false by rw [bne, h4]; rfl]; rfl
    | false =>
     rw [show (m.1 != m.2) = true by rw [bne, h4]; rfl, cond_false, Bool.true_and]
     by_cases h5 : ((lget [] y m.2).length : Int) ≥ 6
     ·rw [z01 h5, z09 (show ¬ ((lget [] y m.2).length : Int) < 6 by omega)]; rfl
     ·rw [z09 h5, z01 (show ((lget [] y m.2).length : Int) < 6 by omega)]; rfl
  ·rw [z09 h2]
   by_cases hm1 : m.2 = -1
   ·rw [hm1]
    simp only [Bool.not_false, Bool.true_and, show ((-1 : Int) != -1) = false from rfl, cond_false, show ((-1 : Int) == -1) = true from rfl, cond_true]
    rw [z2v (z0g (z01 (by omega)) (z01 (by omega))), z48, Option.bind_some, z48, Option.bind_some, Option.bind_some, z48, Option.bind_some, zfr (by simp), Option.bind_some]
    by_cases h3 : ((lget [] y m.1).length : Int) = 0
    ·rw [h3]; rfl
    ·rw [show (((lget [] y m.1).length : Int) == 0) = false by rw [beq_eq_false_iff_ne]; exact h3, z01 (show ((lget [] y m.1).length : Int) > 0 by omega), cond_false]
     have h4 : (m.1 == -1) = false := by rw [beq_eq_false_iff_ne]; omega
     rw [h4, show (m.1 != -1) = true by rw [bne, h4]; rfl]
     rfl
   ·rw [show (m.2 != -1) = true by rw [bne_iff_ne]; exact hm1]
    rfl
 ·rw [z09 h1]; rfl
theorem zvw {y : List (List ByteArray)} {request : List ByteArray} (h : Few y request) : z2b y = some (y, (zbu y).2) := by
 unfold z2b
 rw [zms h, Option.bind_some, y50 h, Option.bind_some]
theorem y07 {y : List (List ByteArray)} {request : List ByteArray} (h : Few y request) : zc9 y = true := by
 unfold zc9
 refine z0g (z01 (by have := h.1; omega)) (List.all_eq_true.2 fun p hp => z01 ?_)
 have := (h.2.2 p hp).1
 omega
end Go.Lift
