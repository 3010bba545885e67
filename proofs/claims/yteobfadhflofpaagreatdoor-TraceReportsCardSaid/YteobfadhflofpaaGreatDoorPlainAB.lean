/-
  A course's text is read on both sides.
-/
import Derived.Test.YteobfadhflofpaaGreatDoorPlainAA
set_option linter.unusedSectionVars false
set_option linter.unusedVariables false
set_option linter.unusedSimpArgs false
namespace Go.Lift
open Go
theorem bind_of {A B : Type} {o : Option A} {a : A} {k : A → Option B} {r : Option B} (h : o = some a) (h2 : k a = r) : o.bind k = r := by rw [h]; exact h2
def pairL (c : UInt8) (w : List UInt8) : Option (Int × Int) := match pcs c w with
 | [p, q] => match numI p, numI q with
  | some a, some b => some (a, b)
  | _, _ => none
 | _ => none
theorem pair_nums {c : UInt8} {w : List UInt8} : (numsL c w = none → pairL c w = none) ∧ ∀ l, numsL c w = some l → (∃ a b, l = [a, b] ∧ pairL c w = some (a, b)) ∨ (l.length ≠ 2 ∧ pairL c w = none) := by
 unfold numsL pairL
 cases h : pcs c w with
 | nil => exact absurd h pcs_ne
 | cons p l1 =>
  cases l1 with
  | nil =>
   refine ⟨fun _ => rfl, fun l hl => Or.inr ⟨?_, rfl⟩⟩
   rw [mpL_len hl, List.length_singleton]; decide
  | cons q l2 =>
   cases l2 with
   | nil =>
    simp only [mpL_cons]
    cases numI p with
    | none => exact ⟨fun _ => rfl, fun l hl => by cases hl⟩
    | some a =>
     cases numI q with
     | none => exact ⟨fun _ => rfl, fun l hl => by cases hl⟩
     | some b => exact ⟨fun h => (by cases h), fun l hl => (by cases hl; exact Or.inl ⟨a, b, rfl, rfl⟩)⟩
   | cons r l3 =>
    refine ⟨fun _ => rfl, fun l hl => Or.inr ⟨?_, rfl⟩⟩
    rw [mpL_len hl]; simp only [List.length_cons]; omega
def stepL (w : List UInt8) : Option Dapi_TraceStep := match cutL 32 w with
 | none => none
 | some p => if p.1 = [112] then (numsL 44 p.2).map fun l => ((0 : Int), (l, ((0 : Int), (0 : Int)))) else if p.1 = [99] then (pairL 32 p.2).map fun a => ((1 : Int), (([] : List Int), (a.1, a.2))) else none
def noStep : Dapi_TraceStep := (0, ([], (0, 0)))
theorem seqb_bof (l m : List UInt8) : seqb (bof l) (bof m) = decide (l = m) := by
 rw [seqb_data, data_bof, data_bof]
 by_cases h : l = m
 ·rw [h, dec_true rfl]; exact beq_self_eq_true _
 ·rw [dec_false h, beq_eq_false_iff_ne]; exact h
theorem stepOf_ok {w : List UInt8} (h : w.length ≤ 60000) : trace_stepOf (bof w) = some (match stepL w with | some x => (x, true) | none => (noStep, false)) := by
 unfold trace_stepOf strings_Cut
 rw [show bytes [32] = (⟨#[32]⟩ : ByteArray) from rfl, cutF_ok (by rw [bof_size]; omega), Option.bind_some, data_bof]
 unfold stepL
 cases hc : cutL 32 w with
 | none => rfl
 | some p =>
  have hl := congrArg List.length (cutL_len (x := p.1) (y := p.2) hc)
  rw [List.length_append, List.length_cons] at hl
  simp only []
  rw [Bool.not_true, cond_false, show bytes [112] = bof [112] from rfl, show bytes [99] = bof [99] from rfl, seqb_bof, seqb_bof]
  by_cases h1 : p.1 = [112]
  ·rw [dec_true h1, cond_true, if_pos h1, show bytes [44] = (⟨#[44]⟩ : ByteArray) from rfl, parsed_ok (by rw [bof_size]; omega), Option.bind_some, data_bof]
   cases numsL 44 p.2 <;> rfl
  ·rw [dec_false h1, cond_false, if_neg h1]
   by_cases h2 : p.1 = [99]
   ·rw [dec_true h2, cond_true, if_pos h2, parsed_ok (by rw [bof_size]; omega), Option.bind_some, data_bof]
    obtain ⟨n1, n2⟩ := pair_nums (c := 32) (w := p.2)
    cases hn : numsL 32 p.2 with
    | none => rw [n1 hn]; rfl
    | some l =>
     rcases n2 l hn with ⟨a, b, rfl, hb⟩ | ⟨h3, hb⟩
     ·rw [hb]; rfl
     ·rw [hb]
      simp only []
      rw [show ((l.length : Int) != 2) = true by rw [bne_iff_ne]; omega]
      rfl
   ·rw [dec_false h2, cond_false, if_neg h2]
    rfl
def parseL (l : List UInt8) : Option Dapi_TraceCourse := match pcs 59 l with
 | n :: secs :: steps => match mpL (pairL 42) (pcs 44 secs) with
  | none => none
  | some A => match mpL stepL steps with
   | none => none
   | some B => some (bof n, (A.map (·.1), (A.map (·.2), B)))
 | _ => none
def noCourse : Dapi_TraceCourse := (ByteArray.empty, ([], ([], [])))
end Go.Lift
namespace Go.Lift
open Go
theorem lget_bof {l : List (List UInt8)} {pre post : List (List UInt8)} {x : List UInt8} (h : l = pre ++ x :: post) : lget ByteArray.empty (l.map bof) (pre.length : Int) = bof x := by
 rw [h]; exact lget_map
theorem tParse_ok {s : ByteArray} (h : s.size ≤ 5000) : trace_ParseCourse s = match parseL s.data.toList with
  | none => some (noCourse, 7)
  | some c => (trace_CheckCourse c).bind fun r => bif (r.2 != 0) then some (noCourse, r.2) else some (c, 0) := by
 have hsz := size_len s
 unfold trace_ParseCourse strings_Split
 rw [dec_false (show ¬ (s.size : Int) > 60000 by omega), cond_false, show bytes [59] = (⟨#[59]⟩ : ByteArray) from rfl, splitF_ok (by omega), Option.bind_some]
 have hlen := pcs_len (c := 59) (l := s.data.toList)
 have hmem : ∀ p, p ∈ pcs 59 s.data.toList → p.length ≤ 5000 := fun p hp => by have := pcs_mem hp; omega
 unfold parseL
 cases hp : pcs 59 s.data.toList with
 | nil => exact absurd hp pcs_ne
 | cons n l1 =>
  cases l1 with
  | nil => rfl
  | cons secs steps =>
   rw [hp, List.length_cons, List.length_cons] at hlen
   rw [hp] at hmem
   have hsecs := hmem secs (by simp)
   have hL : ((n :: secs :: steps).map bof).length = steps.length + 2 := by rw [List.length_map, List.length_cons, List.length_cons]
   have hd : List.drop (Int.toNat 2) (List.take (Int.toNat ((((n :: secs :: steps).map bof).length : Nat) : Int)) ((n :: secs :: steps).map bof)) = steps.map bof := by
    rw [Int.toNat_natCast, List.take_length]; rfl
   rw [hd]
   simp only [hL]
   rw [dec_false (show ¬ (((steps.length + 2 : Nat)) : Int) < 2 by omega), cond_false, chk_true (and_true' (dec_true (by omega)) (dec_true (by omega))), chk_true (and_true' (dec_true (by omega)) (dec_true (by omega)))]
   rw [show lget ByteArray.empty ((n :: secs :: steps).map bof) 0 = bof n from rfl, show lget ByteArray.empty ((n :: secs :: steps).map bof) 1 = bof secs from rfl, show bytes [44] = (⟨#[44]⟩ : ByteArray) from rfl, splitF_ok (by rw [bof_size]; omega), Option.bind_some, data_bof]
   have hlen2 := pcs_len (c := 44) (l := secs)
   refine bind_of (loopT_all (X := ByteArray) (Y := Int × Int) (g := fun w => pairL 42 w.data.toList) (put := fun out : List (Int × Int) => ((bof n, (out.map (·.1), (out.map (·.2), []))) : Dapi_TraceCourse)) (r0 := (noCourse, 7)) ?_) ?_
   ·intro w hw out ho
    obtain ⟨p, hpm, rfl⟩ := List.mem_map.1 hw
    have := pcs_mem hpm
    rw [List.length_map] at ho
    simp only [data_bof]
    rw [show bytes [42] = (⟨#[42]⟩ : ByteArray) from rfl, parsed_ok (by rw [bof_size]; omega), Option.bind_some, data_bof]
    obtain ⟨n1, n2⟩ := pair_nums (c := 42) (w := p)
    cases hn : numsL 42 p with
    | none => rw [n1 hn]; rfl
    | some l =>
     rcases n2 l hn with ⟨a, b, rfl, hb⟩ | ⟨h3, hb⟩
     ·rw [hb]
      simp only []
      rw [Bool.not_true, Bool.false_or, show ((([a, b] : List Int).length : Int) != 2) = false from rfl, cond_false, chk_true (by rfl), app_ok (by rw [List.length_map, List.length_singleton]; omega), Option.bind_some, chk_true (by rfl), app_ok (by rw [List.length_map, List.length_singleton]; omega), Option.bind_some, List.map_append, List.map_append]
      rfl
     ·rw [hb]
      simp only []
      rw [show ((l.length : Int) != 2) = true by rw [bne_iff_ne]; omega]
      rfl
   ·rw [mpL_map]
    simp only [data_bof]
    rw [show (fun x => pairL 42 x) = pairL 42 from rfl]
    cases hA : mpL (pairL 42) (pcs 44 secs) with
    | none => rfl
    | some A =>
     simp only []
     rw [chk_true (and_true' (and_true' (dec_true (by omega)) (dec_true (by omega))) (dec_true (by omega)))]
     refine bind_of (loopM_all (X := List UInt8) (Y := Dapi_TraceStep) (g := stepL) (xs := steps) (fun k out => ((k : Int), ((bof n, (A.map (·.1), (A.map (·.2), out))) : Dapi_TraceCourse))) (fun out => .inl ((bof n, (A.map (·.1), (A.map (·.2), out))) : Dapi_TraceCourse)) (.inr (noCourse, 7)) ?_ ?_) ?_
     ·intro pre post x out h1 h2
      have hl := congrArg List.length h1
      rw [List.length_append, List.length_cons] at hl
      have hx := hmem x (by rw [h1]; simp)
      simp only [List.length_map]
      rw [dec_true (show (pre.length : Int) < (steps.length : Int) by omega), cond_true, chk_true (and_true' (dec_true (by omega)) rfl), lget_bof h1, stepOf_ok (by omega), Option.bind_some]
      cases stepL x with
      | none => rfl
      | some y =>
       simp only []
       rw [Bool.not_true, cond_false, app_ok (by rw [List.length_singleton]; omega), Option.bind_some, wi64_id (by omega) (by omega)]
       rfl
     ·intro out h2
      simp only [List.length_map]
      rw [dec_false (show ¬ (steps.length : Int) < (steps.length : Int) by omega), cond_false]
     ·cases mpL stepL steps <;> rfl
end Go.Lift
