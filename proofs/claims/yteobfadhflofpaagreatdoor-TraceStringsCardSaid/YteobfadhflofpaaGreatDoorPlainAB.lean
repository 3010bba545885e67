/-
  A course's text is read on both sides.
-/
import Derived.Test.YteobfadhflofpaaGreatDoorPlainAA
set_option linter.unusedSectionVars false
set_option linter.unusedVariables false
set_option linter.unusedSimpArgs false
namespace Go.Lift
open Go
theorem bind_of {A B : Type} {o : Option A} {a : A} {k : A → Option B} {r : Option B} (h : o = some a) (h2 : k a = r) : o.bind k = r := by rw [h]; exact h2
def pairL (c : UInt8) (w : List UInt8) : Option (Int × Int) := match pcs c w with
  | [p, q] => match numI p, numI q with
    | some a, some b => some (a, b)
    | _, _ => none
  | _ => none
theorem pair_nums {c : UInt8} {w : List UInt8} : (numsL c w = none → pairL c w = none) ∧ ∀ l, numsL c w = some l → (∃ a b, l = [a, b] ∧ pairL c w = some (a, b)) ∨ (l.length ≠ 2 ∧ pairL c w = none) := by
  unfold numsL pairL
  cases h : pcs c w with
  | nil => exact absurd h pcs_ne
  | cons p l1 =>
    cases l1 with
    | nil =>
      refine ⟨fun _ => rfl, fun l hl => Or.inr ⟨?_, rfl⟩⟩
      rw [allL_len hl, List.length_singleton]; decide
    | cons q l2 =>
      cases l2 with
      | nil =>
        simp only [allL_cons]
        cases numI p with
        | none => exact ⟨fun _ => rfl, fun l hl => by cases hl⟩
        | some a =>
          cases numI q with
          | none => exact ⟨fun _ => rfl, fun l hl => by cases hl⟩
          | some b => exact ⟨fun h => (by cases h), fun l hl => (by cases hl; exact Or.inl ⟨a, b, rfl, rfl⟩)⟩
      | cons r l3 =>
        refine ⟨fun _ => rfl, fun l hl => Or.inr ⟨?_, rfl⟩⟩
        rw [allL_len hl]; simp only [List.length_cons]; omega
def stepL (w : List UInt8) : Option Dapi_TraceStep := match cutL 32 w with
  | none => none
  | some p => if p.1 = [112] then (numsL 44 p.2).map fun l => ((0 : Int), (l, ((0 : Int), (0 : Int)))) else if p.1 = [99] then (pairL 32 p.2).map fun a => ((1 : Int), (([] : List Int), (a.1, a.2))) else none
def noStep : Dapi_TraceStep := (0, ([], (0, 0)))
theorem seqb_bof (l m : List UInt8) : seqb (bof l) (bof m) = decide (l = m) := by
  rw [seqb_data, data_bof, data_bof]
  by_cases h : l = m
  · rw [h, dec_true rfl]; exact beq_self_eq_true _
  · rw [dec_false h, beq_eq_false_iff_ne]; exact h
theorem stepOf_ok {w : List UInt8} (h : w.length ≤ 60000) : trace_stepOf (bof w) = some (match stepL w with | some x => (x, true) | none => (noStep, false)) := by
  unfold trace_stepOf strings_Cut
  rw [show bytes [32] = (⟨#[32]⟩ : ByteArray) from rfl, cutF_ok (by rw [bof_size]; omega), Option.bind_some, data_bof]
  unfold stepL
  cases hc : cutL 32 w with
  | none => rfl
  | some p =>
    have hl := congrArg List.length (cutL_len (x := p.1) (y := p.2) hc)
    rw [List.length_append, List.length_cons] at hl
    simp only []
    rw [Bool.not_true, cond_false, show bytes [112] = bof [112] from rfl, show bytes [99] = bof [99] from rfl, seqb_bof, seqb_bof]
    by_cases h1 : p.1 = [112]
    · rw [dec_true h1, cond_true, if_pos h1, show bytes [44] = (⟨#[44]⟩ : ByteArray) from rfl, parsed_ok (by rw [bof_size]; omega), Option.bind_some, data_bof]
      cases numsL 44 p.2 <;> rfl
    · rw [dec_false h1, cond_false, if_neg h1]
      by_cases h2 : p.1 = [99]
      · rw [dec_true h2, cond_true, if_pos h2, parsed_ok (by rw [bof_size]; omega), Option.bind_some, data_bof]
        obtain ⟨n1, n2⟩ := pair_nums (c := 32) (w := p.2)
        cases hn : numsL 32 p.2 with
        | none => rw [n1 hn]; rfl
        | some l =>
          rcases n2 l hn with ⟨a, b, rfl, hb⟩ | ⟨h3, hb⟩
          · rw [hb]; rfl
          · rw [hb]
            simp only []
            rw [show ((l.length : Int) != 2) = true by rw [bne_iff_ne]; omega]
            rfl
      · rw [dec_false h2, cond_false, if_neg h2]
        rfl
theorem pcs_has {c b : UInt8} (hb : b ≠ c) : ∀ {l : List UInt8}, b ∈ l → ∃ p, p ∈ pcs c l ∧ b ∈ p
  | [], h => by cases h
  | x :: l, h => by
    rw [pcs_cons]
    by_cases hx : x = c
    · rw [if_pos hx]
      rcases List.mem_cons.1 h with h | h
      · exact absurd (h.trans hx) hb
      · obtain ⟨p, h1, h2⟩ := pcs_has hb h
        exact ⟨p, List.mem_cons_of_mem _ h1, h2⟩
    · rw [if_neg hx]
      rcases List.mem_cons.1 h with h | h
      · split
        · exact ⟨[x], List.mem_singleton.2 rfl, by rw [h]; exact List.mem_singleton.2 rfl⟩
        · exact ⟨_, List.mem_cons_self, by rw [h]; exact List.mem_cons_self⟩
      · obtain ⟨p, h1, h2⟩ := pcs_has hb h
        split
        · rename_i hq; exact absurd hq pcs_ne
        · rename_i q ps hq
          rw [hq] at h1
          rcases List.mem_cons.1 h1 with h1 | h1
          · exact ⟨x :: q, List.mem_cons_self, by rw [← h1]; exact List.mem_cons_of_mem _ h2⟩
          · exact ⟨p, List.mem_cons_of_mem _ h1, h2⟩
theorem numI_no {p : List UInt8} {b : UInt8} (hb : isD b = false) (h : b ∈ p) : numI p = none := by
  unfold numI numL
  rw [if_neg (fun e => by
    have := List.all_eq_true.1 e.2.2.1 b h
    rw [hb] at this; cases this)]
  rfl
def rstepL (w : List UInt8) : Option Dapi_TraceStep := match pcs 32 w with
  | [x, y] => if x = [112] then (numsL 44 y).map fun l => ((0 : Int), (l, ((0 : Int), (0 : Int)))) else none
  | [x, y, z] => if x = [99] then (match numI y, numI z with | some a, some b => some ((1 : Int), (([] : List Int), (a, b))) | _, _ => none) else none
  | _ => none
theorem rstep_eq (w : List UInt8) : rstepL w = stepL w := by
  unfold rstepL stepL
  cases hc : cutL 32 w with
  | none => rw [pcs_none hc]
  | some p =>
    rw [pcs_some (x := p.1) (y := p.2) hc]
    simp only []
    cases hc2 : cutL 32 p.2 with
    | none =>
      rw [pcs_none hc2]
      unfold pairL
      rw [pcs_none hc2]
      by_cases h1 : p.1 = [112]
      · simp only []; rw [if_pos h1, if_pos h1]
      · simp only []; rw [if_neg h1, if_neg h1, Option.map_none, ite_self]
    | some q =>
      have hns : numsL 44 p.2 = none := by
        have hm : (32 : UInt8) ∈ p.2 := by rw [cutL_len (x := q.1) (y := q.2) hc2]; simp
        obtain ⟨x, x1, x2⟩ := pcs_has (c := 44) (b := 32) (by decide) hm
        exact allL_none (numI_no (by decide) x2) x1
      rw [hns]
      unfold pairL
      rw [pcs_some (x := q.1) (y := q.2) hc2]
      cases h3 : pcs 32 q.2 with
      | nil => exact absurd h3 pcs_ne
      | cons z l =>
        cases l with
        | nil =>
          simp only []
          by_cases h1 : p.1 = [112]
          · rw [if_pos h1, if_neg (by rw [h1]; decide), Option.map_none]
          · rw [if_neg h1]
            by_cases h2 : p.1 = [99]
            · rw [if_pos h2, if_pos h2]
              cases numI q.1 <;> cases numI z <;> rfl
            · rw [if_neg h2, if_neg h2]
        | cons z2 l =>
          simp only [Option.map_none, ite_self]
def parseL (l : List UInt8) : Option Dapi_TraceCourse := match pcs 59 l with
  | n :: secs :: steps => match allL (pairL 42) (pcs 44 secs) with
    | none => none
    | some A => match allL stepL steps with
      | none => none
      | some B => some (bof n, (A.map (·.1), (A.map (·.2), B)))
  | _ => none
def noCourse : Dapi_TraceCourse := (ByteArray.empty, ([], ([], [])))
end Go.Lift
namespace Go.Lift
open Go
theorem lget_bof {l : List (List UInt8)} {pre post : List (List UInt8)} {x : List UInt8} (h : l = pre ++ x :: post) : lget ByteArray.empty (l.map bof) (pre.length : Int) = bof x := by
  rw [h]; exact lget_map
theorem tParse_ok {s : ByteArray} (h : s.size ≤ 300) : trace_ParseCourse s = match parseL s.data.toList with
    | none => some (noCourse, 7)
    | some c => (trace_CheckCourse c).bind fun r => bif (r.2 != 0) then some (noCourse, r.2) else some (c, 0) := by
  have hsz := size_len s
  unfold trace_ParseCourse strings_Split
  rw [dec_false (show ¬ (s.size : Int) > 60000 by omega), cond_false, show bytes [59] = (⟨#[59]⟩ : ByteArray) from rfl, splitF_ok (by omega), Option.bind_some]
  have hlen := pcs_len (c := 59) (l := s.data.toList)
  have hmem : ∀ p, p ∈ pcs 59 s.data.toList → p.length ≤ 300 := fun p hp => by have := pcs_mem hp; omega
  unfold parseL
  cases hp : pcs 59 s.data.toList with
  | nil => exact absurd hp pcs_ne
  | cons n l1 =>
    cases l1 with
    | nil => rfl
    | cons secs steps =>
      rw [hp, List.length_cons, List.length_cons] at hlen
      rw [hp] at hmem
      have hsecs := hmem secs (by simp)
      have hL : ((n :: secs :: steps).map bof).length = steps.length + 2 := by rw [List.length_map, List.length_cons, List.length_cons]
      have hd : List.drop (Int.toNat 2) (List.take (Int.toNat ((((n :: secs :: steps).map bof).length : Nat) : Int)) ((n :: secs :: steps).map bof)) = steps.map bof := by
        rw [Int.toNat_natCast, List.take_length]; rfl
      rw [hd]
      simp only [hL]
      rw [dec_false (show ¬ (((steps.length + 2 : Nat)) : Int) < 2 by omega), cond_false, chk_true (and_true' (dec_true (by omega)) (dec_true (by omega))), chk_true (and_true' (dec_true (by omega)) (dec_true (by omega)))]
      rw [show lget ByteArray.empty ((n :: secs :: steps).map bof) 0 = bof n from rfl, show lget ByteArray.empty ((n :: secs :: steps).map bof) 1 = bof secs from rfl, show bytes [44] = (⟨#[44]⟩ : ByteArray) from rfl, splitF_ok (by rw [bof_size]; omega), Option.bind_some, data_bof]
      have hlen2 := pcs_len (c := 44) (l := secs)
      refine bind_of (loopT_all (X := ByteArray) (Y := Int × Int) (g := fun w => pairL 42 w.data.toList) (put := fun out : List (Int × Int) => ((bof n, (out.map (·.1), (out.map (·.2), []))) : Dapi_TraceCourse)) (r0 := (noCourse, 7)) ?_) ?_
      · intro w hw out ho
        obtain ⟨p, hpm, rfl⟩ := List.mem_map.1 hw
        have := pcs_mem hpm
        rw [List.length_map] at ho
        simp only [data_bof]
        rw [show bytes [42] = (⟨#[42]⟩ : ByteArray) from rfl, parsed_ok (by rw [bof_size]; omega), Option.bind_some, data_bof]
        obtain ⟨n1, n2⟩ := pair_nums (c := 42) (w := p)
        cases hn : numsL 42 p with
        | none => rw [n1 hn]; rfl
        | some l =>
          rcases n2 l hn with ⟨a, b, rfl, hb⟩ | ⟨h3, hb⟩
          · rw [hb]
            simp only []
            rw [Bool.not_true, Bool.false_or, show ((([a, b] : List Int).length : Int) != 2) = false from rfl, cond_false, chk_true (by rfl), app_ok (by rw [List.length_map, List.length_singleton]; omega), Option.bind_some, chk_true (by rfl), app_ok (by rw [List.length_map, List.length_singleton]; omega), Option.bind_some, List.map_append, List.map_append]
            rfl
          · rw [hb]
            simp only []
            rw [show ((l.length : Int) != 2) = true by rw [bne_iff_ne]; omega]
            rfl
      · rw [allL_map]
        simp only [data_bof]
        rw [show (fun x => pairL 42 x) = pairL 42 from rfl]
        cases hA : allL (pairL 42) (pcs 44 secs) with
        | none => rfl
        | some A =>
          simp only []
          rw [chk_true (and_true' (and_true' (dec_true (by omega)) (dec_true (by omega))) (dec_true (by omega)))]
          refine bind_of (loopM_all (X := List UInt8) (Y := Dapi_TraceStep) (g := stepL) (xs := steps) (fun k out => ((k : Int), ((bof n, (A.map (·.1), (A.map (·.2), out))) : Dapi_TraceCourse))) (fun out => .inl ((bof n, (A.map (·.1), (A.map (·.2), out))) : Dapi_TraceCourse)) (.inr (noCourse, 7)) ?_ ?_) ?_
          · intro pre post x out h1 h2
            have hl := congrArg List.length h1
            rw [List.length_append, List.length_cons] at hl
            have hx := hmem x (by rw [h1]; simp)
            simp only [List.length_map]
            rw [dec_true (show (pre.length : Int) < (steps.length : Int) by omega), cond_true, chk_true (and_true' (dec_true (by omega)) rfl), lget_bof h1, stepOf_ok (by omega), Option.bind_some]
            cases stepL x with
            | none => rfl
            | some y =>
              simp only []
              rw [Bool.not_true, cond_false, app_ok (by rw [List.length_singleton]; omega), Option.bind_some, wi64_id (by omega) (by omega)]
              rfl
          · intro out h2
            simp only [List.length_map]
            rw [dec_false (show ¬ (steps.length : Int) < (steps.length : Int) by omega), cond_false]
          · cases allL stepL steps <;> rfl
theorem numI_lt {p : List UInt8} {n : Int} (h : numI p = some n) : 0 ≤ n ∧ n < 10000000 := by
  unfold numI at h
  cases hn : numL p with
  | none => rw [hn] at h; cases h
  | some v => rw [hn] at h; have := numL_lt hn; have e : ((v : Nat) : Int) = n := Option.some.inj h; omega
theorem rnum {p : List UInt8} (h : p.length ≤ 60000) : ∃ r : Int × Bool, r9_number (bof p) = some r ∧ (∀ n, numI p = some n → r = (n, true)) ∧ (numI p = none → r.2 = false) := by
  obtain ⟨r, h1, h2, h3⟩ := number_ok (s := bof p) (by rw [bof_size]; exact h)
  rw [data_bof] at h2 h3
  refine ⟨r, h1, fun n hn => ?_, fun hn => ?_⟩
  · unfold numI at hn
    cases hv : numL p with
    | none => rw [hv] at hn; cases hn
    | some v => rw [hv] at hn; cases hn; exact h2 v hv
  · unfold numI at hn
    cases hv : numL p with
    | none => exact h3 hv
    | some v => rw [hv] at hn; cases hn
theorem rParse_ok {s : ByteArray} (h : s.size ≤ 300) : r9_ParseCourse s = match parseL s.data.toList with
    | none => some (noCourse, 7)
    | some c => (r9_CourseErr c).bind fun r => bif (r != 0) then some (noCourse, r) else some (c, 0) := by
  have hsz := size_len s
  have hc1 : ∀ (l : List UInt8), l.length ≤ 300 → b0_Cut (bof l) 59 = some ((pcs 59 l).map bof) := fun l hl => Cut_ok (s := bof l) (c := 59) (by rw [bof_size]; omega)
  have hc2 : ∀ (l : List UInt8), l.length ≤ 300 → b0_Cut (bof l) 44 = some ((pcs 44 l).map bof) := fun l hl => Cut_ok (s := bof l) (c := 44) (by rw [bof_size]; omega)
  have hc3 : ∀ (l : List UInt8), l.length ≤ 300 → b0_Cut (bof l) 42 = some ((pcs 42 l).map bof) := fun l hl => Cut_ok (s := bof l) (c := 42) (by rw [bof_size]; omega)
  have hc4 : ∀ (l : List UInt8), l.length ≤ 300 → b0_Cut (bof l) 32 = some ((pcs 32 l).map bof) := fun l hl => Cut_ok (s := bof l) (c := 32) (by rw [bof_size]; omega)
  unfold r9_ParseCourse
  rw [dec_false (show ¬ (s.size : Int) > 60000 by omega), cond_false, ← bof_data s, hc1 _ (by omega), Option.bind_some, bof_data]
  have hlen := pcs_len (c := 59) (l := s.data.toList)
  have hmem : ∀ p, p ∈ pcs 59 s.data.toList → p.length ≤ 300 := fun p hp => by have := pcs_mem hp; omega
  unfold parseL
  cases hp : pcs 59 s.data.toList with
  | nil => exact absurd hp pcs_ne
  | cons n l1 =>
    cases l1 with
    | nil => rfl
    | cons secs steps =>
      rw [hp, List.length_cons, List.length_cons] at hlen
      rw [hp] at hmem
      have hsecs := hmem secs (by simp)
      have hL : ((n :: secs :: steps).map bof).length = steps.length + 2 := by rw [List.length_map, List.length_cons, List.length_cons]
      simp only [hL]
      rw [dec_false (show ¬ (((steps.length + 2 : Nat)) : Int) < 2 by omega), cond_false, chk_true (and_true' (dec_true (by omega)) (dec_true (by omega))), chk_true (and_true' (dec_true (by omega)) (dec_true (by omega)))]
      rw [show lget ByteArray.empty ((n :: secs :: steps).map bof) 0 = bof n from rfl, show lget ByteArray.empty ((n :: secs :: steps).map bof) 1 = bof secs from rfl, hc2 _ hsecs, Option.bind_some]
      have hlen2 := pcs_len (c := 44) (l := secs)
      refine bind_of (loopM_all (X := List UInt8) (Y := Int × Int) (g := pairL 42) (xs := pcs 44 secs) (fun k out => ((k : Int), ((bof n, (out.map (·.1), (out.map (·.2), []))) : Dapi_TraceCourse))) (fun out => .inl ((bof n, (out.map (·.1), (out.map (·.2), []))) : Dapi_TraceCourse)) (.inr (noCourse, 7)) ?_ ?_) ?_
      · intro pre post x out h1 h2
        have hl := congrArg List.length h1
        rw [List.length_append, List.length_cons] at hl
        have hx := pcs_mem (c := 44) (l := secs) (p := x) (by rw [h1]; simp)
        simp only [List.length_map]
        rw [dec_true (show (pre.length : Int) < ((pcs 44 secs).length : Int) by omega), cond_true, chk_true (and_true' (dec_true (by omega)) rfl), lget_bof h1, hc3 _ (by omega), Option.bind_some]
        have hm3 : ∀ p, p ∈ pcs 42 x → p.length ≤ 300 := fun p hp => by have := pcs_mem hp; omega
        unfold pairL
        cases h3 : pcs 42 x with
        | nil => exact absurd h3 pcs_ne
        | cons p l2 =>
          rw [h3] at hm3
          cases l2 with
          | nil => rfl
          | cons q l3 =>
            cases l3 with
            | cons r l4 =>
              simp only [List.map_cons, List.length_cons]
              rw [show ((((l4.map bof).length + 1 + 1 + 1 : Nat) : Int) != 2) = true by rw [bne_iff_ne]; omega]
              rfl
            | nil =>
              obtain ⟨r1, a1, a2, a3⟩ := rnum (p := p) (by have := hm3 p (by simp); omega)
              obtain ⟨r2, b1, b2, b3⟩ := rnum (p := q) (by have := hm3 q (by simp); omega)
              simp only []
              rw [show ((([p, q].map bof).length : Int) != 2) = false from rfl, cond_false, chk_true (by rfl), show lget ByteArray.empty ([p, q].map bof) 0 = bof p from rfl, a1, Option.bind_some, chk_true (by rfl), show lget ByteArray.empty ([p, q].map bof) 1 = bof q from rfl, b1, Option.bind_some]
              cases hpn : numI p with
              | none => rw [a3 hpn]; rfl
              | some a =>
                rw [a2 a hpn]
                cases hqn : numI q with
                | none => rw [b3 hqn]; rfl
                | some b =>
                  rw [b2 b hqn]
                  simp only []
                  rw [show (!true || !true) = false from rfl, cond_false, app_ok (by rw [List.length_map, List.length_singleton]; omega), Option.bind_some, app_ok (by rw [List.length_map, List.length_singleton]; omega), Option.bind_some, wi64_id (by omega) (by omega), List.map_append, List.map_append]
                  rfl
      · intro out h2
        simp only [List.length_map]
        rw [dec_false (show ¬ ((pcs 44 secs).length : Int) < ((pcs 44 secs).length : Int) by omega), cond_false]
      · cases hA : allL (pairL 42) (pcs 44 secs) with
        | none => rfl
        | some A =>
          simp only []
          refine bind_of (loopM_all (X := List UInt8) (Y := Dapi_TraceStep) (g := stepL) (xs := steps) (fun k out => (((k : Int) + 2), ((bof n, (A.map (·.1), (A.map (·.2), out))) : Dapi_TraceCourse))) (fun out => .inl ((bof n, (A.map (·.1), (A.map (·.2), out))) : Dapi_TraceCourse)) (.inr (noCourse, 7)) ?_ ?_) ?_
          · intro pre post x out h1 h2
            have hl := congrArg List.length h1
            rw [List.length_append, List.length_cons] at hl
            have hx := hmem x (by rw [h1]; simp)
            have hg : lget ByteArray.empty ((n :: secs :: steps).map bof) ((pre.length : Int) + 2) = bof x := by
              have := lget_bof (l := n :: secs :: steps) (pre := n :: secs :: pre) (x := x) (post := post) (by rw [h1]; rfl)
              rwa [List.length_cons, List.length_cons] at this
            simp only [hg]
            rw [dec_true (show (pre.length : Int) + 2 < ((steps.length + 2 : Nat) : Int) by omega), cond_true, chk_true (and_true' (dec_true (by omega)) rfl), hc4 _ hx, Option.bind_some, ← rstep_eq]
            have hm3 : ∀ p, p ∈ pcs 32 x → p.length ≤ 300 := fun p hp => by have := pcs_mem hp; omega
            unfold rstepL
            have hfin : ∀ y : Dapi_TraceStep, ((app out [y]).bind fun (t_8 : List Dapi_TraceStep) => (some (.inl (wi64 ((pre.length : Int) + 2 + 1), ((bof n, (A.map (·.1), (A.map (·.2), t_8))) : Dapi_TraceCourse))) : Option ((Int × Dapi_TraceCourse) ⊕ (Dapi_TraceCourse ⊕ (Dapi_TraceCourse × Int))))) = some (.inl ((((pre.length + 1 : Nat) : Int) + 2), ((bof n, (A.map (·.1), (A.map (·.2), out ++ [y]))) : Dapi_TraceCourse))) := fun y => by
              rw [app_ok (by rw [List.length_singleton]; omega), Option.bind_some, wi64_id (by omega) (by omega), show (pre.length : Int) + 2 + 1 = ((pre.length + 1 : Nat) : Int) + 2 by omega]
            cases h3 : pcs 32 x with
            | nil => exact absurd h3 pcs_ne
            | cons p l2 =>
              rw [h3] at hm3
              cases l2 with
              | nil => rfl
              | cons q l3 =>
                cases l3 with
                | nil =>
                  have hq := hm3 q (by simp)
                  simp only []
                  rw [show ((([p, q].map bof).length : Int) == 2) = true from rfl, cond_true, chk_true (by rfl), show lget ByteArray.empty ([p, q].map bof) 0 = bof p from rfl, show lget ByteArray.empty ([p, q].map bof) 1 = bof q from rfl, show bytes [112] = bof [112] from rfl, seqb_bof, Option.bind_some]
                  by_cases h112 : p = [112]
                  · rw [dec_true h112, cond_true, if_pos h112, chk_true (by rfl), hc2 _ hq, Option.bind_some]
                    have hlen3 := pcs_len (c := 44) (l := q)
                    refine bind_of (bind_of (loopM_all (X := List UInt8) (Y := Int) (g := numI) (xs := pcs 44 q) (fun k out => ((k : Int), ((0, (out, (0, 0))) : Dapi_TraceStep))) (fun out => .inl ((0, (out, (0, 0))) : Dapi_TraceStep)) (.inr (.inr (.inr (.inr (noCourse, 7))))) ?_ ?_) (show _ = some (match numsL 44 q with | some l => .inl ((0, (l, (0, 0))) : Dapi_TraceStep) | none => .inr (.inr (.inr (noCourse, 7)))) from ?_)) ?_
                    · intro pre2 post2 x2 out2 h4 h5
                      have hl2 := congrArg List.length h4
                      rw [List.length_append, List.length_cons] at hl2
                      have hx2 := pcs_mem (c := 44) (l := q) (p := x2) (by rw [h4]; simp)
                      simp only [List.length_map]
                      rw [dec_true (show (pre2.length : Int) < ((pcs 44 q).length : Int) by omega), cond_true, chk_true (and_true' (dec_true (by omega)) rfl), lget_bof h4]
                      obtain ⟨r1, a1, a2, a3⟩ := rnum (p := x2) (by omega)
                      rw [a1, Option.bind_some]
                      cases hn : numI x2 with
                      | none => rw [a3 hn]; rfl
                      | some v =>
                        rw [a2 v hn, Bool.not_true, cond_false, app_ok (by rw [List.length_singleton]; omega), Option.bind_some, wi64_id (by omega) (by omega)]
                        rfl
                    · intro out2 h4
                      simp only [List.length_map]
                      rw [dec_false (show ¬ ((pcs 44 q).length : Int) < ((pcs 44 q).length : Int) by omega), cond_false]
                    · rw [show allL numI (pcs 44 q) = numsL 44 q from rfl]
                      cases numsL 44 q <;> rfl
                    · cases numsL 44 q with
                      | none => rfl
                      | some l => exact hfin _
                  · rw [dec_false h112, cond_false, if_neg h112]
                    rfl
                | cons r l4 =>
                  cases l4 with
                  | nil =>
                    have hq := hm3 q (by simp)
                    have hr := hm3 r (by simp)
                    simp only []
                    rw [show ((([p, q, r].map bof).length : Int) == 2) = false from rfl, cond_false, Option.bind_some, cond_false, show ((([p, q, r].map bof).length : Int) == 3) = true from rfl, cond_true, chk_true (by rfl), show lget ByteArray.empty ([p, q, r].map bof) 0 = bof p from rfl, show lget ByteArray.empty ([p, q, r].map bof) 1 = bof q from rfl, show lget ByteArray.empty ([p, q, r].map bof) 2 = bof r from rfl, show bytes [99] = bof [99] from rfl, seqb_bof, Option.bind_some]
                    by_cases h99 : p = [99]
                    · rw [dec_true h99, cond_true, if_pos h99, chk_true (by rfl)]
                      obtain ⟨r1, a1, a2, a3⟩ := rnum (p := q) (by omega)
                      obtain ⟨r2, b1, b2, b3⟩ := rnum (p := r) (by omega)
                      rw [a1, Option.bind_some, chk_true (by rfl), b1, Option.bind_some]
                      cases hpn : numI q with
                      | none => rw [a3 hpn]; rfl
                      | some a =>
                        rw [a2 a hpn]
                        cases hqn : numI r with
                        | none => rw [b3 hqn]; rfl
                        | some b =>
                          rw [b2 b hqn]
                          exact hfin _
                    · rw [dec_false h99, cond_false, if_neg h99]
                      rfl
                  | cons r2 l5 =>
                    simp only [List.map_cons, List.length_cons]
                    rw [show ((((l5.map bof).length + 1 + 1 + 1 + 1 : Nat) : Int) == 2) = false by rw [beq_eq_false_iff_ne]; omega, cond_false, Option.bind_some, cond_false, show ((((l5.map bof).length + 1 + 1 + 1 + 1 : Nat) : Int) == 3) = false by rw [beq_eq_false_iff_ne]; omega]
                    rfl
          · intro out h2
            simp only []
            rw [dec_false (show ¬ (steps.length : Int) + 2 < ((steps.length + 2 : Nat) : Int) by omega), cond_false]
          · cases allL stepL steps <;> rfl
end Go.Lift
