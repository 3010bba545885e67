/-
  Causes predict; evidence is a table of bits.
-/
import Derived.Test.YteobfadhflofpaaGreatDoorPlainN
import Derived.Test.YteobfadhflofpaaGreatDoorFunRe
import Derived.Test.YteobfadhflofpaaGreatDoorPlainD
set_option linter.unusedSectionVars false
set_option linter.unusedVariables false
set_option linter.unusedSimpArgs false
namespace Go.Lift
open Go
end Go.Lift
namespace Go.Lift
open Go
abbrev r0 : Dapi_TraceReading := (0, (0, false))
def readR (c : Dapi_TraceCourse) (l : List Dapi_TraceReading) (i : Nat) : Option Int := if readErr c (lget r0 l (i : Int)) = 0 then none else some (readErr c (lget r0 l (i : Int)))
def ReadIn (r : Dapi_TraceReading) : Prop := -9223372036854775808 ≤ r.2.1 ∧ r.2.1 < 9223372036854775808
theorem readIn_of {r : Dapi_TraceReading} (h : okv Tapi_TraceReading r) : ReadIn r := by
 have e : IntKind.i64.max = 9223372036854775807 := by decide
 have e' : IntKind.i64.min = -9223372036854775808 := by decide
 have h1 : IntKind.i64.min ≤ r.2.1 := h.2.1.1
 have h2 : r.2.1 ≤ IntKind.i64.max := h.2.1.2
 exact ⟨by omega, by omega⟩
theorem lget_mem {A : Type} {d : A} {l : List A} {i : Nat} (hi : i < l.length) : lget d l (i : Int) ∈ l := by rw [lget_getD hi]; exact List.getElem_mem hi
def readsE (c : Dapi_TraceCourse) (l : List Dapi_TraceReading) : Int := if l.length > 10 then 8 else (findF (readR c l) 0 l.length).getD 0
theorem openReadings_ok {c : Dapi_TraceCourse} (hv : Valid c) {l : List Dapi_TraceReading} (hl : ∀ r, r ∈ l → ReadIn r) : trace_course_openReadings (c, stripsQ c (c.2.2.2.length + 1)) l = some (readsE c l) := by
 unfold trace_course_openReadings readsE
 by_cases h : l.length > 10
 ·rw [dec_true (show (l.length : Int) > 10 by omega), cond_true, if_pos h]
 ·rw [dec_false (show ¬ (l.length : Int) > 10 by omega), cond_false, if_neg h]
  refine Option.bind_eq_some_iff.2 ⟨outF (findF (readR c l) 0 l.length), loop_find (n := l.length) (fun i hi hg => ?_) (fun i hi r hg => ?_) ?_ l.length 0 (by omega), ?_⟩
  ·have hm := hl _ (lget_mem (d := r0) hi)
   unfold readR at hg
   split at hg
   ·rename_i hz
    simp only
    rw [dec_true (show (i : Int) < (l.length : Int) by omega), cond_true, chk_true (and_true' (dec_true (by omega)) rfl), treadErr_ok hv hm.1 hm.2, Option.bind_some, hz, show ((0 : Int) != 0) = false from rfl, cond_false, wi64_id (by omega) (by omega)]
    rfl
   ·cases hg
  ·have hm := hl _ (lget_mem (d := r0) hi)
   unfold readR at hg
   split at hg
   ·cases hg
   ·rename_i hz
    cases hg
    simp only
    rw [dec_true (show (i : Int) < (l.length : Int) by omega), cond_true, chk_true (and_true' (dec_true (by omega)) rfl), treadErr_ok hv hm.1 hm.2, Option.bind_some, show (readErr c (lget r0 l (i : Int)) != 0) = true by rw [bne_iff_ne]; exact hz, cond_true]
    rfl
  ·rw [dec_false (show ¬ (l.length : Int) < (l.length : Int) by omega), cond_false]
  ·cases findF (readR c l) 0 l.length <;> rfl
theorem ReadingsErr_ok {c : Dapi_TraceCourse} (hv : Valid c) {l : List Dapi_TraceReading} (hl : ∀ r, r ∈ l → ReadIn r) : r9_ReadingsErr c l = some (readsE c l) := by
 unfold r9_ReadingsErr readsE
 by_cases h : l.length > 10
 ·rw [dec_true (show (l.length : Int) > 10 by omega), cond_true, if_pos h]
 ·rw [dec_false (show ¬ (l.length : Int) > 10 by omega), cond_false, if_neg h]
  refine Option.bind_eq_some_iff.2 ⟨outF (findF (readR c l) 0 l.length), loop_find (n := l.length) (fun i hi hg => ?_) (fun i hi r hg => ?_) ?_ l.length 0 (by omega), ?_⟩
  ·have hm := hl _ (lget_mem (d := r0) hi)
   unfold readR at hg
   split at hg
   ·rename_i hz
    rw [dec_true (show (i : Int) < (l.length : Int) by omega), cond_true, chk_true (and_true' (dec_true (by omega)) rfl), rreadErr_ok hv hm.1 hm.2, Option.bind_some, hz, show ((0 : Int) != 0) = false from rfl, cond_false, wi64_id (by omega) (by omega)]
    rfl
   ·cases hg
  ·have hm := hl _ (lget_mem (d := r0) hi)
   unfold readR at hg
   split at hg
   ·cases hg
   ·rename_i hz
    cases hg
    rw [dec_true (show (i : Int) < (l.length : Int) by omega), cond_true, chk_true (and_true' (dec_true (by omega)) rfl), rreadErr_ok hv hm.1 hm.2, Option.bind_some, show (readErr c (lget r0 l (i : Int)) != 0) = true by rw [bne_iff_ne]; exact hz, cond_true]
    rfl
  ·rw [dec_false (show ¬ (l.length : Int) < (l.length : Int) by omega), cond_false]
  ·cases findF (readR c l) 0 l.length <;> rfl
end Go.Lift
namespace Go.Lift
open Go
theorem CopyReadings_ok {l : List Dapi_TraceReading} (h : l.length ≤ 1000) : r9_CopyReadings l = some l := by
 unfold r9_CopyReadings
 rw [app_ok (by rw [List.length_nil]; omega), Option.bind_some, List.nil_append]
end Go.Lift
