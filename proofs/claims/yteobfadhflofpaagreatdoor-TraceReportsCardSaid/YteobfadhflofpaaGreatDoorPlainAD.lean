/-
  Reports on both sides; what was written is read as it was.
-/
import Derived.Test.YteobfadhflofpaaGreatDoorLawSr
import Derived.Test.YteobfadhflofpaaGreatDoorPlainK
import Derived.Test.YteobfadhflofpaaGreatDoorFunRp
set_option linter.unusedSectionVars false
set_option linter.unusedVariables false
set_option linter.unusedSimpArgs false
namespace Go.Lift
open Go
def textS (f : Dapi_Frac) : List UInt8 := if f.2 = 1 then Lib.itoa f.1 else Lib.itoa f.1 ++ [47] ++ Lib.itoa f.2
def W64F (f : Dapi_Frac) : Prop := W64I f.1 ∧ W64I f.2
theorem fracQ_W64 {q : Rat} : W64F (fracQ q).1 := by
 unfold fracQ
 split
 ·rename_i h
  unfold smallQ at h
  rw [Bool.and_eq_true, decide_eq_true_iff, decide_eq_true_iff] at h
  unfold W64F W64I
  simp only
  omega
 ·unfold W64F W64I
  decide
theorem textS_len {f : Dapi_Frac} (h : W64F f) : (textS f).length ≤ 43 := by
 have := itoa_len h.1
 have := itoa_len h.2
 unfold textS
 split
 ·omega
 ·simp only [List.length_append, List.length_singleton]; omega
theorem written_ok {f : Dapi_Frac} (h : W64F f) : trace_written f = some (bof (textS f)) := by
 have l1 := itoa_len h.1
 have l2 := itoa_len h.2
 unfold trace_written textS
 by_cases h1 : f.2 = 1
 ·rw [show (f.2 == 1) = true by rw [h1]; rfl, cond_true, Itoa_ok h.1.1 h.1.2, if_pos h1]; rfl
 ·rw [show (f.2 == 1) = false by rw [beq_eq_false_iff_ne]; exact h1, cond_false, if_neg h1, Itoa_ok h.1.1 h.1.2, Option.bind_some, show bytes [47] = bof [47] from rfl, cat_bof (by rw [List.length_singleton]; omega), Option.bind_some, Itoa_ok h.2.1 h.2.2, Option.bind_some, cat_bof (by rw [List.length_append, List.length_singleton]; omega), Option.bind_some]
theorem text_ok {f : Dapi_Frac} (h : W64F f) : r9_text f = some (bof (textS f)) := by
 have l1 := itoa_len h.1
 have l2 := itoa_len h.2
 unfold r9_text textS
 by_cases h1 : f.2 = 1
 ·rw [show (f.2 == 1) = true by rw [h1]; rfl, cond_true, Decimal_ok h.1, if_pos h1]; rfl
 ·rw [show (f.2 == 1) = false by rw [beq_eq_false_iff_ne]; exact h1, cond_false, if_neg h1, Decimal_ok h.1, Option.bind_some, show bytes [47] = bof [47] from rfl, cat_bof (by rw [List.length_singleton]; omega), Option.bind_some, Decimal_ok h.2, Option.bind_some, cat_bof (by rw [List.length_append, List.length_singleton]; omega), Option.bind_some]
def plc (c : Dapi_TraceCourse) (own : Dapi_TraceReading) (to : Nat) : Option Rat := atS (stS c to) (slabAtS (stS c own.1.toNat) (own.2.1 : Rat))
def ansS (b : Bool) : List UInt8 := bif b then [121, 101, 115] else [110, 111]
def lineS (own : Dapi_TraceReading) (a E : List UInt8) : List UInt8 := Lib.itoa own.1 ++ [32] ++ Lib.itoa own.2.1 ++ [32] ++ a ++ [32] ++ E ++ [32] ++ ansS own.2.2
def gL (c : Dapi_TraceCourse) (own : Dapi_TraceReading) : Option (List UInt8) := match plc c own 0 with
 | none => none
 | some q0 => if (fracQ q0).2 = false then none else match plc c own c.2.2.2.length with
  | none => some (lineS own (textS (fracQ q0).1) [45])
  | some q1 => if (fracQ q1).2 = false then none else some (lineS own (textS (fracQ q0).1) (textS (fracQ q1).1))
structure Rd (c : Dapi_TraceCourse) (own : Dapi_TraceReading) : Prop where
 low : 0 ≤ own.1
 high : own.1 ≤ (c.2.2.2.length : Int)
 lo2 : 0 ≤ own.2.1
 hi2 : (own.2.1 : Rat) ≤ lastV 0 (stS c own.1.toNat)
 w : own.2.1 < 9223372036854775808
theorem rd_of {c : Dapi_TraceCourse} {own : Dapi_TraceReading} (h : readErr c own = 0) (hi : ReadIn own) : Rd c own := by
 unfold readErr at h
 split at h
 ·rename_i h1
  split at h
  ·rename_i h2
   exact ⟨h1.1, h1.2, h2.1, h2.2, hi.2⟩
  ·cases h
 ·cases h
theorem plc_ok {c : Dapi_TraceCourse} (hv : Valid c) {own : Dapi_TraceReading} (h : Rd c own) {to : Nat} (hto : to ≤ c.2.2.2.length) :
  trace_course_place (c, stripsQ c (c.2.2.2.length + 1)) own (to : Int) = some (atR (plc c own to)) ∧
  r9_PlaceOf c own (to : Int) = some (match plc c own to with | none => ((0, 0), 12) | some q => ((fracQ q).1, if (fracQ q).2 then 0 else 8)) ∧
  (∀ q, plc c own to = some q → Fit 300 q) ∧ (to = 0 → ∃ q, plc c own to = some q) := by
 obtain ⟨h1, h2, h3, h4, h5⟩ := h
 obtain ⟨n, hn⟩ : ∃ n : Nat, own.1 = (n : Int) := ⟨own.1.toNat, by omega⟩
 have hnn : own.1.toNat = n := by omega
 rw [hnn] at h4
 obtain ⟨p1, p2, p3, p4, p5⟩ := place_at hv hn (by omega) hto h3 h4 h5
 unfold plc
 rw [hnn]
 refine ⟨p1, ?_, fun q hq => (p3 q hq).1, fun h0 => ?_⟩
 ·unfold r9_PlaceOf
  rw [RatioInt_ok (by omega) h5, Option.bind_some, hn, p2, Option.bind_some]
  cases ho : atS (stS c to) (slabAtS (stS c n) (own.2.1 : Rat)) with
  | none => rfl
  | some q =>
   obtain ⟨_, f2, _⟩ := p3 q ho
   simp only
   rw [Bool.not_true, cond_false, RatioFrac_ok f2 (by decide), Option.bind_some]
   cases hf : (fracQ q).2 with
   | true => rfl
   | false => rw [fracQ_none hf]; rfl
 ·subst h0
  cases ho : atS (stS c 0) (slabAtS (stS c n) (own.2.1 : Rat)) with
  | some q => exact ⟨q, rfl⟩
  | none =>
   obtain ⟨Q, hQ⟩ := on_before hv (k := 0) (d := n) (by omega) (by rw [Nat.zero_add]; exact p5)
   exact absurd hQ (p4 ho Q)
theorem lineS_len {own : Dapi_TraceReading} {a E : List UInt8} (h1 : W64I own.1) (h2 : W64I own.2.1) (ha : a.length ≤ 43) (hE : E.length ≤ 43) : (lineS own a E).length ≤ 200 := by
 have := itoa_len h1
 have := itoa_len h2
 have : (ansS own.2.2).length ≤ 3 := by unfold ansS; cases own.2.2 <;> decide
 unfold lineS
 simp only [List.length_append, List.length_singleton]
 omega
theorem gL_len {c : Dapi_TraceCourse} {own : Dapi_TraceReading} {l : List UInt8} (h1 : W64I own.1) (h2 : W64I own.2.1) (h : gL c own = some l) : l.length ≤ 200 := by
 unfold gL at h
 split at h
 ·cases h
 ·split at h
  ·cases h
  ·split at h
   ·cases h
    exact lineS_len h1 h2 (textS_len fracQ_W64) (by decide)
   ·split at h
    ·cases h
    ·cases h
     exact lineS_len h1 h2 (textS_len fracQ_W64) (textS_len fracQ_W64)
end Go.Lift
namespace Go.Lift
open Go
theorem joinTail_len {sep : List UInt8} {B : Nat} {l : List (List UInt8)} (h : ∀ x, x ∈ l → x.length ≤ B) : (Lib.joinTail sep l).length ≤ (l.length + 1) * (B + sep.length) := by
 have := join_len (sep := sep) (B := B) (l := [] :: l) (fun x hx => by
  rcases List.mem_cons.1 hx with rfl | hx
  ·exact Nat.zero_le _
  ·exact h x hx)
 rwa [Lib.join_cons, List.nil_append, List.length_cons] at this
theorem joinTail_snoc {sep x : List UInt8} {l : List (List UInt8)} : Lib.joinTail sep (l ++ [x]) = Lib.joinTail sep l ++ sep ++ x := by
 unfold Lib.joinTail
 simp
abbrev JT : Type := (List ByteArray) ⊕ (((List ByteArray) × Int) ⊕ ((List ByteArray) ⊕ (ByteArray × Int)))
def headS (c : Dapi_TraceCourse) : List UInt8 := c.1.data.toList ++ [32] ++ textS (fracQ (lastV 0 (stS c c.2.2.2.length))).1
def repR (c : Dapi_TraceCourse) (r : List Dapi_TraceReading) : ByteArray × Int := match mpL (gL c) r with
 | some ls => (bof (headS c ++ Lib.joinTail [59] ls), 0)
 | none => (ByteArray.empty, 8)
def ReadW (own : Dapi_TraceReading) : Prop := W64I own.1 ∧ W64I own.2.1
theorem lines_len {c : Dapi_TraceCourse} {l : List Dapi_TraceReading} {out : List (List UInt8)} (hw : ∀ x, x ∈ l → ReadW x) (h : mpL (gL c) l = some out) (hl : l.length ≤ 20) : (Lib.joinTail [59] out).length ≤ 5000 := by
 have h1 := joinTail_len (sep := [59]) (B := 200) (l := out) (fun y hy => by
  obtain ⟨x, hx, hg⟩ := mpL_mem h y hy
  exact gL_len (hw x hx).1 (hw x hx).2 hg)
 have h2 := mpL_len h
 have h3 : (out.length + 1) * (200 + [(59 : UInt8)].length) ≤ 21 * 201 := Nat.mul_le_mul (by omega) (Nat.le_refl _)
 omega
theorem tReport_ok {c : Dapi_TraceCourse} (hv : Valid c) (hname : c.1.size ≤ 1000) (hop : trace_opened c [] = some ((c, stripsQ c (c.2.2.2.length + 1)), 0)) {r : List Dapi_TraceReading} (hr : ∀ x, x ∈ r → ReadIn x) (hw : ∀ x, x ∈ r → ReadW x) (hE : readsE c r = 0) (hR : ∀ x, x ∈ r → Rd c x) (hl : r.length ≤ 20) :
  trace_ReportOf c r = some (repR c r) := by
 have h10 := hv.steps
 have hs := hv.strip c.2.2.2.length (Nat.le_refl _)
 have hs6 := hs.len
 have hfl := fit_small hs.last
 have tlen := strip_length_ok hs.ne (show (stS c c.2.2.2.length).length ≤ 100 by omega)
 have hlastc : trace_course_last (c, stripsQ c (c.2.2.2.length + 1)) = some ((stS c c.2.2.2.length).map secQ) := by
  unfold trace_course_last
  simp only
  rw [stripsQ_len, wi64_id (by omega) (by omega), show ((c.2.2.2.length + 1 : Nat) : Int) - 1 = (c.2.2.2.length : Int) by omega, chk_idx (by omega), stripsQ_get (by omega)]
 have hsz := size_len c.1
 have hlw := fracQ_W64 (q := lastV 0 (stS c c.2.2.2.length))
 have htl := textS_len hlw
 have hlast : (fracQ (lastV 0 (stS c c.2.2.2.length))).2 = true := by rw [fracQ_small]; exact hs.last
 unfold trace_ReportOf
 rw [hop, Option.bind_some]
 simp only
 rw [show ((0 : Int) == 0) = true from rfl, cond_true, openReadings_ok hv hr, Option.bind_some, Option.bind_some, hE, show ((0 : Int) != 0) = false from rfl, cond_false, hlastc, Option.bind_some, tlen, Option.bind_some, small_ok hfl.1 (by decide), Option.bind_some]
 simp only
 rw [hlast, if_pos rfl, show ((0 : Int) != 0) = false from rfl, cond_false, ← bof_data c.1, show bytes [32] = bof [32] from rfl, cat_bof (by rw [List.length_singleton]; omega), Option.bind_some, written_ok hlw, Option.bind_some, cat_bof (by rw [List.length_append, List.length_singleton]; omega), Option.bind_some]
 refine bind_of (loopM_allG (X := Dapi_TraceReading) (Y := List UInt8) (g := gL c) (xs := r) (fun k out => (bof (headS c) :: out.map bof, (k : Int))) (fun out => .inl (bof (headS c) :: out.map bof)) (.inr (ByteArray.empty, 8)) ?_ ?_) ?_
 ·intro pre post own out h1 h2
  have hL := congrArg List.length h1
  rw [List.length_append, List.length_cons] at hL
  have hm : own ∈ r := by rw [h1]; simp
  have hlo := mpL_len h2
  obtain ⟨p1, _, p3, p4⟩ := plc_ok hv (hR own hm) (to := 0) (Nat.zero_le _)
  obtain ⟨q1, _, q3, _⟩ := plc_ok hv (hR own hm) (to := c.2.2.2.length) (Nat.le_refl _)
  obtain ⟨q0, hq0⟩ := p4 rfl
  have g1 : ∀ d, lget d r (pre.length : Int) = own := fun d => by rw [h1]; exact lget_mid
  obtain ⟨w1, w2⟩ := hw own hm
  simp only
  rw [dec_true (show (pre.length : Int) < (r.length : Int) by omega), cond_true, chk_true (and_true' (dec_true (by omega)) rfl), g1, Itoa_ok w1.1 w1.2, Option.bind_some, Itoa_ok w2.1 w2.2, Option.bind_some]
  unfold gL
  rw [hq0] at p1 ⊢
  simp only
  have hz0 := fracQ_W64 (q := q0)
  have e0 : ((pre.length : Int) + 1) = ((pre.length + 1 : Nat) : Int) := by omega
  by_cases hf0 : (fracQ q0).2 = false
  ·rw [if_pos hf0]
   refine bind_of (loopM_done (r := .inr (.inr (.inr (ByteArray.empty, 8)))) ?_) rfl
   simp only
   rw [dec_true (show (0 : Int) < 2 by decide), cond_true, chk_true (by rfl), show aget (aset (aset (fun _ => (0 : Int)) 0 0) 1 (c.2.2.2.length : Int)) 0 = ((0 : Nat) : Int) from rfl, p1, Option.bind_some]
   unfold atR
   simp only
   rw [Bool.not_true, cond_false, small_ok (p3 q0 hq0) (by decide), Option.bind_some, hf0]
   rfl
  ·rw [if_neg hf0]
   have hf0' : (fracQ q0).2 = true := by cases h : (fracQ q0).2 with
    | true => rfl
    | false => exact absurd h hf0
   have step0 : ∀ {R : Type} (K : Option ((List ByteArray × Int) ⊕ R)), True := fun _ => trivial
   have hend : ∀ (E : List UInt8), E.length ≤ 43 → ((bif own.2.2 then
        let answer : ByteArray := (bytes [121, 101, 115])
        some answer
       else
        some (bytes [110, 111])).bind fun (answer_1 : ByteArray) =>
       (app [bof (Lib.itoa own.1), bof (Lib.itoa own.2.1), bof (textS (fracQ q0).1), bof E] [answer_1]).bind fun (t_13 : List ByteArray) =>
       (strings_Join t_13 (bytes [32])).bind fun (t_14 : ByteArray) =>
       (app (bof (headS c) :: out.map bof) [t_14]).bind fun (t_15 : List ByteArray) =>
       (some (.inl (t_15, wi64 ((pre.length : Int) + 1))) : Option ((List ByteArray × Int) ⊕ ((List ByteArray) ⊕ (ByteArray × Int))))) = some (.inl (bof (headS c) :: (out ++ [lineS own (textS (fracQ q0).1) E]).map bof, ((pre.length + 1 : Nat) : Int))) := by
    intro E hE'
    have e1 : (bif own.2.2 then
        let answer : ByteArray := (bytes [121, 101, 115])
        some answer
       else
        some (bytes [110, 111])) = some (bof (ansS own.2.2)) := by cases own.2.2 <;> rfl
    have hj : Lib.join [Lib.itoa own.1, Lib.itoa own.2.1, textS (fracQ q0).1, E, ansS own.2.2] [32] = lineS own (textS (fracQ q0).1) E := by
     rw [Lib.join_cons]
     unfold Lib.joinTail lineS
     simp
    have hll := lineS_len w1 w2 (textS_len hz0) hE'
    rw [e1, Option.bind_some, app_ok (by simp only [List.length_cons, List.length_nil]; omega), Option.bind_some, show bytes [32] = bof [32] from rfl]
    rw [show ([bof (Lib.itoa own.1), bof (Lib.itoa own.2.1), bof (textS (fracQ q0).1), bof E] ++ [bof (ansS own.2.2)]) = [Lib.itoa own.1, Lib.itoa own.2.1, textS (fracQ q0).1, E, ansS own.2.2].map bof from rfl, Join_ok (by simp only [List.length_cons, List.length_nil]; omega) (by rw [hj]; omega), Option.bind_some, hj, app_ok (by rw [List.length_cons, List.length_map, List.length_singleton]; omega), Option.bind_some, wi64_id (by omega) (by omega), List.map_append, e0]
    rfl
   have first : ∀ {T : Type} (F : (List ByteArray × Int) → Option ((List ByteArray × Int) ⊕ T)), True := fun _ => trivial
   cases hq1 : plc c own c.2.2.2.length with
   | none =>
    rw [hq1] at q1
    simp only
    refine bind_of (a := (Sum.inl [bof (Lib.itoa own.1), bof (Lib.itoa own.2.1), bof (textS (fracQ q0).1), bof [45]] : JT)) ?_ (hend [45] (by decide))
    rw [loopM_next (s' := ([bof (Lib.itoa own.1), bof (Lib.itoa own.2.1), bof (textS (fracQ q0).1)], 1)), loopM_next (s' := ([bof (Lib.itoa own.1), bof (Lib.itoa own.2.1), bof (textS (fracQ q0).1), bof [45]], 2)), loopM_done]
    ·rfl
    ·simp only
     rw [dec_true (show (1 : Int) < 2 by decide), cond_true, chk_true (by rfl), show aget (aset (aset (fun _ => (0 : Int)) 0 0) 1 (c.2.2.2.length : Int)) 1 = (c.2.2.2.length : Int) from rfl, q1, Option.bind_some]
     rfl
    ·simp only
     rw [dec_true (show (0 : Int) < 2 by decide), cond_true, chk_true (by rfl), show aget (aset (aset (fun _ => (0 : Int)) 0 0) 1 (c.2.2.2.length : Int)) 0 = ((0 : Nat) : Int) from rfl, p1, Option.bind_some]
     unfold atR
     simp only
     rw [Bool.not_true, cond_false, small_ok (p3 q0 hq0) (by decide), Option.bind_some, hf0', if_pos rfl]
     simp only
     rw [show ((0 : Int) != 0) = false from rfl, cond_false, written_ok hz0, Option.bind_some]
     rfl
   | some qN =>
    rw [hq1] at q1
    have hz1 := fracQ_W64 (q := qN)
    simp only
    have s0 : ∀ {X : Type}, True := fun {X} => trivial
    by_cases hf1 : (fracQ qN).2 = false
    ·rw [if_pos hf1]
     refine bind_of (a := (Sum.inr (.inr (.inr (ByteArray.empty, 8))) : JT)) ?_ rfl
     rw [loopM_next (s' := ([bof (Lib.itoa own.1), bof (Lib.itoa own.2.1), bof (textS (fracQ q0).1)], 1)), loopM_done]
     ·simp only
      rw [dec_true (show (1 : Int) < 2 by decide), cond_true, chk_true (by rfl), show aget (aset (aset (fun _ => (0 : Int)) 0 0) 1 (c.2.2.2.length : Int)) 1 = (c.2.2.2.length : Int) from rfl, q1, Option.bind_some]
      unfold atR
      simp only
      rw [Bool.not_true, cond_false, small_ok (q3 qN hq1) (by decide), Option.bind_some, hf1]
      rfl
     ·simp only
      rw [dec_true (show (0 : Int) < 2 by decide), cond_true, chk_true (by rfl), show aget (aset (aset (fun _ => (0 : Int)) 0 0) 1 (c.2.2.2.length : Int)) 0 = ((0 : Nat) : Int) from rfl, p1, Option.bind_some]
      unfold atR
      simp only
      rw [Bool.not_true, cond_false, small_ok (p3 q0 hq0) (by decide), Option.bind_some, hf0', if_pos rfl]
      simp only
      rw [show ((0 : Int) != 0) = false from rfl, cond_false, written_ok hz0, Option.bind_some]
      rfl
    ·have hf1' : (fracQ qN).2 = true := by cases h : (fracQ qN).2 with
      | true => rfl
      | false => exact absurd h hf1
     rw [if_neg hf1]
     refine bind_of (a := (Sum.inl [bof (Lib.itoa own.1), bof (Lib.itoa own.2.1), bof (textS (fracQ q0).1), bof (textS (fracQ qN).1)] : JT)) ?_ (hend (textS (fracQ qN).1) (textS_len hz1))
     rw [loopM_next (s' := ([bof (Lib.itoa own.1), bof (Lib.itoa own.2.1), bof (textS (fracQ q0).1)], 1)), loopM_next (s' := ([bof (Lib.itoa own.1), bof (Lib.itoa own.2.1), bof (textS (fracQ q0).1), bof (textS (fracQ qN).1)], 2)), loopM_done]
     ·rfl
     ·simp only
      rw [dec_true (show (1 : Int) < 2 by decide), cond_true, chk_true (by rfl), show aget (aset (aset (fun _ => (0 : Int)) 0 0) 1 (c.2.2.2.length : Int)) 1 = (c.2.2.2.length : Int) from rfl, q1, Option.bind_some]
      unfold atR
      simp only
      rw [Bool.not_true, cond_false, small_ok (q3 qN hq1) (by decide), Option.bind_some, hf1', if_pos rfl]
      simp only
      rw [show ((0 : Int) != 0) = false from rfl, cond_false, written_ok hz1, Option.bind_some]
      rfl
     ·simp only
      rw [dec_true (show (0 : Int) < 2 by decide), cond_true, chk_true (by rfl), show aget (aset (aset (fun _ => (0 : Int)) 0 0) 1 (c.2.2.2.length : Int)) 0 = ((0 : Nat) : Int) from rfl, p1, Option.bind_some]
      unfold atR
      simp only
      rw [Bool.not_true, cond_false, small_ok (p3 q0 hq0) (by decide), Option.bind_some, hf0', if_pos rfl]
      simp only
      rw [show ((0 : Int) != 0) = false from rfl, cond_false, written_ok hz0, Option.bind_some]
      rfl
 ·intro out _
  simp only
  rw [dec_false (show ¬ (r.length : Int) < (r.length : Int) by omega), cond_false]
 ·unfold repR
  cases hm : mpL (gL c) r with
  | none => rfl
  | some ls =>
   have hll := lines_len hw hm hl
   have hlo := mpL_len hm
   have hhl : (headS c).length ≤ 1100 := by
    unfold headS
    rw [List.length_append, List.length_append, List.length_singleton]; omega
   have hj : Lib.join (headS c :: ls) [59] = headS c ++ Lib.joinTail [59] ls := Lib.join_cons _ _ _
   simp only
   rw [show bof (headS c) :: ls.map bof = (headS c :: ls).map bof from rfl, show bytes [59] = bof [59] from rfl, Join_ok (by rw [List.length_cons]; omega) (by rw [hj, List.length_append]; omega), Option.bind_some, hj]
end Go.Lift
namespace Go.Lift
open Go
theorem rReport_ok {c : Dapi_TraceCourse} (hv : Valid c) (hname : c.1.size ≤ 1000) {r : List Dapi_TraceReading} (hw : ∀ x, x ∈ r → ReadW x) (hR : ∀ x, x ∈ r → Rd c x) (hl : r.length ≤ 20) :
  r9_ReportOf c r = some (repR c r) := by
 have h10 := hv.steps
 have hs := hv.strip c.2.2.2.length (Nat.le_refl _)
 have hfl := fit_small hs.last
 have hsz := size_len c.1
 have hlw := fracQ_W64 (q := lastV 0 (stS c c.2.2.2.length))
 have htl := textS_len hlw
 have hhl : (headS c).length ≤ 1100 := by
  unfold headS
  rw [List.length_append, List.length_append, List.length_singleton]; omega
 unfold r9_ReportOf
 rw [After_ok hv (Nat.le_refl _) hv.len6, Option.bind_some, Length_ok hs, Option.bind_some, RatioFrac_ok hfl.2 (by decide), Option.bind_some, ← bof_data c.1, show bytes [32] = bof [32] from rfl, cat_bof (by rw [List.length_singleton]; omega), Option.bind_some, text_ok hlw, Option.bind_some, cat_bof (by rw [List.length_append, List.length_singleton]; omega), Option.bind_some]
 refine bind_of (loopM_allG (X := Dapi_TraceReading) (Y := List UInt8) (g := gL c) (xs := r) (fun k out => (bof (headS c ++ Lib.joinTail [59] out), (k : Int))) (fun out => .inl (bof (headS c ++ Lib.joinTail [59] out))) (.inr (ByteArray.empty, 8)) ?_ ?_ |> (fun h => (show _ = _ from congrArg (fun s => loopM _ (s, (0 : Int))) (show bof (headS c) = bof (headS c ++ Lib.joinTail [59] []) by rw [show Lib.joinTail [59] [] = [] from rfl, List.append_nil])).trans h)) ?_
 ·intro pre post own out h1 h2
  have hL := congrArg List.length h1
  rw [List.length_append, List.length_cons] at hL
  have hm : own ∈ r := by rw [h1]; simp
  have hlo := lines_len (fun x hx => hw x (by rw [h1]; exact List.mem_append_left _ hx)) h2 (by omega)
  obtain ⟨_, p1, p3, p4⟩ := plc_ok hv (hR own hm) (to := 0) (Nat.zero_le _)
  obtain ⟨_, q1, q3, _⟩ := plc_ok hv (hR own hm) (to := c.2.2.2.length) (Nat.le_refl _)
  obtain ⟨q0, hq0⟩ := p4 rfl
  have g1 : ∀ d, lget d r (pre.length : Int) = own := fun d => by rw [h1]; exact lget_mid
  obtain ⟨w1, w2⟩ := hw own hm
  have l1 := itoa_len w1
  have l2 := itoa_len w2
  have hck : (decide ((0 : Int) ≤ (pre.length : Int)) && decide ((pre.length : Int) < (r.length : Int))) = true := and_true' (dec_true (by omega)) (dec_true (by omega))
  simp only [g1]
  rw [hck, show decide ((pre.length : Int) < (r.length : Int)) = true from dec_true (by omega), cond_true, chk_true rfl]
  rw [hq0] at p1
  have hz0 := fracQ_W64 (q := q0)
  have ht0 := textS_len hz0
  unfold gL
  rw [hq0, show (0 : Int) = ((0 : Nat) : Int) from rfl, p1, Option.bind_some]
  simp only
  by_cases hf0 : (fracQ q0).2 = false
  ·rw [if_pos hf0, hf0]
   rfl
  ·rw [if_neg hf0]
   have hf0' : (fracQ q0).2 = true := by cases h : (fracQ q0).2 with
    | true => rfl
    | false => exact absurd h hf0
   rw [hf0', if_pos rfl, show ((0 : Int) != ((0 : Nat) : Int)) = false from rfl, cond_false, chk_true rfl, q1, Option.bind_some]
   have e1 : (bif own.2.2 then
        let present : ByteArray := (bytes [121, 101, 115])
        some present
       else
        some (bytes [110, 111])) = some (bof (ansS own.2.2)) := by cases own.2.2 <;> rfl
   have la : (ansS own.2.2).length ≤ 3 := by unfold ansS; cases own.2.2 <;> decide
   have hend : ∀ (E : List UInt8), E.length ≤ 43 → (chk true (
        (some (bof (ansS own.2.2))).bind fun (present_1 : ByteArray) =>
        (cat (bof (headS c ++ Lib.joinTail [59] out)) (bytes [59])).bind fun t_6 =>
        chk true (
         (b0_Decimal own.1).bind fun (t_7 : ByteArray) =>
         (cat t_6 t_7).bind fun t_8 =>
         (cat t_8 (bof [32])).bind fun t_9 =>
         chk true (
          (b0_Decimal own.2.1).bind fun (t_10 : ByteArray) =>
          (cat t_9 t_10).bind fun t_11 =>
          (cat t_11 (bof [32])).bind fun t_12 =>
          (r9_text (fracQ q0).1).bind fun (t_13 : ByteArray) =>
          (cat t_12 t_13).bind fun t_14 =>
          (cat t_14 (bof [32])).bind fun t_15 =>
          (cat t_15 (bof E)).bind fun t_16 =>
          (cat t_16 (bof [32])).bind fun t_17 =>
          (cat t_17 present_1).bind fun t_18 =>
          (some (.inl (t_18, wi64 ((pre.length : Int) + 1))) : Option ((ByteArray × Int) ⊕ (ByteArray ⊕ (ByteArray × Int))))))) ) = some (.inl (bof (headS c ++ Lib.joinTail [59] (out ++ [lineS own (textS (fracQ q0).1) E])), ((pre.length + 1 : Nat) : Int))) := by
    intro E hE
    rw [chk_true rfl, Option.bind_some, show bytes [59] = bof [59] from rfl, cat_bof (by simp only [List.length_append, List.length_cons, List.length_nil]; omega), Option.bind_some, chk_true rfl, Decimal_ok w1, Option.bind_some, cat_bof (by simp only [List.length_append, List.length_cons, List.length_nil]; omega), Option.bind_some, cat_bof (by simp only [List.length_append, List.length_cons, List.length_nil]; omega), Option.bind_some, chk_true rfl, Decimal_ok w2, Option.bind_some, cat_bof (by simp only [List.length_append, List.length_cons, List.length_nil]; omega), Option.bind_some, cat_bof (by simp only [List.length_append, List.length_cons, List.length_nil]; omega), Option.bind_some, text_ok hz0, Option.bind_some, cat_bof (by simp only [List.length_append, List.length_cons, List.length_nil]; omega), Option.bind_some, cat_bof (by simp only [List.length_append, List.length_cons, List.length_nil]; omega), Option.bind_some, cat_bof (by simp only [List.length_append, List.length_cons, List.length_nil]; omega), Option.bind_some, cat_bof (by simp only [List.length_append, List.length_cons, List.length_nil]; omega), Option.bind_some, cat_bof (by simp only [List.length_append, List.length_cons, List.length_nil]; omega), Option.bind_some, wi64_id (by omega) (by omega), joinTail_snoc]
    unfold lineS
    simp only [List.append_assoc]
    rfl
   cases hq1 : plc c own c.2.2.2.length with
   | none =>
    simp only
    rw [show ((12 : Int) == 8) = false from rfl, cond_false, show ((12 : Int) == ((0 : Nat) : Int)) = false from rfl, cond_false, Option.bind_some, e1]
    exact hend [45] (by decide)
   | some qN =>
    have hz1 := fracQ_W64 (q := qN)
    simp only
    by_cases hf1 : (fracQ qN).2 = false
    ·rw [if_pos hf1, hf1]
     rfl
    ·have hf1' : (fracQ qN).2 = true := by cases h : (fracQ qN).2 with
      | true => rfl
      | false => exact absurd h hf1
     rw [if_neg hf1, hf1', if_pos rfl, show ((0 : Int) == 8) = false from rfl, cond_false, show ((0 : Int) == ((0 : Nat) : Int)) = true from rfl, cond_true, text_ok hz1, Option.bind_some, Option.bind_some, e1]
     exact hend (textS (fracQ qN).1) (textS_len hz1)
 ·intro out _
  simp only
  rw [dec_false (show ¬ (r.length : Int) < (r.length : Int) by omega), cond_false]
 ·unfold repR
  cases mpL (gL c) r <;> rfl
end Go.Lift
namespace Go.Lift
open Go
theorem pcs_join {c : UInt8} : ∀ {l : List (List UInt8)}, l ≠ [] → (∀ p, p ∈ l → noC c p) → pcs c (Lib.join l [c]) = l
 | [], h, _ => absurd rfl h
 | [x], _, h => by rw [Lib.join_one, pcs_none (cutL_no (h x (by simp)))]
 | x :: y :: r, _, h => by
  have e : Lib.join (x :: y :: r) [c] = x ++ c :: Lib.join (y :: r) [c] := by
   rw [Lib.join_cons, Lib.join_cons]
   unfold Lib.joinTail
   simp
  rw [e, pcs_some (cutL_mid (h x (by simp))), pcs_join (List.cons_ne_nil _ _) (fun p hp => h p (List.mem_cons_of_mem _ hp))]
theorem noC_app {c : UInt8} {a b : List UInt8} (ha : noC c a) (hb : noC c b) : noC c (a ++ b) := fun x hx => by
 rcases List.mem_append.1 hx with h | h
 ·exact ha x h
 ·exact hb x h
theorem noC_nat {c : UInt8} (hc : isD c = false) (n : Nat) : noC c (Lib.decDigits n) := fun x hx e => by
 have := List.all_eq_true.1 (digits_num n).1.2.1 x hx
 rw [e, hc] at this; cases this
theorem noC_join {c s : UInt8} (hs : s ≠ c) {l : List (List UInt8)} (h : ∀ p, p ∈ l → noC c p) : noC c (Lib.join l [s]) := by
 cases l with
 | nil => intro x hx; cases hx
 | cons y r =>
  rw [Lib.join_cons]
  refine noC_app (h y (by simp)) ?_
  unfold Lib.joinTail
  intro x hx
  obtain ⟨z, hz, hxz⟩ := List.mem_flatten.1 hx
  obtain ⟨p, hp, rfl⟩ := List.mem_map.1 hz
  rcases List.mem_append.1 hxz with h1 | h1
  ·rw [List.mem_singleton.1 h1]; exact hs
  ·exact h p (List.mem_cons_of_mem _ hp) x h1
theorem nDigits_le : ∀ (k u : Nat), u < 10 ^ (k + 1) → Lib.nDigits u ≤ k + 1
 | 0, u, h => by rw [Lib.nDigits_small (by simpa using h)]; exact Nat.le_refl _
 | k + 1, u, h => by
  by_cases h1 : u < 10
  ·rw [Lib.nDigits_small h1]; omega
  ·rw [Lib.nDigits_big h1]
   have := nDigits_le k (u / 10) (by rw [Nat.pow_succ] at h; omega)
   omega
theorem numI_nat {n : Nat} (h : n < 10000000) : numI (Lib.decDigits n) = some (n : Int) := by
 have := nDigits_le 6 n h
 unfold numI
 rw [numL_iff.2 ⟨rfl, by rw [Lib.decDigits_length]; exact this⟩]
 rfl
theorem itoa_int {a : Int} (h0 : 0 ≤ a) : Lib.itoa a = Lib.decDigits a.toNat := by
 obtain ⟨n, rfl⟩ : ∃ n : Nat, a = (n : Int) := ⟨a.toNat, by omega⟩
 rw [itoa_nat, Int.toNat_natCast]
theorem numI_int {a : Int} (h0 : 0 ≤ a) (h1 : a < 10000000) : numI (Lib.itoa a) = some a := by
 rw [itoa_int h0, numI_nat (by omega), show ((a.toNat : Nat) : Int) = a by omega]
theorem noC_int {c : UInt8} (hc : isD c = false) {a : Int} (h0 : 0 ≤ a) : noC c (Lib.itoa a) := by rw [itoa_int h0]; exact noC_nat hc _
theorem pairL_two {c : UInt8} (hc : isD c = false) {a b : Int} (a0 : 0 ≤ a) (a1 : a < 10000000) (b0 : 0 ≤ b) (b1 : b < 10000000) : pairL c (Lib.itoa a ++ [c] ++ Lib.itoa b) = some (a, b) := by
 unfold pairL
 rw [List.append_assoc, show [c] ++ Lib.itoa b = c :: Lib.itoa b from rfl, pcs_some (cutL_mid (noC_int hc a0)), pcs_none (cutL_no (noC_int hc b0))]
 simp only
 rw [numI_int a0 a1, numI_int b0 b1]
theorem mpL_range {X Y : Type} {g : X → Option Y} {f : Nat → X} {h : Nat → Y} : ∀ {n : Nat}, (∀ i, i < n → g (f i) = some (h i)) → mpL g ((List.range n).map f) = some ((List.range n).map h)
 | 0, _ => rfl
 | n + 1, hi => by
  rw [range_snoc, range_snoc]
  exact mpL_snoc (hi n (by omega)) (mpL_range fun i h => hi i (by omega))
theorem range_getD {A : Type} {d : A} (l : List A) : (List.range l.length).map (fun i => l.getD i d) = l := by
 apply List.ext_getElem
 ·rw [List.length_map, List.length_range]
 ·intro i h1 h2
  rw [List.getElem_map, List.getElem_range, List.getD_eq_getElem?_getD, List.getElem?_eq_getElem h2]
  rfl
theorem nameL_no : ∀ {l : List Int} {i : Nat}, nameL i l = true → ∀ c, c ∈ l → c ≠ 59
 | [], _, _ => fun c hc => by cases hc
 | x :: l, i, h => fun c hc => by
  have h' : (nameAt i x && nameL (i + 1) l) = true := h
  rw [Bool.and_eq_true] at h'
  rcases List.mem_cons.1 hc with rfl | hc
  ·intro e
   subst e
   have := h'.1
   unfold nameAt at this
   rw [show decide (97 ≤ (59 : Int) ∧ (59 : Int) ≤ 122) = false from rfl, show decide (65 ≤ (59 : Int) ∧ (59 : Int) ≤ 90) = false from rfl, show decide ((59 : Int) = 45) = false from rfl, show decide (48 ≤ (59 : Int) ∧ (59 : Int) ≤ 57) = false from rfl] at this
   simp at this
  ·exact nameL_no h'.2 c hc
theorem name_no {s : ByteArray} (h : nameB s = true) : noC 59 s.data.toList ∧ s.size ≤ 12 := by
 unfold nameB at h
 rw [Bool.and_eq_true, decide_eq_true_iff] at h
 refine ⟨fun b hb e => ?_, by omega⟩
 refine nameL_no h.1 59 ?_ rfl
 unfold sbytes
 exact List.mem_map.2 ⟨b, hb, by rw [e]; rfl⟩
theorem okLA_in : ∀ {l k : List Int}, okLA l k = true → ∀ i, i < l.length → i < k.length → (1 ≤ l.getD i 0 ∧ l.getD i 0 ≤ 20000) ∧ 1 ≤ k.getD i 0 ∧ k.getD i 0 ≤ 1000
 | [], _, _, i, h, _ => by simp at h
 | _ :: _, [], _, i, _, h => by simp at h
 | x :: l, y :: k, h, i, h1, h2 => by
  unfold okLA at h
  simp only [Bool.and_eq_true, decide_eq_true_iff] at h
  cases i with
  | zero =>
   simp only [List.getD_cons_zero]
   omega
  | succ i =>
   simp only [List.getD_cons_succ]
   rw [List.length_cons] at h1 h2
   exact okLA_in (by simp_all) i (by omega) (by omega)
theorem step_trip {c : Dapi_TraceCourse} (hv : Valid c) {k : Nat} (hk : k < c.2.2.2.length) : stepL (stepS (stepAt c k)) = some (stepAt c k) ∧ noC 59 (stepS (stepAt c k)) ∧ (stepS (stepAt c k)).length ≤ 200 := by
 have hr := hv.rel k hk
 have hn := hv.norm k hk
 have hs := hv.strip k (by omega)
 have hs6 := hs.len
 generalize stepAt c k = x at *
 obtain ⟨x1, x2, x3, x4⟩ := x
 rcases hr with ⟨h0, _, h1, h2⟩ | ⟨h0, _, h1, h2, h3, _, h4⟩
 ·simp only at h0 h1 h2 hn
  subst h0
  obtain ⟨rfl, rfl⟩ := Prod.mk.inj (hn rfl)
  have hne : x2.length ≠ 0 := by
   intro e
   have : (stS c k).length = 0 := by omega
   exact hs.ne (List.length_eq_zero_iff.1 this)
  have hin : ∀ i, i < x2.length → 0 ≤ x2.getD i 0 ∧ x2.getD i 0 < 10000000 := fun i hi => by
   have := h2 _ (getD_mem (d := 0) hi); omega
  have hst : stepS ((0, (x2, (0, 0))) : Dapi_TraceStep) = [112] ++ 32 :: Lib.join (numsS x2 x2.length) [44] := rfl
  have hmem : ∀ c, isD c = false → ∀ p, p ∈ numsS x2 x2.length → noC c p := fun c hc p hp => by
   obtain ⟨i, hi, rfl⟩ := List.mem_map.1 hp
   exact noC_int hc (hin i (List.mem_range.1 hi)).1
  rw [hst]
  refine ⟨?_, ?_, ?_⟩
  ·unfold stepL
   rw [cutL_mid (show noC 32 [112] by intro b hb; rw [List.mem_singleton.1 hb]; decide)]
   simp only
   rw [if_pos trivial]
   unfold numsL
   rw [pcs_join (by
    intro e
    have := congrArg List.length e
    unfold numsS at this
    rw [List.length_map, List.length_range] at this
    exact hne this) (hmem 44 (by decide))]
   unfold numsS
   rw [mpL_range (h := fun i => x2.getD i 0) (fun i hi => numI_int (hin i hi).1 (hin i hi).2), range_getD]
   rfl
  ·refine noC_app (show noC 59 [112] by intro b hb; rw [List.mem_singleton.1 hb]; decide) ?_
   refine noC_app (a := [32]) (show noC 59 [32] by intro b hb; rw [List.mem_singleton.1 hb]; decide) (noC_join (by decide) (hmem 59 (by decide)))
  ·have := join_len (sep := [44]) (B := 21) (l := numsS x2 x2.length) (fun p hp => by
    obtain ⟨i, hi, rfl⟩ := List.mem_map.1 hp
    have := hin i (List.mem_range.1 hi)
    exact itoa_len ⟨by omega, by omega⟩)
   have hl : (numsS x2 x2.length).length = x2.length := by unfold numsS; rw [List.length_map, List.length_range]
   rw [hl] at this
   have h5 : x2.length * (21 + [(44 : UInt8)].length) ≤ 6 * 22 := Nat.mul_le_mul (by omega) (Nat.le_refl _)
   simp only [List.length_append, List.length_cons, List.length_nil]
   omega
 ·simp only at h0 h1 h2 h3 h4
  subst h0
  subst h4
  have hst : stepS ((1, ([], (x3, x4))) : Dapi_TraceStep) = [99] ++ 32 :: (Lib.itoa x3 ++ [32] ++ Lib.itoa x4) := by
   unfold stepS
   rw [if_neg (show ¬ (1 : Int) = 0 by decide)]
   simp
  rw [hst]
  refine ⟨?_, ?_, ?_⟩
  ·unfold stepL
   rw [cutL_mid (show noC 32 [99] by intro b hb; rw [List.mem_singleton.1 hb]; decide)]
   simp only
   rw [if_neg (by decide), if_pos trivial, pairL_two (by decide) h1 (by omega) (by omega) (by omega)]
   rfl
  ·have hsp : noC 59 [32] := by intro b hb; rw [List.mem_singleton.1 hb]; decide
   refine noC_app (show noC 59 [99] by intro b hb; rw [List.mem_singleton.1 hb]; decide) ?_
   exact noC_app (a := [32]) hsp (noC_app (noC_app (noC_int (by decide) h1) hsp) (noC_int (by decide) (by omega)))
  ·have := itoa_len (n := x3) ⟨by omega, by omega⟩
   have := itoa_len (n := x4) ⟨by omega, by omega⟩
   simp only [List.length_append, List.length_cons, List.length_nil]
   omega
theorem round_trip {c : Dapi_TraceCourse} (hv : Valid c) (hn : nameB c.1 = true) : parseL (courseS c) = some c ∧ (courseS c).length ≤ 5000 := by
 obtain ⟨n1, n2⟩ := name_no hn
 have hsz := size_len c.1
 have hlen := hv.len
 have h6 := hv.len6
 have h10 := hv.steps
 have hM : max c.2.1.length c.2.2.1.length = c.2.1.length := by omega
 have hne : c.2.1.length ≠ 0 := by
  intro e
  have h0 := (hv.strip 0 (Nat.zero_le _)).ne
  have := slab_len (t := 0) hlen
  rw [← stS_zero] at this
  exact h0 (List.length_eq_zero_iff.1 (by omega))
 have hin : ∀ i, i < c.2.1.length → (1 ≤ c.2.1.getD i 0 ∧ c.2.1.getD i 0 ≤ 20000) ∧ 1 ≤ c.2.2.1.getD i 0 ∧ c.2.2.1.getD i 0 ≤ 1000 := fun i hi => okLA_in hv.la i hi (by omega)
 have hsec : ∀ d, isD d = false → d ≠ 42 → ∀ p, p ∈ secsS c c.2.1.length → noC d p := fun d hd h42 p hp => by
  obtain ⟨i, hi, rfl⟩ := List.mem_map.1 hp
  have := hin i (List.mem_range.1 hi)
  exact noC_app (noC_app (noC_int hd (by omega)) (fun b hb => by rw [List.mem_singleton.1 hb]; exact h42.symm)) (noC_int hd (by omega))
 have hparts : partsS c c.2.2.2.length = c.1.data.toList :: Lib.join (secsS c c.2.1.length) [44] :: (List.range c.2.2.2.length).map (stepAtS c) := by
  unfold partsS; rw [hM]; rfl
 have hst : ∀ i, stepAtS c i = stepS (stepAt c i) := fun _ => rfl
 constructor
 ·unfold courseS parseL
  rw [hparts, pcs_join (List.cons_ne_nil _ _) (fun p hp => by
   rcases List.mem_cons.1 hp with rfl | hp
   ·exact n1
   ·rcases List.mem_cons.1 hp with rfl | hp
    ·exact noC_join (by decide) (hsec 59 (by decide) (by decide))
    ·obtain ⟨i, hi, rfl⟩ := List.mem_map.1 hp
     rw [hst]
     exact (step_trip hv (List.mem_range.1 hi)).2.1)]
  simp only
  rw [pcs_join (by
   intro e
   have := congrArg List.length e
   unfold secsS at this
   rw [List.length_map, List.length_range] at this
   exact hne this) (hsec 44 (by decide) (by decide))]
  unfold secsS
  rw [mpL_range (h := fun i => (c.2.1.getD i 0, c.2.2.1.getD i 0)) (fun i hi => by
   have := hin i hi
   exact pairL_two (by decide) (by omega) (by omega) (by omega) (by omega))]
  simp only
  rw [mpL_range (h := fun i => stepAt c i) (fun i hi => by rw [hst]; exact (step_trip hv hi).1)]
  simp only
  rw [bof_data, List.map_map, List.map_map]
  have e1 : (List.range c.2.1.length).map ((fun x : Int × Int => x.1) ∘ fun i => (c.2.1.getD i 0, c.2.2.1.getD i 0)) = c.2.1 := range_getD c.2.1
  have e2 : (List.range c.2.1.length).map ((fun x : Int × Int => x.2) ∘ fun i => (c.2.1.getD i 0, c.2.2.1.getD i 0)) = c.2.2.1 := by rw [hlen]; exact range_getD c.2.2.1
  have e3 : (List.range c.2.2.2.length).map (fun i => stepAt c i) = c.2.2.2 := range_getD c.2.2.2
  rw [e1, e2, e3]
 ·unfold courseS
  have := join_len (sep := [59]) (B := 300) (l := partsS c c.2.2.2.length) (fun p hp => by
   rw [hparts] at hp
   rcases List.mem_cons.1 hp with rfl | hp
   ·omega
   ·rcases List.mem_cons.1 hp with rfl | hp
    ·have := join_len (sep := [44]) (B := 43) (l := secsS c c.2.1.length) (fun p hp => by
      obtain ⟨i, hi, rfl⟩ := List.mem_map.1 hp
      have := hin i (List.mem_range.1 hi)
      exact pieceS_len ⟨by omega, by omega⟩ ⟨by omega, by omega⟩)
     have hl : (secsS c c.2.1.length).length = c.2.1.length := by unfold secsS; rw [List.length_map, List.length_range]
     rw [hl] at this
     have h5 : c.2.1.length * (43 + [(44 : UInt8)].length) ≤ 6 * 44 := Nat.mul_le_mul h6 (Nat.le_refl _)
     omega
    ·obtain ⟨i, hi, rfl⟩ := List.mem_map.1 hp
     rw [hst]
     have := (step_trip hv (List.mem_range.1 hi)).2.2
     omega)
  have hl : (partsS c c.2.2.2.length).length = c.2.2.2.length + 2 := by rw [hparts, List.length_cons, List.length_cons, List.length_map, List.length_range]
  rw [hl] at this
  have h5 : (c.2.2.2.length + 2) * (300 + [(59 : UInt8)].length) ≤ 12 * 301 := Nat.mul_le_mul (by omega) (Nat.le_refl _)
  omega
end Go.Lift
