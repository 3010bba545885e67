/-
  Where an item is inserted; the minimum set of which no sequence holds.
-/
import Derived.Test.YtbmclapepgfjhaaGreatClA
import Derived.Test.YtbmclapepgfjhaaGreatFunF
set_option linter.unusedSectionVars false
set_option linter.unusedVariables false
set_option linter.unusedSimpArgs false
namespace Go.Lift
open Go
def insP (q : Int → Int → Int) (ok : List Int → Bool) (s : List Int) (last : Int) (st : Int × Int) (p : Int) : Int × Int := if ok (insI s p last) && (decide (st.1 < 0) || decide (z7p q (insI s p last) < st.2)) then (p, z7p q (insI s p last)) else st
def zky (r : z01) (l : List z00) (s : List Int) : Int × Int := (upto (s.length + 1)).foldl (insP (z3z r l) (okP r l []) s ((l.length : Int) - 1)) (-1, 0)
theorem zvd {s : List Int} {p x : Int} (h0 : 0 ≤ p) (h1 : p ≤ s.length) : (insI s p x).length = s.length + 1 := by
 unfold insI
 simp only [List.length_append, List.length_take, List.length_cons, List.length_drop]
 omega
theorem y16 {s : List Int} {p x y : Int} (h : y ∈ insI s p x) : y = x ∨ y ∈ s := by
 unfold insI at h
 rcases List.mem_append.1 h with h | h
 ·exact Or.inr (List.mem_of_mem_take h)
 ·rcases List.mem_cons.1 h with h | h
  ·exact Or.inl h
  ·exact Or.inr (List.mem_of_mem_drop h)
theorem y18 {r : z01} {l : List z00} {s : List Int} (hs : s.length ≤ 1000000) (hin : ∀ i ∈ s, 0 ≤ i ∧ i < (l.length : Int)) : z2t (r, l) s = some (okP r l [] s) := by
 unfold z2t
 rw [zkt hs hin, Option.bind_some, zyo]
theorem zoz {r : z01} {l : List z00} {s : List Int} (hs : s.length ≤ 1000) (hl : 0 < l.length) (hin : ∀ i ∈ s, 0 ≤ i ∧ i < (l.length : Int)) :
  ∀ (k p : Nat) (st : Int × Int), p + k = s.length + 1 → zkc (r, l) s ((l.length : Int) - 1) k (p : Int) st = some (((List.range' p k).map fun (i : Nat) => (i : Int)).foldl (insP (z3z r l) (okP r l []) s ((l.length : Int) - 1)) st)
 | 0, p, st, _ => rfl
 | k + 1, p, st, h => by
  have hlen := zvd (s := s) (p := (p : Int)) (x := (l.length : Int) - 1) (by omega) (by omega)
  have hi : ∀ i ∈ insI s (p : Int) ((l.length : Int) - 1), 0 ≤ i ∧ i < (l.length : Int) := fun i hi => by
   rcases y16 hi with rfl | hi
   ·omega
   ·exact hin i hi
  have ih := zoz (r := r) hs hl hin k (p + 1) (insP (z3z r l) (okP r l []) s ((l.length : Int) - 1) st (p : Int)) (by omega)
  have hstep : zq6 (r, l) s ((l.length : Int) - 1) (p : Int) st = some (insP (z3z r l) (okP r l []) s ((l.length : Int) - 1) st (p : Int)) := by
   unfold zq6
   rw [zqi (by omega) hi, Option.bind_some, y18 (by omega) hi, Option.bind_some]
   unfold insP
   cases (okP r l [] (insI s (p : Int) ((l.length : Int) - 1)) && (decide (st.1 < 0) || decide (z7p (z3z r l) (insI s (p : Int) ((l.length : Int) - 1)) < st.2))) <;> rfl
  unfold zkc
  rw [hstep, Option.bind_some]
  have e : ((p : Int) + 1) = ((p + 1 : Nat) : Int) := rfl
  rw [e, ih, List.range'_succ]
  rfl
theorem zvz (n : Nat) : upto n = (List.range' 0 n).map fun (i : Nat) => (i : Int) := by unfold upto; rw [List.range_eq_range']
def insE (r : z01) (l : List z00) (s : List Int) : Int := if z4r r l = 0 then (if seqE l.length s = 0 then (if s.contains ((l.length : Int) - 1) then 23 else 0) else seqE l.length s) else z4r r l
theorem zqv {r : z01} {l : List z00} {s : List Int} (hl : l.length ≤ 100000) (hs : s.length ≤ 1000) : z0z r l s = some (if insE r l s = 0 then (if (zky r l s).1 < 0 then (0, 12) else ((zky r l s).1, 0)) else (0, insE r l s)) := by
 unfold z0z
 rw [z0a hs, cond_true, zk7 (by omega) (by omega), Option.bind_some, z0m (x := (l.length : Int) - 1) (by omega) (by omega), zd1 (by omega), Option.bind_some, z7h, Option.bind_some, zlo (by simp), Option.bind_some]
 have hE : zd0 [(if z4r r l = 0 then seqE l.length s else z4r r l), (if (!s.contains ((l.length : Int) - 1)) = true then 0 else 23)] = insE r l s := by
  unfold insE
  simp only [zd0]
  by_cases h0 : z4r r l = 0
  ·simp only [if_pos h0]
   by_cases h1 : seqE l.length s = 0
   ·simp only [if_pos h1]
    cases s.contains ((l.length : Int) - 1) <;> rfl
   ·simp only [if_neg h1]
  ·simp only [if_neg h0]
 rw [hE]
 by_cases h : insE r l s = 0
 rotate_left
 ·rw [if_neg h, show (insE r l s != 0) = true by rw [bne_iff_ne]; exact h, cond_true]
 rw [if_pos h, show (insE r l s != 0) = false by rw [h]; rfl, cond_false]
 have h0 : z4r r l = 0 ∧ seqE l.length s = 0 := by
  unfold insE at h
  by_cases h0 : z4r r l = 0
  ·rw [if_pos h0] at h
   by_cases h1 : seqE l.length s = 0
   ·exact ⟨h0, h1⟩
   ·rw [if_neg h1] at h; exact absurd h h1
  ·rw [if_neg h0] at h; exact absurd h h0
 have hf := zoz (r := r) (l := l) (s := s) hs (zdv h0.1).1 (zm6 h0.2) (s.length + 1) 0 (-1, 0) (by omega)
 rw [show ((0 : Nat) : Int) = 0 from rfl, ← zvz] at hf
 rw [hf, Option.bind_some]
 unfold zky
 by_cases hd : ((upto (s.length + 1)).foldl (insP (z3z r l) (okP r l []) s ((l.length : Int) - 1)) (-1, 0)).1 < 0
 ·rw [z0a hd, cond_true, if_pos hd]
 ·rw [z1s hd, cond_false, if_neg hd]
end Go.Lift
