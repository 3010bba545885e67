/-
  The clauses of an order on both sides.
-/
import Derived.Test.YtggnjngdmadbaaaGreatDoorOrK
import Derived.Test.YtggnjngdmadbaaaGreatDoorSlB
set_option linter.unusedSectionVars false
set_option linter.unusedVariables false
set_option linter.unusedSimpArgs false
namespace Go.Lift
open Go
abbrev wd (ws : List ByteArray) (i : Nat) : ByteArray := ws.getD i ByteArray.empty
theorem yoi {ws : List ByteArray} (i : Nat) : z1b ws (i : Int) = wd ws i := by
 unfold z1b wd
 by_cases h : i < ws.length
 ·rw [if_pos (by omega)]; rfl
 ·rw [if_neg (by omega), List.getD_eq_getElem?_getD, List.getElem?_eq_none (by omega)]; rfl
def numW (ws : List ByteArray) (i : Nat) : Option Nat := numL (wd ws i).data.toList
theorem yr9 : numL [] = none := by unfold numL; rw [if_neg (fun e => e.1 rfl)]
theorem yqf {ws : List ByteArray} {i : Nat} (h : ws.length ≤ i) : numW ws i = none := by
 unfold numW wd
 rw [List.getD_eq_getElem?_getD, List.getElem?_eq_none h]
 exact yr9
def WsOk (ws : List ByteArray) : Prop := (∀ w ∈ ws, w.size ≤ 60000) ∧ ws.length ≤ 60001
theorem yq9 {ws : List ByteArray} (h : WsOk ws) (i : Nat) : (wd ws i).size ≤ 60000 := by
 unfold wd
 rw [List.getD_eq_getElem?_getD]
 cases e : ws[i]? with
 | none => exact Nat.zero_le _
 | some x => exact h.1 x (List.mem_of_getElem? e)
theorem yom {ws : List ByteArray} (h : WsOk ws) (i : Nat) : zer ws (i : Int) = some ((numW ws i).map fun n => (n : Int)) := by
 obtain ⟨r, h1, h2, h3⟩ := yn0 (yq9 h i)
 unfold zer
 rw [yoi, h1, Option.bind_some]
 cases e : numW ws i with
 | none => rw [h3 e]; rfl
 | some n => rw [h2 n e]; rfl
theorem yqa {ws : List ByteArray} (i j : Nat) : lget ByteArray.empty (ws.drop i) (j : Int) = wd ws (i + j) := by
 unfold lget wd
 rw [Int.toNat_natCast, List.getD_eq_getElem?_getD, List.getD_eq_getElem?_getD, List.getElem?_drop]
theorem yrw {ws : List ByteArray} (h : WsOk ws) (i j : Nat) : ∃ r : Int × Bool, yj7 (lget ByteArray.empty (ws.drop i) (j : Int)) = some r ∧ (∀ n, numW ws (i + j) = some n → r = ((n : Int), true)) ∧ (numW ws (i + j) = none → r.2 = false) := by
 rw [yqa]
 exact yl4 (yq9 h _)
theorem yrq : seqb (bytes [117, 109]) (bytes [35]) = false := by rw [ykc]; rfl
theorem ypa {ws : List ByteArray} (h : WsOk ws) {i j : Nat} (hj : i + j ≤ ws.length) (ps : List ByteArray) (l : List Int) :
  pcGo (ws.drop i) (bytes [35] :: ps) j l = match numW ws (i + j) with
   | none => some ([], (j : Int), false)
   | some n => pcGo (ws.drop i) ps (j + 1) (l ++ [(n : Int)]) := by
 conv => lhs; unfold pcGo
 have hl : (ws.drop i).length = ws.length - i := List.length_drop
 by_cases h0 : j = (ws.drop i).length
 ·rw [if_pos h0, yqf (by omega)]
 ·rw [if_neg h0, ylq, cond_true]
  obtain ⟨r, h1, h2, h3⟩ := yrw h i j
  rw [h1, Option.bind_some]
  cases e : numW ws (i + j) with
  | none => rw [h3 e]; rfl
  | some n => rw [h2 n e]; rfl
def isW (ws : List ByteArray) (i : Nat) (p : ByteArray) : Bool := decide (i < ws.length) && seqb (wd ws i) p
theorem ypp {ws : List ByteArray} {i j : Nat} (hj : i + j ≤ ws.length) {p : ByteArray} (h1 : seqb p (bytes [35]) = false) (h2 : seqb p (bytes [117, 109]) = false) (ps : List ByteArray) (l : List Int) :
  pcGo (ws.drop i) (p :: ps) j l = bif isW ws (i + j) p then pcGo (ws.drop i) ps (j + 1) l else some ([], (j : Int), false) := by
 conv => lhs; unfold pcGo
 have hl : (ws.drop i).length = ws.length - i := List.length_drop
 unfold isW
 by_cases h0 : j = (ws.drop i).length
 ·rw [if_pos h0, z0v (show ¬ i + j < ws.length by omega)]; rfl
 ·rw [if_neg h0, h1, cond_false, h2, Bool.false_and, cond_false, yqa, z07 (show i + j < ws.length by omega), Bool.true_and]
  cases seqb (wd ws (i + j)) p <;> rfl
theorem yqk {a b : ByteArray} (h : seqb a b = true) : a = b := by
 rw [ykc, beq_iff_eq] at h
 rw [← ykh a, ← ykh b, h]
theorem yp3 {ws : List ByteArray} {p : ByteArray} {b : Int} (i : Nat) : zce [(p, b)] ws (i : Int) = bif isW ws i p then some b else none := by
 unfold zce isW y4f
 rw [yoi]
 by_cases h : i < ws.length
 ·rw [if_pos (by omega), z07 h, Bool.true_and]
  generalize wd ws i = x
  cases e : seqb x p <;> simp [List.find?, e]
 ·rw [if_neg (by omega), z0v h]; rfl
theorem yp7 {ws : List ByteArray} (i : Nat) : zce zmv ws (i : Int) = bif isW ws i (bytes [117, 109]) then some 1 else bif isW ws i (bytes [109, 109]) then some 1000 else none := by
 unfold zce isW y4f zmv
 rw [yoi]
 by_cases h : i < ws.length
 ·rw [if_pos (by omega), z07 h, Bool.true_and, Bool.true_and]
  generalize wd ws i = x
  cases e : seqb x (bytes [117, 109]) <;> cases e2 : seqb x (bytes [109, 109]) <;> simp [List.find?, e, e2]
 ·rw [if_neg (by omega), z0v h]; rfl
theorem yqj {ws : List ByteArray} {i : Nat} (h : isW ws i (bytes [117, 109]) = true) : isW ws i (bytes [109, 109]) = false := by
 unfold isW at h ⊢
 rw [Bool.and_eq_true] at h
 rw [yqk h.2]
 have : seqb (bytes [117, 109]) (bytes [109, 109]) = false := by rw [ykc]; rfl
 rw [this, Bool.and_false]
theorem yro {ws : List ByteArray} {i j : Nat} (hj : i + j ≤ ws.length) (ps : List ByteArray) (l : List Int) :
  pcGo (ws.drop i) (bytes [117, 109] :: ps) j l = bif isW ws (i + j) (bytes [117, 109]) then pcGo (ws.drop i) ps (j + 1) l else bif isW ws (i + j) (bytes [109, 109]) then pcGo (ws.drop i) ps (j + 1) (lset l 0 (wi64 (1000 * lget 0 l 0))) else some ([], (j : Int), false) := by
 conv => lhs; unfold pcGo
 have hl : (ws.drop i).length = ws.length - i := List.length_drop
 by_cases h0 : j = (ws.drop i).length
 ·unfold isW
  rw [if_pos h0, z0v (show ¬ i + j < ws.length by omega)]; rfl
 ·rw [if_neg h0, yrq, cond_false, ylq, Bool.true_and, yqa]
  have hin : ∀ p, isW ws (i + j) p = seqb (wd ws (i + j)) p := fun p => by unfold isW; rw [z07 (show i + j < ws.length by omega), Bool.true_and]
  cases e : isW ws (i + j) (bytes [117, 109]) with
  | true =>
   have e2 := yqj e
   rw [hin] at e e2
   rw [e2, e]; rfl
  | false =>
   cases e2 : isW ws (i + j) (bytes [109, 109]) with
   | true => rw [hin] at e2; rw [e2]; rfl
   | false => rw [hin] at e e2; rw [e2, e]; rfl
def setO (k : Nat) (l : List Int) (o : z01) : z01 := match k with
 | 0 => (o.1, (lget 0 l 0, o.2.2))
 | 1 => (o.1, (o.2.1, (lget 0 l 0, o.2.2.2)))
 | 2 => (o.1, (o.2.1, (o.2.2.1, (lget 0 l 0, o.2.2.2.2))))
 | 3 => (o.1, (o.2.1, (o.2.2.1, (o.2.2.2.1, (lget 0 l 0, o.2.2.2.2.2)))))
 | 4 => (o.1, (o.2.1, (o.2.2.1, (o.2.2.2.1, (o.2.2.2.2.1, ((wi64 (10 * lget 0 l 0), wi64 (10 * lget 0 l 1)), o.2.2.2.2.2.2))))))
 | _ => (o.1, (o.2.1, (o.2.2.1, (o.2.2.2.1, (o.2.2.2.2.1, (o.2.2.2.2.2.1, lget 0 l 0))))))
def rowN (k : Nat) : Nat := if k = 4 then 2 else 1
theorem yor {k : Nat} (hk : k < 6) (w : List ByteArray) {P : List ByteArray} (hP : lget [] (match yoa with | some p => p | none => []) (k : Int) = P) : yo5 (k : Int) w = pcGo w P 0 [] := by
 unfold yo5
 subst hP
 show (chk (decide ((0 : Int) ≤ (k : Int)) && decide ((k : Int) < ((6 : Nat) : Int))) _) = _
 rw [z18 (zi5 (z07 (by omega)) (z07 (by omega)))]
 rfl
theorem yov {ws : List ByteArray} (h : WsOk ws) (us : List (ByteArray × Int)) (i : Nat) : z62 us ws (i : Int) = some (match numW ws i with
  | none => .inl (i : Int)
  | some n => match zce us ws ((i + 1 : Nat) : Int) with
   | none => .inl ((i + 1 : Nat) : Int)
   | some b => .inr (wi64 ((n : Int) * b))) := by
 unfold z62
 rw [yom h, Option.bind_some]
 cases numW ws i with
 | none => rfl
 | some n =>
  show (match zce us ws ((i : Int) + 1) with | none => some (Sum.inl ((i : Int) + 1)) | some b => some (Sum.inr (wi64 ((n : Int) * b)))) = _
  rw [show ((i : Int) + 1) = ((i + 1 : Nat) : Int) from rfl]
  cases zce us ws ((i + 1 : Nat) : Int) <;> rfl
theorem yp8 {ws : List ByteArray} {i n : Nat} (h : numW ws i = some n) : n < 1000000 ∧ i < ws.length := by
 refine ⟨yo1 h, ?_⟩
 by_cases h1 : i < ws.length
 ·exact h1
 ·rw [yqf (by omega)] at h; cases h
theorem yq7 {ws : List ByteArray} {i : Nat} {p : ByteArray} (h : isW ws i p = true) : i < ws.length := by
 unfold isW at h
 rw [Bool.and_eq_true, decide_eq_true_eq] at h
 exact h.1
end Go.Lift
namespace Go.Lift
open Go
def ClOk (ws : List ByteArray) (k i : Nat) (o : z01) : Prop := ∃ (l : List Int) (n : Nat) (ok : Bool), yo5 (k : Int) (ws.drop i) = some (l, (n : Int), ok) ∧
 zyj k ws o (i : Int) = some (bif ok then .inr (setO k l o, ((i + n : Nat) : Int)) else .inl ((i + n : Nat) : Int)) ∧ i + n ≤ ws.length ∧ (ok = true → 1 ≤ n ∧ l.length = rowN k)
theorem yrk {ws : List ByteArray} (h : WsOk ws) {i : Nat} (hi : i ≤ ws.length) : pcGo (ws.drop i) [bytes [35]] 0 [] = some (match numW ws i with
  | none => ([], 0, false)
  | some n => ([(n : Int)], 1, true)) := by
 rw [ypa h (by omega), Nat.add_zero]
 cases e : numW ws i with
 | none => rfl
 | some n => rfl
theorem cl_0 {ws : List ByteArray} (h : WsOk ws) {i : Nat} (hi : i ≤ ws.length) (o : z01) : ClOk ws 0 i o := by
 have hp := yor (k := 0) (by omega) (ws.drop i) (P := [bytes [35]]) rfl
 rw [yrk h hi] at hp
 have hr : zyj 0 ws o (i : Int) = (zer ws (i : Int)).bind fun n => match n with
  | none => some (.inl (i : Int))
  | some n => some (.inr ((o.1, (n, o.2.2)), (i : Int) + 1)) := rfl
 rw [yom h, Option.bind_some] at hr
 cases e : numW ws i with
 | none => rw [e] at hp hr; exact ⟨[], 0, false, hp, hr, by omega, fun h => (by cases h)⟩
 | some n => rw [e] at hp hr; exact ⟨[(n : Int)], 1, true, hp, hr, by have := (yp8 e).2; omega, fun _ => ⟨by omega, rfl⟩⟩
theorem cl_5 {ws : List ByteArray} (h : WsOk ws) {i : Nat} (hi : i ≤ ws.length) (o : z01) : ClOk ws 5 i o := by
 have hp := yor (k := 5) (by omega) (ws.drop i) (P := [bytes [35]]) rfl
 rw [yrk h hi] at hp
 have hr : zyj 5 ws o (i : Int) = (zer ws (i : Int)).bind fun n => match n with
  | none => some (.inl (i : Int))
  | some n => some (.inr ((o.1, (o.2.1, (o.2.2.1, (o.2.2.2.1, (o.2.2.2.2.1, (o.2.2.2.2.2.1, n)))))), (i : Int) + 1)) := rfl
 rw [yom h, Option.bind_some] at hr
 cases e : numW ws i with
 | none => rw [e] at hp hr; exact ⟨[], 0, false, hp, hr, by omega, fun h => (by cases h)⟩
 | some n => rw [e] at hp hr; exact ⟨[(n : Int)], 1, true, hp, hr, by have := (yp8 e).2; omega, fun _ => ⟨by omega, rfl⟩⟩
def twoF (ws : List ByteArray) (i : Nat) : List Int × Int × Bool := match numW ws i with
 | none => ([], 0, false)
 | some n => bif isW ws (i + 1) (bytes [117, 109]) then ([(n : Int)], 2, true) else bif isW ws (i + 1) (bytes [109, 109]) then ([wi64 (1000 * (n : Int))], 2, true) else ([], 1, false)
theorem yr0 {ws : List ByteArray} (h : WsOk ws) {i : Nat} (hi : i ≤ ws.length) : pcGo (ws.drop i) [bytes [35], bytes [117, 109]] 0 [] = some (twoF ws i) := by
 unfold twoF
 rw [ypa h (by omega), Nat.add_zero]
 cases e : numW ws i with
 | none => rfl
 | some n =>
  simp only []
  have := (yp8 e).2
  rw [yro (by omega)]
  show (bif isW ws (i + 1) (bytes [117, 109]) then _ else bif isW ws (i + 1) (bytes [109, 109]) then _ else _) = _
  cases isW ws (i + 1) (bytes [117, 109]) <;> cases isW ws (i + 1) (bytes [109, 109]) <;> rfl
theorem yq6 {ws : List ByteArray} (h : WsOk ws) (i : Nat) : z62 zmv ws (i : Int) = some (bif (twoF ws i).2.2 then .inr (lget 0 (twoF ws i).1 0) else .inl ((i : Int) + (twoF ws i).2.1)) ∧ ((twoF ws i).2.2 = true → (twoF ws i).2.1 = 2 ∧ i + 2 ≤ ws.length ∧ (twoF ws i).1.length = 1) ∧ ((twoF ws i).2.2 = false → i ≤ ws.length → ∃ m : Nat, (twoF ws i).2.1 = (m : Int) ∧ i + m ≤ ws.length) := by
 rw [yov h]
 unfold twoF
 cases e : numW ws i with
 | none => exact ⟨by simp, fun h => (by cases h), fun _ hi => ⟨0, rfl, by omega⟩⟩
 | some n =>
  have hn := yp8 e
  simp only []
  rw [yp7]
  cases e1 : isW ws (i + 1) (bytes [117, 109]) with
  | true =>
   have := yq7 e1
   refine ⟨?_, fun _ => ⟨rfl, by omega, rfl⟩, fun h => (by cases h)⟩
   show some (Sum.inr (wi64 ((n : Int) * 1))) = some (Sum.inr (n : Int))
   rw [Int.mul_one, z0j (by omega) (by omega)]
  | false =>
   cases e2 : isW ws (i + 1) (bytes [109, 109]) with
   | true =>
    have := yq7 e2
    refine ⟨?_, fun _ => ⟨rfl, by omega, rfl⟩, fun h => (by cases h)⟩
    show some (Sum.inr (wi64 ((n : Int) * 1000))) = some (Sum.inr (wi64 (1000 * (n : Int))))
    rw [Int.mul_comm]
   | false => exact ⟨rfl, fun h => (by cases h), fun _ hi => ⟨1, rfl, by omega⟩⟩
theorem cl_1 {ws : List ByteArray} (h : WsOk ws) {i : Nat} (hi : i ≤ ws.length) (o : z01) : ClOk ws 1 i o := by
 have hp := yor (k := 1) (by omega) (ws.drop i) (P := [bytes [35], bytes [117, 109]]) rfl
 rw [yr0 h hi] at hp
 have hr : zyj 1 ws o (i : Int) = (z62 zmv ws (i : Int)).bind fun v => match v with
  | .inl j => some (.inl j)
  | .inr v => some (.inr ((o.1, (o.2.1, (v, o.2.2.2))), (i : Int) + 2)) := rfl
 obtain ⟨h1, h2, h3⟩ := yq6 h i
 rw [h1, Option.bind_some] at hr
 generalize twoF ws i = z at hp hr h2 h3
 obtain ⟨l, n, ok⟩ := z
 cases ok with
 | true =>
  obtain ⟨e1, e2, e3⟩ := h2 rfl
  replace e1 : n = 2 := e1
  subst e1
  exact ⟨l, 2, true, hp, hr, e2, fun _ => ⟨by omega, e3⟩⟩
 | false =>
  obtain ⟨m, e1, e2⟩ := h3 rfl hi
  replace e1 : n = (m : Int) := e1
  subst e1
  exact ⟨l, m, false, hp, hr, e2, fun h => (by cases h)⟩
theorem cl_2 {ws : List ByteArray} (h : WsOk ws) {i : Nat} (hi : i ≤ ws.length) (o : z01) : ClOk ws 2 i o := by
 have hp := yor (k := 2) (by omega) (ws.drop i) (P := [bytes [35], bytes [117, 109]]) rfl
 rw [yr0 h hi] at hp
 have hr : zyj 2 ws o (i : Int) = (z62 zmv ws (i : Int)).bind fun v => match v with
  | .inl j => some (.inl j)
  | .inr v => some (.inr ((o.1, (o.2.1, (o.2.2.1, (v, o.2.2.2.2)))), (i : Int) + 2)) := rfl
 obtain ⟨h1, h2, h3⟩ := yq6 h i
 rw [h1, Option.bind_some] at hr
 generalize twoF ws i = z at hp hr h2 h3
 obtain ⟨l, n, ok⟩ := z
 cases ok with
 | true =>
  obtain ⟨e1, e2, e3⟩ := h2 rfl
  replace e1 : n = 2 := e1
  subst e1
  exact ⟨l, 2, true, hp, hr, e2, fun _ => ⟨by omega, e3⟩⟩
 | false =>
  obtain ⟨m, e1, e2⟩ := h3 rfl hi
  replace e1 : n = (m : Int) := e1
  subst e1
  exact ⟨l, m, false, hp, hr, e2, fun h => (by cases h)⟩
theorem yru : seqb (bytes [109, 109]) (bytes [35]) = false := by rw [ykc]; rfl
theorem yrt : seqb (bytes [109, 109]) (bytes [117, 109]) = false := by rw [ykc]; rfl
theorem yrs : seqb (bytes [116, 111]) (bytes [35]) = false := by rw [ykc]; rfl
theorem yrr : seqb (bytes [116, 111]) (bytes [117, 109]) = false := by rw [ykc]; rfl
theorem sb_C_n : seqb (bytes [67]) (bytes [35]) = false := by rw [ykc]; rfl
theorem sb_C_u : seqb (bytes [67]) (bytes [117, 109]) = false := by rw [ykc]; rfl
theorem yq0 {ws : List ByteArray} (h : WsOk ws) (p : ByteArray) (b : Int) (i : Nat) : z62 [(p, b)] ws (i : Int) = some (match numW ws i with
  | none => .inl (i : Int)
  | some n => bif isW ws (i + 1) p then .inr (wi64 ((n : Int) * b)) else .inl ((i + 1 : Nat) : Int)) := by
 rw [yov h]
 cases numW ws i with
 | none => rfl
 | some n =>
  simp only []
  rw [yp3]
  cases isW ws (i + 1) p <;> rfl
theorem cl_3 {ws : List ByteArray} (h : WsOk ws) {i : Nat} (hi : i ≤ ws.length) (o : z01) : ClOk ws 3 i o := by
 have hp := yor (k := 3) (by omega) (ws.drop i) (P := [bytes [35], bytes [109, 109]]) rfl
 rw [ypa h (by omega), Nat.add_zero] at hp
 have hr : zyj 3 ws o (i : Int) = (z62 [(bytes [109, 109], 1)] ws (i : Int)).bind fun v => match v with
  | .inl j => some (.inl j)
  | .inr v => some (.inr ((o.1, (o.2.1, (o.2.2.1, (o.2.2.2.1, (v, o.2.2.2.2.2))))), (i : Int) + 2)) := rfl
 rw [yq0 h, Option.bind_some] at hr
 cases e : numW ws i with
 | none => rw [e] at hp hr; exact ⟨[], 0, false, hp, hr, by omega, fun h => (by cases h)⟩
 | some n =>
  rw [e] at hp hr
  have hn := yp8 e
  simp only [] at hp hr
  rw [ypp (by omega) yru yrt, Int.mul_one, z0j (by omega) (by omega)] at *
  replace hp : _ = bif isW ws (i + 1) (bytes [109, 109]) then some ([(n : Int)], (2 : Int), true) else some ([], 1, false) := hp
  cases e1 : isW ws (i + 1) (bytes [109, 109]) with
  | true =>
   have := yq7 e1
   rw [e1] at hp hr
   exact ⟨[(n : Int)], 2, true, hp, hr, by omega, fun _ => ⟨by omega, rfl⟩⟩
  | false =>
   rw [e1] at hp hr
   exact ⟨[], 1, false, hp, hr, by omega, fun h => (by cases h)⟩
theorem cl_4 {ws : List ByteArray} (h : WsOk ws) {i : Nat} (hi : i ≤ ws.length) (o : z01) : ClOk ws 4 i o := by
 have hp := yor (k := 4) (by omega) (ws.drop i) (P := [bytes [35], bytes [116, 111], bytes [35], bytes [67]]) rfl
 rw [ypa h (by omega), Nat.add_zero] at hp
 have hr : zyj 4 ws o (i : Int) = (z62 [(bytes [116, 111], 10)] ws (i : Int)).bind fun v => match v with
  | .inl j => some (.inl j)
  | .inr v => (z62 [(bytes [67], 10)] ws ((i + 2 : Nat) : Int)).bind fun u => match u with
   | .inl j => some (.inl j)
   | .inr u => some (.inr ((o.1, (o.2.1, (o.2.2.1, (o.2.2.2.1, (o.2.2.2.2.1, ((v, u), o.2.2.2.2.2.2)))))), (i : Int) + 4)) := rfl
 rw [yq0 h, Option.bind_some] at hr
 cases e : numW ws i with
 | none => rw [e] at hp hr; exact ⟨[], 0, false, hp, hr, by omega, fun h => (by cases h)⟩
 | some n =>
  rw [e] at hp hr
  have hn := yp8 e
  simp only [] at hp hr
  rw [ypp (by omega) yrs yrr] at hp
  replace hp : _ = bif isW ws (i + 1) (bytes [116, 111]) then pcGo (ws.drop i) [bytes [35], bytes [67]] 2 [(n : Int)] else some ([], 1, false) := hp
  cases e1 : isW ws (i + 1) (bytes [116, 111]) with
  | false =>
   rw [e1] at hp hr
   exact ⟨[], 1, false, hp, hr, by omega, fun h => (by cases h)⟩
  | true =>
   have h1 := yq7 e1
   rw [e1, cond_true] at hp hr
   simp only [] at hr
   rw [ypa h (by omega)] at hp
   rw [yq0 h, Option.bind_some] at hr
   cases e2 : numW ws (i + 2) with
   | none => rw [e2] at hp hr; exact ⟨[], 2, false, hp, hr, by omega, fun h => (by cases h)⟩
   | some m =>
    rw [e2] at hp hr
    have hm := yp8 e2
    simp only [] at hp hr
    rw [ypp (by omega) sb_C_n sb_C_u] at hp
    replace hp : _ = bif isW ws (i + 3) (bytes [67]) then some ([(n : Int), (m : Int)], (4 : Int), true) else some ([], 3, false) := hp
    replace hr : _ = (match (bif isW ws (i + 3) (bytes [67]) then (Sum.inr (wi64 ((m : Int) * 10)) : Int ⊕ Int) else .inl ((i + 3 : Nat) : Int)) with
     | .inl j => some (Sum.inl (β := z01 × Int) j)
     | .inr u => some (Sum.inr (α := Int) ((o.1, (o.2.1, (o.2.2.1, (o.2.2.2.1, (o.2.2.2.2.1, ((wi64 ((n : Int) * 10), u), o.2.2.2.2.2.2)))))), (i : Int) + 4))) := hr
    cases e3 : isW ws (i + 3) (bytes [67]) with
    | false => rw [e3] at hp hr; exact ⟨[], 3, false, hp, hr, by omega, fun h => (by cases h)⟩
    | true =>
     have h3 := yq7 e3
     rw [e3] at hp hr
     rw [Int.mul_comm (n : Int), cond_true, Int.mul_comm (m : Int)] at hr
     exact ⟨[(n : Int), (m : Int)], 4, true, hp, hr, by omega, fun _ => ⟨by omega, rfl⟩⟩
theorem yqz {ws : List ByteArray} (h : WsOk ws) {i k : Nat} (hk : k < 6) (hi : i ≤ ws.length) (o : z01) : ClOk ws k i o := by
 rcases (by omega : k = 0 ∨ k = 1 ∨ k = 2 ∨ k = 3 ∨ k = 4 ∨ k = 5) with rfl | rfl | rfl | rfl | rfl | rfl
 ·exact cl_0 h hi o
 ·exact cl_1 h hi o
 ·exact cl_2 h hi o
 ·exact cl_3 h hi o
 ·exact cl_4 h hi o
 ·exact cl_5 h hi o
end Go.Lift
namespace Go.Lift
open Go
def yqu (w : ByteArray) : Nat := match z9a w with
 | some k => k
 | none => 6
theorem ysa {w : ByteArray} {k : Nat} (h : z9a w = some k) : k < 6 := by
 unfold z9a at h
 have := List.findIdx?_eq_some_iff_getElem.1 h
 exact this.1
theorem yqt {ws : List ByteArray} {i : Nat} (hi : i < ws.length) : z2d (S := Int) (R := Int) (fun kind =>
      (bif decide (kind < 6) then
       (yol).bind fun (t_3 : (List ByteArray)) =>
       chk (decide ((0 : Int) ≤ kind) && decide (kind < (List.length t_3 : Int))) (
        chk (decide ((0 : Int) ≤ (i : Int)) && decide ((i : Int) < (List.length ws : Int))) (
         some (!seqb (lget ByteArray.empty t_3 kind) (lget ByteArray.empty ws (i : Int)))))
      else some false).bind fun (c : Bool) =>
      bif c then
       some (.inl (wi64 (kind + 1)))
      else
       some (.inr kind)) 0 = some ((yqu (wd ws i) : Nat) : Int) := by
 have hin : (decide ((0 : Int) ≤ (i : Int)) && decide ((i : Int) < (List.length ws : Int))) = true := zi5 (z07 (by omega)) (z07 (by omega))
 have hw : lget ByteArray.empty ws (i : Int) = wd ws i := rfl
 rw [show yol = some zd2 from rfl, hin, hw]
 generalize wd ws i = w
 simp only [Option.bind_some]
 obtain ⟨f, hf⟩ : ∃ f : Int → Option (Int ⊕ Int), f = fun kind => (bif decide (kind < 6) then chk (decide ((0 : Int) ≤ kind) && decide (kind < (List.length zd2 : Int))) (chk true (some (!seqb (lget ByteArray.empty zd2 kind) w))) else some false).bind fun c => bif c then some (.inl (wi64 (kind + 1))) else some (.inr kind) := ⟨_, rfl⟩
 rw [← hf]
 have stepF : ∀ k : Nat, k < 6 → seqb (zd2.getD k ByteArray.empty) w = false → f (k : Int) = some (.inl ((k + 1 : Nat) : Int)) := fun k hk hs => by
  rw [hf]
  simp only []
  rw [z07 (show (k : Int) < 6 by omega), cond_true, z18 (zi5 (z07 (by omega)) (z07 (show (k : Int) < (zd2.length : Int) from (by show (k : Int) < ((6 : Nat) : Int); omega)))), show lget ByteArray.empty zd2 (k : Int) = zd2.getD k ByteArray.empty from rfl, hs, z0j (by omega) (by omega)]
  rfl
 have stepT : ∀ k : Nat, k < 6 → seqb (zd2.getD k ByteArray.empty) w = true → f (k : Int) = some (.inr (k : Int)) := fun k hk hs => by
  rw [hf]
  simp only []
  rw [z07 (show (k : Int) < 6 by omega), cond_true, z18 (zi5 (z07 (by omega)) (z07 (show (k : Int) < (zd2.length : Int) from (by show (k : Int) < ((6 : Nat) : Int); omega)))), show lget ByteArray.empty zd2 (k : Int) = zd2.getD k ByteArray.empty from rfl, hs]
  rfl
 have step6 : f ((6 : Nat) : Int) = some (.inr ((6 : Nat) : Int)) := by
  rw [hf]
  simp only []
  rw [z0v (show ¬ ((6 : Nat) : Int) < 6 by omega)]
  rfl
 have kn : ∀ (k : Nat), (∀ j, j < k → seqb (zd2.getD j ByteArray.empty) w = false) → k ≤ 6 → (k < 6 → seqb (zd2.getD k ByteArray.empty) w = true) → yqu w = k := fun k h1 hk h2 => by
  unfold yqu
  have hl : zd2.length = 6 := rfl
  have hg : ∀ j (hj : j < zd2.length), zd2[j] = zd2.getD j ByteArray.empty := fun j hj => by rw [List.getD_eq_getElem?_getD, List.getElem?_eq_getElem hj]; rfl
  cases e : z9a w with
  | some j =>
   simp only []
   obtain ⟨e1, e2, e3⟩ := List.findIdx?_eq_some_iff_getElem.1 e
   rw [hg] at e2
   by_cases hjk : j < k
   ·rw [h1 j hjk] at e2; cases e2
   ·by_cases hkj : k < j
    ·have := e3 k hkj
     rw [hg] at this
     rw [h2 (by omega)] at this
     exact absurd rfl this
    ·omega
  | none =>
   simp only []
   by_cases h6 : k < 6
   ·have := List.findIdx?_eq_none_iff.1 e (zd2.getD k ByteArray.empty) (by rw [← hg k (by omega)]; exact List.getElem_mem _)
    rw [h2 h6] at this
    cases this
   ·omega
 have go : ∀ (d k : Nat), k + d = 6 → (∀ j, j < k → seqb (zd2.getD j ByteArray.empty) w = false) → z2d f (k : Int) = some ((yqu w : Nat) : Int) := by
  intro d
  induction d with
  | zero =>
   intro k hk h1
   obtain rfl : k = 6 := by omega
   rw [kn 6 h1 (by omega) (fun h => absurd h (by omega))]
   exact zhp step6
  | succ d ih =>
   intro k hk h1
   cases e : seqb (zd2.getD k ByteArray.empty) w with
   | true =>
    rw [kn k h1 (by omega) (fun _ => e)]
    exact zhp (stepT k (by omega) e)
   | false =>
    rw [zqw (stepF k (by omega) e)]
    refine ih (k + 1) (by omega) fun j hj => ?_
    by_cases h : j = k
    ·rw [h]; exact e
    ·exact h1 j (by omega)
 exact go 6 0 rfl fun j hj => absurd hj (by omega)
def yp0 (a : ByteArray) (t : List (List Int)) : z01 := (a, (lget 0 (t.getD 0 []) 0, (lget 0 (t.getD 1 []) 0, (lget 0 (t.getD 2 []) 0, (lget 0 (t.getD 3 []) 0, ((wi64 (10 * lget 0 (t.getD 4 []) 0), wi64 (10 * lget 0 (t.getD 4 []) 1)), lget 0 (t.getD 5 []) 0))))))
def TOk (t : List (List Int)) (given : Nat → Bool) : Prop := t.length = 6 ∧ ∀ k, k < 6 → (given k = true ∨ k = 2 ∨ k = 4 ∨ k = 5) → (t.getD k []).length = rowN k
theorem six {t : List (List Int)} (h : t.length = 6) : ∃ a b c d e f, t = [a, b, c, d, e, f] := by
 match t, h with
 | [a, b, c, d, e, f], _ => exact ⟨a, b, c, d, e, f, rfl⟩
theorem yr4 {a : ByteArray} {t : List (List Int)} (h : t.length = 6) {k : Nat} (hk : k < 6) (l : List Int) : setO k l (yp0 a t) = yp0 a (lset t (k : Int) l) := by
 obtain ⟨a0, a1, a2, a3, a4, a5, rfl⟩ := six h
 rcases (by omega : k = 0 ∨ k = 1 ∨ k = 2 ∨ k = 3 ∨ k = 4 ∨ k = 5) with rfl | rfl | rfl | rfl | rfl | rfl <;> rfl
theorem yrm {t : List (List Int)} {given : Nat → Bool} (h : TOk t given) {k : Nat} (hk : k < 6) {l : List Int} (hl : l.length = rowN k) : TOk (lset t (k : Int) l) (upd given k true) := by
 refine ⟨by unfold lset; rw [List.length_set]; exact h.1, fun j hj hg => ?_⟩
 unfold lset
 rw [Int.toNat_natCast, List.getD_eq_getElem?_getD, List.getElem?_set]
 by_cases e : k = j
 ·rw [if_pos e, if_pos (by rw [h.1]; exact hk), ← e]
  exact hl
 ·rw [if_neg e, ← List.getD_eq_getElem?_getD]
  refine h.2 j hj ?_
  rcases hg with hg | hg
  ·unfold upd at hg
   have hne : Nat.beq j k = false := by
    cases hb : Nat.beq j k with
    | false => rfl
    | true => exact absurd (Nat.eq_of_beq_eq_true hb).symm e
   rw [hne, cond_false] at hg
   exact .inl hg
  ·exact .inr hg
theorem yqd {ws : List ByteArray} (h : WsOk ws) (a : ByteArray) : ∀ (n i : Nat) (given : Nat → Bool) (t : List (List Int)), ws.length < i + n → i ≤ ws.length → TOk t given →
  ∃ R R', zfe ws n (yp0 a t) (i : Int) given = some R ∧
   z2d (S := Int × (Nat → Bool) × (List (List Int))) (R := ((Nat → Bool) × (List (List Int))) ⊕ (z01 × Int × Int)) (fun s_1 =>
    let i : Int := s_1.1
    let seen : (Nat → Bool) := s_1.2.1
    let t_2 : (List (List Int)) := s_1.2.2
    bif decide (i < (List.length ws : Int)) then
     (z2d (S := Int) (R := Int) (fun kind =>
      (bif decide (kind < 6) then
       (yol).bind fun (t_3 : (List ByteArray)) =>
       chk (decide ((0 : Int) ≤ kind) && decide (kind < (List.length t_3 : Int))) (
        chk (decide ((0 : Int) ≤ i) && decide (i < (List.length ws : Int))) (
         some (!seqb (lget ByteArray.empty t_3 kind) (lget ByteArray.empty ws i))))
      else some false).bind fun (c : Bool) =>
      bif c then
       some (.inl (wi64 (kind + 1)))
      else
       some (.inr kind)) 0).bind fun (kind_1 : Int) =>
     bif (kind_1 == 6) then
      Option.map Sum.inr (Option.map Sum.inr (
       some ((ByteArray.empty, (0, (0, (0, (0, ((0, 0), 0)))))), i, 7)))
     else
      chk (decide ((0 : Int) ≤ kind_1) && decide ((kind_1 : Int) < 6)) (
       bif aget seen kind_1 then
        Option.map Sum.inr (Option.map Sum.inr (
         some ((ByteArray.empty, (0, (0, (0, (0, ((0, 0), 0)))))), i, 23)))
       else
        chk (decide ((0 : Int) ≤ kind_1) && decide ((kind_1 : Int) < 6)) (
         let seen_1 : (Nat → Bool) := aset seen kind_1 true
         chk (decide ((0 : Int) ≤ (wi64 (i + 1))) && decide (((wi64 (i + 1)) : Int) ≤ (List.length ws : Int)) && decide ((List.length ws : Int) ≤ (List.length ws : Int))) (
          (yo5 kind_1 (List.drop (Int.toNat (wi64 (i + 1))) (List.take (Int.toNat (List.length ws : Int)) ws))).bind fun (r : (List Int) × Int × Bool) =>
          bif !r.2.2 then
           let t_4 : Int := wi64 ((wi64 (i + 1)) + r.2.1)
           Option.map Sum.inr (Option.map Sum.inr (
            some ((ByteArray.empty, (0, (0, (0, (0, ((0, 0), 0)))))), t_4, 7)))
          else
           chk (decide ((0 : Int) ≤ kind_1) && decide (kind_1 < (List.length t_2 : Int))) (
            let t_5 : (List (List Int)) := lset t_2 kind_1 r.1
            let i_1 : Int := wi64 ((wi64 (i + 1)) + r.2.1)
            some (.inl (i_1, seen_1, t_5))))))
    else
     some (.inr (.inl (seen, t_2)))) ((i : Int), given, t) = some R' ∧ (match R with
    | .inl f => R' = .inr (z3f, f.1, f.2)
    | .inr r => ∃ t', R' = .inl (r.2, t') ∧ r.1 = yp0 a t' ∧ TOk t' r.2) := by
 intro n
 induction n with
 | zero => intro i given t hn hi _; omega
 | succ n ih =>
  intro i given t hn hi ht
  have hlw := h.2
  by_cases hlt : i < ws.length
  ·have hkl := yqt hlt
   have hrd : zfe ws (n + 1) (yp0 a t) (i : Int) given = match z9a (wd ws i) with
     | none => some (.inl ((i : Int), 7))
     | some k => bif given k then some (.inl ((i : Int), 23)) else (zyj k ws (yp0 a t) ((i + 1 : Nat) : Int)).bind fun r => match r with
      | .inl j => some (.inl (j, 7))
      | .inr r => zfe ws n r.1 r.2 (upd given k true) := by
    conv => lhs; unfold zfe
    rw [if_pos (show (i : Int) < (ws.length : Int) by omega), yoi]
    rfl
   rw [hrd]
   unfold yqu at hkl
   cases hc : z9a (wd ws i) with
   | none =>
    rw [hc] at hkl
    refine ⟨_, _, rfl, zhp (r := .inr (z3f, (i : Int), 7)) ?_, rfl⟩
    simp only []
    rw [hkl, z07 (show (i : Int) < (ws.length : Int) by omega), cond_true, Option.bind_some]
    rfl
   | some k =>
    rw [hc] at hkl
    have hk := ysa hc
    have hk6 : (((k : Nat) : Int) == 6) = false := by rw [beq_eq_false_iff_ne]; omega
    have hkr : (decide ((0 : Int) ≤ (k : Int)) && decide ((k : Int) < 6)) = true := zi5 (z07 (by omega)) (z07 (by omega))
    simp only [] at hkl ⊢
    cases hg : given k with
    | true =>
     rw [cond_true]
     refine ⟨_, _, rfl, zhp (r := .inr (z3f, (i : Int), 23)) ?_, rfl⟩
     simp only []
     rw [hkl, z07 (show (i : Int) < (ws.length : Int) by omega), cond_true, Option.bind_some, hk6, cond_false, z18 hkr, show aget given (k : Int) = given k from rfl, hg]
     rfl
    | false =>
     rw [cond_false]
     obtain ⟨l, m, ok, c1, c2, c3, c4⟩ := yqz h hk (show i + 1 ≤ ws.length by omega) (yp0 a t)
     have hw1 : wi64 ((i : Int) + 1) = ((i + 1 : Nat) : Int) := by rw [z0j (by omega) (by omega)]; rfl
     have hw2 : wi64 (((i + 1 : Nat) : Int) + (m : Int)) = ((i + 1 + m : Nat) : Int) := by rw [z0j (by omega) (by omega)]; omega
     have hdr : List.drop (Int.toNat ((i + 1 : Nat) : Int)) (List.take (Int.toNat (ws.length : Int)) ws) = ws.drop (i + 1) := by rw [Int.toNat_natCast, Int.toNat_natCast, List.take_length]
     have hcd : (decide ((0 : Int) ≤ ((i + 1 : Nat) : Int)) && decide (((i + 1 : Nat) : Int) ≤ (ws.length : Int)) && decide ((ws.length : Int) ≤ (ws.length : Int))) = true := zi5 (zi5 (z07 (by omega)) (z07 (by omega))) (z07 (by omega))
     rw [c2, Option.bind_some]
     cases ok with
     | false =>
      refine ⟨_, _, rfl, zhp (r := .inr (z3f, ((i + 1 + m : Nat) : Int), 7)) ?_, rfl⟩
      simp only []
      rw [hkl, z07 (show (i : Int) < (ws.length : Int) by omega), cond_true, Option.bind_some, hk6, cond_false, z18 hkr, show aget given (k : Int) = given k from rfl, hg, cond_false, z18 hkr, hw1, z18 hcd, hdr, c1, Option.bind_some, hw2]
      rfl
     | true =>
      obtain ⟨d1, d2⟩ := c4 rfl
      obtain ⟨R, R', e1, e2, e3⟩ := ih (i + 1 + m) (upd given k true) (lset t (k : Int) l) (by omega) c3 (yrm ht hk d2)
      refine ⟨R, R', ?_, ?_, e3⟩
      ·show zfe ws n (setO k l (yp0 a t)) ((i + 1 + m : Nat) : Int) (upd given k true) = some R
       rw [yr4 ht.1 hk]
       exact e1
      ·rw [zqw (s' := (((i + 1 + m : Nat) : Int), upd given k true, lset t (k : Int) l))]
       ·exact e2
       ·simp only []
        rw [hkl, z07 (show (i : Int) < (ws.length : Int) by omega), cond_true, Option.bind_some, hk6, cond_false, z18 hkr, show aget given (k : Int) = given k from rfl, hg, cond_false, z18 hkr, hw1, z18 hcd, hdr, c1, Option.bind_some, hw2, Bool.not_true, cond_false, z18 (zi5 (z07 (by omega)) (z07 (by rw [ht.1]; omega)))]
        rfl
  ·obtain rfl : i = ws.length := by omega
   refine ⟨.inr (yp0 a t, given), .inl (given, t), ?_, zhp ?_, t, rfl, rfl, ht⟩
   ·conv => lhs; unfold zfe
    rw [if_neg (show ¬ (ws.length : Int) < (ws.length : Int) by omega)]
   ·simp only []
    rw [z0v (show ¬ (ws.length : Int) < (ws.length : Int) by omega), cond_false]
end Go.Lift
