/-
  The rules of passes, parsed on both sides.
-/
import Derived.Test.YtkoojmbkjgbdgaaGreatDoorPlainC
set_option linter.unusedSectionVars false
set_option linter.unusedVariables false
set_option linter.unusedSimpArgs false
set_option linter.unusedVariables false
set_option linter.unusedSimpArgs false
namespace Go.Lift
open Go
theorem pcs_no {c : UInt8} {l : List UInt8} (h : noC c l) : pcs c l = [l] := pcs_none (cutL_no h)
theorem pcs_app {c : UInt8} : ∀ {a b : List UInt8}, pcs c (a ++ c :: b) = pcs c a ++ pcs c b
  | [], b => by
    show pcs c (c :: b) = _
    rw [pcs_cons, if_pos rfl, pcs_none (l := []) rfl]; rfl
  | x :: a, b => by
    show pcs c (x :: (a ++ c :: b)) = _
    rw [pcs_cons, pcs_cons, pcs_app (a := a)]
    by_cases hx : x = c
    · rw [if_pos hx, if_pos hx]; rfl
    · rw [if_neg hx, if_neg hx]
      cases h : pcs c a with
      | nil => exact absurd h pcs_ne
      | cons p ps => rfl
def sep3 : List UInt8 := [32, 59, 32]
theorem pcs_sep3 {a b : List UInt8} : pcs 32 (a ++ (sep3 ++ b)) = pcs 32 a ++ [59] :: pcs 32 b := by
  show pcs 32 (a ++ 32 :: ([59] ++ 32 :: b)) = _
  rw [pcs_app, pcs_app, pcs_no (l := [59]) (by intro b hb; rw [List.mem_singleton.1 hb]; decide)]
  rfl
theorem pcs_join : ∀ {l : List UInt8} {A B : List (List UInt8)} {w : List UInt8}, pcs 32 l = A ++ w :: B → A ≠ [] → B ≠ [] → ∃ a b, l = a ++ 32 :: (w ++ 32 :: b) := by
  have key : ∀ {n : Nat} {l : List UInt8} {B : List (List UInt8)} {w : List UInt8}, l.length ≤ n → pcs 32 l = w :: B → (B = [] ∧ l = w) ∨ ∃ b, l = w ++ 32 :: b ∧ pcs 32 b = B := by
    intro n l B w hn h
    cases hc : cutL 32 l with
    | none =>
      rw [pcs_none hc] at h
      cases h
      exact .inl ⟨rfl, rfl⟩
    | some p =>
      rw [pcs_some (x := p.1) (y := p.2) hc] at h
      cases h
      exact .inr ⟨p.2, cutL_len hc, rfl⟩
  intro l A
  induction A generalizing l with
  | nil => intro B w _ h; exact absurd rfl h
  | cons x A ih =>
    intro B w h _ hB
    rcases key (Nat.le_refl _) h with ⟨h1, _⟩ | ⟨b, rfl, h2⟩
    · simp at h1
    · cases A with
      | nil =>
        rcases key (Nat.le_refl _) h2 with ⟨h1, _⟩ | ⟨b', rfl, _⟩
        · exact absurd h1 hB
        · exact ⟨x, b', rfl⟩
      | cons y A =>
        obtain ⟨a, b', rfl⟩ := ih h2 (by simp) hB
        exact ⟨x ++ 32 :: a, b', by simp⟩
def noOcc (l : List UInt8) : Prop := ∀ a b, l ≠ a ++ (sep3 ++ b)
theorem index3 : ∀ l : List UInt8, (noOcc l ∧ Lib.index l sep3 = -1) ∨ ∃ i : Nat, Lib.index l sep3 = i ∧ l = l.take i ++ (sep3 ++ l.drop (i + 3)) ∧ noOcc (l.take i)
  | [] => .inl ⟨fun a b h => by simp [sep3] at h, by simp [Lib.index, sep3]⟩
  | x :: l => by
    rw [Lib.index]
    by_cases hp : sep3.isPrefixOf (x :: l) = true
    · rw [if_pos hp]
      obtain ⟨r, hr⟩ := List.isPrefixOf_iff_prefix.1 hp
      refine .inr ⟨0, rfl, ?_, fun a b h => by simp [sep3] at h⟩
      rw [← hr]; rfl
    · rw [if_neg hp]
      have hnp : ∀ b, x :: l ≠ sep3 ++ b := fun b h => hp (List.isPrefixOf_iff_prefix.2 ⟨b, h.symm⟩)
      rcases index3 l with ⟨h1, h2⟩ | ⟨i, h1, h2, h3⟩
      · refine .inl ⟨fun a b h => ?_, by rw [h2]; rfl⟩
        cases a with
        | nil => exact hnp b h
        | cons y a => exact h1 a b (by simpa using (List.cons.inj h).2)
      · rw [h1, if_neg (by intro hc; have := beq_iff_eq.1 hc; omega)]
        refine .inr ⟨i + 1, by omega, ?_, ?_⟩
        · rw [List.take_succ_cons, show i + 1 + 3 = (i + 3) + 1 by omega, List.drop_succ_cons]
          show x :: l = x :: (_ ++ _)
          rw [← h2]
        · rw [List.take_succ_cons]
          intro a b h
          cases a with
          | nil =>
            refine hnp (b ++ (sep3 ++ l.drop (i + 3))) ?_
            have h' : x :: l.take i = sep3 ++ b := h
            have : x :: l = (x :: l.take i) ++ (sep3 ++ l.drop (i + 3)) := by rw [List.cons_append, ← h2]
            rw [this, h', List.append_assoc]
          | cons y a => exact h3 a b (by simpa using (List.cons.inj h).2)
inductive Parts : List UInt8 → List (List UInt8) → Prop
  | one {l} : noOcc l → Parts l [l]
  | cons {x y ps} : noOcc x → Parts y ps → Parts (x ++ (sep3 ++ y)) (x :: ps)
theorem split3 : ∀ (k : Nat) (s : ByteArray), Lib.countB s ⟨#[32, 59, 32]⟩ = k → ∃ ps, Lib.splitB ⟨#[32, 59, 32]⟩ 0 k s = ps.map bof ∧ Parts s.data.toList ps
  | k, s, hk => by
    rcases index3 s.data.toList with ⟨h1, h2⟩ | ⟨i, h0, h1, h2⟩
    · refine ⟨[s.data.toList], ?_, .one h1⟩
      rw [Lib.splitB_miss _ _ _ _ h2, List.map_singleton, bof_data]
    · have hh := Lib.countB_hit s ⟨#[32, 59, 32]⟩ i (by decide) h0
      rw [hh] at hk
      obtain ⟨m, rfl⟩ : ∃ m, k = m + 1 := ⟨k - 1, by omega⟩
      have hd : (s.extract (i + 3) s.size).data.toList = s.data.toList.drop (i + 3) := Lib.extract_to_end s (i + 3)
      have hm : Lib.countB (s.extract (i + 3) s.size) ⟨#[32, 59, 32]⟩ = m := by
        have h3 : (⟨#[32, 59, 32]⟩ : ByteArray).size = 3 := rfl
        rw [h3] at hk; omega
      obtain ⟨ps, e1, e2⟩ := split3 m (s.extract (i + 3) s.size) hm
      rw [hd] at e2
      refine ⟨s.data.toList.take i :: ps, ?_, ?_⟩
      · rw [Lib.splitB_hit _ _ _ _ i h0]
        have e3 : s.extract 0 i = bof (s.data.toList.take i) := by rw [← bof_data (s.extract 0 i), Lib.extract_from_zero]
        rw [Nat.add_zero, e3, List.map_cons, ← e1]; rfl
      · rw [h1]
        conv => enter [2, 1]; rw [← h1]
        exact .cons h2 e2
theorem split3_ok {s : ByteArray} (h : s.size ≤ 60000) : ∃ ps, strings_Split s (bytes [32, 59, 32]) = some (ps.map bof) ∧ Parts s.data.toList ps := by
  obtain ⟨ps, h1, h2⟩ := split3 _ s rfl
  refine ⟨ps, ?_, h2⟩
  show splitF _ s = _
  unfold splitF
  rw [decide_eq_true (show s.size ≤ 4294967280 by omega), show decide (1 ≤ (bytes [32, 59, 32] : ByteArray).size) = true from rfl]
  show some _ = _
  rw [← h1]; rfl
theorem Parts.mem : ∀ {l : List UInt8} {ps : List (List UInt8)}, Parts l ps → (∀ p ∈ ps, p.length ≤ l.length) ∧ ps.length ≤ l.length + 1
  | _, _, .one h => ⟨fun p hp => by rw [List.mem_singleton.1 hp]; exact Nat.le_refl _, by simp⟩
  | _, _, .cons (x := x) (y := y) h h2 => by
    obtain ⟨i1, i2⟩ := h2.mem
    refine ⟨fun p hp => ?_, ?_⟩
    · rw [List.length_append, List.length_append]
      rcases List.mem_cons.1 hp with rfl | hp
      · omega
      · have := i1 p hp; omega
    · rw [List.length_cons, List.length_append, List.length_append, show sep3.length = 3 from rfl]; omega
def segs : List (List UInt8) → List (List (List UInt8))
  | [] => [[]]
  | w :: l => if w = [59] then [] :: segs l else match segs l with | [] => [[w]] | g :: gs => (w :: g) :: gs
def noM (l : List (List UInt8)) : Prop := ∀ w ∈ l, w ≠ [59]
theorem segs_ne {l : List (List UInt8)} : segs l ≠ [] := by
  cases l with
  | nil => exact List.cons_ne_nil _ _
  | cons w l =>
    unfold segs
    split
    · exact List.cons_ne_nil _ _
    · split <;> exact List.cons_ne_nil _ _
theorem segs_no : ∀ {A : List (List UInt8)}, noM A → segs A = [A]
  | [], _ => rfl
  | w :: A, h => by
    rw [segs, if_neg (h w List.mem_cons_self), segs_no (fun x hx => h x (List.mem_cons_of_mem _ hx))]
theorem segs_mid {B : List (List UInt8)} : ∀ {A : List (List UInt8)}, noM A → segs (A ++ [59] :: B) = A :: segs B
  | [], _ => by show segs ([59] :: B) = _; rw [segs, if_pos rfl]
  | w :: A, h => by
    show segs (w :: (A ++ [59] :: B)) = _
    rw [segs, if_neg (h w List.mem_cons_self), segs_mid (fun x hx => h x (List.mem_cons_of_mem _ hx))]
theorem first_mark : ∀ (l : List (List UInt8)), noM l ∨ ∃ A B, l = A ++ [59] :: B ∧ noM A
  | [] => .inl (fun w hw => by cases hw)
  | w :: l => by
    by_cases hw : w = [59]
    · exact .inr ⟨[], l, by rw [hw]; rfl, fun x hx => by cases hx⟩
    · rcases first_mark l with h | ⟨A, B, rfl, h⟩
      · exact .inl (fun x hx => (List.mem_cons.1 hx).elim (fun e => e ▸ hw) (h x))
      · exact .inr ⟨w :: A, B, rfl, fun x hx => (List.mem_cons.1 hx).elim (fun e => e ▸ hw) (h x)⟩
def segF (n : Nat) (g : List (List UInt8)) : Option (List Int) := (numsL 13 g).bind fun l => if l.length = n then some l else none
def fillA : Nat → List (List (List UInt8)) → Option (List (List Int))
  | _, [] => some []
  | n, g :: gs => (segF n g).bind fun x => (fillA 5 gs).map fun r => x :: r
theorem numsL_mark : ∀ {A B : List (List UInt8)}, numsL 13 (A ++ [59] :: B) = none
  | [], B => by show (numD 13 [59]).bind _ = none; rfl
  | w :: A, B => by
    show (numD 13 w).bind (fun n => (numsL 13 (A ++ [59] :: B)).map _) = none
    rw [numsL_mark]; cases numD 13 w <;> rfl
theorem segF_mark {n : Nat} {A B : List (List UInt8)} : segF n (A ++ [59] :: B) = none := by unfold segF; rw [numsL_mark]; rfl
theorem segF_nil {n : Nat} (h : 1 ≤ n) : segF n [] = none := by
  show (if ([] : List Int).length = n then some [] else none) = none
  rw [if_neg (by simp; omega)]
theorem mark_end {l : List UInt8} (h : noOcc l) {A B : List (List UInt8)} (hp : pcs 32 l = A ++ [59] :: B) : A = [] ∨ B = [] := by
  by_cases hA : A = []
  · exact .inl hA
  · by_cases hB : B = []
    · exact .inr hB
    · obtain ⟨a, b, e⟩ := pcs_join hp hA hB
      exact absurd e (h a b)
theorem fill_parts : ∀ {l : List UInt8} {ps : List (List UInt8)}, Parts l ps → ∀ {n : Nat}, 1 ≤ n → fillA n (ps.map (pcs 32)) = fillA n (segs (pcs 32 l))
  | _, _, .one (l := l) h, n, hn => by
    rcases first_mark (pcs 32 l) with h1 | ⟨A, B, h1, h2⟩
    · rw [segs_no h1]; rfl
    · have hl : fillA n ([l].map (pcs 32)) = none := by
        show (segF n (pcs 32 l)).bind _ = none
        rw [h1, segF_mark]; rfl
      rw [hl, h1, segs_mid h2]
      show none = (segF n A).bind _
      rcases mark_end h h1 with rfl | rfl
      · rw [segF_nil hn]; rfl
      · show none = (segF n A).bind fun x => ((segF 5 []).bind _).map _
        rw [segF_nil (by decide)]
        cases segF n A <;> rfl
  | _, _, .cons (x := x) (y := y) (ps := ps) h h', n, hn => by
    have ih := fill_parts h' (n := 5) (by decide)
    rw [pcs_sep3]
    rcases first_mark (pcs 32 x) with h1 | ⟨A, B, h1, h2⟩
    · rw [segs_mid h1]
      show (segF n (pcs 32 x)).bind (fun a => (fillA 5 (ps.map (pcs 32))).map _) = (segF n (pcs 32 x)).bind (fun a => (fillA 5 (segs (pcs 32 y))).map _)
      rw [ih]
    · have hl : fillA n ((x :: ps).map (pcs 32)) = none := by
        show (segF n (pcs 32 x)).bind _ = none
        rw [h1, segF_mark]; rfl
      rw [hl, h1, List.append_assoc]
      show none = fillA n (segs (A ++ [59] :: (B ++ [59] :: pcs 32 y)))
      rw [segs_mid h2]
      show none = (segF n A).bind _
      rcases mark_end h h1 with rfl | rfl
      · rw [segF_nil hn]; rfl
      · rw [List.nil_append, segs, if_pos rfl]
        show none = (segF n A).bind fun x => ((segF 5 []).bind _).map _
        rw [segF_nil (by decide)]
        cases segF n A <;> rfl
def rulesL (l : List UInt8) : Dapi_PassRules × Int := match fillA 10 (segs (pcs 32 l)) with
  | some (x :: r) => if (prE (rulesOf x (r.map standOf))).2 = 0 then (rulesOf x (r.map standOf), 0) else (noRules, (prE (rulesOf x (r.map standOf))).2)
  | _ => (noRules, 7)
theorem filled_ok {p : List UInt8} (h : p.length ≤ 50000) (n : Nat) : filled (bof p) n = some (segF n (pcs 32 p)) := by
  unfold filled strings_Split
  rw [show bytes [32] = (⟨#[32]⟩ : ByteArray) from rfl, splitF_ok (by rw [bof_size]; omega), Option.bind_some, data_bof, pass_numbers_ok (by have := pcs_len (c := 32) (l := p); omega) (fun w hw => Nat.le_trans (pcs_mem hw) (by omega)), Option.bind_some]
  unfold segF
  cases numsL 13 (pcs 32 p) with
  | none => rfl
  | some l =>
    rw [Option.bind_some]
    by_cases hl : l.length = n
    · rw [if_pos hl, show ((l.length : Int) != (n : Int)) = false by rw [bne_eq_false_iff_eq]; omega]; rfl
    · rw [if_neg hl, show ((l.length : Int) != (n : Int)) = true by rw [bne_iff_ne]; omega]; rfl
end Go.Lift
set_option linter.unusedVariables false
set_option linter.unusedSimpArgs false
namespace Go.Lift
open Go
theorem fillA_len : ∀ {gs : List (List (List UInt8))} {n : Nat} {r : List (List Int)}, fillA n gs = some r → r.length = gs.length
  | [], _, _, h => by cases h; rfl
  | g :: gs, n, r, h => by
    simp only [fillA] at h
    cases h1 : segF n g with
    | none => rw [h1] at h; cases h
    | some x =>
      cases h2 : fillA 5 gs with
      | none => rw [h1, h2] at h; cases h
      | some r' => rw [h1, h2] at h; cases h; rw [List.length_cons, List.length_cons, fillA_len h2]
theorem standsF_ok : ∀ {ps : List (List UInt8)} {out : List Dapi_PassStand}, (∀ p ∈ ps, p.length ≤ 50000) → out.length + ps.length ≤ 4294967296 →
    standsF (ps.map bof) out = some ((fillA 5 (ps.map (pcs 32))).map fun r => out ++ r.map standOf)
  | [], out, _, _ => by simp [standsF, fillA]
  | p :: ps, out, h, hl => by
    rw [List.length_cons] at hl
    rw [List.map_cons, standsF, filled_ok (h p List.mem_cons_self), Option.bind_some, List.map_cons, fillA]
    cases segF 5 (pcs 32 p) with
    | none => rfl
    | some x =>
      simp only [Option.bind_some]
      rw [app_ok (by rw [List.length_singleton]; omega), Option.bind_some, standsF_ok (fun q hq => h q (List.mem_cons_of_mem _ hq)) (by rw [List.length_append, List.length_singleton]; omega)]
      cases fillA 5 (ps.map (pcs 32)) with
      | none => rfl
      | some r => simp
theorem rules_end (x : List Int) (st : List Dapi_PassStand) (h : st.length ≤ 60000) : ((pass_CheckRules (rulesOf x st)).bind fun e => bif e.2 != 0 then some (noRules, e.2) else some (rulesOf x st, 0)) = some (if (prE (rulesOf x st)).2 = 0 then (rulesOf x st, 0) else (noRules, (prE (rulesOf x st)).2)) := by
  rw [pass_CheckRules_ok h, Option.bind_some]
  by_cases h0 : (prE (rulesOf x st)).2 = 0
  · rw [if_pos h0, h0]; rfl
  · rw [if_neg h0, show ((prE (rulesOf x st)).2 != 0) = true from bne_iff_ne.2 h0]; rfl
theorem Parts.ne : ∀ {l : List UInt8} {ps : List (List UInt8)}, Parts l ps → ps ≠ []
  | _, _, .one _ => List.cons_ne_nil _ _
  | _, _, .cons _ _ => List.cons_ne_nil _ _
theorem pass_ParseRules_ok {s : ByteArray} (h : s.size ≤ 50000) : pass_ParseRules s = some (rulesL s.data.toList) := by
  have hsz := size_len s
  obtain ⟨ps, h1, h2⟩ := split3_ok (s := s) (by omega)
  obtain ⟨h3, h4⟩ := h2.mem
  have hf := fill_parts h2 (n := 10) (by decide)
  unfold pass_ParseRules rulesL
  rw [dec_true (show s.size ≤ 1000000 by omega), cond_true, h1, Option.bind_some, ← hf]
  cases ps with
  | nil => exact absurd rfl h2.ne
  | cons p ps =>
    rw [List.length_cons] at h4
    rw [List.map_cons, List.map_cons]
    simp only
    rw [filled_ok (by have := h3 p List.mem_cons_self; omega), Option.bind_some, fillA]
    cases segF 10 (pcs 32 p) with
    | none => rfl
    | some x =>
      simp only [Option.bind_some]
      rw [standsF_ok (fun q hq => by have := h3 q (List.mem_cons_of_mem _ hq); omega) (by rw [List.length_nil]; omega), Option.bind_some]
      cases hr : fillA 5 (ps.map (pcs 32)) with
      | none => rfl
      | some r =>
        have := fillA_len hr
        rw [List.length_map] at this
        exact rules_end x (r.map standOf) (by rw [List.length_map]; omega)
def addSt (r : Dapi_PassRules) (s : Dapi_PassStand) : Dapi_PassRules := (r.1, (r.2.1, (r.2.2.1, (r.2.2.2.1, (r.2.2.2.2.1, (r.2.2.2.2.2.1 ++ [s], r.2.2.2.2.2.2))))))
def nextR (first : Bool) (r : Dapi_PassRules) (g : List (List UInt8)) : Option Dapi_PassRules := bif first then (segF 10 g).map (fun x => rulesOf x []) else (segF 5 g).map fun x => addSt r (standOf x)
def refGo : Bool → Dapi_PassRules → List (List (List UInt8)) → Dapi_PassRules ⊕ (Dapi_PassRules × Int)
  | _, r, [] => .inl r
  | b, r, g :: gs => match nextR b r g with | none => .inr (noRules, 7) | some r' => refGo false r' gs
theorem rules_add (x : List Int) (st : List Dapi_PassStand) (s : Dapi_PassStand) : addSt (rulesOf x st) s = rulesOf x (st ++ [s]) := rfl
theorem refGo_false : ∀ {gs : List (List (List UInt8))} {x : List Int} {st : List Dapi_PassStand}, refGo false (rulesOf x st) gs = match fillA 5 gs with | some r => .inl (rulesOf x (st ++ r.map standOf)) | none => .inr (noRules, 7)
  | [], x, st => by simp [refGo, fillA]
  | g :: gs, x, st => by
    simp only [refGo, fillA, nextR, cond_false]
    cases segF 5 g with
    | none => rfl
    | some y =>
      simp only [Option.bind_some, Option.map_some]
      rw [rules_add, refGo_false (gs := gs)]
      cases fillA 5 gs with
      | none => rfl
      | some r => simp
theorem seqb_bof (w : List UInt8) : seqb (bof w) (bytes [59]) = decide (w = [59]) := by
  rw [seqb_data, data_bof]
  show (w == [59]) = _
  rw [Bool.eq_iff_iff, beq_iff_eq, decide_eq_true_eq]
theorem len10 {l : List Int} (h : l.length = 10) : ∃ a b c d e f g i j k, l = [a, b, c, d, e, f, g, i, j, k] := by
  match l, h with
  | [a, b, c, d, e, f, g, i, j, k], _ => exact ⟨a, b, c, d, e, f, g, i, j, k, rfl⟩
theorem len5 {l : List Int} (h : l.length = 5) : ∃ a b c d e, l = [a, b, c, d, e] := by
  match l, h with
  | [a, b, c, d, e], _ => exact ⟨a, b, c, d, e, rfl⟩
noncomputable def refStep (from_ i : Int) (r : Dapi_PassRules) (r_1 : List Int × Bool) : Option ((Int × Int × Dapi_PassRules) ⊕ (Dapi_PassRules ⊕ (Dapi_PassRules × Int))) :=
          bif (((!r_1.2) || ((from_ == 0) && ((List.length r_1.1 : Int) != 10))) || ((decide (from_ > 0)) && ((List.length r_1.1 : Int) != 5))) then
            Option.map Sum.inr (Option.map Sum.inr (
              some ((0, (0, (0, ((0, 0), (0, ([], ((0, 0), (0, 0)))))))), 7)))
          else
            (bif (from_ == 0) then
              chk (decide ((0 : Int) ≤ 0) && decide (0 < (List.length r_1.1 : Int))) (
                chk (decide ((0 : Int) ≤ 1) && decide (1 < (List.length r_1.1 : Int))) (
                  chk (decide ((0 : Int) ≤ 2) && decide (2 < (List.length r_1.1 : Int))) (
                    chk (decide ((0 : Int) ≤ 3) && decide (3 < (List.length r_1.1 : Int))) (
                      chk (decide ((0 : Int) ≤ 4) && decide (4 < (List.length r_1.1 : Int))) (
                        chk (decide ((0 : Int) ≤ 5) && decide (5 < (List.length r_1.1 : Int))) (
                          chk (decide ((0 : Int) ≤ 6) && decide (6 < (List.length r_1.1 : Int))) (
                            chk (decide ((0 : Int) ≤ 7) && decide (7 < (List.length r_1.1 : Int))) (
                              chk (decide ((0 : Int) ≤ 8) && decide (8 < (List.length r_1.1 : Int))) (
                                chk (decide ((0 : Int) ≤ 9) && decide (9 < (List.length r_1.1 : Int))) (
                                  some (lget 0 r_1.1 0, (lget 0 r_1.1 1, (lget 0 r_1.1 2, ((lget 0 r_1.1 3, lget 0 r_1.1 4), (lget 0 r_1.1 5, ([], ((lget 0 r_1.1 6, lget 0 r_1.1 7), (lget 0 r_1.1 8, lget 0 r_1.1 9))))))))))))))))))
            else
              chk (decide ((0 : Int) ≤ 0) && decide (0 < (List.length r_1.1 : Int))) (
                chk (decide ((0 : Int) ≤ 1) && decide (1 < (List.length r_1.1 : Int))) (
                  chk (decide ((0 : Int) ≤ 2) && decide (2 < (List.length r_1.1 : Int))) (
                    chk (decide ((0 : Int) ≤ 3) && decide (3 < (List.length r_1.1 : Int))) (
                      chk (decide ((0 : Int) ≤ 4) && decide (4 < (List.length r_1.1 : Int))) (
                        (app r.2.2.2.2.2.1 [(lget 0 r_1.1 0, (lget 0 r_1.1 1, (lget 0 r_1.1 2, (lget 0 r_1.1 3, lget 0 r_1.1 4))))]).bind fun (t_1 : List Dapi_PassStand) =>
                        some (r.1, (r.2.1, (r.2.2.1, (r.2.2.2.1, (r.2.2.2.2.1, (t_1, r.2.2.2.2.2.2)))))))))))).bind fun (r_2 : Dapi_PassRules) =>
            some (.inl (wi64 (i + 1), wi64 (i + 1), r_2))
theorem refStep_ok {n i : Nat} {r : Dapi_PassRules} {g : List (List UInt8)} (hi : i ≤ 60000) (hr : r.2.2.2.2.2.1.length ≤ 60000) : refStep (n : Int) (i : Int) r (match numsL 13 g with | some l => (l, true) | none => ([], false)) = match nextR (decide (n = 0)) r g with | some r' => some (.inl (((i + 1 : Nat) : Int), ((i + 1 : Nat) : Int), r')) | none => some (.inr (.inr (noRules, 7))) := by
  unfold refStep nextR segF
  rw [wi64_id (by omega) (by omega)]
  cases numsL 13 g with
  | none => cases decide (n = 0) <;> rfl
  | some l =>
    simp only [Option.bind_some]
    by_cases hn : n = 0
    · subst hn
      by_cases hl : l.length = 10
      · rw [if_pos hl]
        obtain ⟨a, b, c, d, e, f, g, i, j, k, rfl⟩ := len10 hl
        rfl
      · rw [if_neg hl, show ((l.length : Int) != 10) = true by rw [bne_iff_ne]; omega]
        rfl
    · rw [show ((n : Int) == 0) = false by rw [beq_eq_false_iff_ne]; omega, dec_true (show (n : Int) > 0 by omega), decide_eq_false hn]
      by_cases hl : l.length = 5
      · rw [if_pos hl]
        obtain ⟨a, b, c, d, e, rfl⟩ := len5 hl
        show ((app _ _).bind _).bind _ = _
        rw [app_ok (by rw [List.length_singleton]; omega)]
        rfl
      · rw [if_neg hl, show ((l.length : Int) != 5) = true by rw [bne_iff_ne]; omega]
        rfl
theorem nextR_len {b : Bool} {r r' : Dapi_PassRules} {g : List (List UInt8)} (h : nextR b r g = some r') : r'.2.2.2.2.2.1.length ≤ r.2.2.2.2.2.1.length + 1 := by
  unfold nextR at h
  cases b with
  | true =>
    obtain ⟨x, _, rfl⟩ := Option.map_eq_some_iff.1 h
    exact Nat.zero_le _
  | false =>
    obtain ⟨x, _, rfl⟩ := Option.map_eq_some_iff.1 h
    show (r.2.2.2.2.2.1 ++ [_]).length ≤ _
    rw [List.length_append, List.length_singleton]; exact Nat.le_refl _
theorem loopM_inv_eq {S R : Type} {f : S → Option (S ⊕ R)} {t : R} (I : S → Prop) (μ : S → Nat)
    (hstep : ∀ s, I s → (∃ s', f s = some (.inl s') ∧ I s' ∧ μ s' < μ s) ∨ f s = some (.inr t)) {s : S} (h : I s) : loopM f s = some t := by
  obtain ⟨r, h1, rfl⟩ := loopM_inv (Q := fun r => r = t) I μ (fun s hs => (hstep s hs).imp id fun h => ⟨_, h, rfl⟩) h
  exact h1
theorem ref_ParseRules_ok {s : ByteArray} (h : s.size ≤ 50000) : cobbleref03_ParseRules s = some (rulesL s.data.toList) := by
  have hsz := size_len s
  have hW := pcs_len (c := 32) (l := s.data.toList)
  have hWm := fun (w : List UInt8) (hw : w ∈ pcs 32 s.data.toList) => pcs_mem hw
  unfold cobbleref03_ParseRules
  rw [show (32 : Int) = ((32 : UInt8).toNat : Int) from rfl, Cut_ok (by omega), Option.bind_some]
  generalize hWd : pcs 32 s.data.toList = W at *
  have hne : segs W ≠ [] := segs_ne
  refine Option.bind_eq_some_iff.2 ⟨refGo true noRules (segs W), ?_, ?_⟩
  · refine loopM_inv_eq
      (fun s => (∃ (pre cur rest : List (List UInt8)) (r : Dapi_PassRules), s = ((List.length pre : Int), ((List.length pre + List.length cur : Nat) : Int), r) ∧ W = pre ++ (cur ++ rest) ∧ noM cur ∧ r.2.2.2.2.2.1.length ≤ pre.length ∧ refGo true noRules (segs W) = refGo (decide (pre.length = 0)) r (segs (cur ++ rest))) ∨ ∃ r, s = (((W.length + 1 : Nat) : Int), ((W.length + 1 : Nat) : Int), r) ∧ refGo true noRules (segs W) = .inl r)
      (fun s => (W.length + 2 : Nat) - s.2.1.toNat) ?_ (s := (0, 0, noRules)) (.inl ⟨[], [], W, noRules, rfl, rfl, fun w hw => (by cases hw), Nat.le_refl _, rfl⟩)
    rintro _ (⟨pre, cur, rest, r, rfl, e1, e2, e3, e4⟩ | ⟨r, rfl, e1⟩)
    · have hL : W.length = pre.length + (cur.length + rest.length) := by rw [e1, List.length_append, List.length_append]
      simp only [List.length_map]
      rw [dec_true (show ((pre.length + cur.length : Nat) : Int) ≤ (W.length : Int) by omega), cond_true]
      have hx : List.drop (Int.toNat (pre.length : Int)) (List.take (Int.toNat ((pre.length + cur.length : Nat) : Int)) (W.map bof)) = cur.map bof := by
        rw [Int.toNat_natCast, Int.toNat_natCast, e1, List.map_append, List.map_append, ← List.append_assoc, List.take_left' (by rw [List.length_append, List.length_map, List.length_map]), List.drop_left' (by rw [List.length_map])]
      have hp := parsed_ok (ws := cur) (by omega) (fun w hw => by have := hWm w (by rw [e1]; simp [hw]); omega)
      have hck : (decide ((0 : Int) ≤ (pre.length : Int)) && decide ((pre.length : Int) ≤ ((pre.length + cur.length : Nat) : Int)) && true) = true := and_true' (and_true' (dec_true (by omega)) (dec_true (by omega))) rfl
      have hs := refStep_ok (n := pre.length) (i := pre.length + cur.length) (r := r) (g := cur) (by omega) (by omega)
      rw [hx, hp, Option.bind_some, chk_true hck]
      cases rest with
      | nil =>
        rw [List.length_nil] at hL
        rw [dec_false (show ¬ ((pre.length + cur.length : Nat) : Int) < (W.length : Int) by omega), cond_false, Option.bind_some, cond_false]
        rw [List.append_nil, segs_no e2, refGo] at e4
        cases hn : nextR (decide (pre.length = 0)) r cur with
        | none => rw [hn] at e4 hs; rw [e4]; exact .inr hs
        | some r' =>
          rw [hn] at e4 hs
          refine .inl ⟨_, hs, .inr ⟨r', ?_, e4⟩, ?_⟩
          · rw [show pre.length + cur.length + 1 = W.length + 1 by omega]
          · simp only [Int.toNat_natCast]; omega
      | cons w rest =>
        rw [List.length_cons] at hL
        have g1 : lget ByteArray.empty (W.map bof) ((pre.length + cur.length : Nat) : Int) = bof w := by
          have e1' : W = (pre ++ cur) ++ w :: rest := by rw [e1, List.append_assoc]
          rw [← List.length_append, e1']; exact lget_map
        rw [dec_true (show ((pre.length + cur.length : Nat) : Int) < (W.length : Int) by omega), cond_true, chk_true (and_true' (dec_true (by omega)) rfl), g1, seqb_bof, Option.bind_some]
        by_cases hw : w = [59]
        · subst hw
          rw [dec_true rfl, Bool.not_true, cond_false]
          rw [segs_mid e2, refGo] at e4
          cases hn : nextR (decide (pre.length = 0)) r cur with
          | none => rw [hn] at e4 hs; rw [e4]; exact .inr hs
          | some r' =>
            rw [hn] at e4 hs
            have := nextR_len hn
            refine .inl ⟨_, hs, .inl ⟨pre ++ cur ++ [[59]], [], rest, r', ?_, by rw [e1]; simp, (fun w hw => by cases hw), by rw [List.length_append, List.length_append, List.length_singleton]; omega, ?_⟩, ?_⟩
            · rw [List.length_append, List.length_append, List.length_singleton]; rfl
            · have hz : ((pre ++ cur ++ [[59]] : List (List UInt8)).length = 0) = False := eq_false (by simp)
              simp only [hz, decide_false]; exact e4
            · simp only [Int.toNat_natCast]; omega
        · rw [dec_false hw, Bool.not_false, cond_true]
          left
          refine ⟨_, rfl, .inl ⟨pre, cur ++ [w], rest, r, ?_, by rw [e1]; simp, (fun x hx => (List.mem_append.1 hx).elim (e2 x) (fun h => by rw [List.mem_singleton.1 h]; exact hw)), e3, by rw [e4]; simp⟩, ?_⟩
          · rw [wi64_id (by omega) (by omega), List.length_append, List.length_singleton]; rfl
          · rw [wi64_id (by omega) (by omega)]; simp only; omega
    · simp only [List.length_map]
      rw [dec_false (by omega), cond_false, e1]
      exact .inr rfl
  · unfold rulesL
    rw [hWd]
    cases hs : segs W with
    | nil => exact absurd hs hne
    | cons g gs =>
      have hgl : gs.length ≤ 50001 := by
        have : ∀ l : List (List UInt8), (segs l).length ≤ l.length + 1 := by
          intro l
          induction l with
          | nil => simp [segs]
          | cons w l ih =>
            rw [segs]
            split
            · rw [List.length_cons, List.length_cons]; omega
            · split
              · simp
              · rename_i hh
                rw [hh] at ih
                rw [List.length_cons] at ih ⊢
                rw [List.length_cons]; omega
        have := this W
        rw [hs, List.length_cons] at this
        omega
      simp only [refGo, fillA, nextR, cond_true]
      cases segF 10 g with
      | none => rfl
      | some x =>
        simp only [Option.bind_some, Option.map_some]
        rw [refGo_false]
        cases hr : fillA 5 gs with
        | none => rfl
        | some l =>
          have := fillA_len hr
          simp only [Option.map_some, List.nil_append]
          unfold cobbleref03_RulesErr
          rw [ref_CheckRules_ok (show (l.map standOf).length ≤ 60000 by rw [List.length_map]; omega), Option.bind_some, Option.bind_some]
          by_cases h0 : (prE (rulesOf x (l.map standOf))).2 = 0
          · rw [if_pos h0, h0]; rfl
          · rw [if_neg h0, show ((prE (rulesOf x (l.map standOf))).2 != 0) = true from bne_iff_ne.2 h0]; rfl
end Go.Lift
