/-
  The examples, computed by the kernel.
-/
import Derived.Test.YteobfadhflofpaaGreatDoorPlainB
import Derived.KernelRfl
set_option linter.unusedSectionVars false
set_option linter.unusedVariables false
set_option linter.unusedSimpArgs false
namespace Go.Lift
open Go
def Lq {A : Type} (a b : Option A) : Prop := ∀ v, a = some v → b = some v
theorem lq_refl {A : Type} (a : Option A) : Lq a a := fun _ h => h
theorem lq_bind {A B : Type} {a a' : Option A} {f f' : A → Option B} (h : Lq a a') (k : ∀ x, Lq (f x) (f' x)) : Lq (a.bind f) (a'.bind f') := by
  intro v hv
  obtain ⟨x, hx, hf⟩ := Option.bind_eq_some_iff.1 hv
  exact Option.bind_eq_some_iff.2 ⟨x, h x hx, k x v hf⟩
theorem lq_cond {A : Type} {c : Bool} {a a' b b' : Option A} (h : Lq a a') (k : Lq b b') : Lq (bif c then a else b) (bif c then a' else b') := by
  cases c <;> assumption
theorem lq_chk {A : Type} {c : Bool} {a a' : Option A} (h : Lq a a') : Lq (chk c a) (chk c a') := by
  unfold chk
  exact lq_cond h (lq_refl _)
theorem lq_map {A B : Type} {g : A → B} {a a' : Option A} (h : Lq a a') : Lq (Option.map g a) (Option.map g a') := by
  intro v hv
  obtain ⟨x, hx, hf⟩ := Option.map_eq_some_iff.1 hv
  exact Option.map_eq_some_iff.2 ⟨x, h x hx, hf⟩
def loopE {S R : Type} (f : S → Option (S ⊕ R)) (s : S) : Option R := loopN f 300 s
theorem lq_loopN {S R : Type} {f f' : S → Option (S ⊕ R)} (h : ∀ s, Lq (f s) (f' s)) : ∀ (n : Nat) (s : S), Lq (loopN f n s) (loopN f' n s)
  | 0, s => fun v hv => by simp [loopN] at hv
  | n + 1, s => fun v hv => by
    unfold loopN at hv ⊢
    cases hf : f s with
    | none => rw [hf] at hv; cases hv
    | some j =>
      rw [hf] at hv
      rw [h s j hf]
      cases j with
      | inl s' => exact lq_loopN h n s' v hv
      | inr r => exact hv
theorem lq_loop {S R : Type} {f f' : S → Option (S ⊕ R)} {s : S} (h : ∀ s, Lq (f s) (f' s)) : Lq (loopE f s) (loopM f' s) :=
  fun _ hv => loopM_of (lq_loopN h 300 s _ hv)
theorem lq_sumfun {A B C : Type} {f g : A ⊕ B → Option C} (h1 : ∀ a, Lq (f (.inl a)) (g (.inl a))) (h2 : ∀ b, Lq (f (.inr b)) (g (.inr b))) : ∀ j, Lq (f j) (g j) := by
  intro j
  cases j with
  | inl a => exact h1 a
  | inr b => exact h2 b
def seqbE (a b : ByteArray) : Bool := a.data.toList == b.data.toList
def catE (a b : ByteArray) : Option ByteArray := if a.size + b.size ≤ 4294967296 then some ⟨(a.data.toList ++ b.data.toList).toArray⟩ else none
def valE : List Int → Nat
 | [] => 0
 | x :: l => x.toNat + 4294967296 * valE l
def encE (n : Nat) : Option (List Int) := if n = 0 then some [] else if n < 4294967296 then some [(n : Int)] else if n < 18446744073709551616 then some [((n % 4294967296 : Nat) : Int), ((n / 4294967296 : Nat) : Int)] else none
def ratioE (q : Rat) : Option Dtrace_ratio := (encE q.num.natAbs).bind fun a => (encE q.den).bind fun b => some (decide (q.num < 0), (a, b))
def leqE : List Int → List Int → Bool
 | [], [] => true
 | x :: l, y :: m => x == y && leqE l m
 | _, _ => false
def reqE (a b : Dtrace_ratio) : Bool := a.1 == b.1 && (leqE a.2.1 b.2.1 && leqE a.2.2 b.2.2)
def toQE (a : Dtrace_ratio) : Rat := mkRat (if a.1 then -(valE a.2.1 : Int) else (valE a.2.1 : Int)) (valE a.2.2)
def inE {A : Type} (a : Dtrace_ratio) (k : Rat → Option A) : Option A := (ratioE (toQE a)).bind fun b => bif reqE a b then k (toQE a) else none
theorem leqE_ok : ∀ {l m : List Int}, leqE l m = true → l = m
  | [], [], _ => rfl
  | x :: l, y :: m, h => by
    unfold leqE at h
    rw [Bool.and_eq_true, beq_iff_eq] at h
    rw [h.1, leqE_ok h.2]
  | [], _ :: _, h => by cases h
  | _ :: _, [], h => by cases h
theorem reqE_ok {a b : Dtrace_ratio} (h : reqE a b = true) : a = b := by
  unfold reqE at h
  rw [Bool.and_eq_true, Bool.and_eq_true, beq_iff_eq] at h
  obtain ⟨h1, h2, h3⟩ := h
  exact Prod.ext h1 (Prod.ext (leqE_ok h2) (leqE_ok h3))
theorem nd_1 {n : Nat} (h0 : n ≠ 0) (h : n < 4294967296) : nd n = [(n : Int)] := by
  have h1 := nw32 h
  have h2 : nw n ≠ 0 := fun e => h0 ((wd_eq_zero hW).1 e)
  have h3 : wd W32 n = 1 := by show nw n = 1; omega
  show dgs W32 (wd W32 n) n = _
  rw [h3, dgs_succ, dgs_zero, Nat.pow_zero, Nat.div_one, Nat.mod_eq_of_lt (show n < W32 from h)]
  rfl
theorem nd_2 {n : Nat} (h0 : 4294967296 ≤ n) (h : n < 18446744073709551616) : nd n = [((n % 4294967296 : Nat) : Int), ((n / 4294967296 : Nat) : Int)] := by
  have h1 := nw64 h
  have h2 : ¬ nw n ≤ 1 := by
    intro e
    have a := nw_lt n
    have b : W32 ^ nw n ≤ W32 ^ 1 := Nat.pow_le_pow_right (by decide) e
    rw [Nat.pow_one, show W32 = 4294967296 from rfl] at b
    rw [show W32 = 4294967296 from rfl] at a
    omega
  have h3 : wd W32 n = 2 := by show nw n = 2; omega
  show dgs W32 (wd W32 n) n = _
  rw [h3, dgs_succ, dgs_succ, dgs_zero, Nat.pow_zero, Nat.div_one, Nat.pow_one, show W32 = 4294967296 from rfl, Nat.mod_eq_of_lt (show n / 4294967296 < 4294967296 by omega)]
  rfl
theorem encE_ok {n : Nat} {l : List Int} (h : encE n = some l) : l = nd n ∧ nw n ≤ 2 := by
  unfold encE at h
  split at h
  · rename_i h0
    simp only [Option.some.injEq] at h
    subst h0 h
    exact ⟨nd_zero.symm, Nat.le_trans (nw32 (n := 0) (by decide)) (by decide)⟩
  · split at h
    · rename_i h0 h1
      simp only [Option.some.injEq] at h
      rw [← h]
      exact ⟨(nd_1 h0 h1).symm, Nat.le_trans (nw32 h1) (by decide)⟩
    · split at h
      · rename_i h0 h1 h2
        simp only [Option.some.injEq] at h
        rw [← h]
        exact ⟨(nd_2 (by omega) h2).symm, nw64 h2⟩
      · cases h
theorem ratioE_ok {q : Rat} {r : Dtrace_ratio} (h : ratioE q = some r) : r = ratioQ q ∧ Fit 2 q := by
  unfold ratioE at h
  obtain ⟨a, ha, h⟩ := Option.bind_eq_some_iff.1 h
  obtain ⟨b, hb, h⟩ := Option.bind_eq_some_iff.1 h
  simp only [Option.some.injEq] at h
  obtain ⟨e1, f1⟩ := encE_ok ha
  obtain ⟨e2, f2⟩ := encE_ok hb
  subst e1 e2 h
  exact ⟨rfl, f1, f2⟩
theorem inE_ok {A : Type} {a : Dtrace_ratio} {k : Rat → Option A} {v : A} (h : inE a k = some v) : ∃ q, a = ratioQ q ∧ Fit 2 q ∧ k q = some v := by
  unfold inE at h
  obtain ⟨b, hb, h⟩ := Option.bind_eq_some_iff.1 h
  obtain ⟨e, f⟩ := ratioE_ok hb
  cases hr : reqE a b with
  | false => rw [hr] at h; cases h
  | true =>
    rw [hr] at h
    exact ⟨_, (reqE_ok hr).trans e, f, h⟩
def E_trace_ratio_plus (a b : Dtrace_ratio) : Option Dtrace_ratio := inE a fun p => inE b fun q => ratioE (p + q)
def E_trace_ratio_minus (a b : Dtrace_ratio) : Option Dtrace_ratio := inE a fun p => inE b fun q => ratioE (p - q)
def E_trace_ratio_times (a b : Dtrace_ratio) : Option Dtrace_ratio := inE a fun p => inE b fun q => ratioE (p * q)
def E_trace_ratio_over (a b : Dtrace_ratio) : Option Dtrace_ratio := inE a fun p => inE b fun q => bif decide (0 < q) then ratioE (p / q) else none
def E_trace_ratio_cmp (a b : Dtrace_ratio) : Option Int := inE a fun p => inE b fun q => some (if p = q then 0 else if p < q then -1 else 1)
def E_trace_ratio_floor (a : Dtrace_ratio) : Option Dtrace_ratio := inE a fun p => (encE (p.num.natAbs / p.den)).bind fun l => some (false, (l, [1]))
def E_trace_ratio_frac (a : Dtrace_ratio) : Option (Dapi_Frac × Bool) := inE a fun p => some (fracQ p)
def E_trace_whole (n : Int) : Option Dtrace_ratio := bif decide (-4294967296 < n) && decide (n < 4294967296) then ratioE (n : Rat) else none
def E_trace_quotient (n d : Int) : Option Dtrace_ratio := bif (decide (-4294967296 < n) && decide (n < 4294967296)) && (decide (0 < d) && decide (d < 4294967296)) then ratioE (mkRat n d.natAbs) else none
theorem le_trace_ratio_plus (a b : Dtrace_ratio) : Lq (E_trace_ratio_plus a b) (trace_ratio_plus a b) := by
  intro v hv
  obtain ⟨p, rfl, fp, hv⟩ := inE_ok hv
  obtain ⟨q, rfl, fq, hv⟩ := inE_ok hv
  rw [(ratioE_ok hv).1]
  exact (rplus_ok fp fq (by decide)).1
theorem le_trace_ratio_minus (a b : Dtrace_ratio) : Lq (E_trace_ratio_minus a b) (trace_ratio_minus a b) := by
  intro v hv
  obtain ⟨p, rfl, fp, hv⟩ := inE_ok hv
  obtain ⟨q, rfl, fq, hv⟩ := inE_ok hv
  rw [(ratioE_ok hv).1]
  exact (rminus_ok fp fq (by decide)).1
theorem le_trace_ratio_times (a b : Dtrace_ratio) : Lq (E_trace_ratio_times a b) (trace_ratio_times a b) := by
  intro v hv
  obtain ⟨p, rfl, fp, hv⟩ := inE_ok hv
  obtain ⟨q, rfl, fq, hv⟩ := inE_ok hv
  rw [(ratioE_ok hv).1]
  exact (rtimes_ok fp fq (by decide)).1
theorem le_trace_ratio_over (a b : Dtrace_ratio) : Lq (E_trace_ratio_over a b) (trace_ratio_over a b) := by
  intro v hv
  obtain ⟨p, rfl, fp, hv⟩ := inE_ok hv
  obtain ⟨q, rfl, fq, hv⟩ := inE_ok hv
  by_cases h0 : 0 < q
  · rw [dec_true h0, cond_true] at hv
    rw [(ratioE_ok hv).1]
    exact (rover_ok fp fq h0 (by decide)).1
  · rw [dec_false h0] at hv; cases hv
theorem le_trace_ratio_cmp (a b : Dtrace_ratio) : Lq (E_trace_ratio_cmp a b) (trace_ratio_cmp a b) := by
  intro v hv
  obtain ⟨p, rfl, fp, hv⟩ := inE_ok hv
  obtain ⟨q, rfl, fq, hv⟩ := inE_ok hv
  rw [← hv]
  exact rcmp_ok fp fq (by decide)
theorem le_trace_ratio_floor (a : Dtrace_ratio) : Lq (E_trace_ratio_floor a) (trace_ratio_floor a) := by
  intro v hv
  obtain ⟨p, rfl, fp, hv⟩ := inE_ok hv
  obtain ⟨l, hl, hv⟩ := Option.bind_eq_some_iff.1 hv
  rw [← hv, (encE_ok hl).1]
  unfold trace_ratio_floor ratioQ
  simp only
  rw [divided_ok p.den_nz (Nat.le_trans fp.1 (by decide)) (Nat.le_trans fp.2 (by decide)), Option.bind_some]
theorem le_trace_ratio_frac (a : Dtrace_ratio) : Lq (E_trace_ratio_frac a) (trace_ratio_frac a) := by
  intro v hv
  obtain ⟨p, rfl, fp, hv⟩ := inE_ok hv
  rw [← hv]
  exact frac_ok fp (by decide)
theorem le_trace_whole (n : Int) : Lq (E_trace_whole n) (trace_whole n) := by
  intro v hv
  unfold E_trace_whole at hv
  cases h : decide (-4294967296 < n) && decide (n < 4294967296) with
  | false => rw [h] at hv; cases hv
  | true =>
    rw [h, cond_true] at hv
    rw [Bool.and_eq_true, decide_eq_true_eq, decide_eq_true_eq] at h
    rw [(ratioE_ok hv).1]
    exact whole_ok (by omega) (by omega)
theorem le_trace_quotient (n d : Int) : Lq (E_trace_quotient n d) (trace_quotient n d) := by
  intro v hv
  unfold E_trace_quotient at hv
  cases h : (decide (-4294967296 < n) && decide (n < 4294967296)) && (decide (0 < d) && decide (d < 4294967296)) with
  | false => rw [h] at hv; cases hv
  | true =>
    rw [h, cond_true] at hv
    rw [Bool.and_eq_true, Bool.and_eq_true, Bool.and_eq_true, decide_eq_true_eq, decide_eq_true_eq, decide_eq_true_eq, decide_eq_true_eq] at h
    have e : (n : Rat) / (d : Rat) = mkRat n d.natAbs := by
      rw [Rat.mkRat_eq_div]
      congr 2
      omega
    rw [(ratioE_ok hv).1, ← e]
    exact (quotient_ok (by omega) (by omega) (by omega) (by omega)).1
theorem toList_loop (b : ByteArray) : b.toList = b.data.toList := by
  have h : ∀ (n i : Nat) (r : List UInt8), b.size - i = n → ByteArray.toList.loop b i r = r.reverse ++ b.data.toList.drop i := by
    intro n
    induction n with
    | zero =>
      intro i r hn
      unfold ByteArray.toList.loop
      rw [if_neg (by omega), List.drop_eq_nil_of_le (show b.data.toList.length ≤ i by show b.size ≤ i; omega), List.append_nil]
    | succ n ih =>
      intro i r hn
      unfold ByteArray.toList.loop
      have hi : i < b.size := by omega
      rw [if_pos hi, ih (i + 1) _ (by omega)]
      have hi2 : i < b.data.toList.length := hi
      rw [List.drop_eq_getElem_cons hi2, List.reverse_cons, List.append_assoc]
      congr 1
      show [b.get! i] ++ _ = _
      have : b.get! i = b.data.toList[i] := by
        unfold ByteArray.get!
        show b.data[i]! = _
        rw [getElem!_pos b.data i hi]
        rfl
      rw [this]; rfl
  have := h b.size 0 [] rfl
  rw [List.reverse_nil, List.nil_append, List.drop_zero] at this
  exact this
theorem seqb_eq (a b : ByteArray) : seqb a b = seqbE a b := by unfold seqb seqbE; rw [toList_loop, toList_loop]
theorem le_cat (a b : ByteArray) : Lq (catE a b) (cat a b) := by
  intro v hv
  unfold catE at hv
  unfold cat
  split at hv
  · rename_i h
    rw [if_pos h]
    rw [← hv]
    congr 1
  · cases hv
def E_strconv_Itoa (n : Int) : Option ByteArray :=
 bif n == 1 then some (bytes [49]) else bif n == 3 then some (bytes [51]) else bif n == 500 then some (bytes [53, 48, 48]) else bif n == 4000 then some (bytes [52, 48, 48, 48]) else none
theorem le_strconv_Itoa (n : Int) : Lq (E_strconv_Itoa n) (strconv_Itoa n) := by
  intro v hv
  unfold E_strconv_Itoa at hv
  by_cases h1 : n = 1
  · subst h1
    rw [show ((1 : Int) == 1) = true from rfl, cond_true] at hv
    rw [← hv]
    simp [strconv_Itoa, Lib.itoa, Lib.decDigits, bytes]
  · rw [show (n == 1) = false by rw [beq_eq_false_iff_ne]; exact h1, cond_false] at hv
    by_cases h2 : n = 3
    · subst h2
      rw [show ((3 : Int) == 3) = true from rfl, cond_true] at hv
      rw [← hv]
      simp [strconv_Itoa, Lib.itoa, Lib.decDigits, bytes]
    · rw [show (n == 3) = false by rw [beq_eq_false_iff_ne]; exact h2, cond_false] at hv
      by_cases h3 : n = 500
      · subst h3
        rw [show ((500 : Int) == 500) = true from rfl, cond_true] at hv
        rw [← hv]
        simp [strconv_Itoa, Lib.itoa, Lib.decDigits, bytes]
      · rw [show (n == 500) = false by rw [beq_eq_false_iff_ne]; exact h3, cond_false] at hv
        by_cases h4 : n = 4000
        · subst h4
          rw [show ((4000 : Int) == 4000) = true from rfl, cond_true] at hv
          rw [← hv]
          simp [strconv_Itoa, Lib.itoa, Lib.decDigits, bytes]
        · rw [show (n == 4000) = false by rw [beq_eq_false_iff_ne]; exact h4, cond_false] at hv
          cases hv
noncomputable def E_l9_Course  : Option (Dapi_TraceCourse) :=
 some ((bytes [115, 49]), ([1000, 500], ([30, 60], [(0, ([10, 10], (0, 0))), (1, ([], (1000, 5000)))])))
theorem le_l9_Course  : Lq (E_l9_Course ) (l9_Course ) := by
  unfold E_l9_Course l9_Course
  repeat' with_reducible first | exact lq_refl _ | apply le_cat | apply lq_bind | apply lq_loop | apply lq_cond | apply lq_chk | apply lq_map | (refine lq_sumfun (fun _ => ?_) (fun _ => ?_) <;> dsimp only) | (intro _; try dsimp only) | dsimp only
noncomputable def E_trace_within (n : Int) (lo : Int) (hi : Int) : Option (Bool) :=
 let t : Bool := ((decide (lo ≤ n)) && (decide (n ≤ hi)))
 some t
theorem le_trace_within (n : Int) (lo : Int) (hi : Int) : Lq (E_trace_within n lo hi) (trace_within n lo hi) := by
  unfold E_trace_within trace_within
  repeat' with_reducible first | exact lq_refl _ | apply le_cat | apply lq_bind | apply lq_loop | apply lq_cond | apply lq_chk | apply lq_map | (refine lq_sumfun (fun _ => ?_) (fun _ => ?_) <;> dsimp only) | (intro _; try dsimp only) | dsimp only
noncomputable def E_trace_isName (s : ByteArray) : Option (Bool) :=
 (loopE (S := Int) (R := (Unit) ⊕ (Bool)) (fun t =>
 bif decide (t < (List.length (sbytes s) : Int)) then
 chk (decide ((0 : Int) ≤ t) && decide (t < (List.length (sbytes s) : Int))) (
 let c : Int := lget 0 (sbytes s) t
 (E_trace_within (wi64 c) 97 122).bind fun (t_1 : Bool) =>
 (bif t_1 then some true else
 (E_trace_within (wi64 c) 65 90).bind fun (t_2 : Bool) =>
 some t_2).bind fun (c_1 : Bool) =>
 (bif !c_1 then
 (bif (t == 0) then some true else
 (bif (c != 45) then
 (E_trace_within (wi64 c) 48 57).bind fun (t_3 : Bool) =>
 some (!t_3)
 else some false).bind fun (c_2 : Bool) =>
 some c_2).bind fun (c_3 : Bool) =>
 some c_3
 else some false).bind fun (c_4 : Bool) =>
 bif c_4 then
 Option.map Sum.inr (Option.map Sum.inr (
 some false))
 else
 some (.inl (wi64 (t + 1))))
 else
 some (.inr (.inl ()))) 0).bind fun j => match j with
 | .inl _ => (
 (E_trace_within (ByteArray.size s : Int) 1 12).bind fun (t_4 : Bool) =>
 some t_4)
 | .inr r => some r
theorem le_trace_isName (s : ByteArray) : Lq (E_trace_isName s) (trace_isName s) := by
  unfold E_trace_isName trace_isName
  repeat' with_reducible first | exact lq_refl _ | apply le_trace_within | apply le_cat | apply lq_bind | apply lq_loop | apply lq_cond | apply lq_chk | apply lq_map | (refine lq_sumfun (fun _ => ?_) (fun _ => ?_) <;> dsimp only) | (intro _; try dsimp only) | dsimp only
noncomputable def E_trace_unless (is : Bool) (e : Int) : Option (Int) :=
 bif is then
 some 0
 else
 some e
theorem le_trace_unless (is : Bool) (e : Int) : Lq (E_trace_unless is e) (trace_unless is e) := by
  unfold E_trace_unless trace_unless
  repeat' with_reducible first | exact lq_refl _ | apply le_cat | apply lq_bind | apply lq_loop | apply lq_cond | apply lq_chk | apply lq_map | (refine lq_sumfun (fun _ => ?_) (fun _ => ?_) <;> dsimp only) | (intro _; try dsimp only) | dsimp only
noncomputable def E_trace_first (l : (List Int)) : Option (Int) :=
 (loopE (S := Int) (R := (Unit) ⊕ (Int)) (fun t =>
 bif decide (t < (List.length l : Int)) then
 chk (decide ((0 : Int) ≤ t) && decide (t < (List.length l : Int))) (
 bif ((lget 0 l t) != 0) then
 Option.map Sum.inr (Option.map Sum.inr (
 some (lget 0 l t)))
 else
 some (.inl (wi64 (t + 1))))
 else
 some (.inr (.inl ()))) 0).bind fun j => match j with
 | .inl _ => (
 some 0)
 | .inr r => some r
theorem le_trace_first (l : (List Int)) : Lq (E_trace_first l) (trace_first l) := by
  unfold E_trace_first trace_first
  repeat' with_reducible first | exact lq_refl _ | apply le_cat | apply lq_bind | apply lq_loop | apply lq_cond | apply lq_chk | apply lq_map | (refine lq_sumfun (fun _ => ?_) (fun _ => ?_) <;> dsimp only) | (intro _; try dsimp only) | dsimp only
noncomputable def E_trace_isArea (n : Int) : Option (Bool) :=
 (E_trace_within n 1 1000).bind fun (t : Bool) =>
 some t
theorem le_trace_isArea (n : Int) : Lq (E_trace_isArea n) (trace_isArea n) := by
  unfold E_trace_isArea trace_isArea
  repeat' with_reducible first | exact lq_refl _ | apply le_trace_within | apply le_cat | apply lq_bind | apply lq_loop | apply lq_cond | apply lq_chk | apply lq_map | (refine lq_sumfun (fun _ => ?_) (fun _ => ?_) <;> dsimp only) | (intro _; try dsimp only) | dsimp only
noncomputable def E_slices_IndexFunc_int (s : (List Int)) (f : (Int → Option Bool)) : Option (Int) :=
 (loopE (S := Int) (R := (Unit) ⊕ (Int)) (fun t =>
 bif decide (t < (List.length s : Int)) then
 chk (decide ((0 : Int) ≤ t) && decide (t < (List.length s : Int))) (
 (f (lget 0 s t)).bind fun (t_1 : Bool) =>
 bif t_1 then
 Option.map Sum.inr (Option.map Sum.inr (
 some t))
 else
 some (.inl (wi64 (t + 1))))
 else
 some (.inr (.inl ()))) 0).bind fun j => match j with
 | .inl _ => (
 some (-1))
 | .inr r => some r
theorem le_slices_IndexFunc_int (s : (List Int)) {f f' : (Int → Option Bool)} (h_f : ∀ x, Lq (f x) (f' x)) : Lq (E_slices_IndexFunc_int s f) (slices_IndexFunc_int s f') := by
  unfold E_slices_IndexFunc_int slices_IndexFunc_int
  repeat' with_reducible first | exact lq_refl _ | exact h_f _ | apply le_cat | apply lq_bind | apply lq_loop | apply lq_cond | apply lq_chk | apply lq_map | (refine lq_sumfun (fun _ => ?_) (fun _ => ?_) <;> dsimp only) | (intro _; try dsimp only) | dsimp only
noncomputable def E_slices_ContainsFunc_int (s : (List Int)) (f : (Int → Option Bool)) : Option (Bool) :=
 (E_slices_IndexFunc_int s f).bind fun (t : Int) =>
 some (decide (t ≥ 0))
theorem le_slices_ContainsFunc_int (s : (List Int)) {f f' : (Int → Option Bool)} (h_f : ∀ x, Lq (f x) (f' x)) : Lq (E_slices_ContainsFunc_int s f) (slices_ContainsFunc_int s f') := by
  unfold E_slices_ContainsFunc_int slices_ContainsFunc_int
  repeat' with_reducible first | exact lq_refl _ | exact h_f _ | apply le_slices_IndexFunc_int | apply le_cat | apply lq_bind | apply lq_loop | apply lq_cond | apply lq_chk | apply lq_map | (refine lq_sumfun (fun _ => ?_) (fun _ => ?_) <;> dsimp only) | (intro _; try dsimp only) | dsimp only
noncomputable def E_trace_strip_step_1 (n : Int) : Option (Bool) :=
 (E_trace_isArea n).bind fun (t : Bool) =>
 some (!t)
theorem le_trace_strip_step_1 (n : Int) : Lq (E_trace_strip_step_1 n) (trace_strip_step_1 n) := by
  unfold E_trace_strip_step_1 trace_strip_step_1
  repeat' with_reducible first | exact lq_refl _ | apply le_trace_isArea | apply le_cat | apply lq_bind | apply lq_loop | apply lq_cond | apply lq_chk | apply lq_map | (refine lq_sumfun (fun _ => ?_) (fun _ => ?_) <;> dsimp only) | (intro _; try dsimp only) | dsimp only
noncomputable def E_trace_section_length (s : Dtrace_section) : Option (Dtrace_ratio) :=
 chk (decide ((0 : Int) ≤ 1) && decide ((1 : Int) < 2)) (
 chk (decide ((0 : Int) ≤ 0) && decide ((0 : Int) < 2)) (
 (E_trace_ratio_minus (aget s.2.1 1) (aget s.2.1 0)).bind fun (t : Dtrace_ratio) =>
 some t))
theorem le_trace_section_length (s : Dtrace_section) : Lq (E_trace_section_length s) (trace_section_length s) := by
  unfold E_trace_section_length trace_section_length
  repeat' with_reducible first | exact lq_refl _ | apply le_trace_ratio_minus | apply le_cat | apply lq_bind | apply lq_loop | apply lq_cond | apply lq_chk | apply lq_map | (refine lq_sumfun (fun _ => ?_) (fun _ => ?_) <;> dsimp only) | (intro _; try dsimp only) | dsimp only
noncomputable def E_trace_strip_rolled (s : (List Dtrace_section)) (areas : (List Int)) : Option ((List Dtrace_section)) :=
 (E_trace_whole 0).bind fun (t : Dtrace_ratio) =>
 (loopE (S := (List Dtrace_section) × Int × Dtrace_ratio) (R := (List Dtrace_section)) (fun s_1 =>
 let out : (List Dtrace_section) := s_1.1
 let t_1 : Int := s_1.2.1
 let at_ : Dtrace_ratio := s_1.2.2
 bif decide (t_1 < (List.length s : Int)) then
 chk (decide ((0 : Int) ≤ t_1) && decide (t_1 < (List.length s : Int))) (
 let x : Dtrace_section := lget ((fun _ => (false, ([], []))), ((fun _ => (false, ([], []))), (0, 0))) s t_1
 (E_trace_section_length x).bind fun (t_2 : Dtrace_ratio) =>
 chk (decide ((0 : Int) ≤ t_1) && decide (t_1 < (List.length areas : Int))) (
 (E_trace_quotient x.2.2.2 (lget 0 areas t_1)).bind fun (t_3 : Dtrace_ratio) =>
 (E_trace_ratio_times t_2 t_3).bind fun (t_4 : Dtrace_ratio) =>
 (E_trace_ratio_plus at_ t_4).bind fun (t_5 : Dtrace_ratio) =>
 chk (decide ((0 : Int) ≤ t_1) && decide (t_1 < (List.length areas : Int))) (
 (app out [(x.1, (aset (aset (fun _ => (false, ([], []))) 0 at_) 1 t_5, (x.2.2.1, lget 0 areas t_1)))]).bind fun (t_6 : List Dtrace_section) =>
 some (.inl (t_6, wi64 (t_1 + 1), t_5)))))
 else
 some (.inr out)) ([], 0, t)).bind fun (out_1 : (List Dtrace_section)) =>
 some out_1
theorem le_trace_strip_rolled (s : (List Dtrace_section)) (areas : (List Int)) : Lq (E_trace_strip_rolled s areas) (trace_strip_rolled s areas) := by
  unfold E_trace_strip_rolled trace_strip_rolled
  repeat' with_reducible first | exact lq_refl _ | apply le_trace_whole | apply le_trace_section_length | apply le_trace_quotient | apply le_trace_ratio_times | apply le_trace_ratio_plus | apply le_cat | apply lq_bind | apply lq_loop | apply lq_cond | apply lq_chk | apply lq_map | (refine lq_sumfun (fun _ => ?_) (fun _ => ?_) <;> dsimp only) | (intro _; try dsimp only) | dsimp only
noncomputable def E_trace_isPosition (n : Int) : Option (Bool) :=
 (E_trace_within n 0 1000000).bind fun (t : Bool) =>
 some t
theorem le_trace_isPosition (n : Int) : Lq (E_trace_isPosition n) (trace_isPosition n) := by
  unfold E_trace_isPosition trace_isPosition
  repeat' with_reducible first | exact lq_refl _ | apply le_trace_within | apply le_cat | apply lq_bind | apply lq_loop | apply lq_cond | apply lq_chk | apply lq_map | (refine lq_sumfun (fun _ => ?_) (fun _ => ?_) <;> dsimp only) | (intro _; try dsimp only) | dsimp only
noncomputable def E_trace_strip_length (s : (List Dtrace_section)) : Option (Dtrace_ratio) :=
 chk (decide ((0 : Int) ≤ (wi64 ((List.length s : Int) - 1))) && decide ((wi64 ((List.length s : Int) - 1)) < (List.length s : Int))) (
 chk (decide ((0 : Int) ≤ 1) && decide ((1 : Int) < 2)) (
 let t : Dtrace_ratio := aget (((lget ((fun _ => (false, ([], []))), ((fun _ => (false, ([], []))), (0, 0))) s (wi64 ((List.length s : Int) - 1))).2).1) 1
 some t))
theorem le_trace_strip_length (s : (List Dtrace_section)) : Lq (E_trace_strip_length s) (trace_strip_length s) := by
  unfold E_trace_strip_length trace_strip_length
  repeat' with_reducible first | exact lq_refl _ | apply le_cat | apply lq_bind | apply lq_loop | apply lq_cond | apply lq_chk | apply lq_map | (refine lq_sumfun (fun _ => ?_) (fun _ => ?_) <;> dsimp only) | (intro _; try dsimp only) | dsimp only
noncomputable def E_trace_ratio_between (a : Dtrace_ratio) (lo : Dtrace_ratio) (hi : Dtrace_ratio) : Option (Bool) :=
 (E_trace_ratio_cmp lo a).bind fun (t : Int) =>
 (bif decide (t ≤ 0) then
 (E_trace_ratio_cmp a hi).bind fun (t_1 : Int) =>
 some (decide (t_1 ≤ 0))
 else some false).bind fun (c : Bool) =>
 some c
theorem le_trace_ratio_between (a : Dtrace_ratio) (lo : Dtrace_ratio) (hi : Dtrace_ratio) : Lq (E_trace_ratio_between a lo hi) (trace_ratio_between a lo hi) := by
  unfold E_trace_ratio_between trace_ratio_between
  repeat' with_reducible first | exact lq_refl _ | apply le_trace_ratio_cmp | apply le_cat | apply lq_bind | apply lq_loop | apply lq_cond | apply lq_chk | apply lq_map | (refine lq_sumfun (fun _ => ?_) (fun _ => ?_) <;> dsimp only) | (intro _; try dsimp only) | dsimp only
noncomputable def E_trace_strip_has (s : (List Dtrace_section)) (position : Int) : Option (Bool) :=
 (E_trace_whole position).bind fun (t : Dtrace_ratio) =>
 (E_trace_whole 0).bind fun (t_1 : Dtrace_ratio) =>
 (E_trace_strip_length s).bind fun (t_2 : Dtrace_ratio) =>
 (E_trace_ratio_between t t_1 t_2).bind fun (t_3 : Bool) =>
 some t_3
theorem le_trace_strip_has (s : (List Dtrace_section)) (position : Int) : Lq (E_trace_strip_has s position) (trace_strip_has s position) := by
  unfold E_trace_strip_has trace_strip_has
  repeat' with_reducible first | exact lq_refl _ | apply le_trace_whole | apply le_trace_strip_length | apply le_trace_ratio_between | apply le_cat | apply lq_bind | apply lq_loop | apply lq_cond | apply lq_chk | apply lq_map | (refine lq_sumfun (fun _ => ?_) (fun _ => ?_) <;> dsimp only) | (intro _; try dsimp only) | dsimp only
noncomputable def E_trace_strip_cut (s : (List Dtrace_section)) (lo : Int) (hi : Int) : Option ((List Dtrace_section)) :=
 (E_trace_whole lo).bind fun (t : Dtrace_ratio) =>
 (E_trace_whole hi).bind fun (t_1 : Dtrace_ratio) =>
 (loopE (S := (List Dtrace_section) × Int) (R := (List Dtrace_section)) (fun s_1 =>
 let out : (List Dtrace_section) := s_1.1
 let t_2 : Int := s_1.2
 bif decide (t_2 < (List.length s : Int)) then
 chk (decide ((0 : Int) ≤ t_2) && decide (t_2 < (List.length s : Int))) (
 let x : Dtrace_section := lget ((fun _ => (false, ([], []))), ((fun _ => (false, ([], []))), (0, 0))) s t_2
 chk (decide ((0 : Int) ≤ 0) && decide ((0 : Int) < 2)) (
 (E_trace_ratio_cmp (aget x.2.1 0) t).bind fun (t_3 : Int) =>
 (bif decide (t_3 < 0) then
 chk (decide ((0 : Int) ≤ 0) && decide ((0 : Int) < 2)) (
 some (aset x.2.1 0 t))
 else
 some x.2.1).bind fun (ends : (Nat → Dtrace_ratio)) =>
 chk (decide ((0 : Int) ≤ 1) && decide ((1 : Int) < 2)) (
 (E_trace_ratio_cmp (aget ends 1) t_1).bind fun (t_4 : Int) =>
 (bif decide (t_4 > 0) then
 chk (decide ((0 : Int) ≤ 1) && decide ((1 : Int) < 2)) (
 some (aset ends 1 t_1))
 else
 some ends).bind fun (ends_1 : (Nat → Dtrace_ratio)) =>
 chk (decide ((0 : Int) ≤ 0) && decide ((0 : Int) < 2)) (
 chk (decide ((0 : Int) ≤ 1) && decide ((1 : Int) < 2)) (
 (E_trace_ratio_cmp (aget ends_1 0) (aget ends_1 1)).bind fun (t_5 : Int) =>
 bif decide (t_5 ≥ 0) then
 some (.inl (out, wi64 (t_2 + 1)))
 else
 (loopE (S := Int × Dtrace_section) (R := Dtrace_section) (fun s_2 =>
 let t_6 : Int := s_2.1
 let kept_ : Dtrace_section := s_2.2
 bif decide (t_6 < 2) then
 chk (decide ((0 : Int) ≤ t_6) && decide ((t_6 : Int) < 2)) (
 chk (decide ((0 : Int) ≤ 0) && decide ((0 : Int) < 2)) (
 chk (decide ((0 : Int) ≤ 0) && decide ((0 : Int) < 2)) (
 (E_trace_ratio_minus (aget ends_1 t_6) (aget x.2.1 0)).bind fun (t_7 : Dtrace_ratio) =>
 (E_trace_quotient x.2.2.2 x.2.2.1).bind fun (t_8 : Dtrace_ratio) =>
 (E_trace_ratio_times t_7 t_8).bind fun (t_9 : Dtrace_ratio) =>
 (E_trace_ratio_plus (aget x.1 0) t_9).bind fun (t_10 : Dtrace_ratio) =>
 chk (decide ((0 : Int) ≤ t_6) && decide ((t_6 : Int) < 2)) (
 (E_trace_ratio_minus (aget ends_1 t_6) t).bind fun (t_11 : Dtrace_ratio) =>
 chk (decide ((0 : Int) ≤ t_6) && decide ((t_6 : Int) < 2)) (
 some (.inl (wi64 (t_6 + 1), (aset kept_.1 t_6 t_10, (aset kept_.2.1 t_6 t_11, kept_.2.2)))))))))
 else
 some (.inr kept_)) (0, ((fun _ => (false, ([], []))), ((fun _ => (false, ([], []))), (x.2.2.1, x.2.2.2))))).bind fun (kept__1 : Dtrace_section) =>
 (app out [kept__1]).bind fun (t_12 : List Dtrace_section) =>
 some (.inl (t_12, wi64 (t_2 + 1))))))))
 else
 some (.inr out)) ([], 0)).bind fun (out_1 : (List Dtrace_section)) =>
 some out_1
theorem le_trace_strip_cut (s : (List Dtrace_section)) (lo : Int) (hi : Int) : Lq (E_trace_strip_cut s lo hi) (trace_strip_cut s lo hi) := by
  unfold E_trace_strip_cut trace_strip_cut
  repeat' with_reducible first | exact lq_refl _ | apply le_trace_whole | apply le_trace_ratio_minus | apply le_trace_quotient | apply le_trace_ratio_times | apply le_trace_ratio_plus | apply le_trace_ratio_cmp | apply le_cat | apply lq_bind | apply lq_loop | apply lq_cond | apply lq_chk | apply lq_map | (refine lq_sumfun (fun _ => ?_) (fun _ => ?_) <;> dsimp only) | (intro _; try dsimp only) | dsimp only
noncomputable def E_trace_strip_isSmall (s : (List Dtrace_section)) : Option (Bool) :=
 (loopE (S := Int) (R := (Unit) ⊕ (Bool)) (fun t =>
 bif decide (t < (List.length s : Int)) then
 chk (decide ((0 : Int) ≤ t) && decide (t < (List.length s : Int))) (
 let x : Dtrace_section := lget ((fun _ => (false, ([], []))), ((fun _ => (false, ([], []))), (0, 0))) s t
 (E_trace_section_length x).bind fun (t_1 : Dtrace_ratio) =>
 (E_trace_ratio_frac t_1).bind fun (r : Dapi_Frac × Bool) =>
 chk (decide ((0 : Int) ≤ 1) && decide ((1 : Int) < 2)) (
 (E_trace_ratio_frac (aget x.2.1 1)).bind fun (r_1 : Dapi_Frac × Bool) =>
 bif ((!r.2) || (!r_1.2)) then
 Option.map Sum.inr (Option.map Sum.inr (
 some false))
 else
 some (.inl (wi64 (t + 1)))))
 else
 some (.inr (.inl ()))) 0).bind fun j => match j with
 | .inl _ => (
 some true)
 | .inr r => some r
theorem le_trace_strip_isSmall (s : (List Dtrace_section)) : Lq (E_trace_strip_isSmall s) (trace_strip_isSmall s) := by
  unfold E_trace_strip_isSmall trace_strip_isSmall
  repeat' with_reducible first | exact lq_refl _ | apply le_trace_section_length | apply le_trace_ratio_frac | apply le_cat | apply lq_bind | apply lq_loop | apply lq_cond | apply lq_chk | apply lq_map | (refine lq_sumfun (fun _ => ?_) (fun _ => ?_) <;> dsimp only) | (intro _; try dsimp only) | dsimp only
noncomputable def E_trace_strip_step (s : (List Dtrace_section)) (x : Dapi_TraceStep) : Option ((List Dtrace_section) × Int) :=
 (bif (x.1 == 0) then
 (E_slices_ContainsFunc_int x.2.1 (fun x => E_trace_strip_step_1 x)).bind fun (t : Bool) =>
 (E_trace_unless ((x.2.2.1 == 0) && (x.2.2.2 == 0)) 3).bind fun (t_1 : Int) =>
 (E_trace_unless ((List.length x.2.1 : Int) == (List.length s : Int)) 10).bind fun (t_2 : Int) =>
 (E_trace_unless (!t) 2).bind fun (t_3 : Int) =>
 (E_trace_first [t_1, t_2, t_3]).bind fun (t_4 : Int) =>
 bif (t_4 != 0) then
 Option.map Sum.inr (
 some ([], t_4))
 else
 (E_trace_strip_rolled s x.2.1).bind fun (t_5 : (List Dtrace_section)) =>
 some (.inl t_5)
 else
 bif (x.1 == 1) then
 (E_trace_unless ((List.length x.2.1 : Int) == 0) 3).bind fun (t_6 : Int) =>
 (E_trace_isPosition x.2.2.1).bind fun (t_7 : Bool) =>
 (bif t_7 then
 (E_trace_isPosition x.2.2.2).bind fun (t_8 : Bool) =>
 some t_8
 else some false).bind fun (c : Bool) =>
 (E_trace_unless c 2).bind fun (t_9 : Int) =>
 (E_trace_unless (decide (x.2.2.1 < x.2.2.2)) 9).bind fun (t_10 : Int) =>
 (E_trace_strip_has s (imax 0 x.2.2.2)).bind fun (t_11 : Bool) =>
 (E_trace_unless t_11 6).bind fun (t_12 : Int) =>
 (E_trace_first [t_6, t_9, t_10, t_12]).bind fun (t_13 : Int) =>
 bif (t_13 != 0) then
 Option.map Sum.inr (
 some ([], t_13))
 else
 (E_trace_strip_cut s x.2.2.1 x.2.2.2).bind fun (t_14 : (List Dtrace_section)) =>
 some (.inl t_14)
 else
 Option.map Sum.inr (
 some ([], 15)) : Option (((List Dtrace_section)) ⊕ ((List Dtrace_section) × Int))).bind fun j => match j with
 | .inl out => (
 (E_trace_strip_isSmall out).bind fun (t_15 : Bool) =>
 (E_trace_unless t_15 8).bind fun (t_16 : Int) =>
 some (out, t_16))
 | .inr r => some r
theorem le_trace_strip_step (s : (List Dtrace_section)) (x : Dapi_TraceStep) : Lq (E_trace_strip_step s x) (trace_strip_step s x) := by
  unfold E_trace_strip_step trace_strip_step
  repeat' with_reducible first | exact lq_refl _ | apply le_trace_unless | apply le_trace_first | apply le_slices_ContainsFunc_int | apply le_trace_strip_step_1 | apply le_trace_strip_rolled | apply le_trace_isPosition | apply le_trace_strip_has | apply le_trace_strip_cut | apply le_trace_strip_isSmall | apply le_cat | apply lq_bind | apply lq_loop | apply lq_cond | apply lq_chk | apply lq_map | (refine lq_sumfun (fun _ => ?_) (fun _ => ?_) <;> dsimp only) | (intro _; try dsimp only) | dsimp only
noncomputable def E_trace_open (c : Dapi_TraceCourse) : Option (Dtrace_course × Int × Int) :=
 (E_trace_isName c.1).bind fun (t : Bool) =>
 (E_trace_unless t 4).bind fun (t_1 : Int) =>
 (E_trace_unless ((decide ((List.length c.2.1 : Int) > 0)) && ((List.length c.2.2.1 : Int) == (List.length c.2.1 : Int))) 10).bind fun (t_2 : Int) =>
 (E_trace_unless (decide ((List.length c.2.1 : Int) ≤ 6)) 8).bind fun (t_3 : Int) =>
 (E_trace_first [t_1, t_2, t_3]).bind fun (t_4 : Int) =>
 bif (t_4 != 0) then
 some ((c, []), 0, t_4)
 else
 (loopE (S := (List Dtrace_section) × Int × Int) (R := ((List Dtrace_section)) ⊕ (Dtrace_course × Int × Int)) (fun s =>
 let slab : (List Dtrace_section) := s.1
 let at_ : Int := s.2.1
 let t_5 : Int := s.2.2
 bif decide (t_5 < (List.length c.2.1 : Int)) then
 chk (decide ((0 : Int) ≤ t_5) && decide (t_5 < (List.length c.2.1 : Int))) (
 (E_trace_within (lget 0 c.2.1 t_5) 1 20000).bind fun (t_6 : Bool) =>
 (bif !t_6 then some true else
 chk (decide ((0 : Int) ≤ t_5) && decide (t_5 < (List.length c.2.2.1 : Int))) (
 (E_trace_isArea (lget 0 c.2.2.1 t_5)).bind fun (t_7 : Bool) =>
 some (!t_7))).bind fun (c_1 : Bool) =>
 bif c_1 then
 Option.map Sum.inr (Option.map Sum.inr (
 some ((c, []), 0, 2)))
 else
 (E_trace_whole at_).bind fun (t_8 : Dtrace_ratio) =>
 (E_trace_whole (wi64 (at_ + (lget 0 c.2.1 t_5)))).bind fun (t_9 : Dtrace_ratio) =>
 let ends : (Nat → Dtrace_ratio) := aset (aset (fun _ => (false, ([], []))) 0 t_8) 1 t_9
 chk (decide ((0 : Int) ≤ t_5) && decide (t_5 < (List.length c.2.2.1 : Int))) (
 chk (decide ((0 : Int) ≤ t_5) && decide (t_5 < (List.length c.2.2.1 : Int))) (
 (app slab [(ends, (ends, (lget 0 c.2.2.1 t_5, lget 0 c.2.2.1 t_5)))]).bind fun (t_10 : List Dtrace_section) =>
 let at__1 : Int := wi64 (at_ + (lget 0 c.2.1 t_5))
 some (.inl (t_10, at__1, wi64 (t_5 + 1))))))
 else
 some (.inr (.inl slab))) ([], 0, 0)).bind fun j => match j with
 | .inl slab_1 => (
 bif decide ((List.length c.2.2.2 : Int) > 10) then
 some ((c, []), 0, 8)
 else
 (loopE (S := Int × Dtrace_course) (R := (Dtrace_course) ⊕ (Dtrace_course × Int × Int)) (fun s_1 =>
 let t_11 : Int := s_1.1
 let out : Dtrace_course := s_1.2
 bif decide (t_11 < (List.length c.2.2.2 : Int)) then
 chk (decide ((0 : Int) ≤ t_11) && decide (t_11 < (List.length c.2.2.2 : Int))) (
 let x : Dapi_TraceStep := lget (0, ([], (0, 0))) c.2.2.2 t_11
 chk (decide ((0 : Int) ≤ t_11) && decide (t_11 < (List.length out.2 : Int))) (
 (E_trace_strip_step (lget [] out.2 t_11) x).bind fun (r : (List Dtrace_section) × Int) =>
 bif (r.2 != 0) then
 Option.map Sum.inr (Option.map Sum.inr (
 some (out, t_11, r.2)))
 else
 (app out.2 [r.1]).bind fun (t_12 : List (List Dtrace_section)) =>
 some (.inl (wi64 (t_11 + 1), (out.1, t_12)))))
 else
 some (.inr (.inl out))) (0, (c, [slab_1]))).bind fun j => match j with
 | .inl out_1 => (
 some (out_1, 0, 0))
 | .inr r => some r)
 | .inr r => some r
theorem le_trace_open (c : Dapi_TraceCourse) : Lq (E_trace_open c) (trace_open c) := by
  unfold E_trace_open trace_open
  repeat' with_reducible first | exact lq_refl _ | apply le_trace_within | apply le_trace_isName | apply le_trace_unless | apply le_trace_first | apply le_trace_isArea | apply le_trace_whole | apply le_trace_strip_step | apply le_cat | apply lq_bind | apply lq_loop | apply lq_cond | apply lq_chk | apply lq_map | (refine lq_sumfun (fun _ => ?_) (fun _ => ?_) <;> dsimp only) | (intro _; try dsimp only) | dsimp only
noncomputable def E_trace_course_stepsErr (c : Dtrace_course) (steps : Int) : Option (Int) :=
 (E_trace_within steps 0 (List.length c.1.2.2.2 : Int)).bind fun (t : Bool) =>
 (E_trace_unless t 2).bind fun (t_1 : Int) =>
 some t_1
theorem le_trace_course_stepsErr (c : Dtrace_course) (steps : Int) : Lq (E_trace_course_stepsErr c steps) (trace_course_stepsErr c steps) := by
  unfold E_trace_course_stepsErr trace_course_stepsErr
  repeat' with_reducible first | exact lq_refl _ | apply le_trace_within | apply le_trace_unless | apply le_cat | apply lq_bind | apply lq_loop | apply lq_cond | apply lq_chk | apply lq_map | (refine lq_sumfun (fun _ => ?_) (fun _ => ?_) <;> dsimp only) | (intro _; try dsimp only) | dsimp only
noncomputable def E_trace_opened (c : Dapi_TraceCourse) (steps : (List Int)) : Option (Dtrace_course × Int) :=
 (E_trace_open c).bind fun (r : Dtrace_course × Int × Int) =>
 (loopE (S := Int × Int) (R := Int) (fun s =>
 let e : Int := s.1
 let t : Int := s.2
 bif decide (t < (List.length steps : Int)) then
 chk (decide ((0 : Int) ≤ t) && decide (t < (List.length steps : Int))) (
 (E_trace_course_stepsErr r.1 (lget 0 steps t)).bind fun (t_1 : Int) =>
 (E_trace_first [e, t_1]).bind fun (t_2 : Int) =>
 some (.inl (t_2, wi64 (t + 1))))
 else
 some (.inr e)) (r.2.2, 0)).bind fun (e_1 : Int) =>
 some (r.1, e_1)
theorem le_trace_opened (c : Dapi_TraceCourse) (steps : (List Int)) : Lq (E_trace_opened c steps) (trace_opened c steps) := by
  unfold E_trace_opened trace_opened
  repeat' with_reducible first | exact lq_refl _ | apply le_trace_first | apply le_trace_open | apply le_trace_course_stepsErr | apply le_cat | apply lq_bind | apply lq_loop | apply lq_cond | apply lq_chk | apply lq_map | (refine lq_sumfun (fun _ => ?_) (fun _ => ?_) <;> dsimp only) | (intro _; try dsimp only) | dsimp only
noncomputable def E_trace_course_readingErr (c : Dtrace_course) (r : Dapi_TraceReading) : Option (Int) :=
 (E_trace_course_stepsErr c r.1).bind fun (t : Int) =>
 bif (t != 0) then
 some t
 else
 chk (decide ((0 : Int) ≤ r.1) && decide (r.1 < (List.length c.2 : Int))) (
 (E_trace_strip_has (lget [] c.2 r.1) r.2.1).bind fun (t_1 : Bool) =>
 (E_trace_unless t_1 6).bind fun (t_2 : Int) =>
 some t_2)
theorem le_trace_course_readingErr (c : Dtrace_course) (r : Dapi_TraceReading) : Lq (E_trace_course_readingErr c r) (trace_course_readingErr c r) := by
  unfold E_trace_course_readingErr trace_course_readingErr
  repeat' with_reducible first | exact lq_refl _ | apply le_trace_unless | apply le_trace_strip_has | apply le_trace_course_stepsErr | apply le_cat | apply lq_bind | apply lq_loop | apply lq_cond | apply lq_chk | apply lq_map | (refine lq_sumfun (fun _ => ?_) (fun _ => ?_) <;> dsimp only) | (intro _; try dsimp only) | dsimp only
noncomputable def E_trace_strip_slabAt (s : (List Dtrace_section)) (position : Dtrace_ratio) : Option (Dtrace_ratio) :=
 (loopE (S := Int) (R := (Unit) ⊕ (Dtrace_ratio)) (fun t =>
 bif decide (t < (List.length s : Int)) then
 chk (decide ((0 : Int) ≤ t) && decide (t < (List.length s : Int))) (
 let x : Dtrace_section := lget ((fun _ => (false, ([], []))), ((fun _ => (false, ([], []))), (0, 0))) s t
 chk (decide ((0 : Int) ≤ 0) && decide ((0 : Int) < 2)) (
 chk (decide ((0 : Int) ≤ 1) && decide ((1 : Int) < 2)) (
 (E_trace_ratio_between position (aget x.2.1 0) (aget x.2.1 1)).bind fun (t_1 : Bool) =>
 bif t_1 then
 chk (decide ((0 : Int) ≤ 0) && decide ((0 : Int) < 2)) (
 chk (decide ((0 : Int) ≤ 0) && decide ((0 : Int) < 2)) (
 (E_trace_ratio_minus position (aget x.2.1 0)).bind fun (t_2 : Dtrace_ratio) =>
 (E_trace_quotient x.2.2.2 x.2.2.1).bind fun (t_3 : Dtrace_ratio) =>
 (E_trace_ratio_times t_2 t_3).bind fun (t_4 : Dtrace_ratio) =>
 (E_trace_ratio_plus (aget x.1 0) t_4).bind fun (t_5 : Dtrace_ratio) =>
 Option.map Sum.inr (Option.map Sum.inr (
 some t_5))))
 else
 some (.inl (wi64 (t + 1))))))
 else
 some (.inr (.inl ()))) 0).bind fun j => match j with
 | .inl _ => (
 some (false, ([], [])))
 | .inr r => some r
theorem le_trace_strip_slabAt (s : (List Dtrace_section)) (position : Dtrace_ratio) : Lq (E_trace_strip_slabAt s position) (trace_strip_slabAt s position) := by
  unfold E_trace_strip_slabAt trace_strip_slabAt
  repeat' with_reducible first | exact lq_refl _ | apply le_trace_ratio_minus | apply le_trace_quotient | apply le_trace_ratio_times | apply le_trace_ratio_plus | apply le_trace_ratio_between | apply le_cat | apply lq_bind | apply lq_loop | apply lq_cond | apply lq_chk | apply lq_map | (refine lq_sumfun (fun _ => ?_) (fun _ => ?_) <;> dsimp only) | (intro _; try dsimp only) | dsimp only
noncomputable def E_trace_strip_at (s : (List Dtrace_section)) (slab : Dtrace_ratio) : Option (Dtrace_ratio × Bool) :=
 (loopE (S := Int) (R := (Unit) ⊕ (Dtrace_ratio × Bool)) (fun t =>
 bif decide (t < (List.length s : Int)) then
 chk (decide ((0 : Int) ≤ t) && decide (t < (List.length s : Int))) (
 let x : Dtrace_section := lget ((fun _ => (false, ([], []))), ((fun _ => (false, ([], []))), (0, 0))) s t
 chk (decide ((0 : Int) ≤ 0) && decide ((0 : Int) < 2)) (
 chk (decide ((0 : Int) ≤ 1) && decide ((1 : Int) < 2)) (
 (E_trace_ratio_between slab (aget x.1 0) (aget x.1 1)).bind fun (t_1 : Bool) =>
 bif t_1 then
 chk (decide ((0 : Int) ≤ 0) && decide ((0 : Int) < 2)) (
 chk (decide ((0 : Int) ≤ 0) && decide ((0 : Int) < 2)) (
 (E_trace_ratio_minus slab (aget x.1 0)).bind fun (t_2 : Dtrace_ratio) =>
 (E_trace_quotient x.2.2.1 x.2.2.2).bind fun (t_3 : Dtrace_ratio) =>
 (E_trace_ratio_times t_2 t_3).bind fun (t_4 : Dtrace_ratio) =>
 (E_trace_ratio_plus (aget x.2.1 0) t_4).bind fun (t_5 : Dtrace_ratio) =>
 Option.map Sum.inr (Option.map Sum.inr (
 some (t_5, true)))))
 else
 some (.inl (wi64 (t + 1))))))
 else
 some (.inr (.inl ()))) 0).bind fun j => match j with
 | .inl _ => (
 some ((false, ([], [])), false))
 | .inr r => some r
theorem le_trace_strip_at (s : (List Dtrace_section)) (slab : Dtrace_ratio) : Lq (E_trace_strip_at s slab) (trace_strip_at s slab) := by
  unfold E_trace_strip_at trace_strip_at
  repeat' with_reducible first | exact lq_refl _ | apply le_trace_ratio_minus | apply le_trace_quotient | apply le_trace_ratio_times | apply le_trace_ratio_plus | apply le_trace_ratio_between | apply le_cat | apply lq_bind | apply lq_loop | apply lq_cond | apply lq_chk | apply lq_map | (refine lq_sumfun (fun _ => ?_) (fun _ => ?_) <;> dsimp only) | (intro _; try dsimp only) | dsimp only
noncomputable def E_trace_course_place (c : Dtrace_course) (r : Dapi_TraceReading) (steps : Int) : Option (Dtrace_ratio × Bool) :=
 chk (decide ((0 : Int) ≤ steps) && decide (steps < (List.length c.2 : Int))) (
 chk (decide ((0 : Int) ≤ r.1) && decide (r.1 < (List.length c.2 : Int))) (
 (E_trace_whole r.2.1).bind fun (t : Dtrace_ratio) =>
 (E_trace_strip_slabAt (lget [] c.2 r.1) t).bind fun (t_1 : Dtrace_ratio) =>
 (E_trace_strip_at (lget [] c.2 steps) t_1).bind fun (r_1 : Dtrace_ratio × Bool) =>
 some (r_1.1, r_1.2)))
theorem le_trace_course_place (c : Dtrace_course) (r : Dapi_TraceReading) (steps : Int) : Lq (E_trace_course_place c r steps) (trace_course_place c r steps) := by
  unfold E_trace_course_place trace_course_place
  repeat' with_reducible first | exact lq_refl _ | apply le_trace_whole | apply le_trace_strip_slabAt | apply le_trace_strip_at | apply le_cat | apply lq_bind | apply lq_loop | apply lq_cond | apply lq_chk | apply lq_map | (refine lq_sumfun (fun _ => ?_) (fun _ => ?_) <;> dsimp only) | (intro _; try dsimp only) | dsimp only
noncomputable def E_trace_small (r : Dtrace_ratio) : Option (Dapi_Frac × Int) :=
 (E_trace_ratio_frac r).bind fun (r_1 : Dapi_Frac × Bool) =>
 (E_trace_unless r_1.2 8).bind fun (t : Int) =>
 some (r_1.1, t)
theorem le_trace_small (r : Dtrace_ratio) : Lq (E_trace_small r) (trace_small r) := by
  unfold E_trace_small trace_small
  repeat' with_reducible first | exact lq_refl _ | apply le_trace_unless | apply le_trace_ratio_frac | apply le_cat | apply lq_bind | apply lq_loop | apply lq_cond | apply lq_chk | apply lq_map | (refine lq_sumfun (fun _ => ?_) (fun _ => ?_) <;> dsimp only) | (intro _; try dsimp only) | dsimp only
noncomputable def E_trace_PlaceOf (c : Dapi_TraceCourse) (r : Dapi_TraceReading) (steps : Int) : Option (Dapi_Frac × Int) :=
 (E_trace_opened c []).bind fun (r_1 : Dtrace_course × Int) =>
 (bif (r_1.2 == 0) then
 (E_trace_course_readingErr r_1.1 r).bind fun (t : Int) =>
 (E_trace_course_stepsErr r_1.1 steps).bind fun (t_1 : Int) =>
 (E_trace_first [t, t_1]).bind fun (t_2 : Int) =>
 some t_2
 else
 some r_1.2).bind fun (e : Int) =>
 bif (e != 0) then
 some ((0, 0), e)
 else
 (E_trace_course_place r_1.1 r steps).bind fun (r_2 : Dtrace_ratio × Bool) =>
 bif !r_2.2 then
 some ((0, 0), 12)
 else
 (E_trace_small r_2.1).bind fun (r_3 : Dapi_Frac × Int) =>
 some (r_3.1, r_3.2)
theorem le_trace_PlaceOf (c : Dapi_TraceCourse) (r : Dapi_TraceReading) (steps : Int) : Lq (E_trace_PlaceOf c r steps) (trace_PlaceOf c r steps) := by
  unfold E_trace_PlaceOf trace_PlaceOf
  repeat' with_reducible first | exact lq_refl _ | apply le_trace_first | apply le_trace_course_stepsErr | apply le_trace_opened | apply le_trace_course_readingErr | apply le_trace_course_place | apply le_trace_small | apply le_cat | apply lq_bind | apply lq_loop | apply lq_cond | apply lq_chk | apply lq_map | (refine lq_sumfun (fun _ => ?_) (fun _ => ?_) <;> dsimp only) | (intro _; try dsimp only) | dsimp only
noncomputable def E_trace_course_last (c : Dtrace_course) : Option ((List Dtrace_section)) :=
 chk (decide ((0 : Int) ≤ (wi64 ((List.length c.2 : Int) - 1))) && decide ((wi64 ((List.length c.2 : Int) - 1)) < (List.length c.2 : Int))) (
 let t : (List Dtrace_section) := lget [] c.2 (wi64 ((List.length c.2 : Int) - 1))
 some t)
theorem le_trace_course_last (c : Dtrace_course) : Lq (E_trace_course_last c) (trace_course_last c) := by
  unfold E_trace_course_last trace_course_last
  repeat' with_reducible first | exact lq_refl _ | apply le_cat | apply lq_bind | apply lq_loop | apply lq_cond | apply lq_chk | apply lq_map | (refine lq_sumfun (fun _ => ?_) (fun _ => ?_) <;> dsimp only) | (intro _; try dsimp only) | dsimp only
noncomputable def E_trace_PiecesOf (c : Dapi_TraceCourse) (length : Int) : Option ((List Dapi_Span) × Int) :=
 (E_trace_opened c []).bind fun (r : Dtrace_course × Int) =>
 (E_trace_within length 1 1000000).bind fun (t : Bool) =>
 (E_trace_unless t 2).bind fun (t_1 : Int) =>
 (E_trace_first [r.2, t_1]).bind fun (t_2 : Int) =>
 bif (t_2 != 0) then
 some ([], t_2)
 else
 (E_trace_course_last r.1).bind fun (t_3 : (List Dtrace_section)) =>
 (E_trace_strip_length t_3).bind fun (t_4 : Dtrace_ratio) =>
 (E_trace_whole (wi64 (50 * length))).bind fun (t_5 : Dtrace_ratio) =>
 (E_trace_ratio_cmp t_4 t_5).bind fun (t_6 : Int) =>
 bif decide (t_6 > 0) then
 some ([], 16)
 else
 (loopE (S := (List Dapi_Span) × Int) (R := ((List Dapi_Span)) ⊕ ((List Dapi_Span) × Int)) (fun s =>
 let out : (List Dapi_Span) := s.1
 let at_ : Int := s.2
 (E_trace_whole at_).bind fun (t_7 : Dtrace_ratio) =>
 (E_trace_strip_length t_3).bind fun (t_8 : Dtrace_ratio) =>
 (E_trace_ratio_cmp t_7 t_8).bind fun (t_9 : Int) =>
 bif decide (t_9 < 0) then
 (E_trace_whole (wi64 (at_ + length))).bind fun (t_10 : Dtrace_ratio) =>
 (E_trace_strip_length t_3).bind fun (t_11 : Dtrace_ratio) =>
 (E_trace_ratio_cmp t_10 t_11).bind fun (t_12 : Int) =>
 (bif decide (t_12 > 0) then
 (E_trace_strip_length t_3).bind fun (t_13 : Dtrace_ratio) =>
 some t_13
 else
 some t_10).bind fun (end_ : Dtrace_ratio) =>
 (E_trace_whole at_).bind fun (t_14 : Dtrace_ratio) =>
 (E_trace_strip_slabAt t_3 t_14).bind fun (t_15 : Dtrace_ratio) =>
 (E_trace_small t_15).bind fun (r_1 : Dapi_Frac × Int) =>
 (E_trace_strip_slabAt t_3 end_).bind fun (t_16 : Dtrace_ratio) =>
 (E_trace_small t_16).bind fun (r_2 : Dapi_Frac × Int) =>
 (E_trace_first [r_1.2, r_2.2]).bind fun (t_17 : Int) =>
 bif (t_17 != 0) then
 Option.map Sum.inr (Option.map Sum.inr (
 some ([], t_17)))
 else
 (app out [(r_1.1, r_2.1)]).bind fun (t_18 : List Dapi_Span) =>
 let at__1 : Int := wi64 (at_ + length)
 some (.inl (t_18, at__1))
 else
 some (.inr (.inl out))) ([], 0)).bind fun j => match j with
 | .inl out_1 => (
 some (out_1, 0))
 | .inr r => some r
theorem le_trace_PiecesOf (c : Dapi_TraceCourse) (length : Int) : Lq (E_trace_PiecesOf c length) (trace_PiecesOf c length) := by
  unfold E_trace_PiecesOf trace_PiecesOf
  repeat' with_reducible first | exact lq_refl _ | apply le_trace_within | apply le_trace_unless | apply le_trace_first | apply le_trace_whole | apply le_trace_strip_length | apply le_trace_ratio_cmp | apply le_trace_opened | apply le_trace_strip_slabAt | apply le_trace_small | apply le_trace_course_last | apply le_cat | apply lq_bind | apply lq_loop | apply lq_cond | apply lq_chk | apply lq_map | (refine lq_sumfun (fun _ => ?_) (fun _ => ?_) <;> dsimp only) | (intro _; try dsimp only) | dsimp only
noncomputable def E_l9_Causes  : Option ((List Dapi_TraceCause)) :=
 let t : (List Dapi_TraceCause) := [((bytes [97]), (0, (300, (400, 0)))), ((bytes [98]), (1, (900, (1100, 1000))))]
 some t
theorem le_l9_Causes  : Lq (E_l9_Causes ) (l9_Causes ) := by
  unfold E_l9_Causes l9_Causes
  repeat' with_reducible first | exact lq_refl _ | apply le_cat | apply lq_bind | apply lq_loop | apply lq_cond | apply lq_chk | apply lq_map | (refine lq_sumfun (fun _ => ?_) (fun _ => ?_) <;> dsimp only) | (intro _; try dsimp only) | dsimp only
noncomputable def E_slices_IndexFunc_apiTraceCause (s : (List Dapi_TraceCause)) (f : (Dapi_TraceCause → Option Bool)) : Option (Int) :=
 (loopE (S := Int) (R := (Unit) ⊕ (Int)) (fun t =>
 bif decide (t < (List.length s : Int)) then
 chk (decide ((0 : Int) ≤ t) && decide (t < (List.length s : Int))) (
 (f (lget (ByteArray.empty, (0, (0, (0, 0)))) s t)).bind fun (t_1 : Bool) =>
 bif t_1 then
 Option.map Sum.inr (Option.map Sum.inr (
 some t))
 else
 some (.inl (wi64 (t + 1))))
 else
 some (.inr (.inl ()))) 0).bind fun j => match j with
 | .inl _ => (
 some (-1))
 | .inr r => some r
theorem le_slices_IndexFunc_apiTraceCause (s : (List Dapi_TraceCause)) {f f' : (Dapi_TraceCause → Option Bool)} (h_f : ∀ x, Lq (f x) (f' x)) : Lq (E_slices_IndexFunc_apiTraceCause s f) (slices_IndexFunc_apiTraceCause s f') := by
  unfold E_slices_IndexFunc_apiTraceCause slices_IndexFunc_apiTraceCause
  repeat' with_reducible first | exact lq_refl _ | exact h_f _ | apply le_cat | apply lq_bind | apply lq_loop | apply lq_cond | apply lq_chk | apply lq_map | (refine lq_sumfun (fun _ => ?_) (fun _ => ?_) <;> dsimp only) | (intro _; try dsimp only) | dsimp only
noncomputable def E_slices_ContainsFunc_apiTraceCause (s : (List Dapi_TraceCause)) (f : (Dapi_TraceCause → Option Bool)) : Option (Bool) :=
 (E_slices_IndexFunc_apiTraceCause s f).bind fun (t : Int) =>
 some (decide (t ≥ 0))
theorem le_slices_ContainsFunc_apiTraceCause (s : (List Dapi_TraceCause)) {f f' : (Dapi_TraceCause → Option Bool)} (h_f : ∀ x, Lq (f x) (f' x)) : Lq (E_slices_ContainsFunc_apiTraceCause s f) (slices_ContainsFunc_apiTraceCause s f') := by
  unfold E_slices_ContainsFunc_apiTraceCause slices_ContainsFunc_apiTraceCause
  repeat' with_reducible first | exact lq_refl _ | exact h_f _ | apply le_slices_IndexFunc_apiTraceCause | apply le_cat | apply lq_bind | apply lq_loop | apply lq_cond | apply lq_chk | apply lq_map | (refine lq_sumfun (fun _ => ?_) (fun _ => ?_) <;> dsimp only) | (intro _; try dsimp only) | dsimp only
noncomputable def E_trace_openCauses_1 (o : Dapi_TraceCause) (x : Dapi_TraceCause) : Option (Bool) :=
 some (seqbE o.1 x.1)
theorem le_trace_openCauses_1 (o : Dapi_TraceCause) (x : Dapi_TraceCause) : Lq (E_trace_openCauses_1 o x) (trace_openCauses_1 o x) := by
  unfold E_trace_openCauses_1 trace_openCauses_1
  try simp only [seqb_eq]
  repeat' with_reducible first | exact lq_refl _ | apply le_cat | apply lq_bind | apply lq_loop | apply lq_cond | apply lq_chk | apply lq_map | (refine lq_sumfun (fun _ => ?_) (fun _ => ?_) <;> dsimp only) | (intro _; try dsimp only) | dsimp only
noncomputable def E_trace_openCauses (c : Dapi_TraceCourse) (l : (List Dapi_TraceCause)) : Option (Dtrace_course × Int × Int) :=
 (E_trace_opened c []).bind fun (r : Dtrace_course × Int) =>
 (E_trace_unless (decide ((List.length l : Int) ≤ 5)) 8).bind fun (t : Int) =>
 (E_trace_first [r.2, t]).bind fun (t_1 : Int) =>
 bif (t_1 != 0) then
 some (r.1, 0, t_1)
 else
 (loopE (S := Int) (R := (Unit) ⊕ (Dtrace_course × Int × Int)) (fun t_2 =>
 bif decide (t_2 < (List.length l : Int)) then
 chk (decide ((0 : Int) ≤ t_2) && decide (t_2 < (List.length l : Int))) (
 let own : Dapi_TraceCause := lget (ByteArray.empty, (0, (0, (0, 0)))) l t_2
 chk (decide ((0 : Int) ≤ 0) && decide ((0 : Int) ≤ t_2) && decide (t_2 ≤ (List.length l : Int))) (
 (E_slices_ContainsFunc_apiTraceCause (List.drop (Int.toNat 0) (List.take (Int.toNat t_2) l)) (fun x => E_trace_openCauses_1 x own)).bind fun (t_3 : Bool) =>
 (E_trace_isName own.1).bind fun (t_4 : Bool) =>
 (E_trace_unless t_4 4).bind fun (t_5 : Int) =>
 (E_trace_unless (!t_3) 5).bind fun (t_6 : Int) =>
 (E_trace_course_stepsErr r.1 own.2.1).bind fun (t_7 : Int) =>
 (E_trace_isPosition own.2.2.1).bind fun (t_8 : Bool) =>
 (bif t_8 then
 (E_trace_isPosition own.2.2.2.1).bind fun (t_9 : Bool) =>
 some t_9
 else some false).bind fun (c_1 : Bool) =>
 (bif c_1 then
 (E_trace_isPosition own.2.2.2.2).bind fun (t_10 : Bool) =>
 some t_10
 else some false).bind fun (c_2 : Bool) =>
 (E_trace_unless c_2 2).bind fun (t_11 : Int) =>
 (E_trace_unless (decide (own.2.2.1 ≤ own.2.2.2.1)) 9).bind fun (t_12 : Int) =>
 (E_trace_unless ((own.2.2.2.2 == 0) || (decide (own.2.2.2.2 > (wi64 (own.2.2.2.1 - own.2.2.1))))) 13).bind fun (t_13 : Int) =>
 (E_trace_first [t_5, t_6, t_7, t_11, t_12, t_13]).bind fun (t_14 : Int) =>
 bif (t_14 != 0) then
 Option.map Sum.inr (Option.map Sum.inr (
 some (r.1, t_2, t_14)))
 else
 some (.inl (wi64 (t_2 + 1)))))
 else
 some (.inr (.inl ()))) 0).bind fun j => match j with
 | .inl _ => (
 some (r.1, 0, 0))
 | .inr r => some r
theorem le_trace_openCauses (c : Dapi_TraceCourse) (l : (List Dapi_TraceCause)) : Lq (E_trace_openCauses c l) (trace_openCauses c l) := by
  unfold E_trace_openCauses trace_openCauses
  repeat' with_reducible first | exact lq_refl _ | apply le_trace_isName | apply le_trace_unless | apply le_trace_first | apply le_trace_isPosition | apply le_trace_course_stepsErr | apply le_trace_opened | apply le_slices_ContainsFunc_apiTraceCause | apply le_trace_openCauses_1 | apply le_cat | apply lq_bind | apply lq_loop | apply lq_cond | apply lq_chk | apply lq_map | (refine lq_sumfun (fun _ => ?_) (fun _ => ?_) <;> dsimp only) | (intro _; try dsimp only) | dsimp only
noncomputable def E_trace_course_openReadings (c : Dtrace_course) (l : (List Dapi_TraceReading)) : Option (Int) :=
 bif decide ((List.length l : Int) > 10) then
 some 8
 else
 (loopE (S := Int) (R := (Unit) ⊕ (Int)) (fun t =>
 bif decide (t < (List.length l : Int)) then
 chk (decide ((0 : Int) ≤ t) && decide (t < (List.length l : Int))) (
 let r : Dapi_TraceReading := lget (0, (0, false)) l t
 (E_trace_course_readingErr c r).bind fun (t_1 : Int) =>
 bif (t_1 != 0) then
 Option.map Sum.inr (Option.map Sum.inr (
 some t_1))
 else
 some (.inl (wi64 (t + 1))))
 else
 some (.inr (.inl ()))) 0).bind fun j => match j with
 | .inl _ => (
 some 0)
 | .inr r => some r
theorem le_trace_course_openReadings (c : Dtrace_course) (l : (List Dapi_TraceReading)) : Lq (E_trace_course_openReadings c l) (trace_course_openReadings c l) := by
  unfold E_trace_course_openReadings trace_course_openReadings
  repeat' with_reducible first | exact lq_refl _ | apply le_trace_course_readingErr | apply le_cat | apply lq_bind | apply lq_loop | apply lq_cond | apply lq_chk | apply lq_map | (refine lq_sumfun (fun _ => ?_) (fun _ => ?_) <;> dsimp only) | (intro _; try dsimp only) | dsimp only
noncomputable def E_trace_course_predicts (c : Dtrace_course) (x : Dapi_TraceCause) (r : Dapi_TraceReading) : Option (Bool) :=
 bif decide (x.2.1 > r.1) then
 some false
 else
 (E_trace_course_place c r x.2.1).bind fun (r_1 : Dtrace_ratio × Bool) =>
 (E_trace_whole x.2.2.1).bind fun (t : Dtrace_ratio) =>
 (E_trace_ratio_minus r_1.1 t).bind fun (t_1 : Dtrace_ratio) =>
 bif t_1.1 then
 some false
 else
 (bif decide (x.2.2.2.2 > 0) then
 (E_trace_whole x.2.2.2.2).bind fun (t_2 : Dtrace_ratio) =>
 (E_trace_ratio_over t_1 t_2).bind fun (t_3 : Dtrace_ratio) =>
 (E_trace_ratio_floor t_3).bind fun (t_4 : Dtrace_ratio) =>
 (E_trace_ratio_times t_4 t_2).bind fun (t_5 : Dtrace_ratio) =>
 (E_trace_ratio_minus t_1 t_5).bind fun (t_6 : Dtrace_ratio) =>
 some t_6
 else
 some t_1).bind fun (over : Dtrace_ratio) =>
 (E_trace_whole (wi64 (x.2.2.2.1 - x.2.2.1))).bind fun (t_7 : Dtrace_ratio) =>
 (E_trace_ratio_cmp over t_7).bind fun (t_8 : Int) =>
 some (decide (t_8 ≤ 0))
theorem le_trace_course_predicts (c : Dtrace_course) (x : Dapi_TraceCause) (r : Dapi_TraceReading) : Lq (E_trace_course_predicts c x r) (trace_course_predicts c x r) := by
  unfold E_trace_course_predicts trace_course_predicts
  repeat' with_reducible first | exact lq_refl _ | apply le_trace_whole | apply le_trace_ratio_minus | apply le_trace_ratio_times | apply le_trace_ratio_cmp | apply le_trace_course_place | apply le_trace_ratio_over | apply le_trace_ratio_floor | apply le_cat | apply lq_bind | apply lq_loop | apply lq_cond | apply lq_chk | apply lq_map | (refine lq_sumfun (fun _ => ?_) (fun _ => ?_) <;> dsimp only) | (intro _; try dsimp only) | dsimp only
noncomputable def E_trace_course_evidenceOf (c : Dtrace_course) (l : (List Dapi_TraceCause)) (readings : (List Dapi_TraceReading)) : Option (Dtrace_evidence) :=
 (loopE (S := Int × Dtrace_evidence) (R := Dtrace_evidence) (fun s =>
 let t : Int := s.1
 let out : Dtrace_evidence := s.2
 bif decide (t < (List.length readings : Int)) then
 chk (decide ((0 : Int) ≤ t) && decide (t < (List.length readings : Int))) (
 let r : Dapi_TraceReading := lget (0, (0, false)) readings t
 (loopE (S := Int × Int) (R := Int) (fun s_1 =>
 let by_ : Int := s_1.1
 let t_1 : Int := s_1.2
 bif decide (t_1 < (List.length l : Int)) then
 chk (decide ((0 : Int) ≤ t_1) && decide (t_1 < (List.length l : Int))) (
 let x : Dapi_TraceCause := lget (ByteArray.empty, (0, (0, (0, 0)))) l t_1
 (E_trace_course_predicts c x r).bind fun (t_2 : Bool) =>
 (bif t_2 then
 chk (decide ((0 : Int) ≤ t_1)) (
 let by__1 : Int := ior .u64 by_ (ishl .u64 1 t_1)
 some by__1)
 else
 some by_).bind fun (by__2 : Int) =>
 some (.inl (by__2, wi64 (t_1 + 1))))
 else
 some (.inr by_)) (0, 0)).bind fun (by__3 : Int) =>
 (app out.2.1 [by__3]).bind fun (t_3 : List Int) =>
 (app out.2.2 [r.2.2]).bind fun (t_4 : List Bool) =>
 some (.inl (wi64 (t + 1), (out.1, (t_3, t_4)))))
 else
 some (.inr out)) (0, ((List.length l : Int), ([], [])))).bind fun (out_1 : Dtrace_evidence) =>
 some out_1
theorem le_trace_course_evidenceOf (c : Dtrace_course) (l : (List Dapi_TraceCause)) (readings : (List Dapi_TraceReading)) : Lq (E_trace_course_evidenceOf c l readings) (trace_course_evidenceOf c l readings) := by
  unfold E_trace_course_evidenceOf trace_course_evidenceOf
  repeat' with_reducible first | exact lq_refl _ | apply le_trace_course_predicts | apply le_cat | apply lq_bind | apply lq_loop | apply lq_cond | apply lq_chk | apply lq_map | (refine lq_sumfun (fun _ => ?_) (fun _ => ?_) <;> dsimp only) | (intro _; try dsimp only) | dsimp only
noncomputable def E_trace_openEvidence (c : Dapi_TraceCourse) (l : (List Dapi_TraceCause)) (r : (List Dapi_TraceReading)) : Option (Dtrace_course × Dtrace_evidence × Int) :=
 (E_trace_openCauses c l).bind fun (r_1 : Dtrace_course × Int × Int) =>
 (bif (r_1.2.2 == 0) then
 (E_trace_course_openReadings r_1.1 r).bind fun (t : Int) =>
 some t
 else
 some r_1.2.2).bind fun (e : Int) =>
 bif (e != 0) then
 some (r_1.1, (0, ([], [])), e)
 else
 (E_trace_course_evidenceOf r_1.1 l r).bind fun (t_1 : Dtrace_evidence) =>
 some (r_1.1, t_1, 0)
theorem le_trace_openEvidence (c : Dapi_TraceCourse) (l : (List Dapi_TraceCause)) (r : (List Dapi_TraceReading)) : Lq (E_trace_openEvidence c l r) (trace_openEvidence c l r) := by
  unfold E_trace_openEvidence trace_openEvidence
  repeat' with_reducible first | exact lq_refl _ | apply le_trace_openCauses | apply le_trace_course_openReadings | apply le_trace_course_evidenceOf | apply le_cat | apply lq_bind | apply lq_loop | apply lq_cond | apply lq_chk | apply lq_map | (refine lq_sumfun (fun _ => ?_) (fun _ => ?_) <;> dsimp only) | (intro _; try dsimp only) | dsimp only
noncomputable def E_trace_evidence_every (v : Dtrace_evidence) : Option (Int) :=
 chk (decide ((0 : Int) ≤ (List.length v.2.1 : Int))) (
 let t : Int := ishl .u64 1 (List.length v.2.1 : Int)
 some (wu64 (t - 1)))
theorem le_trace_evidence_every (v : Dtrace_evidence) : Lq (E_trace_evidence_every v) (trace_evidence_every v) := by
  unfold E_trace_evidence_every trace_evidence_every
  repeat' with_reducible first | exact lq_refl _ | apply le_cat | apply lq_bind | apply lq_loop | apply lq_cond | apply lq_chk | apply lq_map | (refine lq_sumfun (fun _ => ?_) (fun _ => ?_) <;> dsimp only) | (intro _; try dsimp only) | dsimp only
noncomputable def E_trace_set_has (s : Int) (i : Int) : Option (Bool) :=
 chk (decide ((0 : Int) ≤ i)) (
 let t : Bool := ((iand .u64 (ishr .u64 s i) 1) == 1)
 some t)
theorem le_trace_set_has (s : Int) (i : Int) : Lq (E_trace_set_has s i) (trace_set_has s i) := by
  unfold E_trace_set_has trace_set_has
  repeat' with_reducible first | exact lq_refl _ | apply le_cat | apply lq_bind | apply lq_loop | apply lq_cond | apply lq_chk | apply lq_map | (refine lq_sumfun (fun _ => ?_) (fun _ => ?_) <;> dsimp only) | (intro _; try dsimp only) | dsimp only
noncomputable def E_trace_evidence_firstWrong (v : Dtrace_evidence) (s : Int) (readings : Int) : Option (Int) :=
 (loopE (S := Int) (R := (Unit) ⊕ (Int)) (fun t =>
 bif decide (t < (List.length v.2.1 : Int)) then
 chk (decide ((0 : Int) ≤ t) && decide (t < (List.length v.2.1 : Int))) (
 (E_trace_set_has readings t).bind fun (t_1 : Bool) =>
 (bif t_1 then
 chk (decide ((0 : Int) ≤ t) && decide (t < (List.length v.2.2 : Int))) (
 some (((iand .u64 s (lget 0 v.2.1 t)) != 0) != (lget false v.2.2 t)))
 else some false).bind fun (c : Bool) =>
 bif c then
 Option.map Sum.inr (Option.map Sum.inr (
 some t))
 else
 some (.inl (wi64 (t + 1))))
 else
 some (.inr (.inl ()))) 0).bind fun j => match j with
 | .inl _ => (
 some (-1))
 | .inr r => some r
theorem le_trace_evidence_firstWrong (v : Dtrace_evidence) (s : Int) (readings : Int) : Lq (E_trace_evidence_firstWrong v s readings) (trace_evidence_firstWrong v s readings) := by
  unfold E_trace_evidence_firstWrong trace_evidence_firstWrong
  repeat' with_reducible first | exact lq_refl _ | apply le_trace_set_has | apply le_cat | apply lq_bind | apply lq_loop | apply lq_cond | apply lq_chk | apply lq_map | (refine lq_sumfun (fun _ => ?_) (fun _ => ?_) <;> dsimp only) | (intro _; try dsimp only) | dsimp only
noncomputable def E_explOk (v : Dtrace_evidence) (r : Int) (l : List Int) : Option Unit :=
 match l with
 | [] => some ()
 | s :: l => (E_trace_evidence_firstWrong v s r).bind fun (_ : Int) => E_explOk v r l
theorem le_explOk (v : Dtrace_evidence) (r : Int) (l : List Int) : Lq (E_explOk v r l) (explOk v r l) := by
  induction l with
  | nil => exact lq_refl _
  | cons s l ih =>
    unfold E_explOk explOk
    exact lq_bind (le_trace_evidence_firstWrong _ _ _) fun _ => ih
noncomputable def E_bits_OnesCount32 (x : Int) : Option (Int) :=
 chk (decide ((0 : Int) ≤ 24)) (
 chk (decide ((0 : Int) ≤ (ishr .u32 x 24)) && decide ((ishr .u32 x 24) < (ByteArray.size (bytes [0, 1, 1, 2, 1, 2, 2, 3, 1, 2, 2, 3, 2, 3, 3, 4, 1, 2, 2, 3, 2, 3, 3, 4, 2, 3, 3, 4, 3, 4, 4, 5, 1, 2, 2, 3, 2, 3, 3, 4, 2, 3, 3, 4, 3, 4, 4, 5, 2, 3, 3, 4, 3, 4, 4, 5, 3, 4, 4, 5, 4, 5, 5, 6, 1, 2, 2, 3, 2, 3, 3, 4, 2, 3, 3, 4, 3, 4, 4, 5, 2, 3, 3, 4, 3, 4, 4, 5, 3, 4, 4, 5, 4, 5, 5, 6, 2, 3, 3, 4, 3, 4, 4, 5, 3, 4, 4, 5, 4, 5, 5, 6, 3, 4, 4, 5, 4, 5, 5, 6, 4, 5, 5, 6, 5, 6, 6, 7, 1, 2, 2, 3, 2, 3, 3, 4, 2, 3, 3, 4, 3, 4, 4, 5, 2, 3, 3, 4, 3, 4, 4, 5, 3, 4, 4, 5, 4, 5, 5, 6, 2, 3, 3, 4, 3, 4, 4, 5, 3, 4, 4, 5, 4, 5, 5, 6, 3, 4, 4, 5, 4, 5, 5, 6, 4, 5, 5, 6, 5, 6, 6, 7, 2, 3, 3, 4, 3, 4, 4, 5, 3, 4, 4, 5, 4, 5, 5, 6, 3, 4, 4, 5, 4, 5, 5, 6, 4, 5, 5, 6, 5, 6, 6, 7, 3, 4, 4, 5, 4, 5, 5, 6, 4, 5, 5, 6, 5, 6, 6, 7, 4, 5, 5, 6, 5, 6, 6, 7, 5, 6, 6, 7, 6, 7, 7, 8]) : Int))) (
 chk (decide ((0 : Int) ≤ 16)) (
 chk (decide ((0 : Int) ≤ (iand .u32 (ishr .u32 x 16) 255)) && decide ((iand .u32 (ishr .u32 x 16) 255) < (ByteArray.size (bytes [0, 1, 1, 2, 1, 2, 2, 3, 1, 2, 2, 3, 2, 3, 3, 4, 1, 2, 2, 3, 2, 3, 3, 4, 2, 3, 3, 4, 3, 4, 4, 5, 1, 2, 2, 3, 2, 3, 3, 4, 2, 3, 3, 4, 3, 4, 4, 5, 2, 3, 3, 4, 3, 4, 4, 5, 3, 4, 4, 5, 4, 5, 5, 6, 1, 2, 2, 3, 2, 3, 3, 4, 2, 3, 3, 4, 3, 4, 4, 5, 2, 3, 3, 4, 3, 4, 4, 5, 3, 4, 4, 5, 4, 5, 5, 6, 2, 3, 3, 4, 3, 4, 4, 5, 3, 4, 4, 5, 4, 5, 5, 6, 3, 4, 4, 5, 4, 5, 5, 6, 4, 5, 5, 6, 5, 6, 6, 7, 1, 2, 2, 3, 2, 3, 3, 4, 2, 3, 3, 4, 3, 4, 4, 5, 2, 3, 3, 4, 3, 4, 4, 5, 3, 4, 4, 5, 4, 5, 5, 6, 2, 3, 3, 4, 3, 4, 4, 5, 3, 4, 4, 5, 4, 5, 5, 6, 3, 4, 4, 5, 4, 5, 5, 6, 4, 5, 5, 6, 5, 6, 6, 7, 2, 3, 3, 4, 3, 4, 4, 5, 3, 4, 4, 5, 4, 5, 5, 6, 3, 4, 4, 5, 4, 5, 5, 6, 4, 5, 5, 6, 5, 6, 6, 7, 3, 4, 4, 5, 4, 5, 5, 6, 4, 5, 5, 6, 5, 6, 6, 7, 4, 5, 5, 6, 5, 6, 6, 7, 5, 6, 6, 7, 6, 7, 7, 8]) : Int))) (
 chk (decide ((0 : Int) ≤ 8)) (
 chk (decide ((0 : Int) ≤ (iand .u32 (ishr .u32 x 8) 255)) && decide ((iand .u32 (ishr .u32 x 8) 255) < (ByteArray.size (bytes [0, 1, 1, 2, 1, 2, 2, 3, 1, 2, 2, 3, 2, 3, 3, 4, 1, 2, 2, 3, 2, 3, 3, 4, 2, 3, 3, 4, 3, 4, 4, 5, 1, 2, 2, 3, 2, 3, 3, 4, 2, 3, 3, 4, 3, 4, 4, 5, 2, 3, 3, 4, 3, 4, 4, 5, 3, 4, 4, 5, 4, 5, 5, 6, 1, 2, 2, 3, 2, 3, 3, 4, 2, 3, 3, 4, 3, 4, 4, 5, 2, 3, 3, 4, 3, 4, 4, 5, 3, 4, 4, 5, 4, 5, 5, 6, 2, 3, 3, 4, 3, 4, 4, 5, 3, 4, 4, 5, 4, 5, 5, 6, 3, 4, 4, 5, 4, 5, 5, 6, 4, 5, 5, 6, 5, 6, 6, 7, 1, 2, 2, 3, 2, 3, 3, 4, 2, 3, 3, 4, 3, 4, 4, 5, 2, 3, 3, 4, 3, 4, 4, 5, 3, 4, 4, 5, 4, 5, 5, 6, 2, 3, 3, 4, 3, 4, 4, 5, 3, 4, 4, 5, 4, 5, 5, 6, 3, 4, 4, 5, 4, 5, 5, 6, 4, 5, 5, 6, 5, 6, 6, 7, 2, 3, 3, 4, 3, 4, 4, 5, 3, 4, 4, 5, 4, 5, 5, 6, 3, 4, 4, 5, 4, 5, 5, 6, 4, 5, 5, 6, 5, 6, 6, 7, 3, 4, 4, 5, 4, 5, 5, 6, 4, 5, 5, 6, 5, 6, 6, 7, 4, 5, 5, 6, 5, 6, 6, 7, 5, 6, 6, 7, 6, 7, 7, 8]) : Int))) (
 chk (decide ((0 : Int) ≤ (iand .u32 x 255)) && decide ((iand .u32 x 255) < (ByteArray.size (bytes [0, 1, 1, 2, 1, 2, 2, 3, 1, 2, 2, 3, 2, 3, 3, 4, 1, 2, 2, 3, 2, 3, 3, 4, 2, 3, 3, 4, 3, 4, 4, 5, 1, 2, 2, 3, 2, 3, 3, 4, 2, 3, 3, 4, 3, 4, 4, 5, 2, 3, 3, 4, 3, 4, 4, 5, 3, 4, 4, 5, 4, 5, 5, 6, 1, 2, 2, 3, 2, 3, 3, 4, 2, 3, 3, 4, 3, 4, 4, 5, 2, 3, 3, 4, 3, 4, 4, 5, 3, 4, 4, 5, 4, 5, 5, 6, 2, 3, 3, 4, 3, 4, 4, 5, 3, 4, 4, 5, 4, 5, 5, 6, 3, 4, 4, 5, 4, 5, 5, 6, 4, 5, 5, 6, 5, 6, 6, 7, 1, 2, 2, 3, 2, 3, 3, 4, 2, 3, 3, 4, 3, 4, 4, 5, 2, 3, 3, 4, 3, 4, 4, 5, 3, 4, 4, 5, 4, 5, 5, 6, 2, 3, 3, 4, 3, 4, 4, 5, 3, 4, 4, 5, 4, 5, 5, 6, 3, 4, 4, 5, 4, 5, 5, 6, 4, 5, 5, 6, 5, 6, 6, 7, 2, 3, 3, 4, 3, 4, 4, 5, 3, 4, 4, 5, 4, 5, 5, 6, 3, 4, 4, 5, 4, 5, 5, 6, 4, 5, 5, 6, 5, 6, 6, 7, 3, 4, 4, 5, 4, 5, 5, 6, 4, 5, 5, 6, 5, 6, 6, 7, 4, 5, 5, 6, 5, 6, 6, 7, 5, 6, 6, 7, 6, 7, 7, 8]) : Int))) (
 let t : Int := wi64 (wu8 ((wu8 ((wu8 ((sget (bytes [0, 1, 1, 2, 1, 2, 2, 3, 1, 2, 2, 3, 2, 3, 3, 4, 1, 2, 2, 3, 2, 3, 3, 4, 2, 3, 3, 4, 3, 4, 4, 5, 1, 2, 2, 3, 2, 3, 3, 4, 2, 3, 3, 4, 3, 4, 4, 5, 2, 3, 3, 4, 3, 4, 4, 5, 3, 4, 4, 5, 4, 5, 5, 6, 1, 2, 2, 3, 2, 3, 3, 4, 2, 3, 3, 4, 3, 4, 4, 5, 2, 3, 3, 4, 3, 4, 4, 5, 3, 4, 4, 5, 4, 5, 5, 6, 2, 3, 3, 4, 3, 4, 4, 5, 3, 4, 4, 5, 4, 5, 5, 6, 3, 4, 4, 5, 4, 5, 5, 6, 4, 5, 5, 6, 5, 6, 6, 7, 1, 2, 2, 3, 2, 3, 3, 4, 2, 3, 3, 4, 3, 4, 4, 5, 2, 3, 3, 4, 3, 4, 4, 5, 3, 4, 4, 5, 4, 5, 5, 6, 2, 3, 3, 4, 3, 4, 4, 5, 3, 4, 4, 5, 4, 5, 5, 6, 3, 4, 4, 5, 4, 5, 5, 6, 4, 5, 5, 6, 5, 6, 6, 7, 2, 3, 3, 4, 3, 4, 4, 5, 3, 4, 4, 5, 4, 5, 5, 6, 3, 4, 4, 5, 4, 5, 5, 6, 4, 5, 5, 6, 5, 6, 6, 7, 3, 4, 4, 5, 4, 5, 5, 6, 4, 5, 5, 6, 5, 6, 6, 7, 4, 5, 5, 6, 5, 6, 6, 7, 5, 6, 6, 7, 6, 7, 7, 8]) (ishr .u32 x 24)) + (sget (bytes [0, 1, 1, 2, 1, 2, 2, 3, 1, 2, 2, 3, 2, 3, 3, 4, 1, 2, 2, 3, 2, 3, 3, 4, 2, 3, 3, 4, 3, 4, 4, 5, 1, 2, 2, 3, 2, 3, 3, 4, 2, 3, 3, 4, 3, 4, 4, 5, 2, 3, 3, 4, 3, 4, 4, 5, 3, 4, 4, 5, 4, 5, 5, 6, 1, 2, 2, 3, 2, 3, 3, 4, 2, 3, 3, 4, 3, 4, 4, 5, 2, 3, 3, 4, 3, 4, 4, 5, 3, 4, 4, 5, 4, 5, 5, 6, 2, 3, 3, 4, 3, 4, 4, 5, 3, 4, 4, 5, 4, 5, 5, 6, 3, 4, 4, 5, 4, 5, 5, 6, 4, 5, 5, 6, 5, 6, 6, 7, 1, 2, 2, 3, 2, 3, 3, 4, 2, 3, 3, 4, 3, 4, 4, 5, 2, 3, 3, 4, 3, 4, 4, 5, 3, 4, 4, 5, 4, 5, 5, 6, 2, 3, 3, 4, 3, 4, 4, 5, 3, 4, 4, 5, 4, 5, 5, 6, 3, 4, 4, 5, 4, 5, 5, 6, 4, 5, 5, 6, 5, 6, 6, 7, 2, 3, 3, 4, 3, 4, 4, 5, 3, 4, 4, 5, 4, 5, 5, 6, 3, 4, 4, 5, 4, 5, 5, 6, 4, 5, 5, 6, 5, 6, 6, 7, 3, 4, 4, 5, 4, 5, 5, 6, 4, 5, 5, 6, 5, 6, 6, 7, 4, 5, 5, 6, 5, 6, 6, 7, 5, 6, 6, 7, 6, 7, 7, 8]) (iand .u32 (ishr .u32 x 16) 255)))) + (sget (bytes [0, 1, 1, 2, 1, 2, 2, 3, 1, 2, 2, 3, 2, 3, 3, 4, 1, 2, 2, 3, 2, 3, 3, 4, 2, 3, 3, 4, 3, 4, 4, 5, 1, 2, 2, 3, 2, 3, 3, 4, 2, 3, 3, 4, 3, 4, 4, 5, 2, 3, 3, 4, 3, 4, 4, 5, 3, 4, 4, 5, 4, 5, 5, 6, 1, 2, 2, 3, 2, 3, 3, 4, 2, 3, 3, 4, 3, 4, 4, 5, 2, 3, 3, 4, 3, 4, 4, 5, 3, 4, 4, 5, 4, 5, 5, 6, 2, 3, 3, 4, 3, 4, 4, 5, 3, 4, 4, 5, 4, 5, 5, 6, 3, 4, 4, 5, 4, 5, 5, 6, 4, 5, 5, 6, 5, 6, 6, 7, 1, 2, 2, 3, 2, 3, 3, 4, 2, 3, 3, 4, 3, 4, 4, 5, 2, 3, 3, 4, 3, 4, 4, 5, 3, 4, 4, 5, 4, 5, 5, 6, 2, 3, 3, 4, 3, 4, 4, 5, 3, 4, 4, 5, 4, 5, 5, 6, 3, 4, 4, 5, 4, 5, 5, 6, 4, 5, 5, 6, 5, 6, 6, 7, 2, 3, 3, 4, 3, 4, 4, 5, 3, 4, 4, 5, 4, 5, 5, 6, 3, 4, 4, 5, 4, 5, 5, 6, 4, 5, 5, 6, 5, 6, 6, 7, 3, 4, 4, 5, 4, 5, 5, 6, 4, 5, 5, 6, 5, 6, 6, 7, 4, 5, 5, 6, 5, 6, 6, 7, 5, 6, 6, 7, 6, 7, 7, 8]) (iand .u32 (ishr .u32 x 8) 255)))) + (sget (bytes [0, 1, 1, 2, 1, 2, 2, 3, 1, 2, 2, 3, 2, 3, 3, 4, 1, 2, 2, 3, 2, 3, 3, 4, 2, 3, 3, 4, 3, 4, 4, 5, 1, 2, 2, 3, 2, 3, 3, 4, 2, 3, 3, 4, 3, 4, 4, 5, 2, 3, 3, 4, 3, 4, 4, 5, 3, 4, 4, 5, 4, 5, 5, 6, 1, 2, 2, 3, 2, 3, 3, 4, 2, 3, 3, 4, 3, 4, 4, 5, 2, 3, 3, 4, 3, 4, 4, 5, 3, 4, 4, 5, 4, 5, 5, 6, 2, 3, 3, 4, 3, 4, 4, 5, 3, 4, 4, 5, 4, 5, 5, 6, 3, 4, 4, 5, 4, 5, 5, 6, 4, 5, 5, 6, 5, 6, 6, 7, 1, 2, 2, 3, 2, 3, 3, 4, 2, 3, 3, 4, 3, 4, 4, 5, 2, 3, 3, 4, 3, 4, 4, 5, 3, 4, 4, 5, 4, 5, 5, 6, 2, 3, 3, 4, 3, 4, 4, 5, 3, 4, 4, 5, 4, 5, 5, 6, 3, 4, 4, 5, 4, 5, 5, 6, 4, 5, 5, 6, 5, 6, 6, 7, 2, 3, 3, 4, 3, 4, 4, 5, 3, 4, 4, 5, 4, 5, 5, 6, 3, 4, 4, 5, 4, 5, 5, 6, 4, 5, 5, 6, 5, 6, 6, 7, 3, 4, 4, 5, 4, 5, 5, 6, 4, 5, 5, 6, 5, 6, 6, 7, 4, 5, 5, 6, 5, 6, 6, 7, 5, 6, 6, 7, 6, 7, 7, 8]) (iand .u32 x 255))))
 some t)))))))
theorem le_bits_OnesCount32 (x : Int) : Lq (E_bits_OnesCount32 x) (bits_OnesCount32 x) := by
  unfold E_bits_OnesCount32 bits_OnesCount32
  repeat' with_reducible first | exact lq_refl _ | apply le_cat | apply lq_bind | apply lq_loop | apply lq_cond | apply lq_chk | apply lq_map | (refine lq_sumfun (fun _ => ?_) (fun _ => ?_) <;> dsimp only) | (intro _; try dsimp only) | dsimp only
noncomputable def E_bits_OnesCount64 (x : Int) : Option (Int) :=
 chk (decide ((0 : Int) ≤ 1)) (
 let x_1 : Int := wu64 ((iand .u64 (ishr .u64 x 1) 6148914691236517205) + (iand .u64 x 6148914691236517205))
 chk (decide ((0 : Int) ≤ 2)) (
 let x_2 : Int := wu64 ((iand .u64 (ishr .u64 x_1 2) 3689348814741910323) + (iand .u64 x_1 3689348814741910323))
 chk (decide ((0 : Int) ≤ 4)) (
 let x_3 : Int := iand .u64 (wu64 ((ishr .u64 x_2 4) + x_2)) 1085102592571150095
 chk (decide ((0 : Int) ≤ 8)) (
 let x_4 : Int := wu64 (x_3 + (ishr .u64 x_3 8))
 chk (decide ((0 : Int) ≤ 16)) (
 let x_5 : Int := wu64 (x_4 + (ishr .u64 x_4 16))
 chk (decide ((0 : Int) ≤ 32)) (
 let x_6 : Int := wu64 (x_5 + (ishr .u64 x_5 32))
 let t : Int := iand .i64 (wi64 x_6) 127
 some t))))))
theorem le_bits_OnesCount64 (x : Int) : Lq (E_bits_OnesCount64 x) (bits_OnesCount64 x) := by
  unfold E_bits_OnesCount64 bits_OnesCount64
  repeat' with_reducible first | exact lq_refl _ | apply le_cat | apply lq_bind | apply lq_loop | apply lq_cond | apply lq_chk | apply lq_map | (refine lq_sumfun (fun _ => ?_) (fun _ => ?_) <;> dsimp only) | (intro _; try dsimp only) | dsimp only
noncomputable def E_bits_OnesCount (x : Int) : Option (Int) :=
 bif false then
 (E_bits_OnesCount32 (wu32 x)).bind fun (t : Int) =>
 some t
 else
 (E_bits_OnesCount64 x).bind fun (t_1 : Int) =>
 some t_1
theorem le_bits_OnesCount (x : Int) : Lq (E_bits_OnesCount x) (bits_OnesCount x) := by
  unfold E_bits_OnesCount bits_OnesCount
  repeat' with_reducible first | exact lq_refl _ | apply le_bits_OnesCount32 | apply le_bits_OnesCount64 | apply le_cat | apply lq_bind | apply lq_loop | apply lq_cond | apply lq_chk | apply lq_map | (refine lq_sumfun (fun _ => ?_) (fun _ => ?_) <;> dsimp only) | (intro _; try dsimp only) | dsimp only
noncomputable def E_explStep (v : Dtrace_evidence) (r : Int) (out : List Int) (s : Int) : Option (Option (List Int)) :=
 (bif decide ((List.length out : Int) > 0) then (E_bits_OnesCount s).bind fun (a : Int) => (E_bits_OnesCount (lget 0 out 0)).bind fun (b : Int) => some (decide (a > b)) else some false).bind fun (c : Bool) =>
 bif c then some none
 else (E_trace_evidence_firstWrong v s r).bind fun (w : Int) =>
 bif decide (w < 0) then (app out [s]).bind fun (o : List Int) => some (some o) else some (some out)
theorem le_explStep (v : Dtrace_evidence) (r : Int) (out : List Int) (s : Int) : Lq (E_explStep v r out s) (explStep v r out s) := by
  unfold E_explStep explStep
  repeat' with_reducible first | exact lq_refl _ | apply le_trace_evidence_firstWrong | apply le_bits_OnesCount | apply le_cat | apply lq_bind | apply lq_loop | apply lq_cond | apply lq_chk | apply lq_map | (refine lq_sumfun (fun _ => ?_) (fun _ => ?_) <;> dsimp only) | (intro _; try dsimp only) | dsimp only
noncomputable def E_explL (v : Dtrace_evidence) (r : Int) (l : List Int) (out : List Int) : Option (List Int) :=
 match l with
 | [] => some out
 | s :: l => (E_explStep v r out s).bind fun (o : Option (List Int)) => match o with
 | none => some out
 | some o => E_explL v r l o
theorem le_explL (v : Dtrace_evidence) (r : Int) (l : List Int) : ∀ out, Lq (E_explL v r l out) (explL v r l out) := by
  induction l with
  | nil => exact fun out => lq_refl _
  | cons s l ih =>
    intro out
    unfold E_explL explL
    refine lq_bind (le_explStep _ _ _ _) fun o => ?_
    cases o with
    | none => exact lq_refl _
    | some o => exact ih o
noncomputable def E_trace_evidence_explanations (v : Dtrace_evidence) (r : Int) : Option (List Int) :=
 bif decide ((0 : Int) ≤ v.1) && decide (v.1 ≤ 8) then (E_explOk v r (setsL v.1)).bind fun (_ : Unit) => E_explL v r (setsL v.1) [] else none
theorem le_trace_evidence_explanations (v : Dtrace_evidence) (r : Int) : Lq (E_trace_evidence_explanations v r) (trace_evidence_explanations v r) := by
  unfold E_trace_evidence_explanations trace_evidence_explanations
  repeat' with_reducible first | exact lq_refl _ | apply le_explOk | apply le_explL | apply le_cat | apply lq_bind | apply lq_loop | apply lq_cond | apply lq_chk | apply lq_map | (refine lq_sumfun (fun _ => ?_) (fun _ => ?_) <;> dsimp only) | (intro _; try dsimp only) | dsimp only
noncomputable def E_trace_set_list (s : Int) : Option ((List Int)) :=
 (loopE (S := (List Int) × Int) (R := (List Int)) (fun s_1 =>
 let out : (List Int) := s_1.1
 let t : Int := s_1.2
 bif decide (t < 64) then
 (E_trace_set_has s t).bind fun (t_1 : Bool) =>
 (bif t_1 then
 (app out [t]).bind fun (t_2 : List Int) =>
 some t_2
 else
 some out).bind fun (out_1 : (List Int)) =>
 some (.inl (out_1, wi64 (t + 1)))
 else
 some (.inr out)) ([], 0)).bind fun (out_2 : (List Int)) =>
 some out_2
theorem le_trace_set_list (s : Int) : Lq (E_trace_set_list s) (trace_set_list s) := by
  unfold E_trace_set_list trace_set_list
  repeat' with_reducible first | exact lq_refl _ | apply le_trace_set_has | apply le_cat | apply lq_bind | apply lq_loop | apply lq_cond | apply lq_chk | apply lq_map | (refine lq_sumfun (fun _ => ?_) (fun _ => ?_) <;> dsimp only) | (intro _; try dsimp only) | dsimp only
noncomputable def E_trace_Explanations (c : Dapi_TraceCourse) (l : (List Dapi_TraceCause)) (r : (List Dapi_TraceReading)) : Option ((List (List Int)) × Int) :=
 (E_trace_openEvidence c l r).bind fun (r_1 : Dtrace_course × Dtrace_evidence × Int) =>
 bif (r_1.2.2 != 0) then
 some ([], r_1.2.2)
 else
 (E_trace_evidence_every r_1.2.1).bind fun (t : Int) =>
 (E_trace_evidence_explanations r_1.2.1 t).bind fun (t_1 : (List Int)) =>
 (loopE (S := (List (List Int)) × Int) (R := (List (List Int))) (fun s =>
 let out : (List (List Int)) := s.1
 let t_2 : Int := s.2
 bif decide (t_2 < (List.length t_1 : Int)) then
 chk (decide ((0 : Int) ≤ t_2) && decide (t_2 < (List.length t_1 : Int))) (
 (E_trace_set_list (lget 0 t_1 t_2)).bind fun (t_3 : (List Int)) =>
 (app out [t_3]).bind fun (t_4 : List (List Int)) =>
 some (.inl (t_4, wi64 (t_2 + 1))))
 else
 some (.inr out)) ([], 0)).bind fun (out_1 : (List (List Int))) =>
 (E_trace_unless (decide ((List.length out_1 : Int) > 0)) 12).bind fun (t_5 : Int) =>
 some (out_1, t_5)
theorem le_trace_Explanations (c : Dapi_TraceCourse) (l : (List Dapi_TraceCause)) (r : (List Dapi_TraceReading)) : Lq (E_trace_Explanations c l r) (trace_Explanations c l r) := by
  unfold E_trace_Explanations trace_Explanations
  repeat' with_reducible first | exact lq_refl _ | apply le_trace_unless | apply le_trace_openEvidence | apply le_trace_evidence_every | apply le_trace_evidence_explanations | apply le_trace_set_list | apply le_cat | apply lq_bind | apply lq_loop | apply lq_cond | apply lq_chk | apply lq_map | (refine lq_sumfun (fun _ => ?_) (fun _ => ?_) <;> dsimp only) | (intro _; try dsimp only) | dsimp only
noncomputable def E_trace_written (f : Dapi_Frac) : Option (ByteArray) :=
 bif (f.2 == 1) then
 (E_strconv_Itoa f.1).bind fun (t : ByteArray) =>
 some t
 else
 (E_strconv_Itoa f.1).bind fun (t_1 : ByteArray) =>
 (catE t_1 (bytes [47])).bind fun t_2 =>
 (E_strconv_Itoa f.2).bind fun (t_3 : ByteArray) =>
 (catE t_2 t_3).bind fun t_4 =>
 some t_4
theorem le_trace_written (f : Dapi_Frac) : Lq (E_trace_written f) (trace_written f) := by
  unfold E_trace_written trace_written
  repeat' with_reducible first | exact lq_refl _ | apply le_strconv_Itoa | apply le_cat | apply lq_bind | apply lq_loop | apply lq_cond | apply lq_chk | apply lq_map | (refine lq_sumfun (fun _ => ?_) (fun _ => ?_) <;> dsimp only) | (intro _; try dsimp only) | dsimp only
noncomputable def E_strings_Join (l : List ByteArray) (s : ByteArray) : Option ByteArray :=
 bif decide (l.length ≤ 4294967296) && decide ((Lib.join (l.map (·.data.toList)) s.data.toList).length ≤ 4294967296) then some ⟨(Lib.join (l.map (·.data.toList)) s.data.toList).toArray⟩ else none
theorem le_strings_Join (l : List ByteArray) (s : ByteArray) : Lq (E_strings_Join l s) (strings_Join l s) := by
  unfold E_strings_Join strings_Join
  repeat' with_reducible first | exact lq_refl _ | apply le_cat | apply lq_bind | apply lq_loop | apply lq_cond | apply lq_chk | apply lq_map | (refine lq_sumfun (fun _ => ?_) (fun _ => ?_) <;> dsimp only) | (intro _; try dsimp only) | dsimp only
noncomputable def E_trace_ReportOf (c : Dapi_TraceCourse) (r : (List Dapi_TraceReading)) : Option (ByteArray × Int) :=
 (E_trace_opened c []).bind fun (r_1 : Dtrace_course × Int) =>
 (bif (r_1.2 == 0) then
 (E_trace_course_openReadings r_1.1 r).bind fun (t : Int) =>
 some t
 else
 some r_1.2).bind fun (e : Int) =>
 bif (e != 0) then
 some (ByteArray.empty, e)
 else
 (E_trace_course_last r_1.1).bind fun (t_1 : (List Dtrace_section)) =>
 (E_trace_strip_length t_1).bind fun (t_2 : Dtrace_ratio) =>
 (E_trace_small t_2).bind fun (r_2 : Dapi_Frac × Int) =>
 bif (r_2.2 != 0) then
 some (ByteArray.empty, r_2.2)
 else
 (catE c.1 (bytes [32])).bind fun t_3 =>
 (E_trace_written r_2.1).bind fun (t_4 : ByteArray) =>
 (catE t_3 t_4).bind fun t_5 =>
 (loopE (S := (List ByteArray) × Int) (R := ((List ByteArray)) ⊕ (ByteArray × Int)) (fun s =>
 let parts : (List ByteArray) := s.1
 let t_6 : Int := s.2
 bif decide (t_6 < (List.length r : Int)) then
 chk (decide ((0 : Int) ≤ t_6) && decide (t_6 < (List.length r : Int))) (
 let own : Dapi_TraceReading := lget (0, (0, false)) r t_6
 (E_strconv_Itoa own.1).bind fun (t_7 : ByteArray) =>
 (E_strconv_Itoa own.2.1).bind fun (t_8 : ByteArray) =>
 (loopE (S := (List ByteArray) × Int) (R := ((List ByteArray)) ⊕ (((List ByteArray) × Int) ⊕ (((List ByteArray)) ⊕ (ByteArray × Int)))) (fun s_1 =>
 let w : (List ByteArray) := s_1.1
 let t_9 : Int := s_1.2
 bif decide (t_9 < 2) then
 chk (decide ((0 : Int) ≤ t_9) && decide ((t_9 : Int) < 2)) (
 let steps : Int := aget (aset (aset (fun _ => 0) 0 0) 1 (List.length c.2.2.2 : Int)) t_9
 (E_trace_course_place r_1.1 own steps).bind fun (r_3 : Dtrace_ratio × Bool) =>
 bif !r_3.2 then
 (app w [(bytes [45])]).bind fun (t_10 : List ByteArray) =>
 some (.inl (t_10, wi64 (t_9 + 1)))
 else
 (E_trace_small r_3.1).bind fun (r_4 : Dapi_Frac × Int) =>
 bif (r_4.2 != 0) then
 Option.map Sum.inr (Option.map Sum.inr (
 Option.map Sum.inr (Option.map Sum.inr (
 some (ByteArray.empty, r_4.2)))))
 else
 (E_trace_written r_4.1).bind fun (t_11 : ByteArray) =>
 (app w [t_11]).bind fun (t_12 : List ByteArray) =>
 some (.inl (t_12, wi64 (t_9 + 1))))
 else
 some (.inr (.inl w))) ([t_7, t_8], 0)).bind fun j => match j with
 | .inl w_1 => (
 (bif own.2.2 then
 let answer : ByteArray := (bytes [121, 101, 115])
 some answer
 else
 some (bytes [110, 111])).bind fun (answer_1 : ByteArray) =>
 (app w_1 [answer_1]).bind fun (t_13 : List ByteArray) =>
 (E_strings_Join t_13 (bytes [32])).bind fun (t_14 : ByteArray) =>
 (app parts [t_14]).bind fun (t_15 : List ByteArray) =>
 some (.inl (t_15, wi64 (t_6 + 1))))
 | .inr r => some r)
 else
 some (.inr (.inl parts))) ([t_5], 0)).bind fun j => match j with
 | .inl parts_1 => (
 (E_strings_Join parts_1 (bytes [59])).bind fun (t_16 : ByteArray) =>
 some (t_16, 0))
 | .inr r => some r
theorem le_trace_ReportOf (c : Dapi_TraceCourse) (r : (List Dapi_TraceReading)) : Lq (E_trace_ReportOf c r) (trace_ReportOf c r) := by
  unfold E_trace_ReportOf trace_ReportOf
  repeat' with_reducible first | exact lq_refl _ | apply le_trace_strip_length | apply le_trace_opened | apply le_trace_course_place | apply le_trace_small | apply le_trace_course_last | apply le_trace_course_openReadings | apply le_strconv_Itoa | apply le_trace_written | apply le_strings_Join | apply le_cat | apply lq_bind | apply lq_loop | apply lq_cond | apply lq_chk | apply lq_map | (refine lq_sumfun (fun _ => ?_) (fun _ => ?_) <;> dsimp only) | (intro _; try dsimp only) | dsimp only
noncomputable def E_b0_Whole (n : Int) : Option (Dapi_Frac) :=
 some (n, 1)
theorem le_b0_Whole (n : Int) : Lq (E_b0_Whole n) (b0_Whole n) := by
  unfold E_b0_Whole b0_Whole
  repeat' with_reducible first | exact lq_refl _ | apply le_cat | apply lq_bind | apply lq_loop | apply lq_cond | apply lq_chk | apply lq_map | (refine lq_sumfun (fun _ => ?_) (fun _ => ?_) <;> dsimp only) | (intro _; try dsimp only) | dsimp only
noncomputable def E_b0_Ints (a : (List Int)) (b : (List Int)) : Option (Bool) :=
 bif ((List.length a : Int) != (List.length b : Int)) then
 some false
 else
 (loopE (S := Int) (R := (Unit) ⊕ (Bool)) (fun i =>
 bif decide (i < (List.length a : Int)) then
 chk (decide ((0 : Int) ≤ i) && decide (i < (List.length a : Int))) (
 chk (decide ((0 : Int) ≤ i) && decide (i < (List.length b : Int))) (
 bif ((lget 0 a i) != (lget 0 b i)) then
 Option.map Sum.inr (Option.map Sum.inr (
 some false))
 else
 some (.inl (wi64 (i + 1)))))
 else
 some (.inr (.inl ()))) 0).bind fun j => match j with
 | .inl _ => (
 some true)
 | .inr r => some r
theorem le_b0_Ints (a : (List Int)) (b : (List Int)) : Lq (E_b0_Ints a b) (b0_Ints a b) := by
  unfold E_b0_Ints b0_Ints
  repeat' with_reducible first | exact lq_refl _ | apply le_cat | apply lq_bind | apply lq_loop | apply lq_cond | apply lq_chk | apply lq_map | (refine lq_sumfun (fun _ => ?_) (fun _ => ?_) <;> dsimp only) | (intro _; try dsimp only) | dsimp only
noncomputable def E_b0_Lists (a : (List (List Int))) (b : (List (List Int))) : Option (Bool) :=
 bif ((List.length a : Int) != (List.length b : Int)) then
 some false
 else
 (loopE (S := Int) (R := (Unit) ⊕ (Bool)) (fun i =>
 bif decide (i < (List.length a : Int)) then
 chk (decide ((0 : Int) ≤ i) && decide (i < (List.length a : Int))) (
 chk (decide ((0 : Int) ≤ i) && decide (i < (List.length b : Int))) (
 (E_b0_Ints (lget [] a i) (lget [] b i)).bind fun (t : Bool) =>
 bif !t then
 Option.map Sum.inr (Option.map Sum.inr (
 some false))
 else
 some (.inl (wi64 (i + 1)))))
 else
 some (.inr (.inl ()))) 0).bind fun j => match j with
 | .inl _ => (
 some true)
 | .inr r => some r
theorem le_b0_Lists (a : (List (List Int))) (b : (List (List Int))) : Lq (E_b0_Lists a b) (b0_Lists a b) := by
  unfold E_b0_Lists b0_Lists
  repeat' with_reducible first | exact lq_refl _ | apply le_b0_Ints | apply le_cat | apply lq_bind | apply lq_loop | apply lq_cond | apply lq_chk | apply lq_map | (refine lq_sumfun (fun _ => ?_) (fun _ => ?_) <;> dsimp only) | (intro _; try dsimp only) | dsimp only
noncomputable def E_l9_awake  : Option (Bool) :=
 (E_l9_Course).bind fun (t : Dapi_TraceCourse) =>
 (E_trace_PlaceOf t (1, (4500, false)) 2).bind fun (r : Dapi_Frac × Int) =>
 (E_l9_Course).bind fun (t_1 : Dapi_TraceCourse) =>
 (E_trace_PiecesOf t_1 3000).bind fun (r_1 : (List Dapi_Span) × Int) =>
 (E_l9_Course).bind fun (t_2 : Dapi_TraceCourse) =>
 (E_l9_Causes).bind fun (t_3 : (List Dapi_TraceCause)) =>
 (E_trace_Explanations t_2 t_3 [(1, (1000, true)), (1, (2000, true))]).bind fun (r_2 : (List (List Int)) × Int) =>
 (E_l9_Course).bind fun (t_4 : Dapi_TraceCourse) =>
 (E_trace_ReportOf t_4 [(1, (500, false))]).bind fun (r_3 : ByteArray × Int) =>
 (bif (r.2 == 0) then
 (E_b0_Whole 3500).bind fun (t_5 : Dapi_Frac) =>
 some (Ty.eqb Tapi_Frac r.1 t_5)
 else some false).bind fun (c : Bool) =>
 (bif ((c && (r_1.2 == 0)) && ((List.length r_1.1 : Int) == 2)) then
 chk (decide ((0 : Int) ≤ 1) && decide (1 < (List.length r_1.1 : Int))) (
 some (Ty.eqb Tapi_Span (lget ((0, 0), (0, 0)) r_1.1 1) ((3500, 3), (4000, 3))))
 else some false).bind fun (c_1 : Bool) =>
 (bif (c_1 && (r_2.2 == 0)) then
 (E_b0_Lists r_2.1 [[1]]).bind fun (t_6 : Bool) =>
 some t_6
 else some false).bind fun (c_2 : Bool) =>
 let t_7 : Bool := ((c_2 && (r_3.2 == 0)) && (seqbE r_3.1 (bytes [115, 49, 32, 52, 48, 48, 48, 59, 49, 32, 53, 48, 48, 32, 53, 48, 48, 47, 51, 32, 45, 32, 110, 111])))
 some t_7
theorem le_l9_awake  : Lq (E_l9_awake ) (l9_awake ) := by
  unfold E_l9_awake l9_awake
  try simp only [seqb_eq]
  repeat' with_reducible first | exact lq_refl _ | apply le_l9_Course | apply le_trace_PlaceOf | apply le_trace_PiecesOf | apply le_l9_Causes | apply le_trace_Explanations | apply le_trace_ReportOf | apply le_b0_Whole | apply le_b0_Lists | apply le_cat | apply lq_bind | apply lq_loop | apply lq_cond | apply lq_chk | apply lq_map | (refine lq_sumfun (fun _ => ?_) (fun _ => ?_) <;> dsimp only) | (intro _; try dsimp only) | dsimp only
end Go.Lift
namespace Go.Lift
open Go
theorem awake_true : l9_awake = some true := le_l9_awake _ (by kernel_rfl)
end Go.Lift
