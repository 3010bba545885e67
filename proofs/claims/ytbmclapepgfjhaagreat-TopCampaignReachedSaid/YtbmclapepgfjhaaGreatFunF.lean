/-
  The functions that the laws of the chapter reach, as plain functions.
-/
import Derived.Test.YtbmclapepgfjhaaGreatLiftJ
import Derived.Lib.Join
import Derived.Lib.ItoaNum
import Derived.Test.YtbmclapepgfjhaaGreatLiftN
set_option linter.unusedSectionVars false
set_option linter.unusedVariables false
set_option linter.unusedSimpArgs false
namespace Go.Lift
open Go
def wi64 (x : Int) : Int := IntKind.i64.wrap x
def bytes (l : List UInt8) : ByteArray := ⟨l.toArray⟩
end Go.Lift
namespace Go.Lift
abbrev z00 : Ty := .pair (.int .i64) (.int .i64)
abbrev z0e : Type := (Int × Int)
abbrev z0a : Ty := .pair (.int .i64) (.pair (.int .i64) z00)
abbrev z02 : Type := (Int × (Int × z0e))
abbrev z0p : Ty := .pair (.int .i64) (.pair (.int .i64) (.pair (.int .i64) (.pair (.int .i64) (.pair (.int .i64) z0a))))
abbrev z0i : Type := (Int × (Int × (Int × (Int × (Int × z02)))))
abbrev z0c : Ty := .pair z0p (.slice z0a)
abbrev z03 : Type := (z0i × (List z02))
abbrev z9j : Ty := .pair (.slice z0a) (.slice (.int .i64))
abbrev z1j : Ty := .pair (.slice (.slice .str)) (.slice .str)
abbrev z4i : Type := ((List (List ByteArray)) × (List ByteArray))
abbrev z07 : Ty := .pair (.slice (.slice .str)) (.pair (.slice .str) (.pair (.slice z00) (.int .i64)))
abbrev z2m : Type := ((List (List ByteArray)) × ((List ByteArray) × ((List z0e) × Int)))
abbrev zbt : Ty := .pair (.int .i64) (.pair (.int .i64) (.pair .bool (.int .u8)))
abbrev z6o : Ty := .pair .str (.int .u64)
noncomputable def z1i (l : (List Int)) : Option (Int) :=
 (z1s (S := Int) (R := (Unit) ⊕ (Int)) (fun t =>
 bif decide (t < (List.length l : Int)) then
 chk (decide ((0 : Int) ≤ t) && decide (t < (List.length l : Int))) (
 bif ((lget 0 l t) != 0) then
 Option.map Sum.inr (Option.map Sum.inr (
 some (lget 0 l t)))
 else
 some (.inl (wi64 (t + 1))))
 else
 some (.inr (.inl ()))) 0).bind fun j => match j with
 | .inl _ => (
 some 0)
 | .inr r => some r
noncomputable def z0d (is : Bool) (e : Int) : Option (Int) :=
 bif is then
 some 0
 else
 some e
noncomputable def z1d (s : (List z02)) (f : (z02 → Option Bool)) : Option (Int) :=
 (z1s (S := Int) (R := (Unit) ⊕ (Int)) (fun t =>
 bif decide (t < (List.length s : Int)) then
 chk (decide ((0 : Int) ≤ t) && decide (t < (List.length s : Int))) (
 (f (lget (0, (0, (0, 0))) s t)).bind fun (t_1 : Bool) =>
 bif t_1 then
 Option.map Sum.inr (Option.map Sum.inr (
 some t))
 else
 some (.inl (wi64 (t + 1))))
 else
 some (.inr (.inl ()))) 0).bind fun j => match j with
 | .inl _ => (
 some (-1))
 | .inr r => some r
noncomputable def z16 (s : (List z02)) (f : (z02 → Option Bool)) : Option (Bool) :=
 (z1d s f).bind fun (t : Int) =>
 some (decide (t ≥ 0))
noncomputable def z0t (n : Int) (lo : Int) (hi : Int) : Option (Bool) :=
 let t : Bool := ((decide (lo ≤ n)) && (decide (n ≤ hi)))
 some t
noncomputable def z5r (n : Int) : Option (Bool) :=
 (z0t n 500 2500).bind fun (t : Bool) =>
 some t
noncomputable def z3u (n : Int) : Option (Bool) :=
 (z0t n 1 300000).bind fun (t : Bool) =>
 some t
noncomputable def z5s (n : Int) : Option (Bool) :=
 (z0t n 1 99).bind fun (t : Bool) =>
 some t
noncomputable def z6m (x : z02) : Option (Bool) :=
 (z5r x.1).bind fun (t : Bool) =>
 (bif !t then some true else
 (z3u x.2.1).bind fun (t_1 : Bool) =>
 some (!t_1)).bind fun (c : Bool) =>
 (bif c then some true else
 (z5s x.2.2.1).bind fun (t_2 : Bool) =>
 some (!t_2)).bind fun (c_1 : Bool) =>
 (bif c_1 then some true else
 (z0t x.2.2.2 1 10000).bind fun (t_3 : Bool) =>
 some (!t_3)).bind fun (c_2 : Bool) =>
 some c_2
noncomputable def z3r (s : (List Int)) (f : (Int → Option Bool)) : Option (Int) :=
 (z1s (S := Int) (R := (Unit) ⊕ (Int)) (fun t =>
 bif decide (t < (List.length s : Int)) then
 chk (decide ((0 : Int) ≤ t) && decide (t < (List.length s : Int))) (
 (f (lget 0 s t)).bind fun (t_1 : Bool) =>
 bif t_1 then
 Option.map Sum.inr (Option.map Sum.inr (
 some t))
 else
 some (.inl (wi64 (t + 1))))
 else
 some (.inr (.inl ()))) 0).bind fun j => match j with
 | .inl _ => (
 some (-1))
 | .inr r => some r
noncomputable def z27 (s : (List Int)) (f : (Int → Option Bool)) : Option (Bool) :=
 (z3r s f).bind fun (t : Int) =>
 some (decide (t ≥ 0))
noncomputable def z2x (n : Int) (x : Int) : Option (Bool) :=
 (z0t n 0 x).bind fun (t : Bool) =>
 some (!t)
noncomputable def z1b (most : Int) (l : (List Int)) : Option (Bool) :=
 (z27 l (fun x => z2x x most)).bind fun (t : Bool) =>
 some (!t)
noncomputable def z4d (r : z0i) : Option (Int) :=
 (z1b 7 [r.1]).bind fun (t : Bool) =>
 (bif t then
 (z1b 300000 [r.2.1, r.2.2.1, r.2.2.2.1]).bind fun (t_1 : Bool) =>
 some t_1
 else some false).bind fun (c : Bool) =>
 (bif c then
 (z1b 99 [r.2.2.2.2.1]).bind fun (t_2 : Bool) =>
 some t_2
 else some false).bind fun (c_1 : Bool) =>
 (bif c_1 then
 (z1b 70000 [r.2.2.2.2.2.1]).bind fun (t_3 : Bool) =>
 some t_3
 else some false).bind fun (c_2 : Bool) =>
 (bif c_2 then
 (z1b 10000 [r.2.2.2.2.2.2.1, r.2.2.2.2.2.2.2.1, r.2.2.2.2.2.2.2.2]).bind fun (t_4 : Bool) =>
 some t_4
 else some false).bind fun (c_3 : Bool) =>
 (z0d c_3 2).bind fun (t_5 : Int) =>
 some t_5
noncomputable def z5l (r : z0i) (l : (List z02)) : Option (z03 × Int) :=
 (z16 l (fun x => z6m x)).bind fun (t : Bool) =>
 (z4d r).bind fun (t_1 : Int) =>
 (z0d (decide ((List.length l : Int) > 0)) 10).bind fun (t_2 : Int) =>
 (z0d (decide ((List.length l : Int) ≤ 7)) 8).bind fun (t_3 : Int) =>
 (z0d (!t) 2).bind fun (t_4 : Int) =>
 (z1i [t_1, t_2, t_3, t_4]).bind fun (t_5 : Int) =>
 some ((r, l), t_5)
noncomputable def z4l (count : Int) : Option ((List Int)) :=
 (z1s (S := (List Int) × Int) (R := (List Int)) (fun s =>
 let out : (List Int) := s.1
 let t : Int := s.2
 bif decide (t < count) then
 (app out [t]).bind fun (t_1 : List Int) =>
 some (.inl (t_1, wi64 (t + 1)))
 else
 some (.inr out)) ([], 0)).bind fun (out_1 : (List Int)) =>
 some out_1
noncomputable def z40 (n : Int) : Option (Int) :=
 let t : Int := imax n (wi64 (0 - n))
 some t
noncomputable def z2a (r : z03) (sequence : (List Int)) (p : Int) : Option ((Nat → Bool)) :=
 chk (decide ((0 : Int) ≤ 0) && decide ((0 : Int) ≤ (wi64 (p + 1))) && decide ((wi64 (p + 1)) ≤ (List.length sequence : Int))) (
 (z1s (S := Int × Int) (R := Int) (fun s =>
 let metres : Int := s.1
 let t : Int := s.2
 bif decide (t < (List.length (List.drop (Int.toNat 0) (List.take (Int.toNat (wi64 (p + 1))) sequence)) : Int)) then
 chk (decide ((0 : Int) ≤ t) && decide (t < (List.length (List.drop (Int.toNat 0) (List.take (Int.toNat (wi64 (p + 1))) sequence)) : Int))) (
 let i : Int := lget 0 (List.drop (Int.toNat 0) (List.take (Int.toNat (wi64 (p + 1))) sequence)) t
 chk (decide ((0 : Int) ≤ i) && decide (i < (List.length r.2 : Int))) (
 let metres_1 : Int := wi64 (metres + ((((lget (0, (0, (0, 0))) r.2 i).2).2).2))
 some (.inl (metres_1, wi64 (t + 1)))))
 else
 some (.inr metres)) (0, 0)).bind fun (metres_2 : Int) =>
 chk (decide ((0 : Int) ≤ 0) && decide ((0 : Int) < 5)) (
 let out : (Nat → Bool) := aset (fun _ => false) 0 (decide (metres_2 > r.1.2.2.2.2.2.1))
 bif (p == 0) then
 some out
 else
 chk (decide ((0 : Int) ≤ p) && decide (p < (List.length sequence : Int))) (
 chk (decide ((0 : Int) ≤ (lget 0 sequence p)) && decide ((lget 0 sequence p) < (List.length r.2 : Int))) (
 chk (decide ((0 : Int) ≤ (wi64 (p - 1))) && decide ((wi64 (p - 1)) < (List.length sequence : Int))) (
 chk (decide ((0 : Int) ≤ (lget 0 sequence (wi64 (p - 1)))) && decide ((lget 0 sequence (wi64 (p - 1))) < (List.length r.2 : Int))) (
 let x : z02 := lget (0, (0, (0, 0))) r.2 (lget 0 sequence p)
 let y : z02 := lget (0, (0, (0, 0))) r.2 (lget 0 sequence (wi64 (p - 1)))
 (bif decide (p < r.1.1) then
 chk (decide ((0 : Int) ≤ 1) && decide ((1 : Int) < 5)) (
 let out_1 : (Nat → Bool) := aset out 1 (decide ((wi64 (x.1 - y.1)) < 0))
 some out_1)
 else
 chk (decide ((0 : Int) ≤ 1) && decide ((1 : Int) < 5)) (
 let out_2 : (Nat → Bool) := aset out 1 (decide ((wi64 (x.1 - y.1)) > 0))
 some out_2)).bind fun (out_3 : (Nat → Bool)) =>
 (z0t (wi64 (x.1 - y.1)) (wi64 (0 - r.1.2.2.1)) r.1.2.1).bind fun (t_1 : Bool) =>
 chk (decide ((0 : Int) ≤ 2) && decide ((2 : Int) < 5)) (
 let out_4 : (Nat → Bool) := aset out_3 2 (!t_1)
 (z40 (wi64 (x.2.1 - y.2.1))).bind fun (t_2 : Int) =>
 chk (decide ((0 : Int) ≤ 3) && decide ((3 : Int) < 5)) (
 let out_5 : (Nat → Bool) := aset out_4 3 (decide (t_2 > r.1.2.2.2.1))
 (z40 (wi64 (x.2.2.1 - y.2.2.1))).bind fun (t_3 : Int) =>
 chk (decide ((0 : Int) ≤ 4) && decide ((4 : Int) < 5)) (
 let out_6 : (Nat → Bool) := aset out_5 4 (decide (t_3 > r.1.2.2.2.2.1))
 some out_6)))))))))
noncomputable def z52 (s : (List Bool)) (v : Bool) : Option (Int) :=
 (z1s (S := Int) (R := (Unit) ⊕ (Int)) (fun t =>
 bif decide (t < (List.length s : Int)) then
 chk (decide ((0 : Int) ≤ t) && decide (t < (List.length s : Int))) (
 bif (v == (lget false s t)) then
 Option.map Sum.inr (Option.map Sum.inr (
 some t))
 else
 some (.inl (wi64 (t + 1))))
 else
 some (.inr (.inl ()))) 0).bind fun j => match j with
 | .inl _ => (
 some (-1))
 | .inr r => some r
noncomputable def z2y (s : (List Bool)) (v : Bool) : Option (Bool) :=
 (z52 s v).bind fun (t : Int) =>
 some (decide (t ≥ 0))
noncomputable def slices_Index_int (s : (List Int)) (v : Int) : Option (Int) :=
 (z1s (S := Int) (R := (Unit) ⊕ (Int)) (fun t =>
 bif decide (t < (List.length s : Int)) then
 chk (decide ((0 : Int) ≤ t) && decide (t < (List.length s : Int))) (
 bif (v == (lget 0 s t)) then
 Option.map Sum.inr (Option.map Sum.inr (
 some t))
 else
 some (.inl (wi64 (t + 1))))
 else
 some (.inr (.inl ()))) 0).bind fun j => match j with
 | .inl _ => (
 some (-1))
 | .inr r => some r
noncomputable def slices_Contains_int (s : (List Int)) (v : Int) : Option (Bool) :=
 (slices_Index_int s v).bind fun (t : Int) =>
 some (decide (t ≥ 0))
def catM {α β : Type} (f : α → Option (List β)) : List α → Option (List β)
 | [] => some []
 | a :: l => (f a).bind fun x => (catM f l).bind fun y => some (x ++ y)
noncomputable def zlf (r : z03) (begun : List Int) : Option Bool :=
 bif decide ((begun.length : Int) > 0) then (z2a r begun (wi64 ((begun.length : Int) - 1))).bind fun v => z2y ((List.range 5).map v) true else some false
noncomputable def zsp (r : z03) (items : List Int) : Nat → List Int → Option (List (List Int))
 | m, begun => (zlf r begun).bind fun bad => bif bad then some [] else bif ((begun.length : Int) == (items.length : Int)) then some [begun] else match m with
  | 0 => none
  | m + 1 => catM (fun i => (slices_Contains_int begun i).bind fun t => bif t then some [] else zsp r items m (begun ++ [i])) items
noncomputable def z1y (r : z03) (items : List Int) : Option (List (List Int)) := bif decide (items.length ≤ 1000) then zsp r items (items.length + 1) [] else none
noncomputable def z39 (r : z03) (a : Int) (b : Int) : Option (Int) :=
 chk (decide ((0 : Int) ≤ a) && decide (a < (List.length r.2 : Int))) (
 chk (decide ((0 : Int) ≤ b) && decide (b < (List.length r.2 : Int))) (
 let x : z02 := lget (0, (0, (0, 0))) r.2 a
 let y : z02 := lget (0, (0, (0, 0))) r.2 b
 (z40 (wi64 (x.1 - y.1))).bind fun (t : Int) =>
 (z40 (wi64 (x.2.1 - y.2.1))).bind fun (t_1 : Int) =>
 (z40 (wi64 (x.2.2.1 - y.2.2.1))).bind fun (t_2 : Int) =>
 let t_3 : Int := wi64 ((wi64 ((wi64 (r.1.2.2.2.2.2.2.1 * t)) + (wi64 (r.1.2.2.2.2.2.2.2.1 * t_1)))) + (wi64 (r.1.2.2.2.2.2.2.2.2 * t_2)))
 some t_3))
noncomputable def z1e (r : z03) (sequence : (List Int)) : Option (Int) :=
 (z1s (S := Int × Int) (R := Int) (fun s =>
 let sum : Int := s.1
 let p : Int := s.2
 bif decide (p < (List.length sequence : Int)) then
 chk (decide ((0 : Int) ≤ (wi64 (p - 1))) && decide ((wi64 (p - 1)) < (List.length sequence : Int))) (
 chk (decide ((0 : Int) ≤ p) && decide (p < (List.length sequence : Int))) (
 (z39 r (lget 0 sequence (wi64 (p - 1))) (lget 0 sequence p)).bind fun (t : Int) =>
 some (.inl (wi64 (sum + t), wi64 (p + 1)))))
 else
 some (.inr sum)) (0, 1)).bind fun (sum_1 : Int) =>
 some sum_1
noncomputable def zzx (x : z03) (s : List Int) (b : Option (List Int × Int)) : Option (Option (List Int × Int)) :=
 (z1e x s).bind fun n => match b with
  | none => some (some (s, n))
  | some c => chk (!c.1.isEmpty) (bif decide (n < c.2) then some (some (s, n)) else some (some c))
noncomputable def zzy (x : z03) : List (List Int) → Option (List Int × Int) → Option (Option (List Int × Int))
 | [], b => some b
 | s :: cs, b => (zzx x s b).bind fun d => zzy x cs d
noncomputable def z5a (r : z0i) (l : List z02) : Option (List Int × Int × Int) :=
 (z5l r l).bind fun x => bif x.2 != 0 then some ([], 0, x.2) else
 (z4l (l.length : Int)).bind fun ns => (z1y x.1 ns).bind fun cs => (zzy x.1 cs none).bind fun b => match b with
 | none => some ([], 0, 12)
 | some c => chk (!c.1.isEmpty) (some (c.1, c.2, 0))
noncomputable def z4o (n : Int) : Option (Bool) :=
 (z0t n (-10000) 10000).bind fun (t : Bool) =>
 some (!t)
noncomputable def z35 (x : List Int) : Option (List Int) := bif decide (x.length ≤ 1000000) then some (x.mergeSort fun a b => decide (a ≤ b)) else none
noncomputable def z43 (x : List Int) : Option (List Int) := bif decide (x.length ≤ 1000000) then some x else none
noncomputable def z4c (r : z03) (prices : (List Int)) : Option (Int) :=
 (z1s (S := (List Int) × Int) (R := Int) (fun s =>
 let in_ : (List Int) := s.1
 let sum : Int := s.2
 bif decide ((List.length in_ : Int) < (List.length r.2 : Int)) then
 (z1s (S := Int × Int × Int) (R := Int × Int) (fun s_1 =>
 let next : Int := s_1.1
 let least : Int := s_1.2.1
 let t : Int := s_1.2.2
 bif decide (t < (List.length in_ : Int)) then
 chk (decide ((0 : Int) ≤ t) && decide (t < (List.length in_ : Int))) (
 (z1s (S := Int × Int × Int) (R := Int × Int) (fun s_2 =>
 let next_1 : Int := s_2.1
 let least_1 : Int := s_2.2.1
 let t_1 : Int := s_2.2.2
 bif decide (t_1 < (List.length r.2 : Int)) then
 (z39 r (lget 0 in_ t) t_1).bind fun (t_2 : Int) =>
 chk (decide ((0 : Int) ≤ (lget 0 in_ t)) && decide ((lget 0 in_ t) < (List.length prices : Int))) (
 chk (decide ((0 : Int) ≤ t_1) && decide (t_1 < (List.length prices : Int))) (
 let n : Int := wi64 ((wi64 (t_2 - (lget 0 prices (lget 0 in_ t)))) - (lget 0 prices t_1))
 (slices_Contains_int in_ t_1).bind fun (t_3 : Bool) =>
 (bif ((!t_3) && ((decide (next_1 < 0)) || (decide (n < least_1)))) then
 some (t_1, n)
 else
 some (next_1, least_1)).bind fun (j : Int × Int) =>
 let next_2 : Int := j.1
 let least_2 : Int := j.2
 some (.inl (next_2, least_2, wi64 (t_1 + 1)))))
 else
 some (.inr (next_1, least_1))) (next, least, 0)).bind fun (b : Int × Int) =>
 let next_3 : Int := b.1
 let least_3 : Int := b.2
 some (.inl (next_3, least_3, wi64 (t + 1))))
 else
 some (.inr (next, least))) ((-1), 0, 0)).bind fun (b_1 : Int × Int) =>
 let next_4 : Int := b_1.1
 let least_4 : Int := b_1.2
 (app in_ [next_4]).bind fun (t_4 : List Int) =>
 let sum_1 : Int := wi64 (sum + least_4)
 some (.inl (t_4, sum_1))
 else
 some (.inr sum)) ([0], 0)).bind fun (sum_2 : Int) =>
 some sum_2
noncomputable def z5t (r : z0i) (l : (List z02)) (prices : (List Int)) : Option (Int × Int) :=
 (z5l r l).bind fun (r_1 : z03 × Int) =>
 (z27 prices (fun x => z4o x)).bind fun (t : Bool) =>
 (z0d ((List.length prices : Int) == (List.length l : Int)) 10).bind fun (t_1 : Int) =>
 (z0d (!t) 2).bind fun (t_2 : Int) =>
 (z1i [r_1.2, t_1, t_2]).bind fun (t_3 : Int) =>
 bif (t_3 != 0) then
 some (0, t_3)
 else
 bif ((List.length l : Int) == 1) then
 some (0, 0)
 else
 (z1s (S := Int × Int) (R := Int) (fun s =>
 let sum : Int := s.1
 let t_4 : Int := s.2
 bif decide (t_4 < (List.length prices : Int)) then
 chk (decide ((0 : Int) ≤ t_4) && decide (t_4 < (List.length prices : Int))) (
 let sum_1 : Int := wi64 (sum + (wi64 (2 * (lget 0 prices t_4))))
 some (.inl (sum_1, wi64 (t_4 + 1))))
 else
 some (.inr sum)) (0, 0)).bind fun (sum_2 : Int) =>
 (z43 prices).bind fun (t_5 : (List Int)) =>
 (z35 t_5).bind fun (t_6 : (List Int)) =>
 chk (decide ((0 : Int) ≤ (wi64 ((List.length t_6 : Int) - 2))) && decide (((wi64 ((List.length t_6 : Int) - 2)) : Int) ≤ (List.length t_6 : Int)) && decide ((List.length t_6 : Int) ≤ (List.length t_6 : Int))) (
 let top : (List Int) := List.drop (Int.toNat (wi64 ((List.length t_6 : Int) - 2))) (List.take (Int.toNat (List.length t_6 : Int)) t_6)
 (z4c r_1.1 prices).bind fun (t_7 : Int) =>
 chk (decide ((0 : Int) ≤ 0) && decide (0 < (List.length top : Int))) (
 chk (decide ((0 : Int) ≤ 1) && decide (1 < (List.length top : Int))) (
 let t_8 : Int := wi64 ((wi64 ((wi64 (t_7 + sum_2)) - (lget 0 top 0))) - (lget 0 top 1))
 some (t_8, 0))))
noncomputable def zph (a : (List Int)) (b : (List Int)) : Option (Bool) :=
 bif ((List.length a : Int) != (List.length b : Int)) then
 some false
 else
 (z1s (S := Int) (R := (Unit) ⊕ (Bool)) (fun i =>
 bif decide (i < (List.length a : Int)) then
 chk (decide ((0 : Int) ≤ i) && decide (i < (List.length a : Int))) (
 chk (decide ((0 : Int) ≤ i) && decide (i < (List.length b : Int))) (
 bif ((lget 0 a i) != (lget 0 b i)) then
 Option.map Sum.inr (Option.map Sum.inr (
 some false))
 else
 some (.inl (wi64 (i + 1)))))
 else
 some (.inr (.inl ()))) 0).bind fun j => match j with
 | .inl _ => (
 some true)
 | .inr r => some r
noncomputable def slices_Clone_string (x : List ByteArray) : Option (List ByteArray) := app [] x
noncomputable def z25 (y : (List (List ByteArray))) : Option ((List (List ByteArray))) :=
 (z1s (S := (List (List ByteArray)) × Int) (R := (List (List ByteArray))) (fun s =>
 let out : (List (List ByteArray)) := s.1
 let t : Int := s.2
 bif decide (t < (List.length y : Int)) then
 chk (decide ((0 : Int) ≤ t) && decide (t < (List.length y : Int))) (
 (slices_Clone_string (lget [] y t)).bind fun (t_1 : (List ByteArray)) =>
 (app out [t_1]).bind fun (t_2 : List (List ByteArray)) =>
 some (.inl (t_2, wi64 (t + 1))))
 else
 some (.inr out)) ([], 0)).bind fun (out_1 : (List (List ByteArray))) =>
 some out_1
noncomputable def z3i (s : ByteArray) : Option (Bool) :=
 (z1s (S := Int) (R := (Unit) ⊕ (Bool)) (fun t =>
 bif decide (t < (List.length (z2u s) : Int)) then
 chk (decide ((0 : Int) ≤ t) && decide (t < (List.length (z2u s) : Int))) (
 let c : Int := lget 0 (z2u s) t
 (z0t (wi64 c) 97 122).bind fun (t_1 : Bool) =>
 (bif t_1 then some true else
 (z0t (wi64 c) 65 90).bind fun (t_2 : Bool) =>
 some t_2).bind fun (c_1 : Bool) =>
 (bif !c_1 then
 (bif (t == 0) then some true else
 (bif (c != 45) then
 (z0t (wi64 c) 48 57).bind fun (t_3 : Bool) =>
 some (!t_3)
 else some false).bind fun (c_2 : Bool) =>
 some c_2).bind fun (c_3 : Bool) =>
 some c_3
 else some false).bind fun (c_4 : Bool) =>
 bif c_4 then
 Option.map Sum.inr (Option.map Sum.inr (
 some false))
 else
 some (.inl (wi64 (t + 1))))
 else
 some (.inr (.inl ()))) 0).bind fun j => match j with
 | .inl _ => (
 (z0t (ByteArray.size s : Int) 1 12).bind fun (t_4 : Bool) =>
 some t_4)
 | .inr r => some r
noncomputable def z15 (y : (List (List ByteArray))) : Option (Int × Int) :=
 (z0d (decide ((List.length y : Int) > 0)) 10).bind fun (t : Int) =>
 (z0d (decide ((List.length y : Int) ≤ 4)) 8).bind fun (t_1 : Int) =>
 (z1i [t, t_1]).bind fun (t_2 : Int) =>
 bif (t_2 != 0) then
 some (0, t_2)
 else
 (z1s (S := Int × (List (ByteArray × Bool))) (R := ((List (ByteArray × Bool))) ⊕ (Int × Int)) (fun s =>
 let t_3 : Int := s.1
 let t_4 : (List (ByteArray × Bool)) := s.2
 bif decide (t_3 < (List.length y : Int)) then
 chk (decide ((0 : Int) ≤ t_3) && decide (t_3 < (List.length y : Int))) (
 bif decide ((List.length (lget [] y t_3) : Int) > 6) then
 Option.map Sum.inr (Option.map Sum.inr (
 some (t_3, 8)))
 else
 (z1s (S := Int × (List (ByteArray × Bool))) (R := ((List (ByteArray × Bool))) ⊕ ((Int × (List (ByteArray × Bool))) ⊕ (((List (ByteArray × Bool))) ⊕ (Int × Int)))) (fun s_1 =>
 let t_5 : Int := s_1.1
 let t_6 : (List (ByteArray × Bool)) := s_1.2
 bif decide (t_5 < (List.length (lget [] y t_3) : Int)) then
 chk (decide ((0 : Int) ≤ t_5) && decide (t_5 < (List.length (lget [] y t_3) : Int))) (
 let name : ByteArray := lget ByteArray.empty (lget [] y t_3) t_5
 (z3i name).bind fun (t_7 : Bool) =>
 (z0d t_7 4).bind fun (t_8 : Int) =>
 (z0d (!(mget .str .bool t_6 name)) 5).bind fun (t_9 : Int) =>
 (z1i [t_8, t_9]).bind fun (t_10 : Int) =>
 bif (t_10 != 0) then
 Option.map Sum.inr (Option.map Sum.inr (
 Option.map Sum.inr (Option.map Sum.inr (
 some (t_3, t_10)))))
 else
 let t_11 : (List (ByteArray × Bool)) := mput .str .bool t_6 name true
 some (.inl (wi64 (t_5 + 1), t_11)))
 else
 some (.inr (.inl t_6))) (0, t_4)).bind fun j => match j with
 | .inl t_12 => (
 some (.inl (wi64 (t_3 + 1), t_12)))
 | .inr r => some r)
 else
 some (.inr (.inl t_4))) (0, [])).bind fun j => match j with
 | .inl t_13 => (
 (z0d (decide ((List.length t_13 : Int) ≤ 8)) 8).bind fun (t_14 : Int) =>
 some (0, t_14))
 | .inr r => some r
noncomputable def z2b (y : (List (List ByteArray))) : Option ((List (List ByteArray)) × Int) :=
 (z15 y).bind fun (r : Int × Int) =>
 (z25 y).bind fun (t : (List (List ByteArray))) =>
 some (t, r.2)
noncomputable def z26 (s : (List (List ByteArray))) (f : ((List ByteArray) → Option Bool)) : Option (Int) :=
 (z1s (S := Int) (R := (Unit) ⊕ (Int)) (fun t =>
 bif decide (t < (List.length s : Int)) then
 chk (decide ((0 : Int) ≤ t) && decide (t < (List.length s : Int))) (
 (f (lget [] s t)).bind fun (t_1 : Bool) =>
 bif t_1 then
 Option.map Sum.inr (Option.map Sum.inr (
 some t))
 else
 some (.inl (wi64 (t + 1))))
 else
 some (.inr (.inl ()))) 0).bind fun j => match j with
 | .inl _ => (
 some (-1))
 | .inr r => some r
noncomputable def z0y (s : (List (List ByteArray))) (f : ((List ByteArray) → Option Bool)) : Option (Bool) :=
 (z26 s f).bind fun (t : Int) =>
 some (decide (t ≥ 0))
noncomputable def slices_Index_string (s : (List ByteArray)) (v : ByteArray) : Option (Int) :=
 (z1s (S := Int) (R := (Unit) ⊕ (Int)) (fun t =>
 bif decide (t < (List.length s : Int)) then
 chk (decide ((0 : Int) ≤ t) && decide (t < (List.length s : Int))) (
 bif seqb v (lget ByteArray.empty s t) then
 Option.map Sum.inr (Option.map Sum.inr (
 some t))
 else
 some (.inl (wi64 (t + 1))))
 else
 some (.inr (.inl ()))) 0).bind fun j => match j with
 | .inl _ => (
 some (-1))
 | .inr r => some r
noncomputable def slices_Contains_string (s : (List ByteArray)) (v : ByteArray) : Option (Bool) :=
 (slices_Index_string s v).bind fun (t : Int) =>
 some (decide (t ≥ 0))
noncomputable def z1q (pile : (List ByteArray)) (x : ByteArray) : Option (Bool) :=
 (slices_Contains_string pile x).bind fun (t : Bool) =>
 some t
noncomputable def z1f (y : (List (List ByteArray))) (request : (List ByteArray)) : Option ((List (List ByteArray)) × Int) :=
 (z2b y).bind fun (r : (List (List ByteArray)) × Int) =>
 bif (r.2 != 0) then
 some ([], r.2)
 else
 (z1s (S := Int) (R := (Unit) ⊕ ((List (List ByteArray)) × Int)) (fun t =>
 bif decide (t < (List.length request : Int)) then
 chk (decide ((0 : Int) ≤ t) && decide (t < (List.length request : Int))) (
 let name : ByteArray := lget ByteArray.empty request t
 (z0y y (fun x => z1q x name)).bind fun (t_1 : Bool) =>
 (z0d (!(!t_1)) 6).bind fun (t_2 : Int) =>
 chk (decide ((0 : Int) ≤ 0) && decide ((0 : Int) ≤ t) && decide (t ≤ (List.length request : Int))) (
 (slices_Contains_string (List.drop (Int.toNat 0) (List.take (Int.toNat t) request)) name).bind fun (t_3 : Bool) =>
 (z0d (!t_3) 23).bind fun (t_4 : Int) =>
 (z1i [t_2, t_4]).bind fun (t_5 : Int) =>
 bif (t_5 != 0) then
 Option.map Sum.inr (Option.map Sum.inr (
 some ([], t_5)))
 else
 some (.inl (wi64 (t + 1)))))
 else
 some (.inr (.inl ()))) 0).bind fun j => match j with
 | .inl _ => (
 some (r.1, 0))
 | .inr r => some r
noncomputable def z1g (s : (List ByteArray)) (f : (ByteArray → Option Bool)) : Option (Int) :=
 (z1s (S := Int) (R := (Unit) ⊕ (Int)) (fun t =>
 bif decide (t < (List.length s : Int)) then
 chk (decide ((0 : Int) ≤ t) && decide (t < (List.length s : Int))) (
 (f (lget ByteArray.empty s t)).bind fun (t_1 : Bool) =>
 bif t_1 then
 Option.map Sum.inr (Option.map Sum.inr (
 some t))
 else
 some (.inl (wi64 (t + 1))))
 else
 some (.inr (.inl ()))) 0).bind fun j => match j with
 | .inl _ => (
 some (-1))
 | .inr r => some r
noncomputable def z0j (s : (List ByteArray)) (f : (ByteArray → Option Bool)) : Option (Bool) :=
 (z1g s f).bind fun (t : Int) =>
 some (decide (t ≥ 0))
noncomputable def z5x (request : (List ByteArray)) (name : ByteArray) (than : ByteArray) : Option (Bool) :=
 (slices_Index_string request name).bind fun (t : Int) =>
 (bif decide (t < 0) then some true else
 (slices_Index_string request than).bind fun (t_1 : Int) =>
 some (decide (t > t_1))).bind fun (c : Bool) =>
 some c
noncomputable def z0x (below : ByteArray) (x : (List ByteArray)) (x_1 : ByteArray) : Option (Bool) :=
 (slices_Contains_string x below).bind fun (t : Bool) =>
 (bif t then
 (z5x x x_1 below).bind fun (t_1 : Bool) =>
 some t_1
 else some false).bind fun (c : Bool) =>
 some c
noncomputable def z19 (y : (List (List ByteArray))) (request : (List ByteArray)) : Option ((List ByteArray)) :=
 (z1s (S := (List ByteArray) × Int) (R := (List ByteArray)) (fun s =>
 let out : (List ByteArray) := s.1
 let t : Int := s.2
 bif decide (t < (List.length y : Int)) then
 chk (decide ((0 : Int) ≤ t) && decide (t < (List.length y : Int))) (
 (z1s (S := (List ByteArray) × Int) (R := (List ByteArray)) (fun s_1 =>
 let out_1 : (List ByteArray) := s_1.1
 let t_1 : Int := s_1.2
 bif decide (t_1 < (List.length (lget [] y t) : Int)) then
 chk (decide ((0 : Int) ≤ t_1) && decide (t_1 < (List.length (lget [] y t) : Int))) (
 let name : ByteArray := lget ByteArray.empty (lget [] y t) t_1
 chk (decide ((0 : Int) ≤ 0) && decide ((0 : Int) ≤ t_1) && decide (t_1 ≤ (List.length (lget [] y t) : Int))) (
 (z0j (List.drop (Int.toNat 0) (List.take (Int.toNat t_1) (lget [] y t))) (fun x => z0x x request name)).bind fun (t_2 : Bool) =>
 (bif t_2 then
 (app out_1 [name]).bind fun (t_3 : List ByteArray) =>
 some t_3
 else
 some out_1).bind fun (out_2 : (List ByteArray)) =>
 some (.inl (out_2, wi64 (t_1 + 1)))))
 else
 some (.inr out_1)) (out, 0)).bind fun (out_3 : (List ByteArray)) =>
 some (.inl (out_3, wi64 (t + 1))))
 else
 some (.inr out)) ([], 0)).bind fun (out_4 : (List ByteArray)) =>
 some out_4
noncomputable def z2i (y : (List (List ByteArray))) (request : (List ByteArray)) : Option ((List ByteArray) × Int) :=
 (z1f y request).bind fun (r : (List (List ByteArray)) × Int) =>
 bif (r.2 != 0) then
 some ([], r.2)
 else
 (z19 r.1 request).bind fun (t : (List ByteArray)) =>
 some (t, 0)
noncomputable def zlg (a : (List ByteArray)) (b : (List ByteArray)) : Option (Bool) :=
 bif ((List.length a : Int) != (List.length b : Int)) then
 some false
 else
 (z1s (S := Int) (R := (Unit) ⊕ (Bool)) (fun i =>
 bif decide (i < (List.length a : Int)) then
 chk (decide ((0 : Int) ≤ i) && decide (i < (List.length a : Int))) (
 chk (decide ((0 : Int) ≤ i) && decide (i < (List.length b : Int))) (
 bif !seqb (lget ByteArray.empty a i) (lget ByteArray.empty b i) then
 Option.map Sum.inr (Option.map Sum.inr (
 some false))
 else
 some (.inl (wi64 (i + 1)))))
 else
 some (.inr (.inl ()))) 0).bind fun j => match j with
 | .inl _ => (
 some true)
 | .inr r => some r
noncomputable def z1l  : Option (Bool) :=
 let l : (List z02) := [(1200, (3000, (5, 1000))), (1100, (2500, (4, 1000))), (1050, (3400, (6, 2000)))]
 (z5a (2, (100, (150, (1000, (2, (5000, (1, (0, 10)))))))) l).bind fun (r : (List Int) × Int × Int) =>
 (z5t (2, (100, (150, (1000, (2, (5000, (1, (0, 10)))))))) l [0, 20, 0]).bind fun (r_1 : Int × Int) =>
 (z2i [[(bytes [97]), (bytes [98]), (bytes [99])], [(bytes [100])], []] [(bytes [97])]).bind fun (r_2 : (List ByteArray) × Int) =>
 (bif (r.2.2 == 0) then
 (zph r.1 [1, 0, 2]).bind fun (t : Bool) =>
 some t
 else some false).bind fun (c : Bool) =>
 (bif ((((c && (r.2.1 == 270)) && (r_1.2 == 0)) && (r_1.1 == 160)) && (r_2.2 == 0)) then
 (zlg r_2.1 [(bytes [98]), (bytes [99])]).bind fun (t_1 : Bool) =>
 some t_1
 else some false).bind fun (c_1 : Bool) =>
 some c_1
noncomputable def z47 (l : (List ByteArray)) (s : ByteArray) : Option (Bool) :=
 (z1s (S := Int) (R := (Unit) ⊕ (Bool)) (fun i =>
 bif decide (i < (List.length l : Int)) then
 chk (decide ((0 : Int) ≤ i) && decide (i < (List.length l : Int))) (
 bif seqb (lget ByteArray.empty l i) s then
 Option.map Sum.inr (Option.map Sum.inr (
 some true))
 else
 some (.inl (wi64 (i + 1))))
 else
 some (.inr (.inl ()))) 0).bind fun j => match j with
 | .inl _ => (
 some false)
 | .inr r => some r
noncomputable def zcx (s : ByteArray) : Option (Bool) :=
 bif ((decide ((ByteArray.size s : Int) < 1)) || (decide ((ByteArray.size s : Int) > 12))) then
 some false
 else
 (z1s (S := Int) (R := (Unit) ⊕ (Bool)) (fun i =>
 bif decide (i < (ByteArray.size s : Int)) then
 chk (decide ((0 : Int) ≤ i) && decide (i < (ByteArray.size s : Int))) (
 let letter : Bool := (((decide ((sget s i) ≥ 97)) && (decide ((sget s i) ≤ 122))) || ((decide ((sget s i) ≥ 65)) && (decide ((sget s i) ≤ 90))))
 bif ((!letter) && ((i == 0) || (((sget s i) != 45) && ((decide ((sget s i) < 48)) || (decide ((sget s i) > 57)))))) then
 Option.map Sum.inr (Option.map Sum.inr (
 some false))
 else
 some (.inl (wi64 (i + 1))))
 else
 some (.inr (.inl ()))) 0).bind fun j => match j with
 | .inl _ => (
 some true)
 | .inr r => some r
noncomputable def z6i (y : (List (List ByteArray))) : Option (Int × Int) :=
 bif ((List.length y : Int) == 0) then
 some (0, 10)
 else
 bif decide ((List.length y : Int) > 4) then
 some (0, 8)
 else
 (z1s (S := (List ByteArray) × Int) (R := ((List ByteArray)) ⊕ (Int × Int)) (fun s =>
 let all : (List ByteArray) := s.1
 let i : Int := s.2
 bif decide (i < (List.length y : Int)) then
 chk (decide ((0 : Int) ≤ i) && decide (i < (List.length y : Int))) (
 bif decide ((List.length (lget [] y i) : Int) > 6) then
 Option.map Sum.inr (Option.map Sum.inr (
 some (i, 8)))
 else
 (z1s (S := (List ByteArray) × Int) (R := ((List ByteArray)) ⊕ (((List ByteArray) × Int) ⊕ (((List ByteArray)) ⊕ (Int × Int)))) (fun s_1 =>
 let all_1 : (List ByteArray) := s_1.1
 let k : Int := s_1.2
 chk (decide ((0 : Int) ≤ i) && decide (i < (List.length y : Int))) (
 bif decide (k < (List.length (lget [] y i) : Int)) then
 chk (decide ((0 : Int) ≤ i) && decide (i < (List.length y : Int))) (
 chk (decide ((0 : Int) ≤ k) && decide (k < (List.length (lget [] y i) : Int))) (
 (zcx (lget ByteArray.empty (lget [] y i) k)).bind fun (t : Bool) =>
 bif !t then
 Option.map Sum.inr (Option.map Sum.inr (
 Option.map Sum.inr (Option.map Sum.inr (
 some (i, 4)))))
 else
 chk (decide ((0 : Int) ≤ i) && decide (i < (List.length y : Int))) (
 chk (decide ((0 : Int) ≤ k) && decide (k < (List.length (lget [] y i) : Int))) (
 (z47 all_1 (lget ByteArray.empty (lget [] y i) k)).bind fun (t_1 : Bool) =>
 bif t_1 then
 Option.map Sum.inr (Option.map Sum.inr (
 Option.map Sum.inr (Option.map Sum.inr (
 some (i, 5)))))
 else
 chk (decide ((0 : Int) ≤ i) && decide (i < (List.length y : Int))) (
 chk (decide ((0 : Int) ≤ k) && decide (k < (List.length (lget [] y i) : Int))) (
 (app all_1 [lget ByteArray.empty (lget [] y i) k]).bind fun (t_2 : List ByteArray) =>
 some (.inl (t_2, wi64 (k + 1)))))))))
 else
 some (.inr (.inl all_1)))) (all, 0)).bind fun j => match j with
 | .inl all_2 => (
 some (.inl (all_2, wi64 (i + 1))))
 | .inr r => some r)
 else
 some (.inr (.inl all))) ([], 0)).bind fun j => match j with
 | .inl all_3 => (
 bif decide ((List.length all_3 : Int) > 8) then
 some (0, 8)
 else
 some (0, 0))
 | .inr r => some r
noncomputable def z8o (y : (List (List ByteArray))) : Option (Int) :=
 (z6i y).bind fun (r : Int × Int) =>
 some r.2
noncomputable def z95 (y : (List (List ByteArray))) (request : (List ByteArray)) : Option (Int) :=
 (z1s (S := Int) (R := (Unit) ⊕ (Int)) (fun i =>
 bif decide (i < (List.length request : Int)) then
 (z1s (S := Bool × Int) (R := Bool) (fun s =>
 let found : Bool := s.1
 let k : Int := s.2
 bif decide (k < (List.length y : Int)) then
 (bif found then some true else
 chk (decide ((0 : Int) ≤ k) && decide (k < (List.length y : Int))) (
 chk (decide ((0 : Int) ≤ i) && decide (i < (List.length request : Int))) (
 (z47 (lget [] y k) (lget ByteArray.empty request i)).bind fun (t : Bool) =>
 some t))).bind fun (c : Bool) =>
 some (.inl (c, wi64 (k + 1)))
 else
 some (.inr found)) (false, 0)).bind fun (found_1 : Bool) =>
 bif !found_1 then
 Option.map Sum.inr (Option.map Sum.inr (
 some 6))
 else
 chk (decide ((0 : Int) ≤ 0) && decide ((0 : Int) ≤ i) && decide (i ≤ (List.length request : Int))) (
 chk (decide ((0 : Int) ≤ i) && decide (i < (List.length request : Int))) (
 (z47 (List.drop (Int.toNat 0) (List.take (Int.toNat i) request)) (lget ByteArray.empty request i)).bind fun (t_1 : Bool) =>
 bif t_1 then
 Option.map Sum.inr (Option.map Sum.inr (
 some 23))
 else
 some (.inl (wi64 (i + 1)))))
 else
 some (.inr (.inl ()))) 0).bind fun j => match j with
 | .inl _ => (
 some 0)
 | .inr r => some r
noncomputable def z1k (y : (List (List ByteArray))) : Option (Int) :=
 (z1s (S := Int × Int) (R := Int) (fun s =>
 let n : Int := s.1
 let i : Int := s.2
 bif decide (i < (List.length y : Int)) then
 chk (decide ((0 : Int) ≤ i) && decide (i < (List.length y : Int))) (
 let n_1 : Int := wi64 (n + (List.length (lget [] y i) : Int))
 some (.inl (n_1, wi64 (i + 1))))
 else
 some (.inr n)) (0, 0)).bind fun (n_2 : Int) =>
 some n_2
noncomputable def z2w (n : Int) (x : (List (List ByteArray))) : Option (Bool) :=
 (z0t n 0 (wi64 ((List.length x : Int) - 1))).bind fun (t : Bool) =>
 some t
noncomputable def z0w (y : (List (List ByteArray))) (m : z0e) : Option (Int) :=
 (z2w m.1 y).bind fun (t : Bool) =>
 (bif !t then some true else
 (z2w m.2 y).bind fun (t_1 : Bool) =>
 some ((!t_1) && (m.2 != (-1)))).bind fun (c : Bool) =>
 bif c then
 some 6
 else
 chk (decide ((0 : Int) ≤ m.1) && decide (m.1 < (List.length y : Int))) (
 (z0d (decide ((List.length (lget [] y m.1) : Int) > 0)) 11).bind fun (t_2 : Int) =>
 (z0d (m.1 != m.2) 3).bind fun (t_3 : Int) =>
 (bif (m.2 == (-1)) then some true else
 chk (decide ((0 : Int) ≤ (imax m.2 0)) && decide ((imax m.2 0) < (List.length y : Int))) (
 some (decide ((List.length (lget [] y (imax m.2 0)) : Int) < 6)))).bind fun (c_1 : Bool) =>
 (z0d c_1 16).bind fun (t_4 : Int) =>
 (z1i [t_2, t_3, t_4]).bind fun (t_5 : Int) =>
 some t_5)
noncomputable def zbl (y : List (List ByteArray)) (m : Int × Int) : Option (List (List ByteArray)) :=
 let p := lget [] y m.1
 let y1 := lset y m.1 (p.take (p.length - 1))
 bif m.2 != -1 then (app (lget [] y1 m.2) [lget ByteArray.empty p ((p.length : Int) - 1)]).bind fun q => some (lset y1 m.2 q) else some y1
def zc9 (y : List (List ByteArray)) : Bool := decide (y.length ≤ 1000) && y.all fun p => decide (p.length ≤ 999)
noncomputable def z4t (y : List (List ByteArray)) (m : Int × Int) : Option (List (List ByteArray) × Int) :=
 bif zc9 y then (z15 y).bind fun r => (bif r.2 == 0 then z0w y m else some r.2).bind fun e =>
 bif e != 0 then some ([], e) else (zbl y m).bind fun n => some (n, 0) else none
abbrev z2c := List (List ByteArray) × List ByteArray × List (Int × Int) × Int
def zqn (n : z2c) (m : Int × Int) : Bool :=
 decide (0 ≤ m.1) && decide (m.1 < (n.1.length : Int)) && decide (0 < (lget [] n.1 m.1).length) && (bif m.2 == -1 then decide (0 < n.2.1.length) else decide (0 ≤ m.2) && decide (m.2 < (n.1.length : Int)) && (m.2 != m.1)) && decide (n.1.length ≤ 1000) && n.1.all (fun p => decide (p.length ≤ 999)) && decide (n.2.2.1.length ≤ 1000000)
noncomputable def z0l (n : z2c) (m : Int × Int) : Option z2c :=
 bif zqn n m then (zbl n.1 m).bind fun y => some (y, bif m.2 == -1 then n.2.1.drop 1 else n.2.1, n.2.2.1 ++ [m], bif m.2 == -1 then n.2.2.2 else wi64 (n.2.2.2 + 1)) else none
def zj7 (y : List (List ByteArray)) (x : ByteArray) : Option Nat := y.findIdx? fun p => bif decide (0 < p.length) then seqb (p.getD (p.length - 1) ByteArray.empty) x else false
noncomputable def zbh : Nat → z2c → Option z2c
 | 0, n => some n
 | k + 1, n => match n.2.1 with
 | [] => some n
 | x :: _ => match zj7 n.1 x with
 | none => some n
 | some i => (z0l n ((i : Int), -1)).bind fun t => zbh k t
noncomputable def z3a (n : z2c) : Option z2c := bif zc9 n.1 && decide (n.2.1.length ≤ 1000) then zbh n.2.1.length n else none
noncomputable def strings_Join (l : List ByteArray) (s : ByteArray) : Option ByteArray :=
 bif decide (l.length ≤ 4294967296) && decide ((Lib.join (l.map (·.data.toList)) s.data.toList).length ≤ 4294967296) then some ⟨(Lib.join (l.map (·.data.toList)) s.data.toList).toArray⟩ else none
noncomputable def z3b (n : z2m) : Option (ByteArray) :=
 (z1s (S := (List ByteArray) × Int) (R := (List ByteArray)) (fun s =>
 let w : (List ByteArray) := s.1
 let t : Int := s.2
 bif decide (t < (List.length n.1 : Int)) then
 chk (decide ((0 : Int) ≤ t) && decide (t < (List.length n.1 : Int))) (
 (strings_Join (lget [] n.1 t) (bytes [32])).bind fun (t_1 : ByteArray) =>
 (app w [t_1]).bind fun (t_2 : List ByteArray) =>
 some (.inl (t_2, wi64 (t + 1))))
 else
 some (.inr w)) ([], 0)).bind fun (w_1 : (List ByteArray)) =>
 (strings_Join w_1 (bytes [47])).bind fun (t_3 : ByteArray) =>
 some t_3
def ziy (k : Nat) : List (Int × Int) := (List.range k).flatMap fun (a : Nat) => (List.range k).map fun (b : Nat) => ((a : Int), (b : Int))
noncomputable def z8b (y : List (List ByteArray)) : List (Int × Int) → Option (List (Int × Int))
 | [] => some []
 | m :: l => (z0w y m).bind fun e => (z8b y l).bind fun r => some (bif e == 0 then m :: r else r)
noncomputable def zqq (y : List (List ByteArray)) : Option (List (Int × Int)) := bif decide (y.length ≤ 1000) then z8b y (ziy y.length) else none
abbrev PutL := List (Int × z2c)
noncomputable def putN (ps : PutL) (n : z2c) : Option PutL :=
 (z3a n).bind fun t => (z19 t.1 t.2.1).bind fun b => bif decide (0 ≤ t.2.2.2) && decide (t.2.2.2 ≤ 4294967296) && decide (ps.length ≤ 100000000) && decide (b.length ≤ 1000000) then some (ps ++ [(t.2.2.2 + (b.length : Int), t)]) else none
noncomputable def zco (n : z2c) : List (Int × Int) → PutL → Option PutL
 | [], ps => some ps
 | m :: l, ps => (z0l n m).bind fun t => (putN ps t).bind fun qs => zco n l qs
def z2j (ps : PutL) (k : Int) : List z2c := (ps.filter fun e => e.1 == k).map fun e => e.2
def zau (ps : PutL) : Int := ps.foldl (fun m e => max m e.1) 0
inductive zf7 (k : Int) : Nat → PutL → List ByteArray → Nat → (PutL × List ByteArray) ⊕ List (Int × Int) → Prop where
 | stop {N : Nat} {ps : PutL} {done : List ByteArray} {i : Nat} : (z2j ps k).length ≤ i → zf7 k N ps done i (.inl (ps, done))
 | goal {N : Nat} {ps : PutL} {done : List ByteArray} {i : Nat} {n : z2c} : (z2j ps k)[i]? = some n → n.2.1 = [] → zf7 k N ps done i (.inr n.2.2.1)
 | skip {N : Nat} {ps : PutL} {done : List ByteArray} {i : Nat} {n : z2c} {s : ByteArray} {r : (PutL × List ByteArray) ⊕ List (Int × Int)} : (z2j ps k)[i]? = some n → n.2.1 ≠ [] → z3b n = some s → s ∈ done → zf7 k N ps done (i + 1) r → zf7 k (N + 1) ps done i r
 | turn {N : Nat} {ps qs : PutL} {done : List ByteArray} {i : Nat} {n : z2c} {s : ByteArray} {ms : List (Int × Int)} {r : (PutL × List ByteArray) ⊕ List (Int × Int)} : (z2j ps k)[i]? = some n → n.2.1 ≠ [] → z3b n = some s → s ∉ done → done.length ≤ 100000000 → zqq n.1 = some ms → zco n ms ps = some qs → zf7 k N qs (s :: done) (i + 1) r → zf7 k (N + 1) ps done i r
inductive zhr : Nat → PutL → List ByteArray → Nat → List (Int × Int) × Bool → Prop where
 | stop {N : Nat} {ps : PutL} {done : List ByteArray} {k : Nat} : zau ps < (k : Int) → zhr N ps done k ([], false)
 | goal {N K : Nat} {ps : PutL} {done : List ByteArray} {k : Nat} {l : List (Int × Int)} : (k : Int) ≤ zau ps → zf7 (k : Int) K ps done 0 (.inr l) → zhr N ps done k (l, true)
 | next {N K : Nat} {ps qs : PutL} {done done' : List ByteArray} {k : Nat} {r : List (Int × Int) × Bool} : (k : Int) ≤ zau ps → zf7 (k : Int) K ps done 0 (.inl (qs, done')) → zhr N qs done' (k + 1) r → zhr (N + 1) ps done k r
def zsv (y : List (List ByteArray)) (request : List ByteArray) (r : List (Int × Int) × Bool) : Prop := ∃ ps N, putN [] (y, request, [], 0) = some ps ∧ zhr N ps [] 0 r
open Classical in
noncomputable def z6z (y : List (List ByteArray)) (request : List ByteArray) : Option (List (Int × Int) × Bool) := if h : ∃ r, zsv y request r then some (Classical.choose h) else none
noncomputable def z2z (y : (List (List ByteArray))) (request : (List ByteArray)) : Option ((List z0e) × Int) :=
 (z1f y request).bind fun (r : (List (List ByteArray)) × Int) =>
 bif (r.2 != 0) then
 some ([], r.2)
 else
 (z6z r.1 request).bind fun (r_1 : (List z0e) × Bool) =>
 (z0d r_1.2 12).bind fun (t : Int) =>
 some (r_1.1, t)
noncomputable def z30 (l : (List ByteArray)) : Option ((List ByteArray)) :=
 (app [] l).bind fun (t : List ByteArray) =>
 some t
noncomputable def z4a (y : (List (List ByteArray))) : Option ((List (List ByteArray))) :=
 (z1s (S := (List (List ByteArray)) × Int) (R := (List (List ByteArray))) (fun s =>
 let out : (List (List ByteArray)) := s.1
 let i : Int := s.2
 bif decide (i < (List.length y : Int)) then
 chk (decide ((0 : Int) ≤ i) && decide (i < (List.length y : Int))) (
 (z30 (lget [] y i)).bind fun (t : (List ByteArray)) =>
 (app out [t]).bind fun (t_1 : List (List ByteArray)) =>
 some (.inl (t_1, wi64 (i + 1))))
 else
 some (.inr out)) ([], 0)).bind fun (out_1 : (List (List ByteArray))) =>
 some out_1
noncomputable def z45 (y : (List (List ByteArray))) (pile : Int) : Option (ByteArray) :=
 chk (decide ((0 : Int) ≤ pile) && decide (pile < (List.length y : Int))) (
 chk (decide ((0 : Int) ≤ pile) && decide (pile < (List.length y : Int))) (
 chk (decide ((0 : Int) ≤ (wi64 ((List.length (lget [] y pile) : Int) - 1))) && decide ((wi64 ((List.length (lget [] y pile) : Int) - 1)) < (List.length (lget [] y pile) : Int))) (
 let t : ByteArray := lget ByteArray.empty (lget [] y pile) (wi64 ((List.length (lget [] y pile) : Int) - 1))
 some t)))
noncomputable def z3m (y : (List (List ByteArray))) (request : (List ByteArray)) (moves : (List z0e)) : Option (Int × Int) :=
 (z1f y request).bind fun (r : (List (List ByteArray)) × Int) =>
 (z0d (decide ((List.length moves : Int) ≤ 40)) 8).bind fun (t : Int) =>
 (z1i [r.2, t]).bind fun (t_1 : Int) =>
 bif (t_1 != 0) then
 some (0, t_1)
 else
 (z1s (S := Int × z2m) (R := (z2m) ⊕ (Int × Int)) (fun s =>
 let t_2 : Int := s.1
 let n : z2m := s.2
 bif decide (t_2 < (List.length moves : Int)) then
 chk (decide ((0 : Int) ≤ t_2) && decide (t_2 < (List.length moves : Int))) (
 let m : z0e := lget (0, 0) moves t_2
 (z0w n.1 m).bind fun (t_3 : Int) =>
 bif (t_3 != 0) then
 Option.map Sum.inr (Option.map Sum.inr (
 some (t_2, t_3)))
 else
 (bif (m.2 == (-1)) then
 (bif ((List.length n.2.1 : Int) == 0) then some true else
 (z45 n.1 m.1).bind fun (t_4 : ByteArray) =>
 chk (decide ((0 : Int) ≤ 0) && decide (0 < (List.length n.2.1 : Int))) (
 some (!seqb t_4 (lget ByteArray.empty n.2.1 0)))).bind fun (c : Bool) =>
 some c
 else some false).bind fun (c_1 : Bool) =>
 bif c_1 then
 Option.map Sum.inr (Option.map Sum.inr (
 some (t_2, 24)))
 else
 (z0l n m).bind fun (t_5 : z2m) =>
 some (.inl (wi64 (t_2 + 1), t_5)))
 else
 some (.inr (.inl n))) (0, (r.1, (request, ([], 0))))).bind fun j => match j with
 | .inl n_1 => (
 bif decide ((List.length n_1.2.1 : Int) > 0) then
 let t_6 : Int := (List.length moves : Int)
 some (t_6, 14)
 else
 some (n_1.2.2.2, 0))
 | .inr r => some r
noncomputable def zcn (l : (List z0e)) : Option ((List z0e)) :=
 (app [] l).bind fun (t : List z0e) =>
 some t
noncomputable def z1a (y : (List (List ByteArray))) (name : ByteArray) : Option (Bool) :=
 (z1s (S := Int) (R := (Unit) ⊕ (Bool)) (fun i =>
 bif decide (i < (List.length y : Int)) then
 chk (decide ((0 : Int) ≤ i) && decide (i < (List.length y : Int))) (
 (z47 (lget [] y i) name).bind fun (t : Bool) =>
 bif t then
 Option.map Sum.inr (Option.map Sum.inr (
 some true))
 else
 some (.inl (wi64 (i + 1))))
 else
 some (.inr (.inl ()))) 0).bind fun j => match j with
 | .inl _ => (
 some false)
 | .inr r => some r
noncomputable def z1u (x : z4i) : Option (Bool) :=
 (z1l).bind fun (t : Bool) =>
 bif !t then
 some false
 else
 (bif decide ((List.length x.1 : Int) > 4) then some true else
 (z8o x.1).bind fun (t_1 : Int) =>
 some (t_1 != 0)).bind fun (c : Bool) =>
 (bif c then some true else
 (z95 x.1 x.2).bind fun (t_2 : Int) =>
 some (t_2 != 0)).bind fun (c_1 : Bool) =>
 (bif c_1 then some true else
 (z1k x.1).bind fun (t_3 : Int) =>
 some (decide (t_3 > 6))).bind fun (c_2 : Bool) =>
 bif c_2 then
 some true
 else
 (z4a x.1).bind fun (t_4 : (List (List ByteArray))) =>
 (z30 x.2).bind fun (t_5 : (List ByteArray)) =>
 (z2z t_4 t_5).bind fun (r : (List z0e) × Int) =>
 bif (r.2 != 0) then
 let t_6 : Bool := ((r.2 == 12) && ((List.length r.1 : Int) == 0))
 some t_6
 else
 (z4a x.1).bind fun (t_7 : (List (List ByteArray))) =>
 (z30 x.2).bind fun (t_8 : (List ByteArray)) =>
 (zcn r.1).bind fun (t_9 : (List z0e)) =>
 (z3m t_7 t_8 t_9).bind fun (r_1 : Int × Int) =>
 (bif (r_1.2 != 0) then some true else
 some ((List.length r.1 : Int) != (wi64 (r_1.1 + (List.length x.2 : Int))))).bind fun (c_3 : Bool) =>
 bif (c_3 || (decide ((List.length r.1 : Int) > 40))) then
 some false
 else
 (z4a x.1).bind fun (t_10 : (List (List ByteArray))) =>
 (z30 x.2).bind fun (t_11 : (List ByteArray)) =>
 (z1s (S := Int × (List (List ByteArray)) × (List ByteArray) × Int) (R := (Int × (List (List ByteArray)) × (List ByteArray)) ⊕ (Bool)) (fun s =>
 let work : Int := s.1
 let now : (List (List ByteArray)) := s.2.1
 let left_ : (List ByteArray) := s.2.2.1
 let i : Int := s.2.2.2
 bif decide (i < (List.length r.1 : Int)) then
 (z4a now).bind fun (t_12 : (List (List ByteArray))) =>
 (z30 left_).bind fun (t_13 : (List ByteArray)) =>
 (z2i t_12 t_13).bind fun (r_2 : (List ByteArray) × Int) =>
 (z4a now).bind fun (t_14 : (List (List ByteArray))) =>
 (z30 left_).bind fun (t_15 : (List ByteArray)) =>
 (z2z t_14 t_15).bind fun (r_3 : (List z0e) × Int) =>
 (bif (((r_2.2 != 0) || (r_3.2 != 0)) || (decide ((List.length r_2.1 : Int) > work))) then some true else
 some ((List.length r_3.1 : Int) != (wi64 (work + (List.length left_ : Int))))).bind fun (c_4 : Bool) =>
 bif c_4 then
 Option.map Sum.inr (Option.map Sum.inr (
 some false))
 else
 (z4a now).bind fun (t_16 : (List (List ByteArray))) =>
 chk (decide ((0 : Int) ≤ i) && decide (i < (List.length r.1 : Int))) (
 (z4t t_16 (lget (0, 0) r.1 i)).bind fun (r_4 : (List (List ByteArray)) × Int) =>
 (bif (r_4.2 != 0) then some true else
 (z8o r_4.1).bind fun (t_17 : Int) =>
 some (t_17 != 0)).bind fun (c_5 : Bool) =>
 bif c_5 then
 Option.map Sum.inr (Option.map Sum.inr (
 some false))
 else
 chk (decide ((0 : Int) ≤ i) && decide (i < (List.length r.1 : Int))) (
 (bif (((lget (0, 0) r.1 i).2) == (-1)) then
 (bif ((List.length left_ : Int) == 0) then some true else
 chk (decide ((0 : Int) ≤ 0) && decide (0 < (List.length left_ : Int))) (
 (z1a r_4.1 (lget ByteArray.empty left_ 0)).bind fun (t_18 : Bool) =>
 some t_18)).bind fun (c_6 : Bool) =>
 (bif c_6 then some true else
 chk (decide ((0 : Int) ≤ 0) && decide (0 < (List.length left_ : Int))) (
 (z1a now (lget ByteArray.empty left_ 0)).bind fun (t_19 : Bool) =>
 some (!t_19))).bind fun (c_7 : Bool) =>
 bif c_7 then
 Option.map Sum.inr (
 Option.map Sum.inr (Option.map Sum.inr (
 some false)))
 else
 chk (decide ((0 : Int) ≤ 1) && decide ((1 : Int) ≤ (List.length left_ : Int)) && decide ((List.length left_ : Int) ≤ (List.length left_ : Int))) (
 let left__1 : (List ByteArray) := List.drop (Int.toNat 1) (List.take (Int.toNat (List.length left_ : Int)) left_)
 some (.inl (work, left__1)))
 else
 some (.inl (wi64 (work - 1), left_)) : Option ((Int × (List ByteArray)) ⊕ ((Int × (List (List ByteArray)) × (List ByteArray) × Int) ⊕ ((Int × (List (List ByteArray)) × (List ByteArray)) ⊕ (Bool))))).bind fun j => match j with
 | .inl j => (
 let work_1 : Int := j.1
 let left__2 : (List ByteArray) := j.2
 (z4a r_4.1).bind fun (t_20 : (List (List ByteArray))) =>
 some (.inl (work_1, t_20, left__2, wi64 (i + 1))))
 | .inr r => some r))
 else
 some (.inr (.inl (work, now, left_)))) (r_1.1, t_10, t_11, 0)).bind fun j => match j with
 | .inl b => (
 let work_2 : Int := b.1
 let now_1 : (List (List ByteArray)) := b.2.1
 let left__3 : (List ByteArray) := b.2.2
 (bif ((work_2 != 0) || ((List.length left__3 : Int) != 0)) then some true else
 (z1k now_1).bind fun (t_21 : Int) =>
 (z1k x.1).bind fun (t_22 : Int) =>
 some (t_21 != (wi64 (t_22 - (List.length x.2 : Int))))).bind fun (c_8 : Bool) =>
 bif c_8 then
 some false
 else
 (z1s (S := Int) (R := (Unit) ⊕ (Bool)) (fun i_1 =>
 bif decide (i_1 < (List.length x.1 : Int)) then
 (z1s (S := Int) (R := (Unit) ⊕ ((Int) ⊕ ((Unit) ⊕ (Bool)))) (fun k =>
 chk (decide ((0 : Int) ≤ i_1) && decide (i_1 < (List.length x.1 : Int))) (
 bif decide (k < (List.length (lget [] x.1 i_1) : Int)) then
 chk (decide ((0 : Int) ≤ i_1) && decide (i_1 < (List.length x.1 : Int))) (
 chk (decide ((0 : Int) ≤ k) && decide (k < (List.length (lget [] x.1 i_1) : Int))) (
 (z1a now_1 (lget ByteArray.empty (lget [] x.1 i_1) k)).bind fun (t_23 : Bool) =>
 chk (decide ((0 : Int) ≤ i_1) && decide (i_1 < (List.length x.1 : Int))) (
 chk (decide ((0 : Int) ≤ k) && decide (k < (List.length (lget [] x.1 i_1) : Int))) (
 (z47 x.2 (lget ByteArray.empty (lget [] x.1 i_1) k)).bind fun (t_24 : Bool) =>
 bif (t_23 == t_24) then
 Option.map Sum.inr (Option.map Sum.inr (
 Option.map Sum.inr (Option.map Sum.inr (
 some false))))
 else
 some (.inl (wi64 (k + 1)))))))
 else
 some (.inr (.inl ())))) 0).bind fun j => match j with
 | .inl _ => (
 some (.inl (wi64 (i_1 + 1))))
 | .inr r => some r
 else
 some (.inr (.inl ()))) 0).bind fun j => match j with
 | .inl _ => (
 some true)
 | .inr r => some r)
 | .inr r => some r
end Go.Lift
