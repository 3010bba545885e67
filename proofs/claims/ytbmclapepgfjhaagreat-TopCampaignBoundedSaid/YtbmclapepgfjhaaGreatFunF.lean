/-
  The functions that the laws of the chapter reach, as plain functions.
-/
import Derived.Test.YtbmclapepgfjhaaGreatLiftJ
import Derived.Lib.Join
import Derived.Lib.ItoaNum
import Derived.Test.YtbmclapepgfjhaaGreatLiftN
set_option linter.unusedSectionVars false
set_option linter.unusedVariables false
set_option linter.unusedSimpArgs false
namespace Go.Lift
open Go
def wi64 (x : Int) : Int := IntKind.i64.wrap x
def bytes (l : List UInt8) : ByteArray := ⟨l.toArray⟩
end Go.Lift
namespace Go.Lift
abbrev z09 : Ty := .pair (.int .i64) (.int .i64)
abbrev z10 : Type := (Int × Int)
abbrev z04 : Ty := .pair (.int .i64) (.pair (.int .i64) z09)
abbrev z00 : Type := (Int × (Int × z10))
abbrev z07 : Ty := .pair (.int .i64) (.pair (.int .i64) (.pair (.int .i64) (.pair (.int .i64) (.pair (.int .i64) z04))))
abbrev z01 : Type := (Int × (Int × (Int × (Int × (Int × z00)))))
abbrev z05 : Ty := .pair z07 (.slice z04)
abbrev z02 : Type := (z01 × (List z00))
abbrev z2q : Ty := .pair (.slice z04) (.slice (.int .i64))
abbrev z5s : Type := ((List z00) × (List Int))
abbrev za7 : Ty := .pair (.slice (.slice .str)) (.pair (.slice .str) (.pair (.slice z09) (.int .i64)))
abbrev zb7 : Ty := .pair (.int .i64) (.pair (.int .i64) (.pair .bool (.int .u8)))
abbrev z6p : Ty := .pair .str (.int .u64)
abbrev z4l : Ty := .pair (.slice (.slice .str)) (.slice .str)
noncomputable def z1a (l : (List Int)) : Option (Int) :=
 (z29 (S := Int) (R := (Unit) ⊕ (Int)) (fun t =>
 bif decide (t < (List.length l : Int)) then
 chk (decide ((0 : Int) ≤ t) && decide (t < (List.length l : Int))) (
 bif ((lget 0 l t) != 0) then
 Option.map Sum.inr (Option.map Sum.inr (
 some (lget 0 l t)))
 else
 some (.inl (wi64 (t + 1))))
 else
 some (.inr (.inl ()))) 0).bind fun j => match j with
 | .inl _ => (
 some 0)
 | .inr r => some r
noncomputable def z0c (is : Bool) (e : Int) : Option (Int) :=
 bif is then
 some 0
 else
 some e
noncomputable def z0v (s : (List z00)) (f : (z00 → Option Bool)) : Option (Int) :=
 (z29 (S := Int) (R := (Unit) ⊕ (Int)) (fun t =>
 bif decide (t < (List.length s : Int)) then
 chk (decide ((0 : Int) ≤ t) && decide (t < (List.length s : Int))) (
 (f (lget (0, (0, (0, 0))) s t)).bind fun (t_1 : Bool) =>
 bif t_1 then
 Option.map Sum.inr (Option.map Sum.inr (
 some t))
 else
 some (.inl (wi64 (t + 1))))
 else
 some (.inr (.inl ()))) 0).bind fun j => match j with
 | .inl _ => (
 some (-1))
 | .inr r => some r
noncomputable def z0g (s : (List z00)) (f : (z00 → Option Bool)) : Option (Bool) :=
 (z0v s f).bind fun (t : Int) =>
 some (decide (t ≥ 0))
noncomputable def z0n (n : Int) (lo : Int) (hi : Int) : Option (Bool) :=
 let t : Bool := ((decide (lo ≤ n)) && (decide (n ≤ hi)))
 some t
noncomputable def z4p (n : Int) : Option (Bool) :=
 (z0n n 500 2500).bind fun (t : Bool) =>
 some t
noncomputable def z2u (n : Int) : Option (Bool) :=
 (z0n n 1 300000).bind fun (t : Bool) =>
 some t
noncomputable def z4q (n : Int) : Option (Bool) :=
 (z0n n 1 99).bind fun (t : Bool) =>
 some t
noncomputable def z5g (x : z00) : Option (Bool) :=
 (z4p x.1).bind fun (t : Bool) =>
 (bif !t then some true else
 (z2u x.2.1).bind fun (t_1 : Bool) =>
 some (!t_1)).bind fun (c : Bool) =>
 (bif c then some true else
 (z4q x.2.2.1).bind fun (t_2 : Bool) =>
 some (!t_2)).bind fun (c_1 : Bool) =>
 (bif c_1 then some true else
 (z0n x.2.2.2 1 10000).bind fun (t_3 : Bool) =>
 some (!t_3)).bind fun (c_2 : Bool) =>
 some c_2
noncomputable def z1y (s : (List Int)) (f : (Int → Option Bool)) : Option (Int) :=
 (z29 (S := Int) (R := (Unit) ⊕ (Int)) (fun t =>
 bif decide (t < (List.length s : Int)) then
 chk (decide ((0 : Int) ≤ t) && decide (t < (List.length s : Int))) (
 (f (lget 0 s t)).bind fun (t_1 : Bool) =>
 bif t_1 then
 Option.map Sum.inr (Option.map Sum.inr (
 some t))
 else
 some (.inl (wi64 (t + 1))))
 else
 some (.inr (.inl ()))) 0).bind fun j => match j with
 | .inl _ => (
 some (-1))
 | .inr r => some r
noncomputable def z14 (s : (List Int)) (f : (Int → Option Bool)) : Option (Bool) :=
 (z1y s f).bind fun (t : Int) =>
 some (decide (t ≥ 0))
noncomputable def z1w (n : Int) (x : Int) : Option (Bool) :=
 (z0n n 0 x).bind fun (t : Bool) =>
 some (!t)
noncomputable def z0t (most : Int) (l : (List Int)) : Option (Bool) :=
 (z14 l (fun x => z1w x most)).bind fun (t : Bool) =>
 some (!t)
noncomputable def z2d (r : z01) : Option (Int) :=
 (z0t 7 [r.1]).bind fun (t : Bool) =>
 (bif t then
 (z0t 300000 [r.2.1, r.2.2.1, r.2.2.2.1]).bind fun (t_1 : Bool) =>
 some t_1
 else some false).bind fun (c : Bool) =>
 (bif c then
 (z0t 99 [r.2.2.2.2.1]).bind fun (t_2 : Bool) =>
 some t_2
 else some false).bind fun (c_1 : Bool) =>
 (bif c_1 then
 (z0t 70000 [r.2.2.2.2.2.1]).bind fun (t_3 : Bool) =>
 some t_3
 else some false).bind fun (c_2 : Bool) =>
 (bif c_2 then
 (z0t 10000 [r.2.2.2.2.2.2.1, r.2.2.2.2.2.2.2.1, r.2.2.2.2.2.2.2.2]).bind fun (t_4 : Bool) =>
 some t_4
 else some false).bind fun (c_3 : Bool) =>
 (z0c c_3 2).bind fun (t_5 : Int) =>
 some t_5
noncomputable def z3c (r : z01) (l : (List z00)) : Option (z02 × Int) :=
 (z0g l (fun x => z5g x)).bind fun (t : Bool) =>
 (z2d r).bind fun (t_1 : Int) =>
 (z0c (decide ((List.length l : Int) > 0)) 10).bind fun (t_2 : Int) =>
 (z0c (decide ((List.length l : Int) ≤ 7)) 8).bind fun (t_3 : Int) =>
 (z0c (!t) 2).bind fun (t_4 : Int) =>
 (z1a [t_1, t_2, t_3, t_4]).bind fun (t_5 : Int) =>
 some ((r, l), t_5)
noncomputable def z2v (count : Int) : Option ((List Int)) :=
 (z29 (S := (List Int) × Int) (R := (List Int)) (fun s =>
 let out : (List Int) := s.1
 let t : Int := s.2
 bif decide (t < count) then
 (app out [t]).bind fun (t_1 : List Int) =>
 some (.inl (t_1, wi64 (t + 1)))
 else
 some (.inr out)) ([], 0)).bind fun (out_1 : (List Int)) =>
 some out_1
noncomputable def z3b (n : Int) : Option (Int) :=
 let t : Int := imax n (wi64 (0 - n))
 some t
noncomputable def z0p (r : z02) (sequence : (List Int)) (p : Int) : Option ((Nat → Bool)) :=
 chk (decide ((0 : Int) ≤ 0) && decide ((0 : Int) ≤ (wi64 (p + 1))) && decide ((wi64 (p + 1)) ≤ (List.length sequence : Int))) (
 (z29 (S := Int × Int) (R := Int) (fun s =>
 let metres : Int := s.1
 let t : Int := s.2
 bif decide (t < (List.length (List.drop (Int.toNat 0) (List.take (Int.toNat (wi64 (p + 1))) sequence)) : Int)) then
 chk (decide ((0 : Int) ≤ t) && decide (t < (List.length (List.drop (Int.toNat 0) (List.take (Int.toNat (wi64 (p + 1))) sequence)) : Int))) (
 let i : Int := lget 0 (List.drop (Int.toNat 0) (List.take (Int.toNat (wi64 (p + 1))) sequence)) t
 chk (decide ((0 : Int) ≤ i) && decide (i < (List.length r.2 : Int))) (
 let metres_1 : Int := wi64 (metres + ((((lget (0, (0, (0, 0))) r.2 i).2).2).2))
 some (.inl (metres_1, wi64 (t + 1)))))
 else
 some (.inr metres)) (0, 0)).bind fun (metres_2 : Int) =>
 chk (decide ((0 : Int) ≤ 0) && decide ((0 : Int) < 5)) (
 let out : (Nat → Bool) := aset (fun _ => false) 0 (decide (metres_2 > r.1.2.2.2.2.2.1))
 bif (p == 0) then
 some out
 else
 chk (decide ((0 : Int) ≤ p) && decide (p < (List.length sequence : Int))) (
 chk (decide ((0 : Int) ≤ (lget 0 sequence p)) && decide ((lget 0 sequence p) < (List.length r.2 : Int))) (
 chk (decide ((0 : Int) ≤ (wi64 (p - 1))) && decide ((wi64 (p - 1)) < (List.length sequence : Int))) (
 chk (decide ((0 : Int) ≤ (lget 0 sequence (wi64 (p - 1)))) && decide ((lget 0 sequence (wi64 (p - 1))) < (List.length r.2 : Int))) (
 let x : z00 := lget (0, (0, (0, 0))) r.2 (lget 0 sequence p)
 let y : z00 := lget (0, (0, (0, 0))) r.2 (lget 0 sequence (wi64 (p - 1)))
 (bif decide (p < r.1.1) then
 chk (decide ((0 : Int) ≤ 1) && decide ((1 : Int) < 5)) (
 let out_1 : (Nat → Bool) := aset out 1 (decide ((wi64 (x.1 - y.1)) < 0))
 some out_1)
 else
 chk (decide ((0 : Int) ≤ 1) && decide ((1 : Int) < 5)) (
 let out_2 : (Nat → Bool) := aset out 1 (decide ((wi64 (x.1 - y.1)) > 0))
 some out_2)).bind fun (out_3 : (Nat → Bool)) =>
 (z0n (wi64 (x.1 - y.1)) (wi64 (0 - r.1.2.2.1)) r.1.2.1).bind fun (t_1 : Bool) =>
 chk (decide ((0 : Int) ≤ 2) && decide ((2 : Int) < 5)) (
 let out_4 : (Nat → Bool) := aset out_3 2 (!t_1)
 (z3b (wi64 (x.2.1 - y.2.1))).bind fun (t_2 : Int) =>
 chk (decide ((0 : Int) ≤ 3) && decide ((3 : Int) < 5)) (
 let out_5 : (Nat → Bool) := aset out_4 3 (decide (t_2 > r.1.2.2.2.1))
 (z3b (wi64 (x.2.2.1 - y.2.2.1))).bind fun (t_3 : Int) =>
 chk (decide ((0 : Int) ≤ 4) && decide ((4 : Int) < 5)) (
 let out_6 : (Nat → Bool) := aset out_5 4 (decide (t_3 > r.1.2.2.2.2.1))
 some out_6)))))))))
noncomputable def z43 (s : (List Bool)) (v : Bool) : Option (Int) :=
 (z29 (S := Int) (R := (Unit) ⊕ (Int)) (fun t =>
 bif decide (t < (List.length s : Int)) then
 chk (decide ((0 : Int) ≤ t) && decide (t < (List.length s : Int))) (
 bif (v == (lget false s t)) then
 Option.map Sum.inr (Option.map Sum.inr (
 some t))
 else
 some (.inl (wi64 (t + 1))))
 else
 some (.inr (.inl ()))) 0).bind fun j => match j with
 | .inl _ => (
 some (-1))
 | .inr r => some r
noncomputable def z1i (s : (List Bool)) (v : Bool) : Option (Bool) :=
 (z43 s v).bind fun (t : Int) =>
 some (decide (t ≥ 0))
noncomputable def slices_Index_int (s : (List Int)) (v : Int) : Option (Int) :=
 (z29 (S := Int) (R := (Unit) ⊕ (Int)) (fun t =>
 bif decide (t < (List.length s : Int)) then
 chk (decide ((0 : Int) ≤ t) && decide (t < (List.length s : Int))) (
 bif (v == (lget 0 s t)) then
 Option.map Sum.inr (Option.map Sum.inr (
 some t))
 else
 some (.inl (wi64 (t + 1))))
 else
 some (.inr (.inl ()))) 0).bind fun j => match j with
 | .inl _ => (
 some (-1))
 | .inr r => some r
noncomputable def slices_Contains_int (s : (List Int)) (v : Int) : Option (Bool) :=
 (slices_Index_int s v).bind fun (t : Int) =>
 some (decide (t ≥ 0))
def catM {α β : Type} (f : α → Option (List β)) : List α → Option (List β)
 | [] => some []
 | a :: l => (f a).bind fun x => (catM f l).bind fun y => some (x ++ y)
noncomputable def zd3 (r : z02) (begun : List Int) : Option Bool :=
 bif decide ((begun.length : Int) > 0) then (z0p r begun (wi64 ((begun.length : Int) - 1))).bind fun v => z1i ((List.range 5).map v) true else some false
noncomputable def zno (r : z02) (items : List Int) : Nat → List Int → Option (List (List Int))
 | m, begun => (zd3 r begun).bind fun bad => bif bad then some [] else bif ((begun.length : Int) == (items.length : Int)) then some [begun] else match m with
  | 0 => none
  | m + 1 => catM (fun i => (slices_Contains_int begun i).bind fun t => bif t then some [] else zno r items m (begun ++ [i])) items
noncomputable def z11 (r : z02) (items : List Int) : Option (List (List Int)) := bif decide (items.length ≤ 1000) then zno r items (items.length + 1) [] else none
noncomputable def z1e (r : z02) (a : Int) (b : Int) : Option (Int) :=
 chk (decide ((0 : Int) ≤ a) && decide (a < (List.length r.2 : Int))) (
 chk (decide ((0 : Int) ≤ b) && decide (b < (List.length r.2 : Int))) (
 let x : z00 := lget (0, (0, (0, 0))) r.2 a
 let y : z00 := lget (0, (0, (0, 0))) r.2 b
 (z3b (wi64 (x.1 - y.1))).bind fun (t : Int) =>
 (z3b (wi64 (x.2.1 - y.2.1))).bind fun (t_1 : Int) =>
 (z3b (wi64 (x.2.2.1 - y.2.2.1))).bind fun (t_2 : Int) =>
 let t_3 : Int := wi64 ((wi64 ((wi64 (r.1.2.2.2.2.2.2.1 * t)) + (wi64 (r.1.2.2.2.2.2.2.2.1 * t_1)))) + (wi64 (r.1.2.2.2.2.2.2.2.2 * t_2)))
 some t_3))
noncomputable def z0i (r : z02) (sequence : (List Int)) : Option (Int) :=
 (z29 (S := Int × Int) (R := Int) (fun s =>
 let sum : Int := s.1
 let p : Int := s.2
 bif decide (p < (List.length sequence : Int)) then
 chk (decide ((0 : Int) ≤ (wi64 (p - 1))) && decide ((wi64 (p - 1)) < (List.length sequence : Int))) (
 chk (decide ((0 : Int) ≤ p) && decide (p < (List.length sequence : Int))) (
 (z1e r (lget 0 sequence (wi64 (p - 1))) (lget 0 sequence p)).bind fun (t : Int) =>
 some (.inl (wi64 (sum + t), wi64 (p + 1)))))
 else
 some (.inr sum)) (0, 1)).bind fun (sum_1 : Int) =>
 some sum_1
noncomputable def zsw (x : z02) (s : List Int) (b : Option (List Int × Int)) : Option (Option (List Int × Int)) :=
 (z0i x s).bind fun n => match b with
  | none => some (some (s, n))
  | some c => chk (!c.1.isEmpty) (bif decide (n < c.2) then some (some (s, n)) else some (some c))
noncomputable def zsx (x : z02) : List (List Int) → Option (List Int × Int) → Option (Option (List Int × Int))
 | [], b => some b
 | s :: cs, b => (zsw x s b).bind fun d => zsx x cs d
noncomputable def z0x (r : z01) (l : List z00) : Option (List Int × Int × Int) :=
 (z3c r l).bind fun x => bif x.2 != 0 then some ([], 0, x.2) else
 (z2v (l.length : Int)).bind fun ns => (z11 x.1 ns).bind fun cs => (zsx x.1 cs none).bind fun b => match b with
 | none => some ([], 0, 12)
 | some c => chk (!c.1.isEmpty) (some (c.1, c.2, 0))
noncomputable def z3l (n : Int) : Option (Bool) :=
 (z0n n (-10000) 10000).bind fun (t : Bool) =>
 some (!t)
noncomputable def z2e (x : List Int) : Option (List Int) := bif decide (x.length ≤ 1000000) then some (x.mergeSort fun a b => decide (a ≤ b)) else none
noncomputable def z34 (x : List Int) : Option (List Int) := bif decide (x.length ≤ 1000000) then some x else none
noncomputable def z2c (r : z02) (prices : (List Int)) : Option (Int) :=
 (z29 (S := (List Int) × Int) (R := Int) (fun s =>
 let in_ : (List Int) := s.1
 let sum : Int := s.2
 bif decide ((List.length in_ : Int) < (List.length r.2 : Int)) then
 (z29 (S := Int × Int × Int) (R := Int × Int) (fun s_1 =>
 let next : Int := s_1.1
 let least : Int := s_1.2.1
 let t : Int := s_1.2.2
 bif decide (t < (List.length in_ : Int)) then
 chk (decide ((0 : Int) ≤ t) && decide (t < (List.length in_ : Int))) (
 (z29 (S := Int × Int × Int) (R := Int × Int) (fun s_2 =>
 let next_1 : Int := s_2.1
 let least_1 : Int := s_2.2.1
 let t_1 : Int := s_2.2.2
 bif decide (t_1 < (List.length r.2 : Int)) then
 (z1e r (lget 0 in_ t) t_1).bind fun (t_2 : Int) =>
 chk (decide ((0 : Int) ≤ (lget 0 in_ t)) && decide ((lget 0 in_ t) < (List.length prices : Int))) (
 chk (decide ((0 : Int) ≤ t_1) && decide (t_1 < (List.length prices : Int))) (
 let n : Int := wi64 ((wi64 (t_2 - (lget 0 prices (lget 0 in_ t)))) - (lget 0 prices t_1))
 (slices_Contains_int in_ t_1).bind fun (t_3 : Bool) =>
 (bif ((!t_3) && ((decide (next_1 < 0)) || (decide (n < least_1)))) then
 some (t_1, n)
 else
 some (next_1, least_1)).bind fun (j : Int × Int) =>
 let next_2 : Int := j.1
 let least_2 : Int := j.2
 some (.inl (next_2, least_2, wi64 (t_1 + 1)))))
 else
 some (.inr (next_1, least_1))) (next, least, 0)).bind fun (b : Int × Int) =>
 let next_3 : Int := b.1
 let least_3 : Int := b.2
 some (.inl (next_3, least_3, wi64 (t + 1))))
 else
 some (.inr (next, least))) ((-1), 0, 0)).bind fun (b_1 : Int × Int) =>
 let next_4 : Int := b_1.1
 let least_4 : Int := b_1.2
 (app in_ [next_4]).bind fun (t_4 : List Int) =>
 let sum_1 : Int := wi64 (sum + least_4)
 some (.inl (t_4, sum_1))
 else
 some (.inr sum)) ([0], 0)).bind fun (sum_2 : Int) =>
 some sum_2
noncomputable def z1u (r : z01) (l : (List z00)) (prices : (List Int)) : Option (Int × Int) :=
 (z3c r l).bind fun (r_1 : z02 × Int) =>
 (z14 prices (fun x => z3l x)).bind fun (t : Bool) =>
 (z0c ((List.length prices : Int) == (List.length l : Int)) 10).bind fun (t_1 : Int) =>
 (z0c (!t) 2).bind fun (t_2 : Int) =>
 (z1a [r_1.2, t_1, t_2]).bind fun (t_3 : Int) =>
 bif (t_3 != 0) then
 some (0, t_3)
 else
 bif ((List.length l : Int) == 1) then
 some (0, 0)
 else
 (z29 (S := Int × Int) (R := Int) (fun s =>
 let sum : Int := s.1
 let t_4 : Int := s.2
 bif decide (t_4 < (List.length prices : Int)) then
 chk (decide ((0 : Int) ≤ t_4) && decide (t_4 < (List.length prices : Int))) (
 let sum_1 : Int := wi64 (sum + (wi64 (2 * (lget 0 prices t_4))))
 some (.inl (sum_1, wi64 (t_4 + 1))))
 else
 some (.inr sum)) (0, 0)).bind fun (sum_2 : Int) =>
 (z34 prices).bind fun (t_5 : (List Int)) =>
 (z2e t_5).bind fun (t_6 : (List Int)) =>
 chk (decide ((0 : Int) ≤ (wi64 ((List.length t_6 : Int) - 2))) && decide (((wi64 ((List.length t_6 : Int) - 2)) : Int) ≤ (List.length t_6 : Int)) && decide ((List.length t_6 : Int) ≤ (List.length t_6 : Int))) (
 let top : (List Int) := List.drop (Int.toNat (wi64 ((List.length t_6 : Int) - 2))) (List.take (Int.toNat (List.length t_6 : Int)) t_6)
 (z2c r_1.1 prices).bind fun (t_7 : Int) =>
 chk (decide ((0 : Int) ≤ 0) && decide (0 < (List.length top : Int))) (
 chk (decide ((0 : Int) ≤ 1) && decide (1 < (List.length top : Int))) (
 let t_8 : Int := wi64 ((wi64 ((wi64 (t_7 + sum_2)) - (lget 0 top 0))) - (lget 0 top 1))
 some (t_8, 0))))
noncomputable def zaz (a : (List Int)) (b : (List Int)) : Option (Bool) :=
 bif ((List.length a : Int) != (List.length b : Int)) then
 some false
 else
 (z29 (S := Int) (R := (Unit) ⊕ (Bool)) (fun i =>
 bif decide (i < (List.length a : Int)) then
 chk (decide ((0 : Int) ≤ i) && decide (i < (List.length a : Int))) (
 chk (decide ((0 : Int) ≤ i) && decide (i < (List.length b : Int))) (
 bif ((lget 0 a i) != (lget 0 b i)) then
 Option.map Sum.inr (Option.map Sum.inr (
 some false))
 else
 some (.inl (wi64 (i + 1)))))
 else
 some (.inr (.inl ()))) 0).bind fun j => match j with
 | .inl _ => (
 some true)
 | .inr r => some r
noncomputable def slices_Clone_string (x : List ByteArray) : Option (List ByteArray) := app [] x
noncomputable def z4d (y : (List (List ByteArray))) : Option ((List (List ByteArray))) :=
 (z29 (S := (List (List ByteArray)) × Int) (R := (List (List ByteArray))) (fun s =>
 let out : (List (List ByteArray)) := s.1
 let t : Int := s.2
 bif decide (t < (List.length y : Int)) then
 chk (decide ((0 : Int) ≤ t) && decide (t < (List.length y : Int))) (
 (slices_Clone_string (lget [] y t)).bind fun (t_1 : (List ByteArray)) =>
 (app out [t_1]).bind fun (t_2 : List (List ByteArray)) =>
 some (.inl (t_2, wi64 (t + 1))))
 else
 some (.inr out)) ([], 0)).bind fun (out_1 : (List (List ByteArray))) =>
 some out_1
noncomputable def z6l (s : ByteArray) : Option (Bool) :=
 (z29 (S := Int) (R := (Unit) ⊕ (Bool)) (fun t =>
 bif decide (t < (List.length (zds s) : Int)) then
 chk (decide ((0 : Int) ≤ t) && decide (t < (List.length (zds s) : Int))) (
 let c : Int := lget 0 (zds s) t
 (z0n (wi64 c) 97 122).bind fun (t_1 : Bool) =>
 (bif t_1 then some true else
 (z0n (wi64 c) 65 90).bind fun (t_2 : Bool) =>
 some t_2).bind fun (c_1 : Bool) =>
 (bif !c_1 then
 (bif (t == 0) then some true else
 (bif (c != 45) then
 (z0n (wi64 c) 48 57).bind fun (t_3 : Bool) =>
 some (!t_3)
 else some false).bind fun (c_2 : Bool) =>
 some c_2).bind fun (c_3 : Bool) =>
 some c_3
 else some false).bind fun (c_4 : Bool) =>
 bif c_4 then
 Option.map Sum.inr (Option.map Sum.inr (
 some false))
 else
 some (.inl (wi64 (t + 1))))
 else
 some (.inr (.inl ()))) 0).bind fun j => match j with
 | .inl _ => (
 (z0n (ByteArray.size s : Int) 1 12).bind fun (t_4 : Bool) =>
 some t_4)
 | .inr r => some r
noncomputable def z4u (y : (List (List ByteArray))) : Option (Int × Int) :=
 (z0c (decide ((List.length y : Int) > 0)) 10).bind fun (t : Int) =>
 (z0c (decide ((List.length y : Int) ≤ 4)) 8).bind fun (t_1 : Int) =>
 (z1a [t, t_1]).bind fun (t_2 : Int) =>
 bif (t_2 != 0) then
 some (0, t_2)
 else
 (z29 (S := Int × (List (ByteArray × Bool))) (R := ((List (ByteArray × Bool))) ⊕ (Int × Int)) (fun s =>
 let t_3 : Int := s.1
 let t_4 : (List (ByteArray × Bool)) := s.2
 bif decide (t_3 < (List.length y : Int)) then
 chk (decide ((0 : Int) ≤ t_3) && decide (t_3 < (List.length y : Int))) (
 bif decide ((List.length (lget [] y t_3) : Int) > 6) then
 Option.map Sum.inr (Option.map Sum.inr (
 some (t_3, 8)))
 else
 (z29 (S := Int × (List (ByteArray × Bool))) (R := ((List (ByteArray × Bool))) ⊕ ((Int × (List (ByteArray × Bool))) ⊕ (((List (ByteArray × Bool))) ⊕ (Int × Int)))) (fun s_1 =>
 let t_5 : Int := s_1.1
 let t_6 : (List (ByteArray × Bool)) := s_1.2
 bif decide (t_5 < (List.length (lget [] y t_3) : Int)) then
 chk (decide ((0 : Int) ≤ t_5) && decide (t_5 < (List.length (lget [] y t_3) : Int))) (
 let name : ByteArray := lget ByteArray.empty (lget [] y t_3) t_5
 (z6l name).bind fun (t_7 : Bool) =>
 (z0c t_7 4).bind fun (t_8 : Int) =>
 (z0c (!(mget .str .bool t_6 name)) 5).bind fun (t_9 : Int) =>
 (z1a [t_8, t_9]).bind fun (t_10 : Int) =>
 bif (t_10 != 0) then
 Option.map Sum.inr (Option.map Sum.inr (
 Option.map Sum.inr (Option.map Sum.inr (
 some (t_3, t_10)))))
 else
 let t_11 : (List (ByteArray × Bool)) := mput .str .bool t_6 name true
 some (.inl (wi64 (t_5 + 1), t_11)))
 else
 some (.inr (.inl t_6))) (0, t_4)).bind fun j => match j with
 | .inl t_12 => (
 some (.inl (wi64 (t_3 + 1), t_12)))
 | .inr r => some r)
 else
 some (.inr (.inl t_4))) (0, [])).bind fun j => match j with
 | .inl t_13 => (
 (z0c (decide ((List.length t_13 : Int) ≤ 8)) 8).bind fun (t_14 : Int) =>
 some (0, t_14))
 | .inr r => some r
noncomputable def z5h (y : (List (List ByteArray))) : Option ((List (List ByteArray)) × Int) :=
 (z4u y).bind fun (r : Int × Int) =>
 (z4d y).bind fun (t : (List (List ByteArray))) =>
 some (t, r.2)
noncomputable def z2m (s : (List (List ByteArray))) (f : ((List ByteArray) → Option Bool)) : Option (Int) :=
 (z29 (S := Int) (R := (Unit) ⊕ (Int)) (fun t =>
 bif decide (t < (List.length s : Int)) then
 chk (decide ((0 : Int) ≤ t) && decide (t < (List.length s : Int))) (
 (f (lget [] s t)).bind fun (t_1 : Bool) =>
 bif t_1 then
 Option.map Sum.inr (Option.map Sum.inr (
 some t))
 else
 some (.inl (wi64 (t + 1))))
 else
 some (.inr (.inl ()))) 0).bind fun j => match j with
 | .inl _ => (
 some (-1))
 | .inr r => some r
noncomputable def z1x (s : (List (List ByteArray))) (f : ((List ByteArray) → Option Bool)) : Option (Bool) :=
 (z2m s f).bind fun (t : Int) =>
 some (decide (t ≥ 0))
noncomputable def slices_Index_string (s : (List ByteArray)) (v : ByteArray) : Option (Int) :=
 (z29 (S := Int) (R := (Unit) ⊕ (Int)) (fun t =>
 bif decide (t < (List.length s : Int)) then
 chk (decide ((0 : Int) ≤ t) && decide (t < (List.length s : Int))) (
 bif seqb v (lget ByteArray.empty s t) then
 Option.map Sum.inr (Option.map Sum.inr (
 some t))
 else
 some (.inl (wi64 (t + 1))))
 else
 some (.inr (.inl ()))) 0).bind fun j => match j with
 | .inl _ => (
 some (-1))
 | .inr r => some r
noncomputable def slices_Contains_string (s : (List ByteArray)) (v : ByteArray) : Option (Bool) :=
 (slices_Index_string s v).bind fun (t : Int) =>
 some (decide (t ≥ 0))
noncomputable def z33 (pile : (List ByteArray)) (x : ByteArray) : Option (Bool) :=
 (slices_Contains_string pile x).bind fun (t : Bool) =>
 some t
noncomputable def z3r (y : (List (List ByteArray))) (request : (List ByteArray)) : Option ((List (List ByteArray)) × Int) :=
 (z5h y).bind fun (r : (List (List ByteArray)) × Int) =>
 bif (r.2 != 0) then
 some ([], r.2)
 else
 (z29 (S := Int) (R := (Unit) ⊕ ((List (List ByteArray)) × Int)) (fun t =>
 bif decide (t < (List.length request : Int)) then
 chk (decide ((0 : Int) ≤ t) && decide (t < (List.length request : Int))) (
 let name : ByteArray := lget ByteArray.empty request t
 (z1x y (fun x => z33 x name)).bind fun (t_1 : Bool) =>
 (z0c (!(!t_1)) 6).bind fun (t_2 : Int) =>
 chk (decide ((0 : Int) ≤ 0) && decide ((0 : Int) ≤ t) && decide (t ≤ (List.length request : Int))) (
 (slices_Contains_string (List.drop (Int.toNat 0) (List.take (Int.toNat t) request)) name).bind fun (t_3 : Bool) =>
 (z0c (!t_3) 23).bind fun (t_4 : Int) =>
 (z1a [t_2, t_4]).bind fun (t_5 : Int) =>
 bif (t_5 != 0) then
 Option.map Sum.inr (Option.map Sum.inr (
 some ([], t_5)))
 else
 some (.inl (wi64 (t + 1)))))
 else
 some (.inr (.inl ()))) 0).bind fun j => match j with
 | .inl _ => (
 some (r.1, 0))
 | .inr r => some r
noncomputable def z1q (s : (List ByteArray)) (f : (ByteArray → Option Bool)) : Option (Int) :=
 (z29 (S := Int) (R := (Unit) ⊕ (Int)) (fun t =>
 bif decide (t < (List.length s : Int)) then
 chk (decide ((0 : Int) ≤ t) && decide (t < (List.length s : Int))) (
 (f (lget ByteArray.empty s t)).bind fun (t_1 : Bool) =>
 bif t_1 then
 Option.map Sum.inr (Option.map Sum.inr (
 some t))
 else
 some (.inl (wi64 (t + 1))))
 else
 some (.inr (.inl ()))) 0).bind fun j => match j with
 | .inl _ => (
 some (-1))
 | .inr r => some r
noncomputable def z1g (s : (List ByteArray)) (f : (ByteArray → Option Bool)) : Option (Bool) :=
 (z1q s f).bind fun (t : Int) =>
 some (decide (t ≥ 0))
noncomputable def z7q (request : (List ByteArray)) (name : ByteArray) (than : ByteArray) : Option (Bool) :=
 (slices_Index_string request name).bind fun (t : Int) =>
 (bif decide (t < 0) then some true else
 (slices_Index_string request than).bind fun (t_1 : Int) =>
 some (decide (t > t_1))).bind fun (c : Bool) =>
 some c
noncomputable def z2h (below : ByteArray) (x : (List ByteArray)) (x_1 : ByteArray) : Option (Bool) :=
 (slices_Contains_string x below).bind fun (t : Bool) =>
 (bif t then
 (z7q x x_1 below).bind fun (t_1 : Bool) =>
 some t_1
 else some false).bind fun (c : Bool) =>
 some c
noncomputable def z32 (y : (List (List ByteArray))) (request : (List ByteArray)) : Option ((List ByteArray)) :=
 (z29 (S := (List ByteArray) × Int) (R := (List ByteArray)) (fun s =>
 let out : (List ByteArray) := s.1
 let t : Int := s.2
 bif decide (t < (List.length y : Int)) then
 chk (decide ((0 : Int) ≤ t) && decide (t < (List.length y : Int))) (
 (z29 (S := (List ByteArray) × Int) (R := (List ByteArray)) (fun s_1 =>
 let out_1 : (List ByteArray) := s_1.1
 let t_1 : Int := s_1.2
 bif decide (t_1 < (List.length (lget [] y t) : Int)) then
 chk (decide ((0 : Int) ≤ t_1) && decide (t_1 < (List.length (lget [] y t) : Int))) (
 let name : ByteArray := lget ByteArray.empty (lget [] y t) t_1
 chk (decide ((0 : Int) ≤ 0) && decide ((0 : Int) ≤ t_1) && decide (t_1 ≤ (List.length (lget [] y t) : Int))) (
 (z1g (List.drop (Int.toNat 0) (List.take (Int.toNat t_1) (lget [] y t))) (fun x => z2h x request name)).bind fun (t_2 : Bool) =>
 (bif t_2 then
 (app out_1 [name]).bind fun (t_3 : List ByteArray) =>
 some t_3
 else
 some out_1).bind fun (out_2 : (List ByteArray)) =>
 some (.inl (out_2, wi64 (t_1 + 1)))))
 else
 some (.inr out_1)) (out, 0)).bind fun (out_3 : (List ByteArray)) =>
 some (.inl (out_3, wi64 (t + 1))))
 else
 some (.inr out)) ([], 0)).bind fun (out_4 : (List ByteArray)) =>
 some out_4
noncomputable def z4v (y : (List (List ByteArray))) (request : (List ByteArray)) : Option ((List ByteArray) × Int) :=
 (z3r y request).bind fun (r : (List (List ByteArray)) × Int) =>
 bif (r.2 != 0) then
 some ([], r.2)
 else
 (z32 r.1 request).bind fun (t : (List ByteArray)) =>
 some (t, 0)
noncomputable def zjt (a : (List ByteArray)) (b : (List ByteArray)) : Option (Bool) :=
 bif ((List.length a : Int) != (List.length b : Int)) then
 some false
 else
 (z29 (S := Int) (R := (Unit) ⊕ (Bool)) (fun i =>
 bif decide (i < (List.length a : Int)) then
 chk (decide ((0 : Int) ≤ i) && decide (i < (List.length a : Int))) (
 chk (decide ((0 : Int) ≤ i) && decide (i < (List.length b : Int))) (
 bif !seqb (lget ByteArray.empty a i) (lget ByteArray.empty b i) then
 Option.map Sum.inr (Option.map Sum.inr (
 some false))
 else
 some (.inl (wi64 (i + 1)))))
 else
 some (.inr (.inl ()))) 0).bind fun j => match j with
 | .inl _ => (
 some true)
 | .inr r => some r
noncomputable def z1d  : Option (Bool) :=
 let l : (List z00) := [(1200, (3000, (5, 1000))), (1100, (2500, (4, 1000))), (1050, (3400, (6, 2000)))]
 (z0x (2, (100, (150, (1000, (2, (5000, (1, (0, 10)))))))) l).bind fun (r : (List Int) × Int × Int) =>
 (z1u (2, (100, (150, (1000, (2, (5000, (1, (0, 10)))))))) l [0, 20, 0]).bind fun (r_1 : Int × Int) =>
 (z4v [[(bytes [97]), (bytes [98]), (bytes [99])], [(bytes [100])], []] [(bytes [97])]).bind fun (r_2 : (List ByteArray) × Int) =>
 (bif (r.2.2 == 0) then
 (zaz r.1 [1, 0, 2]).bind fun (t : Bool) =>
 some t
 else some false).bind fun (c : Bool) =>
 (bif ((((c && (r.2.1 == 270)) && (r_1.2 == 0)) && (r_1.1 == 160)) && (r_2.2 == 0)) then
 (zjt r_2.1 [(bytes [98]), (bytes [99])]).bind fun (t_1 : Bool) =>
 some t_1
 else some false).bind fun (c_1 : Bool) =>
 some c_1
noncomputable def z1t (n : Int) (lo : Int) (hi : Int) : Option (Bool) :=
 let t : Bool := ((decide (lo ≤ n)) && (decide (n ≤ hi)))
 some t
noncomputable def z9r (r : z01) : Option (Int) :=
 (z1t r.1 0 7).bind fun (t : Bool) =>
 (bif !t then some true else
 (z1t r.2.1 0 300000).bind fun (t_1 : Bool) =>
 some (!t_1)).bind fun (c : Bool) =>
 (bif c then some true else
 (z1t r.2.2.1 0 300000).bind fun (t_2 : Bool) =>
 some (!t_2)).bind fun (c_1 : Bool) =>
 (bif c_1 then some true else
 (z1t r.2.2.2.1 0 300000).bind fun (t_3 : Bool) =>
 some (!t_3)).bind fun (c_2 : Bool) =>
 (bif c_2 then some true else
 (z1t r.2.2.2.2.1 0 99).bind fun (t_4 : Bool) =>
 some (!t_4)).bind fun (c_3 : Bool) =>
 (bif c_3 then some true else
 (z1t r.2.2.2.2.2.1 0 70000).bind fun (t_5 : Bool) =>
 some (!t_5)).bind fun (c_4 : Bool) =>
 (bif c_4 then some true else
 (z1t r.2.2.2.2.2.2.1 0 10000).bind fun (t_6 : Bool) =>
 some (!t_6)).bind fun (c_5 : Bool) =>
 (bif c_5 then some true else
 (z1t r.2.2.2.2.2.2.2.1 0 10000).bind fun (t_7 : Bool) =>
 some (!t_7)).bind fun (c_6 : Bool) =>
 (bif c_6 then some true else
 (z1t r.2.2.2.2.2.2.2.2 0 10000).bind fun (t_8 : Bool) =>
 some (!t_8)).bind fun (c_7 : Bool) =>
 bif c_7 then
 some 2
 else
 some 0
noncomputable def zh0 (n : Int) : Option (Bool) :=
 (z1t n 500 2500).bind fun (t : Bool) =>
 some t
noncomputable def zbt (l : (List z00)) : Option (Int) :=
 bif ((List.length l : Int) == 0) then
 some 10
 else
 bif decide ((List.length l : Int) > 7) then
 some 8
 else
 (z29 (S := Int) (R := (Unit) ⊕ (Int)) (fun i =>
 bif decide (i < (List.length l : Int)) then
 chk (decide ((0 : Int) ≤ i) && decide (i < (List.length l : Int))) (
 (zh0 ((lget (0, (0, (0, 0))) l i).1)).bind fun (t : Bool) =>
 (bif !t then some true else
 chk (decide ((0 : Int) ≤ i) && decide (i < (List.length l : Int))) (
 (z1t (((lget (0, (0, (0, 0))) l i).2).1) 1 300000).bind fun (t_1 : Bool) =>
 some (!t_1))).bind fun (c : Bool) =>
 (bif c then some true else
 chk (decide ((0 : Int) ≤ i) && decide (i < (List.length l : Int))) (
 (z1t ((((lget (0, (0, (0, 0))) l i).2).2).1) 1 99).bind fun (t_2 : Bool) =>
 some (!t_2))).bind fun (c_1 : Bool) =>
 (bif c_1 then some true else
 chk (decide ((0 : Int) ≤ i) && decide (i < (List.length l : Int))) (
 (z1t ((((lget (0, (0, (0, 0))) l i).2).2).2) 1 10000).bind fun (t_3 : Bool) =>
 some (!t_3))).bind fun (c_2 : Bool) =>
 bif c_2 then
 Option.map Sum.inr (Option.map Sum.inr (
 some 2))
 else
 some (.inl (wi64 (i + 1))))
 else
 some (.inr (.inl ()))) 0).bind fun j => match j with
 | .inl _ => (
 some 0)
 | .inr r => some r
noncomputable def zdu (r : z01) (l : (List z00)) : Option (Int) :=
 (z9r r).bind fun (t : Int) =>
 bif (t != 0) then
 some t
 else
 (zbt l).bind fun (t_1 : Int) =>
 some t_1
noncomputable def z6g (l : (List z00)) (prices : (List Int)) : Option (Int) :=
 bif ((List.length prices : Int) != (List.length l : Int)) then
 some 10
 else
 (z29 (S := Int) (R := (Unit) ⊕ (Int)) (fun i =>
 bif decide (i < (List.length prices : Int)) then
 chk (decide ((0 : Int) ≤ i) && decide (i < (List.length prices : Int))) (
 (z1t (lget 0 prices i) (-10000) 10000).bind fun (t : Bool) =>
 bif !t then
 Option.map Sum.inr (Option.map Sum.inr (
 some 2))
 else
 some (.inl (wi64 (i + 1))))
 else
 some (.inr (.inl ()))) 0).bind fun j => match j with
 | .inl _ => (
 some 0)
 | .inr r => some r
noncomputable def z20 (l : (List z00)) : Option ((List z00)) :=
 (app [] l).bind fun (t : List z00) =>
 some t
noncomputable def z2p (l : (List Int)) : Option ((List Int)) :=
 (app [] l).bind fun (t : List Int) =>
 some t
noncomputable def zsy (l : (List Int)) (n : Int) : Option (Bool) :=
 (z29 (S := Int) (R := (Unit) ⊕ (Bool)) (fun i =>
 bif decide (i < (List.length l : Int)) then
 chk (decide ((0 : Int) ≤ i) && decide (i < (List.length l : Int))) (
 bif ((lget 0 l i) == n) then
 Option.map Sum.inr (Option.map Sum.inr (
 some true))
 else
 some (.inl (wi64 (i + 1))))
 else
 some (.inr (.inl ()))) 0).bind fun j => match j with
 | .inl _ => (
 some false)
 | .inr r => some r
noncomputable def z5w (l : (List z00)) (sequence : (List Int)) : Option (Int) :=
 (z29 (S := Int) (R := (Unit) ⊕ (Int)) (fun i =>
 bif decide (i < (List.length sequence : Int)) then
 chk (decide ((0 : Int) ≤ i) && decide (i < (List.length sequence : Int))) (
 (z1t (lget 0 sequence i) 0 (wi64 ((List.length l : Int) - 1))).bind fun (t : Bool) =>
 bif !t then
 Option.map Sum.inr (Option.map Sum.inr (
 some 6))
 else
 chk (decide ((0 : Int) ≤ 0) && decide ((0 : Int) ≤ i) && decide (i ≤ (List.length sequence : Int))) (
 chk (decide ((0 : Int) ≤ i) && decide (i < (List.length sequence : Int))) (
 (zsy (List.drop (Int.toNat 0) (List.take (Int.toNat i) sequence)) (lget 0 sequence i)).bind fun (t_1 : Bool) =>
 bif t_1 then
 Option.map Sum.inr (Option.map Sum.inr (
 some 23))
 else
 some (.inl (wi64 (i + 1))))))
 else
 some (.inr (.inl ()))) 0).bind fun j => match j with
 | .inl _ => (
 some 0)
 | .inr r => some r
noncomputable def z1c (r : z01) (l : (List z00)) (sequence : (List Int)) : Option (z02 × Int) :=
 (z3c r l).bind fun (r_1 : z02 × Int) =>
 bif (r_1.2 != 0) then
 some (r_1.1, r_1.2)
 else
 (z29 (S := Int) (R := (Unit) ⊕ (z02 × Int)) (fun t =>
 bif decide (t < (List.length sequence : Int)) then
 chk (decide ((0 : Int) ≤ t) && decide (t < (List.length sequence : Int))) (
 (z0n (lget 0 sequence t) 0 (wi64 ((List.length l : Int) - 1))).bind fun (t_1 : Bool) =>
 (z0c t_1 6).bind fun (t_2 : Int) =>
 chk (decide ((0 : Int) ≤ 0) && decide ((0 : Int) ≤ t) && decide (t ≤ (List.length sequence : Int))) (
 (slices_Contains_int (List.drop (Int.toNat 0) (List.take (Int.toNat t) sequence)) (lget 0 sequence t)).bind fun (t_3 : Bool) =>
 (z0c (!t_3) 23).bind fun (t_4 : Int) =>
 (z1a [t_2, t_4]).bind fun (t_5 : Int) =>
 bif (t_5 != 0) then
 Option.map Sum.inr (Option.map Sum.inr (
 some (r_1.1, t_5)))
 else
 some (.inl (wi64 (t + 1)))))
 else
 some (.inr (.inl ()))) 0).bind fun j => match j with
 | .inl _ => (
 some (r_1.1, 0))
 | .inr r => some r
def zlw (f : Nat → Bool) : List Int := ((List.range 5).filter f).map fun (k : Nat) => (k : Int)
noncomputable def zec (r : z02) (s : List Int) : Nat → Int → Option (List (Int × Int))
 | 0, _ => some []
 | n + 1, p => (z0p r s p).bind fun v => (zec r s n (p + 1)).bind fun l => some ((zlw v).map (fun k => (p, k)) ++ l)
noncomputable def z27 (r : z02) (s : List Int) : Option (List (Int × Int)) := bif decide (s.length ≤ 1000000) then zec r s s.length 0 else none
noncomputable def z1p (r : z02) (sequence : (List Int)) : Option (z10 × Bool) :=
 (z27 r sequence).bind fun (t : (List z10)) =>
 (zmv (X := z10) (S := Unit) (R := z10 × Bool) (fun t_1 _ =>
 Option.map Sum.inr (
 some (t_1, true))) t ()).bind fun j => match j with
 | .inl _ => (
 some ((0, 0), false))
 | .inr r => some r
noncomputable def z2t (r : z02) (sequence : (List Int)) : Option (Bool) :=
 (z1p r sequence).bind fun (r_1 : z10 × Bool) =>
 some (!r_1.2)
def insI (l : List Int) (p x : Int) : List Int := l.take p.toNat ++ x :: l.drop p.toNat
noncomputable def zq6 (x : z02) (s : List Int) (last p : Int) (st : Int × Int) : Option (Int × Int) :=
 (z0i x (insI s p last)).bind fun n => (z2t x (insI s p last)).bind fun h => some (bif h && (decide (st.1 < 0) || decide (n < st.2)) then (p, n) else st)
noncomputable def zkc (x : z02) (s : List Int) (last : Int) : Nat → Int → Int × Int → Option (Int × Int)
 | 0, _, st => some st
 | n + 1, p, st => (zq6 x s last p st).bind fun st' => zkc x s last n (p + 1) st'
noncomputable def z0z (r : z01) (l : List z00) (s : List Int) : Option (Int × Int) :=
 bif decide (s.length ≤ 1000) then
 (z1c r l s).bind fun x => (slices_Contains_int s (wi64 ((l.length : Int) - 1))).bind fun t => (z0c (!t) 23).bind fun u => (z1a [x.2, u]).bind fun e =>
 bif e != 0 then some (0, e) else (zkc x.1 s (wi64 ((l.length : Int) - 1)) (s.length + 1) 0 (-1, 0)).bind fun b => bif decide (b.1 < 0) then some (0, 12) else some (b.1, 0)
 else none
noncomputable def z3s (r : z01) (l : (List z00)) (sequence : (List Int)) : Option (z10 × Int) :=
 (z1c r l sequence).bind fun (r_1 : z02 × Int) =>
 bif (r_1.2 != 0) then
 some ((0, 0), r_1.2)
 else
 (z1p r_1.1 sequence).bind fun (r_2 : z10 × Bool) =>
 (z0c r_2.2 12).bind fun (t : Int) =>
 some (r_2.1, t)
noncomputable def z6m (r : z01) (l : (List z00)) (sequence : (List Int)) : Option (Int × Int) :=
 (z1c r l sequence).bind fun (r_1 : z02 × Int) =>
 bif (r_1.2 != 0) then
 some (0, r_1.2)
 else
 (z0i r_1.1 sequence).bind fun (t : Int) =>
 some (t, 0)
noncomputable def z1l (r : z01) (x : z5s) : Option (Bool) :=
 (z1d).bind fun (t : Bool) =>
 bif !t then
 some false
 else
 (bif decide ((List.length x.1 : Int) > 5) then some true else
 (zdu r x.1).bind fun (t_1 : Int) =>
 some (t_1 != 0)).bind fun (c : Bool) =>
 (bif c then some true else
 (z6g x.1 x.2).bind fun (t_2 : Int) =>
 some (t_2 != 0)).bind fun (c_1 : Bool) =>
 bif c_1 then
 some true
 else
 (z20 x.1).bind fun (t_3 : (List z00)) =>
 (z0x r t_3).bind fun (r_1 : (List Int) × Int × Int) =>
 (z20 x.1).bind fun (t_4 : (List z00)) =>
 (z2p x.2).bind fun (t_5 : (List Int)) =>
 (z1u r t_4 t_5).bind fun (r_2 : Int × Int) =>
 (bif ((r_2.2 != 0) || ((r_1.2.2 != 0) && (r_1.2.2 != 12))) then some true else
 (bif (r_1.2.2 == 0) then
 (bif ((decide (r_1.2.1 < r_2.1)) || ((List.length r_1.1 : Int) != (List.length x.1 : Int))) then some true else
 (z5w x.1 r_1.1).bind fun (t_6 : Int) =>
 some (t_6 != 0)).bind fun (c_2 : Bool) =>
 some c_2
 else some false).bind fun (c_3 : Bool) =>
 some c_3).bind fun (c_4 : Bool) =>
 bif c_4 then
 some false
 else
 (z29 (S := (List Int) × Int) (R := ((List Int)) ⊕ (Bool)) (fun s =>
 let sequence : (List Int) := s.1
 let i : Int := s.2
 bif decide (i < (List.length x.1 : Int)) then
 chk (decide ((0 : Int) ≤ 0) && decide ((0 : Int) ≤ (wi64 (i + 1))) && decide ((wi64 (i + 1)) ≤ (List.length x.1 : Int))) (
 (z20 (List.drop (Int.toNat 0) (List.take (Int.toNat (wi64 (i + 1))) x.1))).bind fun (t_7 : (List z00)) =>
 (z2p sequence).bind fun (t_8 : (List Int)) =>
 (z0z r t_7 t_8).bind fun (r_3 : Int × Int) =>
 bif (r_3.2 == 12) then
 some (.inr (.inl []))
 else
 (bif (r_3.2 != 0) then some true else
 (z1t r_3.1 0 (List.length sequence : Int)).bind fun (t_9 : Bool) =>
 some (!t_9)).bind fun (c_5 : Bool) =>
 bif c_5 then
 Option.map Sum.inr (Option.map Sum.inr (
 some false))
 else
 chk (decide ((0 : Int) ≤ 0) && decide ((0 : Int) ≤ r_3.1) && decide (r_3.1 ≤ (List.length sequence : Int))) (
 (z2p (List.drop (Int.toNat 0) (List.take (Int.toNat r_3.1) sequence))).bind fun (t_10 : List Int) =>
 (app t_10 [i]).bind fun (t_11 : List Int) =>
 chk (decide ((0 : Int) ≤ r_3.1) && decide ((r_3.1 : Int) ≤ (List.length sequence : Int)) && decide ((List.length sequence : Int) ≤ (List.length sequence : Int))) (
 (app t_11 (List.drop (Int.toNat r_3.1) (List.take (Int.toNat (List.length sequence : Int)) sequence))).bind fun (t_12 : List Int) =>
 some (.inl (t_12, wi64 (i + 1))))))
 else
 some (.inr (.inl sequence))) ([], 0)).bind fun j => match j with
 | .inl sequence_1 => (
 (bif ((List.length sequence_1 : Int) == (List.length x.1 : Int)) then
 (z20 x.1).bind fun (t_13 : (List z00)) =>
 (z2p sequence_1).bind fun (t_14 : (List Int)) =>
 (z3s r t_13 t_14).bind fun (r_4 : z10 × Int) =>
 (z20 x.1).bind fun (t_15 : (List z00)) =>
 (z2p sequence_1).bind fun (t_16 : (List Int)) =>
 (z6m r t_15 t_16).bind fun (r_5 : Int × Int) =>
 bif ((((r_4.2 != 12) || (r_5.2 != 0)) || (r_1.2.2 != 0)) || (decide (r_5.1 < r_1.2.1))) then
 Option.map Sum.inr (
 some false)
 else
 some (.inl ())
 else
 some (.inl ()) : Option ((Unit) ⊕ (Bool))).bind fun j => match j with
 | .inl _ => (
 (z29 (S := (List Int) × Int) (R := (List Int)) (fun s_1 =>
 let prices : (List Int) := s_1.1
 let i_1 : Int := s_1.2
 bif decide (i_1 < (List.length x.2 : Int)) then
 chk (decide ((0 : Int) ≤ i_1) && decide (i_1 < (List.length x.2 : Int))) (
 (app prices [wi64 (2 * (lget 0 x.2 i_1))]).bind fun (t_17 : List Int) =>
 some (.inl (t_17, wi64 (i_1 + 1))))
 else
 some (.inr prices)) ([], 0)).bind fun (prices_1 : (List Int)) =>
 (z9r (r.1, (r.2.1, (r.2.2.1, (r.2.2.2.1, (r.2.2.2.2.1, (r.2.2.2.2.2.1, (wi64 (2 * r.2.2.2.2.2.2.1), (wi64 (2 * r.2.2.2.2.2.2.2.1), wi64 (2 * r.2.2.2.2.2.2.2.2)))))))))).bind fun (t_18 : Int) =>
 (bif (t_18 == 0) then
 (z6g x.1 prices_1).bind fun (t_19 : Int) =>
 some (t_19 == 0)
 else some false).bind fun (c_6 : Bool) =>
 (bif c_6 then
 (z20 x.1).bind fun (t_20 : (List z00)) =>
 (z0x (r.1, (r.2.1, (r.2.2.1, (r.2.2.2.1, (r.2.2.2.2.1, (r.2.2.2.2.2.1, (wi64 (2 * r.2.2.2.2.2.2.1), (wi64 (2 * r.2.2.2.2.2.2.2.1), wi64 (2 * r.2.2.2.2.2.2.2.2))))))))) t_20).bind fun (r_6 : (List Int) × Int × Int) =>
 (z20 x.1).bind fun (t_21 : (List z00)) =>
 (z1u (r.1, (r.2.1, (r.2.2.1, (r.2.2.2.1, (r.2.2.2.2.1, (r.2.2.2.2.2.1, (wi64 (2 * r.2.2.2.2.2.2.1), (wi64 (2 * r.2.2.2.2.2.2.2.1), wi64 (2 * r.2.2.2.2.2.2.2.2))))))))) t_21 prices_1).bind fun (r_7 : Int × Int) =>
 (bif ((r_6.2.2 != r_1.2.2) || (r_6.2.1 != (wi64 (2 * r_1.2.1)))) then some true else
 (zaz r_6.1 r_1.1).bind fun (t_22 : Bool) =>
 some (!t_22)).bind fun (c_7 : Bool) =>
 bif ((c_7 || (r_7.2 != 0)) || (r_7.1 != (wi64 (2 * r_2.1)))) then
 Option.map Sum.inr (
 some false)
 else
 some (.inl ())
 else
 some (.inl ()) : Option ((Unit) ⊕ (Bool))).bind fun j => match j with
 | .inl _ => (
 chk (2 != 0) (
 let t_23 : Int := wi64 (Int.tdiv r.2.2.2.1 2)
 chk (2 != 0) (
 let t_24 : Int := wi64 (Int.tdiv r.2.2.1 2)
 chk (2 != 0) (
 let t_25 : Int := wi64 (Int.tdiv r.2.2.2.2.2.1 2)
 (z20 x.1).bind fun (t_26 : (List z00)) =>
 (z0x (r.1, (r.2.1, (t_24, (t_23, (r.2.2.2.2.1, (t_25, r.2.2.2.2.2.2)))))) t_26).bind fun (r_8 : (List Int) × Int × Int) =>
 let t_27 : Bool := (((r_8.2.2 == 12) && (r_8.2.1 == 0)) || (((r_8.2.2 == 0) && (r_1.2.2 == 0)) && (decide (r_8.2.1 ≥ r_1.2.1))))
 some t_27))))
 | .inr r => some r)
 | .inr r => some r)
 | .inr r => some r
end Go.Lift
