/-
  The functions that the laws of the chapter reach, as plain functions.
-/
import Derived.Test.YtggnjngdmadbaaaGreatDoorLiftJ
import Derived.Lib.Join
import Derived.Lib.ItoaNum
import Derived.Test.YtggnjngdmadbaaaGreatDoorLiftN
set_option linter.unusedSectionVars false
set_option linter.unusedVariables false
set_option linter.unusedSimpArgs false
namespace Go.Lift
open Go
def wi64 (x : Int) : Int := IntKind.i64.wrap x
def bytes (l : List UInt8) : ByteArray := ⟨l.toArray⟩
end Go.Lift
namespace Go.Lift
abbrev z0q : Ty := .pair (.int .i64) (.int .i64)
abbrev z2r : Type := (Int × Int)
abbrev z0a : Ty := .pair (.int .i64) (.pair (.int .i64) z0q)
abbrev z00 : Type := (Int × (Int × z2r))
abbrev z16 : Ty := .pair .str z0a
abbrev z08 : Type := (ByteArray × z00)
abbrev z0p : Ty := .pair .str (.pair (.int .i64) (.pair (.int .i64) (.pair (.int .i64) (.pair (.int .i64) (.pair z0q (.int .i64))))))
abbrev z01 : Type := (ByteArray × (Int × (Int × (Int × (Int × (z2r × Int))))))
abbrev z0h : Ty := .pair (.int .i64) (.pair (.int .i64) (.pair (.int .i64) (.pair (.int .i64) (.pair (.int .i64) z0a))))
abbrev z02 : Type := (Int × (Int × (Int × (Int × (Int × z00)))))
abbrev z0e : Ty := .pair z0h (.slice z0a)
abbrev z05 : Type := (z02 × (List z00))
abbrev y7u : Ty := .pair (.slice (.int .i64)) (.slice (.int .i64))
abbrev zdj : Ty := .pair (.slice (.slice .str)) (.pair (.slice .str) (.pair (.slice z0q) (.int .i64)))
abbrev zx9 : Ty := .pair (.slice (.slice .str)) (.int .i64)
abbrev zer : Ty := .pair (.int .i64) (.pair (.int .i64) (.pair .bool (.int .u8)))
abbrev z93 : Ty := .pair .str (.int .u64)
abbrev zee : Ty := .pair (.slice .str) (.int .i64)
abbrev ziq : Ty := .pair .str (.pair .str .err)
abbrev zd9 : Ty := .pair (.int .u8) (.int .u8)
abbrev zg9 : Ty := .one .str
noncomputable def z1x (l : (List Int)) : Option (Int) :=
 (z1v (S := Int) (R := (Unit) ⊕ (Int)) (fun t =>
 bif decide (t < (List.length l : Int)) then
 chk (decide ((0 : Int) ≤ t) && decide (t < (List.length l : Int))) (
 bif ((lget 0 l t) != 0) then
 Option.map Sum.inr (Option.map Sum.inr (
 some (lget 0 l t)))
 else
 some (.inl (wi64 (t + 1))))
 else
 some (.inr (.inl ()))) 0).bind fun j => match j with
 | .inl _ => (
 some 0)
 | .inr r => some r
noncomputable def z0g (is : Bool) (e : Int) : Option (Int) :=
 bif is then
 some 0
 else
 some e
noncomputable def z0r (n : Int) (lo : Int) (hi : Int) : Option (Bool) :=
 let t : Bool := ((decide (lo ≤ n)) && (decide (n ≤ hi)))
 some t
noncomputable def z2a (s : ByteArray) : Option (Bool) :=
 (z1v (S := Int) (R := (Unit) ⊕ (Bool)) (fun t =>
 bif decide (t < (List.length (z47 s) : Int)) then
 chk (decide ((0 : Int) ≤ t) && decide (t < (List.length (z47 s) : Int))) (
 let c : Int := lget 0 (z47 s) t
 (z0r (wi64 c) 97 122).bind fun (t_1 : Bool) =>
 (bif t_1 then some true else
 (z0r (wi64 c) 65 90).bind fun (t_2 : Bool) =>
 some t_2).bind fun (c_1 : Bool) =>
 (bif !c_1 then
 (bif (t == 0) then some true else
 (bif (c != 45) then
 (z0r (wi64 c) 48 57).bind fun (t_3 : Bool) =>
 some (!t_3)
 else some false).bind fun (c_2 : Bool) =>
 some c_2).bind fun (c_3 : Bool) =>
 some c_3
 else some false).bind fun (c_4 : Bool) =>
 bif c_4 then
 Option.map Sum.inr (Option.map Sum.inr (
 some false))
 else
 some (.inl (wi64 (t + 1))))
 else
 some (.inr (.inl ()))) 0).bind fun j => match j with
 | .inl _ => (
 (z0r (ByteArray.size s : Int) 1 12).bind fun (t_4 : Bool) =>
 some t_4)
 | .inr r => some r
noncomputable def z4h (n : Int) : Option (Bool) :=
 (z0r n 1 99).bind fun (t : Bool) =>
 some t
noncomputable def z2t (n : Int) : Option (Bool) :=
 (z0r n 1 300000).bind fun (t : Bool) =>
 some t
noncomputable def z4g (n : Int) : Option (Bool) :=
 (z0r n 500 2500).bind fun (t : Bool) =>
 some t
noncomputable def z7f (n : Int) : Option (Bool) :=
 (z0r n 0 20000).bind fun (t : Bool) =>
 some t
noncomputable def z1j (o : z01) : Option (Int) :=
 (z4h o.2.1).bind fun (t : Bool) =>
 (bif t then
 (z2t o.2.2.1).bind fun (t_1 : Bool) =>
 some t_1
 else some false).bind fun (c : Bool) =>
 (bif c then
 (z0r o.2.2.2.1 0 (wi64 (o.2.2.1 - 1))).bind fun (t_2 : Bool) =>
 some t_2
 else some false).bind fun (c_1 : Bool) =>
 (bif c_1 then
 (z4g o.2.2.2.2.1).bind fun (t_3 : Bool) =>
 some t_3
 else some false).bind fun (c_2 : Bool) =>
 (bif c_2 then
 (z7f o.2.2.2.2.2.1.1).bind fun (t_4 : Bool) =>
 some t_4
 else some false).bind fun (c_3 : Bool) =>
 (bif c_3 then
 (z7f o.2.2.2.2.2.1.2).bind fun (t_5 : Bool) =>
 some t_5
 else some false).bind fun (c_4 : Bool) =>
 (z2a o.1).bind fun (t_6 : Bool) =>
 (z0g t_6 4).bind fun (t_7 : Int) =>
 (z0g c_4 2).bind fun (t_8 : Int) =>
 (z0g (decide (o.2.2.2.2.2.1.1 ≤ o.2.2.2.2.2.1.2)) 9).bind fun (t_9 : Int) =>
 chk (10 != 0) (
 let t_10 : Int := Int.tmod o.2.2.2.2.2.1.1 10
 (bif (t_10 == 0) then
 chk (10 != 0) (
 let t_11 : Int := Int.tmod o.2.2.2.2.2.1.2 10
 some (t_11 == 0))
 else some false).bind fun (c_5 : Bool) =>
 (z0g c_5 3).bind fun (t_12 : Int) =>
 (z0r o.2.2.2.2.2.2 0 100000).bind fun (t_13 : Bool) =>
 (z0g t_13 2).bind fun (t_14 : Int) =>
 (z1x [t_7, t_8, t_9, t_12, t_14]).bind fun (t_15 : Int) =>
 some t_15)
noncomputable def z4e (s : z08) : Option (Int) :=
 (z4h s.2.1).bind fun (t : Bool) =>
 (bif t then
 (z2t s.2.2.1).bind fun (t_1 : Bool) =>
 some t_1
 else some false).bind fun (c : Bool) =>
 (bif c then
 (z4g s.2.2.2.1).bind fun (t_2 : Bool) =>
 some t_2
 else some false).bind fun (c_1 : Bool) =>
 (bif c_1 then
 (z0r s.2.2.2.2 1 20000).bind fun (t_3 : Bool) =>
 some t_3
 else some false).bind fun (c_2 : Bool) =>
 (z2a s.1).bind fun (t_4 : Bool) =>
 (z0g t_4 4).bind fun (t_5 : Int) =>
 (z0g c_2 2).bind fun (t_6 : Int) =>
 (z1x [t_5, t_6]).bind fun (t_7 : Int) =>
 some t_7
noncomputable def zaf (s : z08) (o : z01) : Option (Bool) :=
 (bif (s.2.1 == o.2.1) then
 (z0r s.2.2.2.1 o.2.2.2.2.1 (wi64 (o.2.2.2.2.1 + 100))).bind fun (t : Bool) =>
 some t
 else some false).bind fun (c : Bool) =>
 some c
noncomputable def z36 (s : z08) (o : z01) : Option (z2r × Int) :=
 (z4e s).bind fun (t : Int) =>
 (z1j o).bind fun (t_1 : Int) =>
 (zaf s o).bind fun (t_2 : Bool) =>
 (z0g t_2 13).bind fun (t_3 : Int) =>
 (z1x [t, t_1, t_3]).bind fun (t_4 : Int) =>
 bif (t_4 != 0) then
 some ((0, 0), t_4)
 else
 let volume : Int := wi64 ((wi64 (s.2.2.1 * s.2.2.2.1)) * s.2.2.2.2)
 let thin : Int := wi64 ((wi64 (o.2.2.1 - o.2.2.2.1)) * o.2.2.2.2.1)
 let thick : Int := wi64 ((wi64 (o.2.2.1 + o.2.2.2.1)) * o.2.2.2.2.1)
 chk (thick != 0) (
 let t_5 : Int := wi64 (Int.tdiv volume thick)
 chk (thin != 0) (
 let t_6 : Int := wi64 (Int.tdiv (wi64 ((wi64 (volume + thin)) - 1)) thin)
 some ((t_5, t_6), 0)))
noncomputable def z3l (s : (List Int)) (f : (Int → Option Bool)) : Option (Int) :=
 (z1v (S := Int) (R := (Unit) ⊕ (Int)) (fun t =>
 bif decide (t < (List.length s : Int)) then
 chk (decide ((0 : Int) ≤ t) && decide (t < (List.length s : Int))) (
 (f (lget 0 s t)).bind fun (t_1 : Bool) =>
 bif t_1 then
 Option.map Sum.inr (Option.map Sum.inr (
 some t))
 else
 some (.inl (wi64 (t + 1))))
 else
 some (.inr (.inl ()))) 0).bind fun j => match j with
 | .inl _ => (
 some (-1))
 | .inr r => some r
noncomputable def z26 (s : (List Int)) (f : (Int → Option Bool)) : Option (Bool) :=
 (z3l s f).bind fun (t : Int) =>
 some (decide (t ≥ 0))
noncomputable def z3i (n : Int) (x : Int) : Option (Bool) :=
 (z0r n 0 x).bind fun (t : Bool) =>
 some (!t)
noncomputable def z1o (most : Int) (l : (List Int)) : Option (Bool) :=
 (z26 l (fun x => z3i x most)).bind fun (t : Bool) =>
 some (!t)
noncomputable def z3x (r : z02) : Option (Int) :=
 (z1o 7 [r.1]).bind fun (t : Bool) =>
 (bif t then
 (z1o 300000 [r.2.1, r.2.2.1, r.2.2.2.1]).bind fun (t_1 : Bool) =>
 some t_1
 else some false).bind fun (c : Bool) =>
 (bif c then
 (z1o 99 [r.2.2.2.2.1]).bind fun (t_2 : Bool) =>
 some t_2
 else some false).bind fun (c_1 : Bool) =>
 (bif c_1 then
 (z1o 70000 [r.2.2.2.2.2.1]).bind fun (t_3 : Bool) =>
 some t_3
 else some false).bind fun (c_2 : Bool) =>
 (bif c_2 then
 (z1o 10000 [r.2.2.2.2.2.2.1, r.2.2.2.2.2.2.2.1, r.2.2.2.2.2.2.2.2]).bind fun (t_4 : Bool) =>
 some t_4
 else some false).bind fun (c_3 : Bool) =>
 (z0g c_3 2).bind fun (t_5 : Int) =>
 some t_5
noncomputable def z1u (s : (List z00)) (f : (z00 → Option Bool)) : Option (Int) :=
 (z1v (S := Int) (R := (Unit) ⊕ (Int)) (fun t =>
 bif decide (t < (List.length s : Int)) then
 chk (decide ((0 : Int) ≤ t) && decide (t < (List.length s : Int))) (
 (f (lget (0, (0, (0, 0))) s t)).bind fun (t_1 : Bool) =>
 bif t_1 then
 Option.map Sum.inr (Option.map Sum.inr (
 some t))
 else
 some (.inl (wi64 (t + 1))))
 else
 some (.inr (.inl ()))) 0).bind fun j => match j with
 | .inl _ => (
 some (-1))
 | .inr r => some r
noncomputable def z14 (s : (List z00)) (f : (z00 → Option Bool)) : Option (Bool) :=
 (z1u s f).bind fun (t : Int) =>
 some (decide (t ≥ 0))
noncomputable def z7e (x : z00) : Option (Bool) :=
 (z4g x.1).bind fun (t : Bool) =>
 (bif !t then some true else
 (z2t x.2.1).bind fun (t_1 : Bool) =>
 some (!t_1)).bind fun (c : Bool) =>
 (bif c then some true else
 (z4h x.2.2.1).bind fun (t_2 : Bool) =>
 some (!t_2)).bind fun (c_1 : Bool) =>
 (bif c_1 then some true else
 (z0r x.2.2.2 1 10000).bind fun (t_3 : Bool) =>
 some (!t_3)).bind fun (c_2 : Bool) =>
 some c_2
noncomputable def z5p (r : z02) (l : (List z00)) : Option (z05 × Int) :=
 (z14 l (fun x => z7e x)).bind fun (t : Bool) =>
 (z3x r).bind fun (t_1 : Int) =>
 (z0g (decide ((List.length l : Int) > 0)) 10).bind fun (t_2 : Int) =>
 (z0g (decide ((List.length l : Int) ≤ 7)) 8).bind fun (t_3 : Int) =>
 (z0g (!t) 2).bind fun (t_4 : Int) =>
 (z1x [t_1, t_2, t_3, t_4]).bind fun (t_5 : Int) =>
 some ((r, l), t_5)
noncomputable def z4f (count : Int) : Option ((List Int)) :=
 (z1v (S := (List Int) × Int) (R := (List Int)) (fun s =>
 let out : (List Int) := s.1
 let t : Int := s.2
 bif decide (t < count) then
 (app out [t]).bind fun (t_1 : List Int) =>
 some (.inl (t_1, wi64 (t + 1)))
 else
 some (.inr out)) ([], 0)).bind fun (out_1 : (List Int)) =>
 some out_1
noncomputable def z4z (n : Int) : Option (Int) :=
 let t : Int := imax n (wi64 (0 - n))
 some t
noncomputable def z1w (r : z05) (sequence : (List Int)) (p : Int) : Option ((Nat → Bool)) :=
 chk (decide ((0 : Int) ≤ 0) && decide ((0 : Int) ≤ (wi64 (p + 1))) && decide ((wi64 (p + 1)) ≤ (List.length sequence : Int))) (
 (z1v (S := Int × Int) (R := Int) (fun s =>
 let metres : Int := s.1
 let t : Int := s.2
 bif decide (t < (List.length (List.drop (Int.toNat 0) (List.take (Int.toNat (wi64 (p + 1))) sequence)) : Int)) then
 chk (decide ((0 : Int) ≤ t) && decide (t < (List.length (List.drop (Int.toNat 0) (List.take (Int.toNat (wi64 (p + 1))) sequence)) : Int))) (
 let i : Int := lget 0 (List.drop (Int.toNat 0) (List.take (Int.toNat (wi64 (p + 1))) sequence)) t
 chk (decide ((0 : Int) ≤ i) && decide (i < (List.length r.2 : Int))) (
 let metres_1 : Int := wi64 (metres + ((((lget (0, (0, (0, 0))) r.2 i).2).2).2))
 some (.inl (metres_1, wi64 (t + 1)))))
 else
 some (.inr metres)) (0, 0)).bind fun (metres_2 : Int) =>
 chk (decide ((0 : Int) ≤ 0) && decide ((0 : Int) < 5)) (
 let out : (Nat → Bool) := aset (fun _ => false) 0 (decide (metres_2 > r.1.2.2.2.2.2.1))
 bif (p == 0) then
 some out
 else
 chk (decide ((0 : Int) ≤ p) && decide (p < (List.length sequence : Int))) (
 chk (decide ((0 : Int) ≤ (lget 0 sequence p)) && decide ((lget 0 sequence p) < (List.length r.2 : Int))) (
 chk (decide ((0 : Int) ≤ (wi64 (p - 1))) && decide ((wi64 (p - 1)) < (List.length sequence : Int))) (
 chk (decide ((0 : Int) ≤ (lget 0 sequence (wi64 (p - 1)))) && decide ((lget 0 sequence (wi64 (p - 1))) < (List.length r.2 : Int))) (
 let x : z00 := lget (0, (0, (0, 0))) r.2 (lget 0 sequence p)
 let y : z00 := lget (0, (0, (0, 0))) r.2 (lget 0 sequence (wi64 (p - 1)))
 (bif decide (p < r.1.1) then
 chk (decide ((0 : Int) ≤ 1) && decide ((1 : Int) < 5)) (
 let out_1 : (Nat → Bool) := aset out 1 (decide ((wi64 (x.1 - y.1)) < 0))
 some out_1)
 else
 chk (decide ((0 : Int) ≤ 1) && decide ((1 : Int) < 5)) (
 let out_2 : (Nat → Bool) := aset out 1 (decide ((wi64 (x.1 - y.1)) > 0))
 some out_2)).bind fun (out_3 : (Nat → Bool)) =>
 (z0r (wi64 (x.1 - y.1)) (wi64 (0 - r.1.2.2.1)) r.1.2.1).bind fun (t_1 : Bool) =>
 chk (decide ((0 : Int) ≤ 2) && decide ((2 : Int) < 5)) (
 let out_4 : (Nat → Bool) := aset out_3 2 (!t_1)
 (z4z (wi64 (x.2.1 - y.2.1))).bind fun (t_2 : Int) =>
 chk (decide ((0 : Int) ≤ 3) && decide ((3 : Int) < 5)) (
 let out_5 : (Nat → Bool) := aset out_4 3 (decide (t_2 > r.1.2.2.2.1))
 (z4z (wi64 (x.2.2.1 - y.2.2.1))).bind fun (t_3 : Int) =>
 chk (decide ((0 : Int) ≤ 4) && decide ((4 : Int) < 5)) (
 let out_6 : (Nat → Bool) := aset out_5 4 (decide (t_3 > r.1.2.2.2.2.1))
 some out_6)))))))))
noncomputable def z5t (s : (List Bool)) (v : Bool) : Option (Int) :=
 (z1v (S := Int) (R := (Unit) ⊕ (Int)) (fun t =>
 bif decide (t < (List.length s : Int)) then
 chk (decide ((0 : Int) ≤ t) && decide (t < (List.length s : Int))) (
 bif (v == (lget false s t)) then
 Option.map Sum.inr (Option.map Sum.inr (
 some t))
 else
 some (.inl (wi64 (t + 1))))
 else
 some (.inr (.inl ()))) 0).bind fun j => match j with
 | .inl _ => (
 some (-1))
 | .inr r => some r
noncomputable def z2s (s : (List Bool)) (v : Bool) : Option (Bool) :=
 (z5t s v).bind fun (t : Int) =>
 some (decide (t ≥ 0))
noncomputable def slices_Index_int (s : (List Int)) (v : Int) : Option (Int) :=
 (z1v (S := Int) (R := (Unit) ⊕ (Int)) (fun t =>
 bif decide (t < (List.length s : Int)) then
 chk (decide ((0 : Int) ≤ t) && decide (t < (List.length s : Int))) (
 bif (v == (lget 0 s t)) then
 Option.map Sum.inr (Option.map Sum.inr (
 some t))
 else
 some (.inl (wi64 (t + 1))))
 else
 some (.inr (.inl ()))) 0).bind fun j => match j with
 | .inl _ => (
 some (-1))
 | .inr r => some r
noncomputable def slices_Contains_int (s : (List Int)) (v : Int) : Option (Bool) :=
 (slices_Index_int s v).bind fun (t : Int) =>
 some (decide (t ≥ 0))
def catM {α β : Type} (f : α → Option (List β)) : List α → Option (List β)
 | [] => some []
 | a :: l => (f a).bind fun x => (catM f l).bind fun y => some (x ++ y)
noncomputable def zf7 (r : z05) (begun : List Int) : Option Bool :=
 bif decide ((begun.length : Int) > 0) then (z1w r begun (wi64 ((begun.length : Int) - 1))).bind fun v => z2s ((List.range 5).map v) true else some false
noncomputable def zwx (r : z05) (items : List Int) : Nat → List Int → Option (List (List Int))
 | m, begun => (zf7 r begun).bind fun bad => bif bad then some [] else bif ((begun.length : Int) == (items.length : Int)) then some [begun] else match m with
  | 0 => none
  | m + 1 => catM (fun i => (slices_Contains_int begun i).bind fun t => bif t then some [] else zwx r items m (begun ++ [i])) items
noncomputable def z25 (r : z05) (items : List Int) : Option (List (List Int)) := bif decide (items.length ≤ 1000) then zwx r items (items.length + 1) [] else none
noncomputable def z2m (r : z05) (a : Int) (b : Int) : Option (Int) :=
 chk (decide ((0 : Int) ≤ a) && decide (a < (List.length r.2 : Int))) (
 chk (decide ((0 : Int) ≤ b) && decide (b < (List.length r.2 : Int))) (
 let x : z00 := lget (0, (0, (0, 0))) r.2 a
 let y : z00 := lget (0, (0, (0, 0))) r.2 b
 (z4z (wi64 (x.1 - y.1))).bind fun (t : Int) =>
 (z4z (wi64 (x.2.1 - y.2.1))).bind fun (t_1 : Int) =>
 (z4z (wi64 (x.2.2.1 - y.2.2.1))).bind fun (t_2 : Int) =>
 let t_3 : Int := wi64 ((wi64 ((wi64 (r.1.2.2.2.2.2.2.1 * t)) + (wi64 (r.1.2.2.2.2.2.2.2.1 * t_1)))) + (wi64 (r.1.2.2.2.2.2.2.2.2 * t_2)))
 some t_3))
noncomputable def z1k (r : z05) (sequence : (List Int)) : Option (Int) :=
 (z1v (S := Int × Int) (R := Int) (fun s =>
 let sum : Int := s.1
 let p : Int := s.2
 bif decide (p < (List.length sequence : Int)) then
 chk (decide ((0 : Int) ≤ (wi64 (p - 1))) && decide ((wi64 (p - 1)) < (List.length sequence : Int))) (
 chk (decide ((0 : Int) ≤ p) && decide (p < (List.length sequence : Int))) (
 (z2m r (lget 0 sequence (wi64 (p - 1))) (lget 0 sequence p)).bind fun (t : Int) =>
 some (.inl (wi64 (sum + t), wi64 (p + 1)))))
 else
 some (.inr sum)) (0, 1)).bind fun (sum_1 : Int) =>
 some sum_1
noncomputable def y55 (x : z05) (s : List Int) (b : Option (List Int × Int)) : Option (Option (List Int × Int)) :=
 (z1k x s).bind fun n => match b with
  | none => some (some (s, n))
  | some c => chk (!c.1.isEmpty) (bif decide (n < c.2) then some (some (s, n)) else some (some c))
noncomputable def y56 (x : z05) : List (List Int) → Option (List Int × Int) → Option (Option (List Int × Int))
 | [], b => some b
 | s :: cs, b => (y55 x s b).bind fun d => y56 x cs d
noncomputable def z4u (r : z02) (l : List z00) : Option (List Int × Int × Int) :=
 (z5p r l).bind fun x => bif x.2 != 0 then some ([], 0, x.2) else
 (z4f (l.length : Int)).bind fun ns => (z25 x.1 ns).bind fun cs => (y56 x.1 cs none).bind fun b => match b with
 | none => some ([], 0, 12)
 | some c => chk (!c.1.isEmpty) (some (c.1, c.2, 0))
noncomputable def z5a (n : Int) : Option (Bool) :=
 (z0r n (-10000) 10000).bind fun (t : Bool) =>
 some (!t)
noncomputable def z3y (x : List Int) : Option (List Int) := bif decide (x.length ≤ 1000000) then some (x.mergeSort fun a b => decide (a ≤ b)) else none
noncomputable def z4o (x : List Int) : Option (List Int) := bif decide (x.length ≤ 1000000) then some x else none
noncomputable def z3w (r : z05) (prices : (List Int)) : Option (Int) :=
 (z1v (S := (List Int) × Int) (R := Int) (fun s =>
 let in_ : (List Int) := s.1
 let sum : Int := s.2
 bif decide ((List.length in_ : Int) < (List.length r.2 : Int)) then
 (z1v (S := Int × Int × Int) (R := Int × Int) (fun s_1 =>
 let next : Int := s_1.1
 let least : Int := s_1.2.1
 let t : Int := s_1.2.2
 bif decide (t < (List.length in_ : Int)) then
 chk (decide ((0 : Int) ≤ t) && decide (t < (List.length in_ : Int))) (
 (z1v (S := Int × Int × Int) (R := Int × Int) (fun s_2 =>
 let next_1 : Int := s_2.1
 let least_1 : Int := s_2.2.1
 let t_1 : Int := s_2.2.2
 bif decide (t_1 < (List.length r.2 : Int)) then
 (z2m r (lget 0 in_ t) t_1).bind fun (t_2 : Int) =>
 chk (decide ((0 : Int) ≤ (lget 0 in_ t)) && decide ((lget 0 in_ t) < (List.length prices : Int))) (
 chk (decide ((0 : Int) ≤ t_1) && decide (t_1 < (List.length prices : Int))) (
 let n : Int := wi64 ((wi64 (t_2 - (lget 0 prices (lget 0 in_ t)))) - (lget 0 prices t_1))
 (slices_Contains_int in_ t_1).bind fun (t_3 : Bool) =>
 (bif ((!t_3) && ((decide (next_1 < 0)) || (decide (n < least_1)))) then
 some (t_1, n)
 else
 some (next_1, least_1)).bind fun (j : Int × Int) =>
 let next_2 : Int := j.1
 let least_2 : Int := j.2
 some (.inl (next_2, least_2, wi64 (t_1 + 1)))))
 else
 some (.inr (next_1, least_1))) (next, least, 0)).bind fun (b : Int × Int) =>
 let next_3 : Int := b.1
 let least_3 : Int := b.2
 some (.inl (next_3, least_3, wi64 (t + 1))))
 else
 some (.inr (next, least))) ((-1), 0, 0)).bind fun (b_1 : Int × Int) =>
 let next_4 : Int := b_1.1
 let least_4 : Int := b_1.2
 (app in_ [next_4]).bind fun (t_4 : List Int) =>
 let sum_1 : Int := wi64 (sum + least_4)
 some (.inl (t_4, sum_1))
 else
 some (.inr sum)) ([0], 0)).bind fun (sum_2 : Int) =>
 some sum_2
noncomputable def z5e (r : z02) (l : (List z00)) (prices : (List Int)) : Option (Int × Int) :=
 (z5p r l).bind fun (r_1 : z05 × Int) =>
 (z26 prices (fun x => z5a x)).bind fun (t : Bool) =>
 (z0g ((List.length prices : Int) == (List.length l : Int)) 10).bind fun (t_1 : Int) =>
 (z0g (!t) 2).bind fun (t_2 : Int) =>
 (z1x [r_1.2, t_1, t_2]).bind fun (t_3 : Int) =>
 bif (t_3 != 0) then
 some (0, t_3)
 else
 bif ((List.length l : Int) == 1) then
 some (0, 0)
 else
 (z1v (S := Int × Int) (R := Int) (fun s =>
 let sum : Int := s.1
 let t_4 : Int := s.2
 bif decide (t_4 < (List.length prices : Int)) then
 chk (decide ((0 : Int) ≤ t_4) && decide (t_4 < (List.length prices : Int))) (
 let sum_1 : Int := wi64 (sum + (wi64 (2 * (lget 0 prices t_4))))
 some (.inl (sum_1, wi64 (t_4 + 1))))
 else
 some (.inr sum)) (0, 0)).bind fun (sum_2 : Int) =>
 (z4o prices).bind fun (t_5 : (List Int)) =>
 (z3y t_5).bind fun (t_6 : (List Int)) =>
 chk (decide ((0 : Int) ≤ (wi64 ((List.length t_6 : Int) - 2))) && decide (((wi64 ((List.length t_6 : Int) - 2)) : Int) ≤ (List.length t_6 : Int)) && decide ((List.length t_6 : Int) ≤ (List.length t_6 : Int))) (
 let top : (List Int) := List.drop (Int.toNat (wi64 ((List.length t_6 : Int) - 2))) (List.take (Int.toNat (List.length t_6 : Int)) t_6)
 (z3w r_1.1 prices).bind fun (t_7 : Int) =>
 chk (decide ((0 : Int) ≤ 0) && decide (0 < (List.length top : Int))) (
 chk (decide ((0 : Int) ≤ 1) && decide (1 < (List.length top : Int))) (
 let t_8 : Int := wi64 ((wi64 ((wi64 (t_7 + sum_2)) - (lget 0 top 0))) - (lget 0 top 1))
 some (t_8, 0))))
noncomputable def zhv (a : (List Int)) (b : (List Int)) : Option (Bool) :=
 bif ((List.length a : Int) != (List.length b : Int)) then
 some false
 else
 (z1v (S := Int) (R := (Unit) ⊕ (Bool)) (fun i =>
 bif decide (i < (List.length a : Int)) then
 chk (decide ((0 : Int) ≤ i) && decide (i < (List.length a : Int))) (
 chk (decide ((0 : Int) ≤ i) && decide (i < (List.length b : Int))) (
 bif ((lget 0 a i) != (lget 0 b i)) then
 Option.map Sum.inr (Option.map Sum.inr (
 some false))
 else
 some (.inl (wi64 (i + 1)))))
 else
 some (.inr (.inl ()))) 0).bind fun j => match j with
 | .inl _ => (
 some true)
 | .inr r => some r
noncomputable def z1r (y : (List (List ByteArray))) : Option (Int × Int) :=
 (z0g (decide ((List.length y : Int) > 0)) 10).bind fun (t : Int) =>
 (z0g (decide ((List.length y : Int) ≤ 4)) 8).bind fun (t_1 : Int) =>
 (z1x [t, t_1]).bind fun (t_2 : Int) =>
 bif (t_2 != 0) then
 some (0, t_2)
 else
 (z1v (S := Int × (List (ByteArray × Bool))) (R := ((List (ByteArray × Bool))) ⊕ (Int × Int)) (fun s =>
 let t_3 : Int := s.1
 let t_4 : (List (ByteArray × Bool)) := s.2
 bif decide (t_3 < (List.length y : Int)) then
 chk (decide ((0 : Int) ≤ t_3) && decide (t_3 < (List.length y : Int))) (
 bif decide ((List.length (lget [] y t_3) : Int) > 6) then
 Option.map Sum.inr (Option.map Sum.inr (
 some (t_3, 8)))
 else
 (z1v (S := Int × (List (ByteArray × Bool))) (R := ((List (ByteArray × Bool))) ⊕ ((Int × (List (ByteArray × Bool))) ⊕ (((List (ByteArray × Bool))) ⊕ (Int × Int)))) (fun s_1 =>
 let t_5 : Int := s_1.1
 let t_6 : (List (ByteArray × Bool)) := s_1.2
 bif decide (t_5 < (List.length (lget [] y t_3) : Int)) then
 chk (decide ((0 : Int) ≤ t_5) && decide (t_5 < (List.length (lget [] y t_3) : Int))) (
 let name : ByteArray := lget ByteArray.empty (lget [] y t_3) t_5
 (z2a name).bind fun (t_7 : Bool) =>
 (z0g t_7 4).bind fun (t_8 : Int) =>
 (z0g (!(mget .str .bool t_6 name)) 5).bind fun (t_9 : Int) =>
 (z1x [t_8, t_9]).bind fun (t_10 : Int) =>
 bif (t_10 != 0) then
 Option.map Sum.inr (Option.map Sum.inr (
 Option.map Sum.inr (Option.map Sum.inr (
 some (t_3, t_10)))))
 else
 let t_11 : (List (ByteArray × Bool)) := mput .str .bool t_6 name true
 some (.inl (wi64 (t_5 + 1), t_11)))
 else
 some (.inr (.inl t_6))) (0, t_4)).bind fun j => match j with
 | .inl t_12 => (
 some (.inl (wi64 (t_3 + 1), t_12)))
 | .inr r => some r)
 else
 some (.inr (.inl t_4))) (0, [])).bind fun j => match j with
 | .inl t_13 => (
 (z0g (decide ((List.length t_13 : Int) ≤ 8)) 8).bind fun (t_14 : Int) =>
 some (0, t_14))
 | .inr r => some r
noncomputable def slices_Clone_string (x : List ByteArray) : Option (List ByteArray) := app [] x
noncomputable def z35 (y : (List (List ByteArray))) : Option ((List (List ByteArray))) :=
 (z1v (S := (List (List ByteArray)) × Int) (R := (List (List ByteArray))) (fun s =>
 let out : (List (List ByteArray)) := s.1
 let t : Int := s.2
 bif decide (t < (List.length y : Int)) then
 chk (decide ((0 : Int) ≤ t) && decide (t < (List.length y : Int))) (
 (slices_Clone_string (lget [] y t)).bind fun (t_1 : (List ByteArray)) =>
 (app out [t_1]).bind fun (t_2 : List (List ByteArray)) =>
 some (.inl (t_2, wi64 (t + 1))))
 else
 some (.inr out)) ([], 0)).bind fun (out_1 : (List (List ByteArray))) =>
 some out_1
noncomputable def z3h (y : (List (List ByteArray))) : Option ((List (List ByteArray)) × Int) :=
 (z1r y).bind fun (r : Int × Int) =>
 (z35 y).bind fun (t : (List (List ByteArray))) =>
 some (t, r.2)
noncomputable def z3b (s : (List (List ByteArray))) (f : ((List ByteArray) → Option Bool)) : Option (Int) :=
 (z1v (S := Int) (R := (Unit) ⊕ (Int)) (fun t =>
 bif decide (t < (List.length s : Int)) then
 chk (decide ((0 : Int) ≤ t) && decide (t < (List.length s : Int))) (
 (f (lget [] s t)).bind fun (t_1 : Bool) =>
 bif t_1 then
 Option.map Sum.inr (Option.map Sum.inr (
 some t))
 else
 some (.inl (wi64 (t + 1))))
 else
 some (.inr (.inl ()))) 0).bind fun j => match j with
 | .inl _ => (
 some (-1))
 | .inr r => some r
noncomputable def z1s (s : (List (List ByteArray))) (f : ((List ByteArray) → Option Bool)) : Option (Bool) :=
 (z3b s f).bind fun (t : Int) =>
 some (decide (t ≥ 0))
noncomputable def slices_Index_string (s : (List ByteArray)) (v : ByteArray) : Option (Int) :=
 (z1v (S := Int) (R := (Unit) ⊕ (Int)) (fun t =>
 bif decide (t < (List.length s : Int)) then
 chk (decide ((0 : Int) ≤ t) && decide (t < (List.length s : Int))) (
 bif seqb v (lget ByteArray.empty s t) then
 Option.map Sum.inr (Option.map Sum.inr (
 some t))
 else
 some (.inl (wi64 (t + 1))))
 else
 some (.inr (.inl ()))) 0).bind fun j => match j with
 | .inl _ => (
 some (-1))
 | .inr r => some r
noncomputable def slices_Contains_string (s : (List ByteArray)) (v : ByteArray) : Option (Bool) :=
 (slices_Index_string s v).bind fun (t : Int) =>
 some (decide (t ≥ 0))
noncomputable def z2v (pile : (List ByteArray)) (x : ByteArray) : Option (Bool) :=
 (slices_Contains_string pile x).bind fun (t : Bool) =>
 some t
noncomputable def z3n (y : (List (List ByteArray))) (request : (List ByteArray)) : Option ((List (List ByteArray)) × Int) :=
 (z3h y).bind fun (r : (List (List ByteArray)) × Int) =>
 bif (r.2 != 0) then
 some ([], r.2)
 else
 (z1v (S := Int) (R := (Unit) ⊕ ((List (List ByteArray)) × Int)) (fun t =>
 bif decide (t < (List.length request : Int)) then
 chk (decide ((0 : Int) ≤ t) && decide (t < (List.length request : Int))) (
 let name : ByteArray := lget ByteArray.empty request t
 (z1s y (fun x => z2v x name)).bind fun (t_1 : Bool) =>
 (z0g (!(!t_1)) 6).bind fun (t_2 : Int) =>
 chk (decide ((0 : Int) ≤ 0) && decide ((0 : Int) ≤ t) && decide (t ≤ (List.length request : Int))) (
 (slices_Contains_string (List.drop (Int.toNat 0) (List.take (Int.toNat t) request)) name).bind fun (t_3 : Bool) =>
 (z0g (!t_3) 23).bind fun (t_4 : Int) =>
 (z1x [t_2, t_4]).bind fun (t_5 : Int) =>
 bif (t_5 != 0) then
 Option.map Sum.inr (Option.map Sum.inr (
 some ([], t_5)))
 else
 some (.inl (wi64 (t + 1)))))
 else
 some (.inr (.inl ()))) 0).bind fun j => match j with
 | .inl _ => (
 some (r.1, 0))
 | .inr r => some r
noncomputable def z2h (s : (List ByteArray)) (f : (ByteArray → Option Bool)) : Option (Int) :=
 (z1v (S := Int) (R := (Unit) ⊕ (Int)) (fun t =>
 bif decide (t < (List.length s : Int)) then
 chk (decide ((0 : Int) ≤ t) && decide (t < (List.length s : Int))) (
 (f (lget ByteArray.empty s t)).bind fun (t_1 : Bool) =>
 bif t_1 then
 Option.map Sum.inr (Option.map Sum.inr (
 some t))
 else
 some (.inl (wi64 (t + 1))))
 else
 some (.inr (.inl ()))) 0).bind fun j => match j with
 | .inl _ => (
 some (-1))
 | .inr r => some r
noncomputable def z0x (s : (List ByteArray)) (f : (ByteArray → Option Bool)) : Option (Bool) :=
 (z2h s f).bind fun (t : Int) =>
 some (decide (t ≥ 0))
noncomputable def z83 (request : (List ByteArray)) (name : ByteArray) (than : ByteArray) : Option (Bool) :=
 (slices_Index_string request name).bind fun (t : Int) =>
 (bif decide (t < 0) then some true else
 (slices_Index_string request than).bind fun (t_1 : Int) =>
 some (decide (t > t_1))).bind fun (c : Bool) =>
 some c
noncomputable def z1q (below : ByteArray) (x : (List ByteArray)) (x_1 : ByteArray) : Option (Bool) :=
 (slices_Contains_string x below).bind fun (t : Bool) =>
 (bif t then
 (z83 x x_1 below).bind fun (t_1 : Bool) =>
 some t_1
 else some false).bind fun (c : Bool) =>
 some c
noncomputable def z2u (y : (List (List ByteArray))) (request : (List ByteArray)) : Option ((List ByteArray)) :=
 (z1v (S := (List ByteArray) × Int) (R := (List ByteArray)) (fun s =>
 let out : (List ByteArray) := s.1
 let t : Int := s.2
 bif decide (t < (List.length y : Int)) then
 chk (decide ((0 : Int) ≤ t) && decide (t < (List.length y : Int))) (
 (z1v (S := (List ByteArray) × Int) (R := (List ByteArray)) (fun s_1 =>
 let out_1 : (List ByteArray) := s_1.1
 let t_1 : Int := s_1.2
 bif decide (t_1 < (List.length (lget [] y t) : Int)) then
 chk (decide ((0 : Int) ≤ t_1) && decide (t_1 < (List.length (lget [] y t) : Int))) (
 let name : ByteArray := lget ByteArray.empty (lget [] y t) t_1
 chk (decide ((0 : Int) ≤ 0) && decide ((0 : Int) ≤ t_1) && decide (t_1 ≤ (List.length (lget [] y t) : Int))) (
 (z0x (List.drop (Int.toNat 0) (List.take (Int.toNat t_1) (lget [] y t))) (fun x => z1q x request name)).bind fun (t_2 : Bool) =>
 (bif t_2 then
 (app out_1 [name]).bind fun (t_3 : List ByteArray) =>
 some t_3
 else
 some out_1).bind fun (out_2 : (List ByteArray)) =>
 some (.inl (out_2, wi64 (t_1 + 1)))))
 else
 some (.inr out_1)) (out, 0)).bind fun (out_3 : (List ByteArray)) =>
 some (.inl (out_3, wi64 (t + 1))))
 else
 some (.inr out)) ([], 0)).bind fun (out_4 : (List ByteArray)) =>
 some out_4
noncomputable def z3s (y : (List (List ByteArray))) (request : (List ByteArray)) : Option ((List ByteArray) × Int) :=
 (z3n y request).bind fun (r : (List (List ByteArray)) × Int) =>
 bif (r.2 != 0) then
 some ([], r.2)
 else
 (z2u r.1 request).bind fun (t : (List ByteArray)) =>
 some (t, 0)
noncomputable def zf8 (a : (List ByteArray)) (b : (List ByteArray)) : Option (Bool) :=
 bif ((List.length a : Int) != (List.length b : Int)) then
 some false
 else
 (z1v (S := Int) (R := (Unit) ⊕ (Bool)) (fun i =>
 bif decide (i < (List.length a : Int)) then
 chk (decide ((0 : Int) ≤ i) && decide (i < (List.length a : Int))) (
 chk (decide ((0 : Int) ≤ i) && decide (i < (List.length b : Int))) (
 bif !seqb (lget ByteArray.empty a i) (lget ByteArray.empty b i) then
 Option.map Sum.inr (Option.map Sum.inr (
 some false))
 else
 some (.inl (wi64 (i + 1)))))
 else
 some (.inr (.inl ()))) 0).bind fun j => match j with
 | .inl _ => (
 some true)
 | .inr r => some r
noncomputable def strings_Split (s sep : ByteArray) : Option (List ByteArray) := zng sep s
noncomputable def strconv_Itoa (n : Int) : Option ByteArray := bif decide ((-9223372036854775808 : Int) ≤ n) && decide (n ≤ 9223372036854775807) then some ⟨(Lib.itoa n).toArray⟩ else none
noncomputable def strconv_Atoi (s : ByteArray) : Option (Int × Bool) := ygv s
noncomputable def z2o (s : ByteArray) : Option (Int × Bool) :=
 (strconv_Atoi s).bind fun (r : Int × Bool) =>
 (bif (r.2 && (decide (r.1 ≥ 0))) then
 (strconv_Itoa r.1).bind fun (t : ByteArray) =>
 some (seqb t s)
 else some false).bind fun (c : Bool) =>
 let t_1 : Bool := (c && (decide ((ByteArray.size s : Int) ≤ 6)))
 some (r.1, t_1)
def z1e (ws : List ByteArray) (i : Int) : ByteArray := if i < (ws.length : Int) then lget ByteArray.empty ws i else ByteArray.empty
noncomputable def z7q (ws : List ByteArray) (i : Int) : Option (Option Int) := (z2o (z1e ws i)).bind fun r => some (bif r.2 then some r.1 else none)
def zya (us : List (ByteArray × Int)) (w : ByteArray) : Option Int := (us.find? fun p => seqb w p.1).map (·.2)
def z62 (us : List (ByteArray × Int)) (ws : List ByteArray) (i : Int) : Option Int := if i < (ws.length : Int) then zya us (z1e ws i) else none
noncomputable def z1y (us : List (ByteArray × Int)) (ws : List ByteArray) (i : Int) : Option (Int ⊕ Int) :=
 (z7q ws i).bind fun n => match n with
  | none => some (.inl i)
  | some n => match z62 us ws (i + 1) with
   | none => some (.inl (i + 1))
   | some b => some (.inr (wi64 (n * b)))
def zbd : List (ByteArray × Int) := [(bytes [117, 109], 1), (bytes [109, 109], 1000)]
def unMm : List (ByteArray × Int) := [(bytes [109, 109], 1)]
def unTo : List (ByteArray × Int) := [(bytes [116, 111], 10)]
def unC : List (ByteArray × Int) := [(bytes [67], 10)]
noncomputable def z6h (k : Nat) (ws : List ByteArray) (o : z01) (i : Int) : Option (Int ⊕ (z01 × Int)) :=
 match k with
 | 0 => (z7q ws i).bind fun n => match n with
  | none => some (.inl i)
  | some n => some (.inr ((o.1, (n, o.2.2)), i + 1))
 | 1 => (z1y zbd ws i).bind fun v => match v with
  | .inl j => some (.inl j)
  | .inr v => some (.inr ((o.1, (o.2.1, (v, o.2.2.2))), i + 2))
 | 2 => (z1y zbd ws i).bind fun v => match v with
  | .inl j => some (.inl j)
  | .inr v => some (.inr ((o.1, (o.2.1, (o.2.2.1, (v, o.2.2.2.2)))), i + 2))
 | 3 => (z1y unMm ws i).bind fun v => match v with
  | .inl j => some (.inl j)
  | .inr v => some (.inr ((o.1, (o.2.1, (o.2.2.1, (o.2.2.2.1, (v, o.2.2.2.2.2))))), i + 2))
 | 4 => (z1y unTo ws i).bind fun v => match v with
  | .inl j => some (.inl j)
  | .inr v => (z1y unC ws (i + 2)).bind fun u => match u with
   | .inl j => some (.inl j)
   | .inr u => some (.inr ((o.1, (o.2.1, (o.2.2.1, (o.2.2.2.1, (o.2.2.2.2.1, ((v, u), o.2.2.2.2.2.2)))))), i + 4))
 | _ => (z7q ws i).bind fun n => match n with
  | none => some (.inl i)
  | some n => some (.inr ((o.1, (o.2.1, (o.2.2.1, (o.2.2.2.1, (o.2.2.2.2.1, (o.2.2.2.2.2.1, n)))))), i + 1))
def z1i : List ByteArray := [bytes [103, 114, 97, 100, 101], bytes [116, 104, 105, 99, 107, 110, 101, 115, 115], bytes [116, 111, 108, 101, 114, 97, 110, 99, 101], bytes [119, 105, 100, 116, 104], bytes [99, 111, 105, 108, 105, 110, 103], bytes [100, 117, 101]]
def z32 (w : ByteArray) : Option Nat := z1i.findIdx? fun c => seqb c w
noncomputable def z4l (ws : List ByteArray) : Nat → z01 → Int → (Nat → Bool) → Option ((Int × Int) ⊕ (z01 × (Nat → Bool)))
 | 0, _, _, _ => none
 | n + 1, o, i, given => if i < (ws.length : Int) then match z32 (z1e ws i) with
   | none => some (.inl (i, 7))
   | some k => bif given k then some (.inl (i, 23)) else (z6h k ws o (i + 1)).bind fun r => match r with
    | .inl j => some (.inl (j, 7))
    | .inr r => z4l ws n r.1 r.2 (upd given k true)
  else some (.inr (o, given))
def z2i : z01 := (ByteArray.empty, (0, (0, (0, (0, ((0, 0), 0))))))
noncomputable def z2d (s : ByteArray) : Option (z01 × Int × Int) :=
 (strings_Split s (bytes [32])).bind fun ws => (z2a (z1e ws 0)).bind fun is => bif !is then some (z2i, 0, 7) else
  (z4l ws (ws.length + 1) (z1e ws 0, (0, (0, (0, (0, ((0, 20000), 0)))))) 1 (fun _ => false)).bind fun r => match r with
   | .inl f => some (z2i, f.1, f.2)
   | .inr r => bif !(r.2 0 && r.2 1 && r.2 3) then some (z2i, 0, 14) else (z1j r.1).bind fun e => bif e != 0 then some (z2i, 0, e) else some (r.1, 0, 0)
noncomputable def zvw  : Option ((List (List ByteArray))) :=
 let t : (List (List ByteArray)) := [[(bytes [97]), (bytes [98]), (bytes [99])], [(bytes [100])], []]
 some t
noncomputable def zmr  : Option (z02) :=
 some (2, (100, (150, (1000, (2, (5000, (1, (0, 10))))))))
noncomputable def zms  : Option ((List z00)) :=
 let t : (List z00) := [(1200, (3000, (5, 1000))), (1100, (2500, (4, 1000))), (1050, (3400, (6, 2000)))]
 some t
noncomputable def z73  : Option (Bool) :=
 (z2d (bytes [97, 45, 49, 32, 119, 105, 100, 116, 104, 32, 49, 50, 48, 48, 32, 109, 109, 32, 116, 104, 105, 99, 107, 110, 101, 115, 115, 32, 51, 32, 109, 109, 32, 103, 114, 97, 100, 101, 32, 53, 32, 116, 111, 108, 101, 114, 97, 110, 99, 101, 32, 53, 48, 32, 117, 109, 32, 100, 117, 101, 32, 49, 50])).bind fun (r : z01 × Int × Int) =>
 (z36 ((bytes [115]), (5, (200000, (1250, 8000)))) r.1).bind fun (r_1 : z2r × Int) =>
 (zvw).bind fun (t : (List (List ByteArray))) =>
 (z3s t [(bytes [97]), (bytes [99])]).bind fun (r_2 : (List ByteArray) × Int) =>
 (zmr).bind fun (t_1 : z02) =>
 (zms).bind fun (t_2 : (List z00)) =>
 (z4u t_1 t_2).bind fun (r_3 : (List Int) × Int × Int) =>
 (zmr).bind fun (t_3 : z02) =>
 (zms).bind fun (t_4 : (List z00)) =>
 (z5e t_3 t_4 [0, 20, 0]).bind fun (r_4 : Int × Int) =>
 (bif ((r.2.2 == 0) && (r_1.2 == 0)) then
 some (Ty.eqb z0q r_1.1 (546448, 564972))
 else some false).bind fun (c : Bool) =>
 (bif (c && (r_2.2 == 0)) then
 (zf8 r_2.1 [(bytes [98]), (bytes [99])]).bind fun (t_5 : Bool) =>
 some t_5
 else some false).bind fun (c_1 : Bool) =>
 (bif (c_1 && (r_3.2.2 == 0)) then
 (zhv r_3.1 [1, 0, 2]).bind fun (t_6 : Bool) =>
 some t_6
 else some false).bind fun (c_2 : Bool) =>
 let t_7 : Bool := (((c_2 && (r_3.2.1 == 270)) && (r_4.2 == 0)) && (r_4.1 == 160))
 some t_7
noncomputable def zc1 (n : Int) (lo : Int) (hi : Int) : Option (Bool) :=
 let t : Bool := ((decide (lo ≤ n)) && (decide (n ≤ hi)))
 some t
noncomputable def zil (s : ByteArray) : Option (Bool) :=
 bif ((decide ((ByteArray.size s : Int) < 1)) || (decide ((ByteArray.size s : Int) > 12))) then
 some false
 else
 (z1v (S := Int) (R := (Unit) ⊕ (Bool)) (fun i =>
 bif decide (i < (ByteArray.size s : Int)) then
 chk (decide ((0 : Int) ≤ i) && decide (i < (ByteArray.size s : Int))) (
 let letter : Bool := (((decide ((sget s i) ≥ 97)) && (decide ((sget s i) ≤ 122))) || ((decide ((sget s i) ≥ 65)) && (decide ((sget s i) ≤ 90))))
 bif ((!letter) && ((i == 0) || (((sget s i) != 45) && ((decide ((sget s i) < 48)) || (decide ((sget s i) > 57)))))) then
 Option.map Sum.inr (Option.map Sum.inr (
 some false))
 else
 some (.inl (wi64 (i + 1))))
 else
 some (.inr (.inl ()))) 0).bind fun j => match j with
 | .inl _ => (
 some true)
 | .inr r => some r
end Go.Lift
