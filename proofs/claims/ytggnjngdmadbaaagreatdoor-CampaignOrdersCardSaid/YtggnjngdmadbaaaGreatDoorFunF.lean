/-
  The functions that the laws of the chapter reach, as plain functions.
-/
import Derived.Test.YtggnjngdmadbaaaGreatDoorLiftJ
import Derived.Lib.Join
import Derived.Lib.ItoaNum
import Derived.Test.YtggnjngdmadbaaaGreatDoorLiftN
set_option linter.unusedSectionVars false
set_option linter.unusedVariables false
set_option linter.unusedSimpArgs false
namespace Go.Lift
open Go
def wi64 (x : Int) : Int := IntKind.i64.wrap x
def wu8 (x : Int) : Int := IntKind.u8.wrap x
def bytes (l : List UInt8) : ByteArray := ⟨l.toArray⟩
end Go.Lift
namespace Go.Lift
abbrev z0r : Ty := .pair (.int .i64) (.int .i64)
abbrev z1g : Type := (Int × Int)
abbrev z03 : Ty := .pair (.int .i64) (.pair (.int .i64) z0r)
abbrev z00 : Type := (Int × (Int × z1g))
abbrev z0o : Ty := .pair .str z03
abbrev z09 : Type := (ByteArray × z00)
abbrev z0i : Ty := .pair .str (.pair (.int .i64) (.pair (.int .i64) (.pair (.int .i64) (.pair (.int .i64) (.pair z0r (.int .i64))))))
abbrev z01 : Type := (ByteArray × (Int × (Int × (Int × (Int × (z1g × Int))))))
abbrev z06 : Ty := .pair (.int .i64) (.pair (.int .i64) (.pair (.int .i64) (.pair (.int .i64) (.pair (.int .i64) z03))))
abbrev z02 : Type := (Int × (Int × (Int × (Int × (Int × z00)))))
abbrev z0a : Ty := .pair z06 (.slice z03)
abbrev z05 : Type := (z02 × (List z00))
abbrev zvt : Ty := .pair (.slice (.int .i64)) (.slice (.int .i64))
abbrev zdf : Ty := .pair (.slice (.slice .str)) (.pair (.slice .str) (.pair (.slice z0r) (.int .i64)))
abbrev zem : Ty := .pair (.int .i64) (.pair (.int .i64) (.pair .bool (.int .u8)))
abbrev z8x : Ty := .pair .str (.int .u64)
abbrev zed : Ty := .pair (.slice .str) (.int .i64)
abbrev zvs : Ty := .pair (.slice (.slice .str)) (.int .i64)
abbrev zib : Ty := .pair .str (.pair .str .err)
abbrev zd6 : Ty := .pair (.int .u8) (.int .u8)
abbrev zfw : Ty := .one .str
noncomputable def z1t (l : (List Int)) : Option (Int) :=
 (z2d (S := Int) (R := (Unit) ⊕ (Int)) (fun t =>
 bif decide (t < (List.length l : Int)) then
 chk (decide ((0 : Int) ≤ t) && decide (t < (List.length l : Int))) (
 bif ((lget 0 l t) != 0) then
 Option.map Sum.inr (Option.map Sum.inr (
 some (lget 0 l t)))
 else
 some (.inl (wi64 (t + 1))))
 else
 some (.inr (.inl ()))) 0).bind fun j => match j with
 | .inl _ => (
 some 0)
 | .inr r => some r
noncomputable def z0l (is : Bool) (e : Int) : Option (Int) :=
 bif is then
 some 0
 else
 some e
noncomputable def z0w (n : Int) (lo : Int) (hi : Int) : Option (Bool) :=
 let t : Bool := ((decide (lo ≤ n)) && (decide (n ≤ hi)))
 some t
noncomputable def z29 (s : ByteArray) : Option (Bool) :=
 (z2d (S := Int) (R := (Unit) ⊕ (Bool)) (fun t =>
 bif decide (t < (List.length (z3y s) : Int)) then
 chk (decide ((0 : Int) ≤ t) && decide (t < (List.length (z3y s) : Int))) (
 let c : Int := lget 0 (z3y s) t
 (z0w (wi64 c) 97 122).bind fun (t_1 : Bool) =>
 (bif t_1 then some true else
 (z0w (wi64 c) 65 90).bind fun (t_2 : Bool) =>
 some t_2).bind fun (c_1 : Bool) =>
 (bif !c_1 then
 (bif (t == 0) then some true else
 (bif (c != 45) then
 (z0w (wi64 c) 48 57).bind fun (t_3 : Bool) =>
 some (!t_3)
 else some false).bind fun (c_2 : Bool) =>
 some c_2).bind fun (c_3 : Bool) =>
 some c_3
 else some false).bind fun (c_4 : Bool) =>
 bif c_4 then
 Option.map Sum.inr (Option.map Sum.inr (
 some false))
 else
 some (.inl (wi64 (t + 1))))
 else
 some (.inr (.inl ()))) 0).bind fun j => match j with
 | .inl _ => (
 (z0w (ByteArray.size s : Int) 1 12).bind fun (t_4 : Bool) =>
 some t_4)
 | .inr r => some r
noncomputable def z2s (n : Int) : Option (Bool) :=
 (z0w n 1 99).bind fun (t : Bool) =>
 some t
noncomputable def z1s (n : Int) : Option (Bool) :=
 (z0w n 1 300000).bind fun (t : Bool) =>
 some t
noncomputable def z2r (n : Int) : Option (Bool) :=
 (z0w n 500 2500).bind fun (t : Bool) =>
 some t
noncomputable def z5t (n : Int) : Option (Bool) :=
 (z0w n 0 20000).bind fun (t : Bool) =>
 some t
noncomputable def z13 (o : z01) : Option (Int) :=
 (z2s o.2.1).bind fun (t : Bool) =>
 (bif t then
 (z1s o.2.2.1).bind fun (t_1 : Bool) =>
 some t_1
 else some false).bind fun (c : Bool) =>
 (bif c then
 (z0w o.2.2.2.1 0 (wi64 (o.2.2.1 - 1))).bind fun (t_2 : Bool) =>
 some t_2
 else some false).bind fun (c_1 : Bool) =>
 (bif c_1 then
 (z2r o.2.2.2.2.1).bind fun (t_3 : Bool) =>
 some t_3
 else some false).bind fun (c_2 : Bool) =>
 (bif c_2 then
 (z5t o.2.2.2.2.2.1.1).bind fun (t_4 : Bool) =>
 some t_4
 else some false).bind fun (c_3 : Bool) =>
 (bif c_3 then
 (z5t o.2.2.2.2.2.1.2).bind fun (t_5 : Bool) =>
 some t_5
 else some false).bind fun (c_4 : Bool) =>
 (z29 o.1).bind fun (t_6 : Bool) =>
 (z0l t_6 4).bind fun (t_7 : Int) =>
 (z0l c_4 2).bind fun (t_8 : Int) =>
 (z0l (decide (o.2.2.2.2.2.1.1 ≤ o.2.2.2.2.2.1.2)) 9).bind fun (t_9 : Int) =>
 chk (10 != 0) (
 let t_10 : Int := Int.tmod o.2.2.2.2.2.1.1 10
 (bif (t_10 == 0) then
 chk (10 != 0) (
 let t_11 : Int := Int.tmod o.2.2.2.2.2.1.2 10
 some (t_11 == 0))
 else some false).bind fun (c_5 : Bool) =>
 (z0l c_5 3).bind fun (t_12 : Int) =>
 (z0w o.2.2.2.2.2.2 0 100000).bind fun (t_13 : Bool) =>
 (z0l t_13 2).bind fun (t_14 : Int) =>
 (z1t [t_7, t_8, t_9, t_12, t_14]).bind fun (t_15 : Int) =>
 some t_15)
noncomputable def z36 (s : z09) : Option (Int) :=
 (z2s s.2.1).bind fun (t : Bool) =>
 (bif t then
 (z1s s.2.2.1).bind fun (t_1 : Bool) =>
 some t_1
 else some false).bind fun (c : Bool) =>
 (bif c then
 (z2r s.2.2.2.1).bind fun (t_2 : Bool) =>
 some t_2
 else some false).bind fun (c_1 : Bool) =>
 (bif c_1 then
 (z0w s.2.2.2.2 1 20000).bind fun (t_3 : Bool) =>
 some t_3
 else some false).bind fun (c_2 : Bool) =>
 (z29 s.1).bind fun (t_4 : Bool) =>
 (z0l t_4 4).bind fun (t_5 : Int) =>
 (z0l c_2 2).bind fun (t_6 : Int) =>
 (z1t [t_5, t_6]).bind fun (t_7 : Int) =>
 some t_7
noncomputable def z5h (s : z09) (o : z01) : Option (Bool) :=
 (bif (s.2.1 == o.2.1) then
 (z0w s.2.2.2.1 o.2.2.2.2.1 (wi64 (o.2.2.2.2.1 + 100))).bind fun (t : Bool) =>
 some t
 else some false).bind fun (c : Bool) =>
 some c
noncomputable def z2p (s : z09) (o : z01) : Option (z1g × Int) :=
 (z36 s).bind fun (t : Int) =>
 (z13 o).bind fun (t_1 : Int) =>
 (z5h s o).bind fun (t_2 : Bool) =>
 (z0l t_2 13).bind fun (t_3 : Int) =>
 (z1t [t, t_1, t_3]).bind fun (t_4 : Int) =>
 bif (t_4 != 0) then
 some ((0, 0), t_4)
 else
 let volume : Int := wi64 ((wi64 (s.2.2.1 * s.2.2.2.1)) * s.2.2.2.2)
 let thin : Int := wi64 ((wi64 (o.2.2.1 - o.2.2.2.1)) * o.2.2.2.2.1)
 let thick : Int := wi64 ((wi64 (o.2.2.1 + o.2.2.2.1)) * o.2.2.2.2.1)
 chk (thick != 0) (
 let t_5 : Int := wi64 (Int.tdiv volume thick)
 chk (thin != 0) (
 let t_6 : Int := wi64 (Int.tdiv (wi64 ((wi64 (volume + thin)) - 1)) thin)
 some ((t_5, t_6), 0)))
noncomputable def z2x (s : (List Int)) (f : (Int → Option Bool)) : Option (Int) :=
 (z2d (S := Int) (R := (Unit) ⊕ (Int)) (fun t =>
 bif decide (t < (List.length s : Int)) then
 chk (decide ((0 : Int) ≤ t) && decide (t < (List.length s : Int))) (
 (f (lget 0 s t)).bind fun (t_1 : Bool) =>
 bif t_1 then
 Option.map Sum.inr (Option.map Sum.inr (
 some t))
 else
 some (.inl (wi64 (t + 1))))
 else
 some (.inr (.inl ()))) 0).bind fun j => match j with
 | .inl _ => (
 some (-1))
 | .inr r => some r
noncomputable def z1y (s : (List Int)) (f : (Int → Option Bool)) : Option (Bool) :=
 (z2x s f).bind fun (t : Int) =>
 some (decide (t ≥ 0))
noncomputable def z2v (n : Int) (x : Int) : Option (Bool) :=
 (z0w n 0 x).bind fun (t : Bool) =>
 some (!t)
noncomputable def z1d (most : Int) (l : (List Int)) : Option (Bool) :=
 (z1y l (fun x => z2v x most)).bind fun (t : Bool) =>
 some (!t)
noncomputable def z2q (r : z02) : Option (Int) :=
 (z1d 7 [r.1]).bind fun (t : Bool) =>
 (bif t then
 (z1d 300000 [r.2.1, r.2.2.1, r.2.2.2.1]).bind fun (t_1 : Bool) =>
 some t_1
 else some false).bind fun (c : Bool) =>
 (bif c then
 (z1d 99 [r.2.2.2.2.1]).bind fun (t_2 : Bool) =>
 some t_2
 else some false).bind fun (c_1 : Bool) =>
 (bif c_1 then
 (z1d 70000 [r.2.2.2.2.2.1]).bind fun (t_3 : Bool) =>
 some t_3
 else some false).bind fun (c_2 : Bool) =>
 (bif c_2 then
 (z1d 10000 [r.2.2.2.2.2.2.1, r.2.2.2.2.2.2.2.1, r.2.2.2.2.2.2.2.2]).bind fun (t_4 : Bool) =>
 some t_4
 else some false).bind fun (c_3 : Bool) =>
 (z0l c_3 2).bind fun (t_5 : Int) =>
 some t_5
noncomputable def z1l (s : (List z00)) (f : (z00 → Option Bool)) : Option (Int) :=
 (z2d (S := Int) (R := (Unit) ⊕ (Int)) (fun t =>
 bif decide (t < (List.length s : Int)) then
 chk (decide ((0 : Int) ≤ t) && decide (t < (List.length s : Int))) (
 (f (lget (0, (0, (0, 0))) s t)).bind fun (t_1 : Bool) =>
 bif t_1 then
 Option.map Sum.inr (Option.map Sum.inr (
 some t))
 else
 some (.inl (wi64 (t + 1))))
 else
 some (.inr (.inl ()))) 0).bind fun j => match j with
 | .inl _ => (
 some (-1))
 | .inr r => some r
noncomputable def z11 (s : (List z00)) (f : (z00 → Option Bool)) : Option (Bool) :=
 (z1l s f).bind fun (t : Int) =>
 some (decide (t ≥ 0))
noncomputable def z6v (x : z00) : Option (Bool) :=
 (z2r x.1).bind fun (t : Bool) =>
 (bif !t then some true else
 (z1s x.2.1).bind fun (t_1 : Bool) =>
 some (!t_1)).bind fun (c : Bool) =>
 (bif c then some true else
 (z2s x.2.2.1).bind fun (t_2 : Bool) =>
 some (!t_2)).bind fun (c_1 : Bool) =>
 (bif c_1 then some true else
 (z0w x.2.2.2 1 10000).bind fun (t_3 : Bool) =>
 some (!t_3)).bind fun (c_2 : Bool) =>
 some c_2
noncomputable def z3t (r : z02) (l : (List z00)) : Option (z05 × Int) :=
 (z11 l (fun x => z6v x)).bind fun (t : Bool) =>
 (z2q r).bind fun (t_1 : Int) =>
 (z0l (decide ((List.length l : Int) > 0)) 10).bind fun (t_2 : Int) =>
 (z0l (decide ((List.length l : Int) ≤ 7)) 8).bind fun (t_3 : Int) =>
 (z0l (!t) 2).bind fun (t_4 : Int) =>
 (z1t [t_1, t_2, t_3, t_4]).bind fun (t_5 : Int) =>
 some ((r, l), t_5)
noncomputable def z3v (count : Int) : Option ((List Int)) :=
 (z2d (S := (List Int) × Int) (R := (List Int)) (fun s =>
 let out : (List Int) := s.1
 let t : Int := s.2
 bif decide (t < count) then
 (app out [t]).bind fun (t_1 : List Int) =>
 some (.inl (t_1, wi64 (t + 1)))
 else
 some (.inr out)) ([], 0)).bind fun (out_1 : (List Int)) =>
 some out_1
noncomputable def z4h (n : Int) : Option (Int) :=
 let t : Int := imax n (wi64 (0 - n))
 some t
noncomputable def z1a (r : z05) (sequence : (List Int)) (p : Int) : Option ((Nat → Bool)) :=
 chk (decide ((0 : Int) ≤ 0) && decide ((0 : Int) ≤ (wi64 (p + 1))) && decide ((wi64 (p + 1)) ≤ (List.length sequence : Int))) (
 (z2d (S := Int × Int) (R := Int) (fun s =>
 let metres : Int := s.1
 let t : Int := s.2
 bif decide (t < (List.length (List.drop (Int.toNat 0) (List.take (Int.toNat (wi64 (p + 1))) sequence)) : Int)) then
 chk (decide ((0 : Int) ≤ t) && decide (t < (List.length (List.drop (Int.toNat 0) (List.take (Int.toNat (wi64 (p + 1))) sequence)) : Int))) (
 let i : Int := lget 0 (List.drop (Int.toNat 0) (List.take (Int.toNat (wi64 (p + 1))) sequence)) t
 chk (decide ((0 : Int) ≤ i) && decide (i < (List.length r.2 : Int))) (
 let metres_1 : Int := wi64 (metres + ((((lget (0, (0, (0, 0))) r.2 i).2).2).2))
 some (.inl (metres_1, wi64 (t + 1)))))
 else
 some (.inr metres)) (0, 0)).bind fun (metres_2 : Int) =>
 chk (decide ((0 : Int) ≤ 0) && decide ((0 : Int) < 5)) (
 let out : (Nat → Bool) := aset (fun _ => false) 0 (decide (metres_2 > r.1.2.2.2.2.2.1))
 bif (p == 0) then
 some out
 else
 chk (decide ((0 : Int) ≤ p) && decide (p < (List.length sequence : Int))) (
 chk (decide ((0 : Int) ≤ (lget 0 sequence p)) && decide ((lget 0 sequence p) < (List.length r.2 : Int))) (
 chk (decide ((0 : Int) ≤ (wi64 (p - 1))) && decide ((wi64 (p - 1)) < (List.length sequence : Int))) (
 chk (decide ((0 : Int) ≤ (lget 0 sequence (wi64 (p - 1)))) && decide ((lget 0 sequence (wi64 (p - 1))) < (List.length r.2 : Int))) (
 let x : z00 := lget (0, (0, (0, 0))) r.2 (lget 0 sequence p)
 let y : z00 := lget (0, (0, (0, 0))) r.2 (lget 0 sequence (wi64 (p - 1)))
 (bif decide (p < r.1.1) then
 chk (decide ((0 : Int) ≤ 1) && decide ((1 : Int) < 5)) (
 let out_1 : (Nat → Bool) := aset out 1 (decide ((wi64 (x.1 - y.1)) < 0))
 some out_1)
 else
 chk (decide ((0 : Int) ≤ 1) && decide ((1 : Int) < 5)) (
 let out_2 : (Nat → Bool) := aset out 1 (decide ((wi64 (x.1 - y.1)) > 0))
 some out_2)).bind fun (out_3 : (Nat → Bool)) =>
 (z0w (wi64 (x.1 - y.1)) (wi64 (0 - r.1.2.2.1)) r.1.2.1).bind fun (t_1 : Bool) =>
 chk (decide ((0 : Int) ≤ 2) && decide ((2 : Int) < 5)) (
 let out_4 : (Nat → Bool) := aset out_3 2 (!t_1)
 (z4h (wi64 (x.2.1 - y.2.1))).bind fun (t_2 : Int) =>
 chk (decide ((0 : Int) ≤ 3) && decide ((3 : Int) < 5)) (
 let out_5 : (Nat → Bool) := aset out_4 3 (decide (t_2 > r.1.2.2.2.1))
 (z4h (wi64 (x.2.2.1 - y.2.2.1))).bind fun (t_3 : Int) =>
 chk (decide ((0 : Int) ≤ 4) && decide ((4 : Int) < 5)) (
 let out_6 : (Nat → Bool) := aset out_5 4 (decide (t_3 > r.1.2.2.2.2.1))
 some out_6)))))))))
noncomputable def z5i (s : (List Bool)) (v : Bool) : Option (Int) :=
 (z2d (S := Int) (R := (Unit) ⊕ (Int)) (fun t =>
 bif decide (t < (List.length s : Int)) then
 chk (decide ((0 : Int) ≤ t) && decide (t < (List.length s : Int))) (
 bif (v == (lget false s t)) then
 Option.map Sum.inr (Option.map Sum.inr (
 some t))
 else
 some (.inl (wi64 (t + 1))))
 else
 some (.inr (.inl ()))) 0).bind fun j => match j with
 | .inl _ => (
 some (-1))
 | .inr r => some r
noncomputable def z2h (s : (List Bool)) (v : Bool) : Option (Bool) :=
 (z5i s v).bind fun (t : Int) =>
 some (decide (t ≥ 0))
noncomputable def slices_Index_int (s : (List Int)) (v : Int) : Option (Int) :=
 (z2d (S := Int) (R := (Unit) ⊕ (Int)) (fun t =>
 bif decide (t < (List.length s : Int)) then
 chk (decide ((0 : Int) ≤ t) && decide (t < (List.length s : Int))) (
 bif (v == (lget 0 s t)) then
 Option.map Sum.inr (Option.map Sum.inr (
 some t))
 else
 some (.inl (wi64 (t + 1))))
 else
 some (.inr (.inl ()))) 0).bind fun j => match j with
 | .inl _ => (
 some (-1))
 | .inr r => some r
noncomputable def slices_Contains_int (s : (List Int)) (v : Int) : Option (Bool) :=
 (slices_Index_int s v).bind fun (t : Int) =>
 some (decide (t ≥ 0))
def catM {α β : Type} (f : α → Option (List β)) : List α → Option (List β)
 | [] => some []
 | a :: l => (f a).bind fun x => (catM f l).bind fun y => some (x ++ y)
noncomputable def zgo (r : z05) (begun : List Int) : Option Bool :=
 bif decide ((begun.length : Int) > 0) then (z1a r begun (wi64 ((begun.length : Int) - 1))).bind fun v => z2h ((List.range 5).map v) true else some false
noncomputable def zvg (r : z05) (items : List Int) : Nat → List Int → Option (List (List Int))
 | m, begun => (zgo r begun).bind fun bad => bif bad then some [] else bif ((begun.length : Int) == (items.length : Int)) then some [begun] else match m with
  | 0 => none
  | m + 1 => catM (fun i => (slices_Contains_int begun i).bind fun t => bif t then some [] else zvg r items m (begun ++ [i])) items
noncomputable def z1f (r : z05) (items : List Int) : Option (List (List Int)) := bif decide (items.length ≤ 1000) then zvg r items (items.length + 1) [] else none
noncomputable def z2b (r : z05) (a : Int) (b : Int) : Option (Int) :=
 chk (decide ((0 : Int) ≤ a) && decide (a < (List.length r.2 : Int))) (
 chk (decide ((0 : Int) ≤ b) && decide (b < (List.length r.2 : Int))) (
 let x : z00 := lget (0, (0, (0, 0))) r.2 a
 let y : z00 := lget (0, (0, (0, 0))) r.2 b
 (z4h (wi64 (x.1 - y.1))).bind fun (t : Int) =>
 (z4h (wi64 (x.2.1 - y.2.1))).bind fun (t_1 : Int) =>
 (z4h (wi64 (x.2.2.1 - y.2.2.1))).bind fun (t_2 : Int) =>
 let t_3 : Int := wi64 ((wi64 ((wi64 (r.1.2.2.2.2.2.2.1 * t)) + (wi64 (r.1.2.2.2.2.2.2.2.1 * t_1)))) + (wi64 (r.1.2.2.2.2.2.2.2.2 * t_2)))
 some t_3))
noncomputable def z19 (r : z05) (sequence : (List Int)) : Option (Int) :=
 (z2d (S := Int × Int) (R := Int) (fun s =>
 let sum : Int := s.1
 let p : Int := s.2
 bif decide (p < (List.length sequence : Int)) then
 chk (decide ((0 : Int) ≤ (wi64 (p - 1))) && decide ((wi64 (p - 1)) < (List.length sequence : Int))) (
 chk (decide ((0 : Int) ≤ p) && decide (p < (List.length sequence : Int))) (
 (z2b r (lget 0 sequence (wi64 (p - 1))) (lget 0 sequence p)).bind fun (t : Int) =>
 some (.inl (wi64 (sum + t), wi64 (p + 1)))))
 else
 some (.inr sum)) (0, 1)).bind fun (sum_1 : Int) =>
 some sum_1
noncomputable def y27 (x : z05) (s : List Int) (b : Option (List Int × Int)) : Option (Option (List Int × Int)) :=
 (z19 x s).bind fun n => match b with
  | none => some (some (s, n))
  | some c => chk (!c.1.isEmpty) (bif decide (n < c.2) then some (some (s, n)) else some (some c))
noncomputable def y28 (x : z05) : List (List Int) → Option (List Int × Int) → Option (Option (List Int × Int))
 | [], b => some b
 | s :: cs, b => (y27 x s b).bind fun d => y28 x cs d
noncomputable def z1x (r : z02) (l : List z00) : Option (List Int × Int × Int) :=
 (z3t r l).bind fun x => bif x.2 != 0 then some ([], 0, x.2) else
 (z3v (l.length : Int)).bind fun ns => (z1f x.1 ns).bind fun cs => (y28 x.1 cs none).bind fun b => match b with
 | none => some ([], 0, 12)
 | some c => chk (!c.1.isEmpty) (some (c.1, c.2, 0))
noncomputable def z4r (n : Int) : Option (Bool) :=
 (z0w n (-10000) 10000).bind fun (t : Bool) =>
 some (!t)
noncomputable def z3j (x : List Int) : Option (List Int) := bif decide (x.length ≤ 1000000) then some (x.mergeSort fun a b => decide (a ≤ b)) else none
noncomputable def z44 (x : List Int) : Option (List Int) := bif decide (x.length ≤ 1000000) then some x else none
noncomputable def z3h (r : z05) (prices : (List Int)) : Option (Int) :=
 (z2d (S := (List Int) × Int) (R := Int) (fun s =>
 let in_ : (List Int) := s.1
 let sum : Int := s.2
 bif decide ((List.length in_ : Int) < (List.length r.2 : Int)) then
 (z2d (S := Int × Int × Int) (R := Int × Int) (fun s_1 =>
 let next : Int := s_1.1
 let least : Int := s_1.2.1
 let t : Int := s_1.2.2
 bif decide (t < (List.length in_ : Int)) then
 chk (decide ((0 : Int) ≤ t) && decide (t < (List.length in_ : Int))) (
 (z2d (S := Int × Int × Int) (R := Int × Int) (fun s_2 =>
 let next_1 : Int := s_2.1
 let least_1 : Int := s_2.2.1
 let t_1 : Int := s_2.2.2
 bif decide (t_1 < (List.length r.2 : Int)) then
 (z2b r (lget 0 in_ t) t_1).bind fun (t_2 : Int) =>
 chk (decide ((0 : Int) ≤ (lget 0 in_ t)) && decide ((lget 0 in_ t) < (List.length prices : Int))) (
 chk (decide ((0 : Int) ≤ t_1) && decide (t_1 < (List.length prices : Int))) (
 let n : Int := wi64 ((wi64 (t_2 - (lget 0 prices (lget 0 in_ t)))) - (lget 0 prices t_1))
 (slices_Contains_int in_ t_1).bind fun (t_3 : Bool) =>
 (bif ((!t_3) && ((decide (next_1 < 0)) || (decide (n < least_1)))) then
 some (t_1, n)
 else
 some (next_1, least_1)).bind fun (j : Int × Int) =>
 let next_2 : Int := j.1
 let least_2 : Int := j.2
 some (.inl (next_2, least_2, wi64 (t_1 + 1)))))
 else
 some (.inr (next_1, least_1))) (next, least, 0)).bind fun (b : Int × Int) =>
 let next_3 : Int := b.1
 let least_3 : Int := b.2
 some (.inl (next_3, least_3, wi64 (t + 1))))
 else
 some (.inr (next, least))) ((-1), 0, 0)).bind fun (b_1 : Int × Int) =>
 let next_4 : Int := b_1.1
 let least_4 : Int := b_1.2
 (app in_ [next_4]).bind fun (t_4 : List Int) =>
 let sum_1 : Int := wi64 (sum + least_4)
 some (.inl (t_4, sum_1))
 else
 some (.inr sum)) ([0], 0)).bind fun (sum_2 : Int) =>
 some sum_2
noncomputable def z3d (r : z02) (l : (List z00)) (prices : (List Int)) : Option (Int × Int) :=
 (z3t r l).bind fun (r_1 : z05 × Int) =>
 (z1y prices (fun x => z4r x)).bind fun (t : Bool) =>
 (z0l ((List.length prices : Int) == (List.length l : Int)) 10).bind fun (t_1 : Int) =>
 (z0l (!t) 2).bind fun (t_2 : Int) =>
 (z1t [r_1.2, t_1, t_2]).bind fun (t_3 : Int) =>
 bif (t_3 != 0) then
 some (0, t_3)
 else
 bif ((List.length l : Int) == 1) then
 some (0, 0)
 else
 (z2d (S := Int × Int) (R := Int) (fun s =>
 let sum : Int := s.1
 let t_4 : Int := s.2
 bif decide (t_4 < (List.length prices : Int)) then
 chk (decide ((0 : Int) ≤ t_4) && decide (t_4 < (List.length prices : Int))) (
 let sum_1 : Int := wi64 (sum + (wi64 (2 * (lget 0 prices t_4))))
 some (.inl (sum_1, wi64 (t_4 + 1))))
 else
 some (.inr sum)) (0, 0)).bind fun (sum_2 : Int) =>
 (z44 prices).bind fun (t_5 : (List Int)) =>
 (z3j t_5).bind fun (t_6 : (List Int)) =>
 chk (decide ((0 : Int) ≤ (wi64 ((List.length t_6 : Int) - 2))) && decide (((wi64 ((List.length t_6 : Int) - 2)) : Int) ≤ (List.length t_6 : Int)) && decide ((List.length t_6 : Int) ≤ (List.length t_6 : Int))) (
 let top : (List Int) := List.drop (Int.toNat (wi64 ((List.length t_6 : Int) - 2))) (List.take (Int.toNat (List.length t_6 : Int)) t_6)
 (z3h r_1.1 prices).bind fun (t_7 : Int) =>
 chk (decide ((0 : Int) ≤ 0) && decide (0 < (List.length top : Int))) (
 chk (decide ((0 : Int) ≤ 1) && decide (1 < (List.length top : Int))) (
 let t_8 : Int := wi64 ((wi64 ((wi64 (t_7 + sum_2)) - (lget 0 top 0))) - (lget 0 top 1))
 some (t_8, 0))))
noncomputable def zlb (a : (List Int)) (b : (List Int)) : Option (Bool) :=
 bif ((List.length a : Int) != (List.length b : Int)) then
 some false
 else
 (z2d (S := Int) (R := (Unit) ⊕ (Bool)) (fun i =>
 bif decide (i < (List.length a : Int)) then
 chk (decide ((0 : Int) ≤ i) && decide (i < (List.length a : Int))) (
 chk (decide ((0 : Int) ≤ i) && decide (i < (List.length b : Int))) (
 bif ((lget 0 a i) != (lget 0 b i)) then
 Option.map Sum.inr (Option.map Sum.inr (
 some false))
 else
 some (.inl (wi64 (i + 1)))))
 else
 some (.inr (.inl ()))) 0).bind fun j => match j with
 | .inl _ => (
 some true)
 | .inr r => some r
noncomputable def z67 (y : (List (List ByteArray))) : Option (Int × Int) :=
 (z0l (decide ((List.length y : Int) > 0)) 10).bind fun (t : Int) =>
 (z0l (decide ((List.length y : Int) ≤ 4)) 8).bind fun (t_1 : Int) =>
 (z1t [t, t_1]).bind fun (t_2 : Int) =>
 bif (t_2 != 0) then
 some (0, t_2)
 else
 (z2d (S := Int × (List (ByteArray × Bool))) (R := ((List (ByteArray × Bool))) ⊕ (Int × Int)) (fun s =>
 let t_3 : Int := s.1
 let t_4 : (List (ByteArray × Bool)) := s.2
 bif decide (t_3 < (List.length y : Int)) then
 chk (decide ((0 : Int) ≤ t_3) && decide (t_3 < (List.length y : Int))) (
 bif decide ((List.length (lget [] y t_3) : Int) > 6) then
 Option.map Sum.inr (Option.map Sum.inr (
 some (t_3, 8)))
 else
 (z2d (S := Int × (List (ByteArray × Bool))) (R := ((List (ByteArray × Bool))) ⊕ ((Int × (List (ByteArray × Bool))) ⊕ (((List (ByteArray × Bool))) ⊕ (Int × Int)))) (fun s_1 =>
 let t_5 : Int := s_1.1
 let t_6 : (List (ByteArray × Bool)) := s_1.2
 bif decide (t_5 < (List.length (lget [] y t_3) : Int)) then
 chk (decide ((0 : Int) ≤ t_5) && decide (t_5 < (List.length (lget [] y t_3) : Int))) (
 let name : ByteArray := lget ByteArray.empty (lget [] y t_3) t_5
 (z29 name).bind fun (t_7 : Bool) =>
 (z0l t_7 4).bind fun (t_8 : Int) =>
 (z0l (!(mget .str .bool t_6 name)) 5).bind fun (t_9 : Int) =>
 (z1t [t_8, t_9]).bind fun (t_10 : Int) =>
 bif (t_10 != 0) then
 Option.map Sum.inr (Option.map Sum.inr (
 Option.map Sum.inr (Option.map Sum.inr (
 some (t_3, t_10)))))
 else
 let t_11 : (List (ByteArray × Bool)) := mput .str .bool t_6 name true
 some (.inl (wi64 (t_5 + 1), t_11)))
 else
 some (.inr (.inl t_6))) (0, t_4)).bind fun j => match j with
 | .inl t_12 => (
 some (.inl (wi64 (t_3 + 1), t_12)))
 | .inr r => some r)
 else
 some (.inr (.inl t_4))) (0, [])).bind fun j => match j with
 | .inl t_13 => (
 (z0l (decide ((List.length t_13 : Int) ≤ 8)) 8).bind fun (t_14 : Int) =>
 some (0, t_14))
 | .inr r => some r
noncomputable def slices_Clone_string (x : List ByteArray) : Option (List ByteArray) := app [] x
noncomputable def z5s (y : (List (List ByteArray))) : Option ((List (List ByteArray))) :=
 (z2d (S := (List (List ByteArray)) × Int) (R := (List (List ByteArray))) (fun s =>
 let out : (List (List ByteArray)) := s.1
 let t : Int := s.2
 bif decide (t < (List.length y : Int)) then
 chk (decide ((0 : Int) ≤ t) && decide (t < (List.length y : Int))) (
 (slices_Clone_string (lget [] y t)).bind fun (t_1 : (List ByteArray)) =>
 (app out [t_1]).bind fun (t_2 : List (List ByteArray)) =>
 some (.inl (t_2, wi64 (t + 1))))
 else
 some (.inr out)) ([], 0)).bind fun (out_1 : (List (List ByteArray))) =>
 some out_1
noncomputable def z6w (y : (List (List ByteArray))) : Option ((List (List ByteArray)) × Int) :=
 (z67 y).bind fun (r : Int × Int) =>
 (z5s y).bind fun (t : (List (List ByteArray))) =>
 some (t, r.2)
noncomputable def z3s (s : (List (List ByteArray))) (f : ((List ByteArray) → Option Bool)) : Option (Int) :=
 (z2d (S := Int) (R := (Unit) ⊕ (Int)) (fun t =>
 bif decide (t < (List.length s : Int)) then
 chk (decide ((0 : Int) ≤ t) && decide (t < (List.length s : Int))) (
 (f (lget [] s t)).bind fun (t_1 : Bool) =>
 bif t_1 then
 Option.map Sum.inr (Option.map Sum.inr (
 some t))
 else
 some (.inl (wi64 (t + 1))))
 else
 some (.inr (.inl ()))) 0).bind fun j => match j with
 | .inl _ => (
 some (-1))
 | .inr r => some r
noncomputable def z2w (s : (List (List ByteArray))) (f : ((List ByteArray) → Option Bool)) : Option (Bool) :=
 (z3s s f).bind fun (t : Int) =>
 some (decide (t ≥ 0))
noncomputable def slices_Index_string (s : (List ByteArray)) (v : ByteArray) : Option (Int) :=
 (z2d (S := Int) (R := (Unit) ⊕ (Int)) (fun t =>
 bif decide (t < (List.length s : Int)) then
 chk (decide ((0 : Int) ≤ t) && decide (t < (List.length s : Int))) (
 bif seqb v (lget ByteArray.empty s t) then
 Option.map Sum.inr (Option.map Sum.inr (
 some t))
 else
 some (.inl (wi64 (t + 1))))
 else
 some (.inr (.inl ()))) 0).bind fun j => match j with
 | .inl _ => (
 some (-1))
 | .inr r => some r
noncomputable def slices_Contains_string (s : (List ByteArray)) (v : ByteArray) : Option (Bool) :=
 (slices_Index_string s v).bind fun (t : Int) =>
 some (decide (t ≥ 0))
noncomputable def z40 (pile : (List ByteArray)) (x : ByteArray) : Option (Bool) :=
 (slices_Contains_string pile x).bind fun (t : Bool) =>
 some t
noncomputable def z52 (y : (List (List ByteArray))) (request : (List ByteArray)) : Option ((List (List ByteArray)) × Int) :=
 (z6w y).bind fun (r : (List (List ByteArray)) × Int) =>
 bif (r.2 != 0) then
 some ([], r.2)
 else
 (z2d (S := Int) (R := (Unit) ⊕ ((List (List ByteArray)) × Int)) (fun t =>
 bif decide (t < (List.length request : Int)) then
 chk (decide ((0 : Int) ≤ t) && decide (t < (List.length request : Int))) (
 let name : ByteArray := lget ByteArray.empty request t
 (z2w y (fun x => z40 x name)).bind fun (t_1 : Bool) =>
 (z0l (!(!t_1)) 6).bind fun (t_2 : Int) =>
 chk (decide ((0 : Int) ≤ 0) && decide ((0 : Int) ≤ t) && decide (t ≤ (List.length request : Int))) (
 (slices_Contains_string (List.drop (Int.toNat 0) (List.take (Int.toNat t) request)) name).bind fun (t_3 : Bool) =>
 (z0l (!t_3) 23).bind fun (t_4 : Int) =>
 (z1t [t_2, t_4]).bind fun (t_5 : Int) =>
 bif (t_5 != 0) then
 Option.map Sum.inr (Option.map Sum.inr (
 some ([], t_5)))
 else
 some (.inl (wi64 (t + 1)))))
 else
 some (.inr (.inl ()))) 0).bind fun j => match j with
 | .inl _ => (
 some (r.1, 0))
 | .inr r => some r
noncomputable def z2n (s : (List ByteArray)) (f : (ByteArray → Option Bool)) : Option (Int) :=
 (z2d (S := Int) (R := (Unit) ⊕ (Int)) (fun t =>
 bif decide (t < (List.length s : Int)) then
 chk (decide ((0 : Int) ≤ t) && decide (t < (List.length s : Int))) (
 (f (lget ByteArray.empty s t)).bind fun (t_1 : Bool) =>
 bif t_1 then
 Option.map Sum.inr (Option.map Sum.inr (
 some t))
 else
 some (.inl (wi64 (t + 1))))
 else
 some (.inr (.inl ()))) 0).bind fun j => match j with
 | .inl _ => (
 some (-1))
 | .inr r => some r
noncomputable def z2a (s : (List ByteArray)) (f : (ByteArray → Option Bool)) : Option (Bool) :=
 (z2n s f).bind fun (t : Int) =>
 some (decide (t ≥ 0))
noncomputable def za4 (request : (List ByteArray)) (name : ByteArray) (than : ByteArray) : Option (Bool) :=
 (slices_Index_string request name).bind fun (t : Int) =>
 (bif decide (t < 0) then some true else
 (slices_Index_string request than).bind fun (t_1 : Int) =>
 some (decide (t > t_1))).bind fun (c : Bool) =>
 some c
noncomputable def z3k (below : ByteArray) (x : (List ByteArray)) (x_1 : ByteArray) : Option (Bool) :=
 (slices_Contains_string x below).bind fun (t : Bool) =>
 (bif t then
 (za4 x x_1 below).bind fun (t_1 : Bool) =>
 some t_1
 else some false).bind fun (c : Bool) =>
 some c
noncomputable def z3z (y : (List (List ByteArray))) (request : (List ByteArray)) : Option ((List ByteArray)) :=
 (z2d (S := (List ByteArray) × Int) (R := (List ByteArray)) (fun s =>
 let out : (List ByteArray) := s.1
 let t : Int := s.2
 bif decide (t < (List.length y : Int)) then
 chk (decide ((0 : Int) ≤ t) && decide (t < (List.length y : Int))) (
 (z2d (S := (List ByteArray) × Int) (R := (List ByteArray)) (fun s_1 =>
 let out_1 : (List ByteArray) := s_1.1
 let t_1 : Int := s_1.2
 bif decide (t_1 < (List.length (lget [] y t) : Int)) then
 chk (decide ((0 : Int) ≤ t_1) && decide (t_1 < (List.length (lget [] y t) : Int))) (
 let name : ByteArray := lget ByteArray.empty (lget [] y t) t_1
 chk (decide ((0 : Int) ≤ 0) && decide ((0 : Int) ≤ t_1) && decide (t_1 ≤ (List.length (lget [] y t) : Int))) (
 (z2a (List.drop (Int.toNat 0) (List.take (Int.toNat t_1) (lget [] y t))) (fun x => z3k x request name)).bind fun (t_2 : Bool) =>
 (bif t_2 then
 (app out_1 [name]).bind fun (t_3 : List ByteArray) =>
 some t_3
 else
 some out_1).bind fun (out_2 : (List ByteArray)) =>
 some (.inl (out_2, wi64 (t_1 + 1)))))
 else
 some (.inr out_1)) (out, 0)).bind fun (out_3 : (List ByteArray)) =>
 some (.inl (out_3, wi64 (t + 1))))
 else
 some (.inr out)) ([], 0)).bind fun (out_4 : (List ByteArray)) =>
 some out_4
noncomputable def z68 (y : (List (List ByteArray))) (request : (List ByteArray)) : Option ((List ByteArray) × Int) :=
 (z52 y request).bind fun (r : (List (List ByteArray)) × Int) =>
 bif (r.2 != 0) then
 some ([], r.2)
 else
 (z3z r.1 request).bind fun (t : (List ByteArray)) =>
 some (t, 0)
noncomputable def zq5 (a : (List ByteArray)) (b : (List ByteArray)) : Option (Bool) :=
 bif ((List.length a : Int) != (List.length b : Int)) then
 some false
 else
 (z2d (S := Int) (R := (Unit) ⊕ (Bool)) (fun i =>
 bif decide (i < (List.length a : Int)) then
 chk (decide ((0 : Int) ≤ i) && decide (i < (List.length a : Int))) (
 chk (decide ((0 : Int) ≤ i) && decide (i < (List.length b : Int))) (
 bif !seqb (lget ByteArray.empty a i) (lget ByteArray.empty b i) then
 Option.map Sum.inr (Option.map Sum.inr (
 some false))
 else
 some (.inl (wi64 (i + 1)))))
 else
 some (.inr (.inl ()))) 0).bind fun j => match j with
 | .inl _ => (
 some true)
 | .inr r => some r
noncomputable def strings_Split (s sep : ByteArray) : Option (List ByteArray) := y06 sep s
noncomputable def strconv_Itoa (n : Int) : Option ByteArray := bif decide ((-9223372036854775808 : Int) ≤ n) && decide (n ≤ 9223372036854775807) then some ⟨(Lib.itoa n).toArray⟩ else none
noncomputable def strconv_Atoi (s : ByteArray) : Option (Int × Bool) := yfc s
noncomputable def z6x (s : ByteArray) : Option (Int × Bool) :=
 (strconv_Atoi s).bind fun (r : Int × Bool) =>
 (bif (r.2 && (decide (r.1 ≥ 0))) then
 (strconv_Itoa r.1).bind fun (t : ByteArray) =>
 some (seqb t s)
 else some false).bind fun (c : Bool) =>
 let t_1 : Bool := (c && (decide ((ByteArray.size s : Int) ≤ 6)))
 some (r.1, t_1)
def z1b (ws : List ByteArray) (i : Int) : ByteArray := if i < (ws.length : Int) then lget ByteArray.empty ws i else ByteArray.empty
noncomputable def zer (ws : List ByteArray) (i : Int) : Option (Option Int) := (z6x (z1b ws i)).bind fun r => some (bif r.2 then some r.1 else none)
def y4f (us : List (ByteArray × Int)) (w : ByteArray) : Option Int := (us.find? fun p => seqb w p.1).map (·.2)
def zce (us : List (ByteArray × Int)) (ws : List ByteArray) (i : Int) : Option Int := if i < (ws.length : Int) then y4f us (z1b ws i) else none
noncomputable def z62 (us : List (ByteArray × Int)) (ws : List ByteArray) (i : Int) : Option (Int ⊕ Int) :=
 (zer ws i).bind fun n => match n with
  | none => some (.inl i)
  | some n => match zce us ws (i + 1) with
   | none => some (.inl (i + 1))
   | some b => some (.inr (wi64 (n * b)))
def zmv : List (ByteArray × Int) := [(bytes [117, 109], 1), (bytes [109, 109], 1000)]
def unMm : List (ByteArray × Int) := [(bytes [109, 109], 1)]
def unTo : List (ByteArray × Int) := [(bytes [116, 111], 10)]
def unC : List (ByteArray × Int) := [(bytes [67], 10)]
noncomputable def zyj (k : Nat) (ws : List ByteArray) (o : z01) (i : Int) : Option (Int ⊕ (z01 × Int)) :=
 match k with
 | 0 => (zer ws i).bind fun n => match n with
  | none => some (.inl i)
  | some n => some (.inr ((o.1, (n, o.2.2)), i + 1))
 | 1 => (z62 zmv ws i).bind fun v => match v with
  | .inl j => some (.inl j)
  | .inr v => some (.inr ((o.1, (o.2.1, (v, o.2.2.2))), i + 2))
 | 2 => (z62 zmv ws i).bind fun v => match v with
  | .inl j => some (.inl j)
  | .inr v => some (.inr ((o.1, (o.2.1, (o.2.2.1, (v, o.2.2.2.2)))), i + 2))
 | 3 => (z62 unMm ws i).bind fun v => match v with
  | .inl j => some (.inl j)
  | .inr v => some (.inr ((o.1, (o.2.1, (o.2.2.1, (o.2.2.2.1, (v, o.2.2.2.2.2))))), i + 2))
 | 4 => (z62 unTo ws i).bind fun v => match v with
  | .inl j => some (.inl j)
  | .inr v => (z62 unC ws (i + 2)).bind fun u => match u with
   | .inl j => some (.inl j)
   | .inr u => some (.inr ((o.1, (o.2.1, (o.2.2.1, (o.2.2.2.1, (o.2.2.2.2.1, ((v, u), o.2.2.2.2.2.2)))))), i + 4))
 | _ => (zer ws i).bind fun n => match n with
  | none => some (.inl i)
  | some n => some (.inr ((o.1, (o.2.1, (o.2.2.1, (o.2.2.2.1, (o.2.2.2.2.1, (o.2.2.2.2.2.1, n)))))), i + 1))
def zd2 : List ByteArray := [bytes [103, 114, 97, 100, 101], bytes [116, 104, 105, 99, 107, 110, 101, 115, 115], bytes [116, 111, 108, 101, 114, 97, 110, 99, 101], bytes [119, 105, 100, 116, 104], bytes [99, 111, 105, 108, 105, 110, 103], bytes [100, 117, 101]]
def z9a (w : ByteArray) : Option Nat := zd2.findIdx? fun c => seqb c w
noncomputable def zfe (ws : List ByteArray) : Nat → z01 → Int → (Nat → Bool) → Option ((Int × Int) ⊕ (z01 × (Nat → Bool)))
 | 0, _, _, _ => none
 | n + 1, o, i, given => if i < (ws.length : Int) then match z9a (z1b ws i) with
   | none => some (.inl (i, 7))
   | some k => bif given k then some (.inl (i, 23)) else (zyj k ws o (i + 1)).bind fun r => match r with
    | .inl j => some (.inl (j, 7))
    | .inr r => zfe ws n r.1 r.2 (upd given k true)
  else some (.inr (o, given))
def z3f : z01 := (ByteArray.empty, (0, (0, (0, (0, ((0, 0), 0))))))
noncomputable def z4a (s : ByteArray) : Option (z01 × Int × Int) :=
 (strings_Split s (bytes [32])).bind fun ws => (z29 (z1b ws 0)).bind fun is => bif !is then some (z3f, 0, 7) else
  (zfe ws (ws.length + 1) (z1b ws 0, (0, (0, (0, (0, ((0, 20000), 0)))))) 1 (fun _ => false)).bind fun r => match r with
   | .inl f => some (z3f, f.1, f.2)
   | .inr r => bif !(r.2 0 && r.2 1 && r.2 3) then some (z3f, 0, 14) else (z13 r.1).bind fun e => bif e != 0 then some (z3f, 0, e) else some (r.1, 0, 0)
noncomputable def zuk  : Option ((List (List ByteArray))) :=
 let t : (List (List ByteArray)) := [[(bytes [97]), (bytes [98]), (bytes [99])], [(bytes [100])], []]
 some t
noncomputable def zm3  : Option (z02) :=
 some (2, (100, (150, (1000, (2, (5000, (1, (0, 10))))))))
noncomputable def zm4  : Option ((List z00)) :=
 let t : (List z00) := [(1200, (3000, (5, 1000))), (1100, (2500, (4, 1000))), (1050, (3400, (6, 2000)))]
 some t
noncomputable def z7b  : Option (Bool) :=
 (z4a (bytes [97, 45, 49, 32, 119, 105, 100, 116, 104, 32, 49, 50, 48, 48, 32, 109, 109, 32, 116, 104, 105, 99, 107, 110, 101, 115, 115, 32, 51, 32, 109, 109, 32, 103, 114, 97, 100, 101, 32, 53, 32, 116, 111, 108, 101, 114, 97, 110, 99, 101, 32, 53, 48, 32, 117, 109, 32, 100, 117, 101, 32, 49, 50])).bind fun (r : z01 × Int × Int) =>
 (z2p ((bytes [115]), (5, (200000, (1250, 8000)))) r.1).bind fun (r_1 : z1g × Int) =>
 (zuk).bind fun (t : (List (List ByteArray))) =>
 (z68 t [(bytes [97]), (bytes [99])]).bind fun (r_2 : (List ByteArray) × Int) =>
 (zm3).bind fun (t_1 : z02) =>
 (zm4).bind fun (t_2 : (List z00)) =>
 (z1x t_1 t_2).bind fun (r_3 : (List Int) × Int × Int) =>
 (zm3).bind fun (t_3 : z02) =>
 (zm4).bind fun (t_4 : (List z00)) =>
 (z3d t_3 t_4 [0, 20, 0]).bind fun (r_4 : Int × Int) =>
 (bif ((r.2.2 == 0) && (r_1.2 == 0)) then
 some (Ty.eqb z0r r_1.1 (546448, 564972))
 else some false).bind fun (c : Bool) =>
 (bif (c && (r_2.2 == 0)) then
 (zq5 r_2.1 [(bytes [98]), (bytes [99])]).bind fun (t_5 : Bool) =>
 some t_5
 else some false).bind fun (c_1 : Bool) =>
 (bif (c_1 && (r_3.2.2 == 0)) then
 (zlb r_3.1 [1, 0, 2]).bind fun (t_6 : Bool) =>
 some t_6
 else some false).bind fun (c_2 : Bool) =>
 let t_7 : Bool := (((c_2 && (r_3.2.1 == 270)) && (r_4.2 == 0)) && (r_4.1 == 160))
 some t_7
noncomputable def z1q (n : Int) (lo : Int) (hi : Int) : Option (Bool) :=
 let t : Bool := ((decide (lo ≤ n)) && (decide (n ≤ hi)))
 some t
noncomputable def zi4 (s : ByteArray) : Option (Bool) :=
 bif ((decide ((ByteArray.size s : Int) < 1)) || (decide ((ByteArray.size s : Int) > 12))) then
 some false
 else
 (z2d (S := Int) (R := (Unit) ⊕ (Bool)) (fun i =>
 bif decide (i < (ByteArray.size s : Int)) then
 chk (decide ((0 : Int) ≤ i) && decide (i < (ByteArray.size s : Int))) (
 let letter : Bool := (((decide ((sget s i) ≥ 97)) && (decide ((sget s i) ≤ 122))) || ((decide ((sget s i) ≥ 65)) && (decide ((sget s i) ≤ 90))))
 bif ((!letter) && ((i == 0) || (((sget s i) != 45) && ((decide ((sget s i) < 48)) || (decide ((sget s i) > 57)))))) then
 Option.map Sum.inr (Option.map Sum.inr (
 some false))
 else
 some (.inl (wi64 (i + 1))))
 else
 some (.inr (.inl ()))) 0).bind fun j => match j with
 | .inl _ => (
 some true)
 | .inr r => some r
noncomputable def zav (n : Int) : Option (Bool) :=
 (z1q n 500 2500).bind fun (t : Bool) =>
 some t
noncomputable def zff (o : z01) : Option (Int) :=
 (zi4 o.1).bind fun (t : Bool) =>
 bif !t then
 some 4
 else
 (z1q o.2.1 1 99).bind fun (t_1 : Bool) =>
 (bif !t_1 then some true else
 (z1q o.2.2.1 1 300000).bind fun (t_2 : Bool) =>
 some (!t_2)).bind fun (c : Bool) =>
 (bif c then some true else
 (z1q o.2.2.2.1 0 (wi64 (o.2.2.1 - 1))).bind fun (t_3 : Bool) =>
 some (!t_3)).bind fun (c_1 : Bool) =>
 (bif c_1 then some true else
 (zav o.2.2.2.2.1).bind fun (t_4 : Bool) =>
 some (!t_4)).bind fun (c_2 : Bool) =>
 (bif c_2 then some true else
 (z1q o.2.2.2.2.2.1.1 0 20000).bind fun (t_5 : Bool) =>
 some (!t_5)).bind fun (c_3 : Bool) =>
 (bif c_3 then some true else
 (z1q o.2.2.2.2.2.1.2 0 20000).bind fun (t_6 : Bool) =>
 some (!t_6)).bind fun (c_4 : Bool) =>
 bif c_4 then
 some 2
 else
 bif decide (o.2.2.2.2.2.1.1 > o.2.2.2.2.2.1.2) then
 some 9
 else
 chk (10 != 0) (
 let t_7 : Int := Int.tmod o.2.2.2.2.2.1.1 10
 (bif (t_7 != 0) then some true else
 chk (10 != 0) (
 let t_8 : Int := Int.tmod o.2.2.2.2.2.1.2 10
 some (t_8 != 0))).bind fun (c_5 : Bool) =>
 bif c_5 then
 some 3
 else
 (z1q o.2.2.2.2.2.2 0 100000).bind fun (t_9 : Bool) =>
 bif !t_9 then
 some 2
 else
 some 0)
noncomputable def zmb (n : Int) (by_ : Int) : Option (Int) :=
 chk (by_ != 0) (
 let t : Int := wi64 (Int.tdiv n by_)
 chk (by_ != 0) (
 (bif decide ((Int.tmod n by_) < 0) then
 some (wi64 (t - 1))
 else
 some t).bind fun (q : Int) =>
 some q))
end Go.Lift
