/-
  The further functions of the law of violations.
-/
import Derived.Test.YtggnjngdmadbaaaGreatDoorFunF
import Derived.Test.YtggnjngdmadbaaaGreatDoorFunT
set_option linter.unusedSectionVars false
set_option linter.unusedVariables false
set_option linter.unusedSimpArgs false
namespace Go.Lift
open Go
noncomputable def zm2 (l : (List z00)) : Option (Bool) :=
 let t : Bool := decide ((List.length l : Int) ≤ 9)
 some t
noncomputable def z1r (l : (List z00)) : Option ((List z00)) :=
 (app [] l).bind fun (t : List z00) =>
 some t
noncomputable def z3i (l : (List Int)) : Option ((List Int)) :=
 (app [] l).bind fun (t : List Int) =>
 some t
noncomputable def zcz (l : (List z00)) : Option (Int) :=
 bif ((List.length l : Int) == 0) then
 some 10
 else
 bif decide ((List.length l : Int) > 7) then
 some 8
 else
 (z2d (S := Int) (R := (Unit) ⊕ (Int)) (fun i =>
 bif decide (i < (List.length l : Int)) then
 chk (decide ((0 : Int) ≤ i) && decide (i < (List.length l : Int))) (
 (zav ((lget (0, (0, (0, 0))) l i).1)).bind fun (t : Bool) =>
 (bif !t then some true else
 chk (decide ((0 : Int) ≤ i) && decide (i < (List.length l : Int))) (
 (z1q (((lget (0, (0, (0, 0))) l i).2).1) 1 300000).bind fun (t_1 : Bool) =>
 some (!t_1))).bind fun (c : Bool) =>
 (bif c then some true else
 chk (decide ((0 : Int) ≤ i) && decide (i < (List.length l : Int))) (
 (z1q ((((lget (0, (0, (0, 0))) l i).2).2).1) 1 99).bind fun (t_2 : Bool) =>
 some (!t_2))).bind fun (c_1 : Bool) =>
 (bif c_1 then some true else
 chk (decide ((0 : Int) ≤ i) && decide (i < (List.length l : Int))) (
 (z1q ((((lget (0, (0, (0, 0))) l i).2).2).2) 1 10000).bind fun (t_3 : Bool) =>
 some (!t_3))).bind fun (c_2 : Bool) =>
 bif c_2 then
 Option.map Sum.inr (Option.map Sum.inr (
 some 2))
 else
 some (.inl (wi64 (i + 1))))
 else
 some (.inr (.inl ()))) 0).bind fun j => match j with
 | .inl _ => (
 some 0)
 | .inr r => some r
noncomputable def zcy (r : z02) : Option (Int) :=
 (z1q r.1 0 7).bind fun (t : Bool) =>
 (bif !t then some true else
 (z1q r.2.1 0 300000).bind fun (t_1 : Bool) =>
 some (!t_1)).bind fun (c : Bool) =>
 (bif c then some true else
 (z1q r.2.2.1 0 300000).bind fun (t_2 : Bool) =>
 some (!t_2)).bind fun (c_1 : Bool) =>
 (bif c_1 then some true else
 (z1q r.2.2.2.1 0 300000).bind fun (t_3 : Bool) =>
 some (!t_3)).bind fun (c_2 : Bool) =>
 (bif c_2 then some true else
 (z1q r.2.2.2.2.1 0 99).bind fun (t_4 : Bool) =>
 some (!t_4)).bind fun (c_3 : Bool) =>
 (bif c_3 then some true else
 (z1q r.2.2.2.2.2.1 0 70000).bind fun (t_5 : Bool) =>
 some (!t_5)).bind fun (c_4 : Bool) =>
 (bif c_4 then some true else
 (z1q r.2.2.2.2.2.2.1 0 10000).bind fun (t_6 : Bool) =>
 some (!t_6)).bind fun (c_5 : Bool) =>
 (bif c_5 then some true else
 (z1q r.2.2.2.2.2.2.2.1 0 10000).bind fun (t_7 : Bool) =>
 some (!t_7)).bind fun (c_6 : Bool) =>
 (bif c_6 then some true else
 (z1q r.2.2.2.2.2.2.2.2 0 10000).bind fun (t_8 : Bool) =>
 some (!t_8)).bind fun (c_7 : Bool) =>
 bif c_7 then
 some 2
 else
 some 0
noncomputable def zay (r : z02) (l : (List z00)) : Option (Int) :=
 (zcy r).bind fun (t : Int) =>
 bif (t != 0) then
 some t
 else
 (zcz l).bind fun (t_1 : Int) =>
 some t_1
noncomputable def zla (n : Int) : Option (Int) :=
 let t : Int := imax n (wi64 (0 - n))
 some t
noncomputable def ztu (r : z02) (x : z00) (y : z00) : Option (Int) :=
 (zla (wi64 (x.1 - y.1))).bind fun (t : Int) =>
 (zla (wi64 (x.2.1 - y.2.1))).bind fun (t_1 : Int) =>
 (zla (wi64 (x.2.2.1 - y.2.2.1))).bind fun (t_2 : Int) =>
 let t_3 : Int := wi64 ((wi64 ((wi64 (r.2.2.2.2.2.2.1 * t)) + (wi64 (r.2.2.2.2.2.2.2.1 * t_1)))) + (wi64 (r.2.2.2.2.2.2.2.2 * t_2)))
 some t_3
noncomputable def zkd (r : z02) (l : (List z00)) (sequence : (List Int)) : Option (Int) :=
 (z2d (S := Int × Int) (R := Int) (fun s =>
 let sum : Int := s.1
 let p : Int := s.2
 bif decide (p < (List.length sequence : Int)) then
 chk (decide ((0 : Int) ≤ (wi64 (p - 1))) && decide ((wi64 (p - 1)) < (List.length sequence : Int))) (
 chk (decide ((0 : Int) ≤ (lget 0 sequence (wi64 (p - 1)))) && decide ((lget 0 sequence (wi64 (p - 1))) < (List.length l : Int))) (
 chk (decide ((0 : Int) ≤ p) && decide (p < (List.length sequence : Int))) (
 chk (decide ((0 : Int) ≤ (lget 0 sequence p)) && decide ((lget 0 sequence p) < (List.length l : Int))) (
 (ztu r (lget (0, (0, (0, 0))) l (lget 0 sequence (wi64 (p - 1)))) (lget (0, (0, (0, 0))) l (lget 0 sequence p))).bind fun (t : Int) =>
 some (.inl (wi64 (sum + t), wi64 (p + 1)))))))
 else
 some (.inr sum)) (0, 1)).bind fun (sum_1 : Int) =>
 some sum_1
noncomputable def z3m (r : z02) (l : (List z00)) (sequence : (List Int)) : Option (z05 × Int) :=
 (z3t r l).bind fun (r_1 : z05 × Int) =>
 bif (r_1.2 != 0) then
 some (r_1.1, r_1.2)
 else
 (z2d (S := Int) (R := (Unit) ⊕ (z05 × Int)) (fun t =>
 bif decide (t < (List.length sequence : Int)) then
 chk (decide ((0 : Int) ≤ t) && decide (t < (List.length sequence : Int))) (
 (z0w (lget 0 sequence t) 0 (wi64 ((List.length l : Int) - 1))).bind fun (t_1 : Bool) =>
 (z0l t_1 6).bind fun (t_2 : Int) =>
 chk (decide ((0 : Int) ≤ 0) && decide ((0 : Int) ≤ t) && decide (t ≤ (List.length sequence : Int))) (
 (slices_Contains_int (List.drop (Int.toNat 0) (List.take (Int.toNat t) sequence)) (lget 0 sequence t)).bind fun (t_3 : Bool) =>
 (z0l (!t_3) 23).bind fun (t_4 : Int) =>
 (z1t [t_2, t_4]).bind fun (t_5 : Int) =>
 bif (t_5 != 0) then
 Option.map Sum.inr (Option.map Sum.inr (
 some (r_1.1, t_5)))
 else
 some (.inl (wi64 (t + 1)))))
 else
 some (.inr (.inl ()))) 0).bind fun j => match j with
 | .inl _ => (
 some (r_1.1, 0))
 | .inr r => some r
def zoh (f : Nat → Bool) : List Int := ((List.range 5).filter f).map fun (k : Nat) => (k : Int)
noncomputable def zid (r : z05) (s : List Int) : Nat → Int → Option (List (Int × Int))
 | 0, _ => some []
 | n + 1, p => (z1a r s p).bind fun v => (zid r s n (p + 1)).bind fun l => some ((zoh v).map (fun k => (p, k)) ++ l)
noncomputable def z39 (r : z05) (s : List Int) : Option (List (Int × Int)) := bif decide (s.length ≤ 1000000) then zid r s s.length 0 else none
noncomputable def z3l (r : z05) (sequence : (List Int)) : Option (z1g × Bool) :=
 (z39 r sequence).bind fun (t : (List z1g)) =>
 (zno (X := z1g) (S := Unit) (R := z1g × Bool) (fun t_1 _ =>
 Option.map Sum.inr (
 some (t_1, true))) t ()).bind fun j => match j with
 | .inl _ => (
 some ((0, 0), false))
 | .inr r => some r
noncomputable def zrz (l : (List Int)) (n : Int) : Option (Bool) :=
 (z2d (S := Int) (R := (Unit) ⊕ (Bool)) (fun i =>
 bif decide (i < (List.length l : Int)) then
 chk (decide ((0 : Int) ≤ i) && decide (i < (List.length l : Int))) (
 bif ((lget 0 l i) == n) then
 Option.map Sum.inr (Option.map Sum.inr (
 some true))
 else
 some (.inl (wi64 (i + 1))))
 else
 some (.inr (.inl ()))) 0).bind fun j => match j with
 | .inl _ => (
 some false)
 | .inr r => some r
noncomputable def z38 (l : (List z00)) (sequence : (List Int)) : Option (Int) :=
 (z2d (S := Int) (R := (Unit) ⊕ (Int)) (fun i =>
 bif decide (i < (List.length sequence : Int)) then
 chk (decide ((0 : Int) ≤ i) && decide (i < (List.length sequence : Int))) (
 (z1q (lget 0 sequence i) 0 (wi64 ((List.length l : Int) - 1))).bind fun (t : Bool) =>
 bif !t then
 Option.map Sum.inr (Option.map Sum.inr (
 some 6))
 else
 chk (decide ((0 : Int) ≤ 0) && decide ((0 : Int) ≤ i) && decide (i ≤ (List.length sequence : Int))) (
 chk (decide ((0 : Int) ≤ i) && decide (i < (List.length sequence : Int))) (
 (zrz (List.drop (Int.toNat 0) (List.take (Int.toNat i) sequence)) (lget 0 sequence i)).bind fun (t_1 : Bool) =>
 bif t_1 then
 Option.map Sum.inr (Option.map Sum.inr (
 some 23))
 else
 some (.inl (wi64 (i + 1))))))
 else
 some (.inr (.inl ()))) 0).bind fun j => match j with
 | .inl _ => (
 some 0)
 | .inr r => some r
noncomputable def zaw (r : z02) (l : (List z00)) (sequence : (List Int)) : Option (z1g × Bool) :=
 (z2d (S := Int × Int) (R := (Unit) ⊕ (z1g × Bool)) (fun s =>
 let metres : Int := s.1
 let p : Int := s.2
 bif decide (p < (List.length sequence : Int)) then
 chk (decide ((0 : Int) ≤ p) && decide (p < (List.length sequence : Int))) (
 chk (decide ((0 : Int) ≤ (lget 0 sequence p)) && decide ((lget 0 sequence p) < (List.length l : Int))) (
 let x : z00 := lget (0, (0, (0, 0))) l (lget 0 sequence p)
 let metres_1 : Int := wi64 (metres + x.2.2.2)
 bif decide (metres_1 > r.2.2.2.2.2.1) then
 Option.map Sum.inr (Option.map Sum.inr (
 some ((p, 0), true)))
 else
 bif (p == 0) then
 some (.inl (metres_1, wi64 (p + 1)))
 else
 chk (decide ((0 : Int) ≤ (wi64 (p - 1))) && decide ((wi64 (p - 1)) < (List.length sequence : Int))) (
 chk (decide ((0 : Int) ≤ (lget 0 sequence (wi64 (p - 1)))) && decide ((lget 0 sequence (wi64 (p - 1))) < (List.length l : Int))) (
 let y : z00 := lget (0, (0, (0, 0))) l (lget 0 sequence (wi64 (p - 1)))
 bif (((decide (p < r.1)) && (decide (x.1 < y.1))) || ((decide (p ≥ (imax r.1 1))) && (decide (x.1 > y.1)))) then
 Option.map Sum.inr (Option.map Sum.inr (
 some ((p, 1), true)))
 else
 bif ((decide ((wi64 (x.1 - y.1)) > r.2.1)) || (decide ((wi64 (y.1 - x.1)) > r.2.2.1))) then
 Option.map Sum.inr (Option.map Sum.inr (
 some ((p, 2), true)))
 else
 (zla (wi64 (x.2.1 - y.2.1))).bind fun (t : Int) =>
 bif decide (t > r.2.2.2.1) then
 Option.map Sum.inr (Option.map Sum.inr (
 some ((p, 3), true)))
 else
 (zla (wi64 (x.2.2.1 - y.2.2.1))).bind fun (t_1 : Int) =>
 bif decide (t_1 > r.2.2.2.2.1) then
 Option.map Sum.inr (Option.map Sum.inr (
 some ((p, 4), true)))
 else
 some (.inl (metres_1, wi64 (p + 1)))))))
 else
 some (.inr (.inl ()))) (0, 0)).bind fun j => match j with
 | .inl _ => (
 some ((0, 0), false))
 | .inr r => some r
end Go.Lift
namespace Go.Lift
open Go Go.Proofs
def zvm : Ann := .nil
def zlh : Ann := .nil
def zdd : Ann := .nil
def zn9 : Ann := (.seq .nil (.seq .nil (.seq .nil (.seq (.seq .nil (.blk (.loopBD ⟨[⟨false, 3, 0, (.int .i64), [], false⟩], []⟩ ⟨[], []⟩ 0 .nil))) .nil))))
def zn7 : Ann := .nil
def zq9 : Ann := .nil
def zxz : Ann := .nil
def zxw : Ann := .nil
def zxx : Ann := (.seq .nil (.seq .nil (.seq (.seq .nil (.blk (.loopB ⟨[⟨false, 7, 0, (.int .i64), [], false⟩, ⟨false, 8, 0, (.int .i64), [], false⟩], [3]⟩ ⟨[⟨false, 7, 0, (.int .i64), [], false⟩], [3]⟩ 0 .nil))) .nil)))
def zb1 : Ann := (.seq .nil (.seq .nil (.seq .nil (.seq (.seq .nil (.blk (.loopBD ⟨[⟨false, 25, 0, (.int .i64), [], false⟩], [3, 6, 8]⟩ ⟨[], [3, 6, 8]⟩ 0 .nil))) .nil))))
def z8w : Ann := (.seq .nil (.seq (.seq .nil (.blk (.loopD ⟨[], [2, 4, 5]⟩ .nil))) .nil))
def y2c : Ann := (.seq .nil (.seq (.seq .nil (.blk (.loopBD ⟨[⟨false, 5, 0, (.int .i64), [], false⟩], []⟩ ⟨[], []⟩ 0 .nil))) .nil))
def zi6 : Ann := (.seq .nil (.seq (.seq .nil (.blk (.loopBD ⟨[⟨false, 5, 0, (.int .i64), [], false⟩], []⟩ ⟨[], []⟩ 0 .nil))) .nil))
def zlf : Ann := (.seq .nil (.seq .nil (.seq (.seq .nil (.blk (.loopBD ⟨[⟨false, 8, 0, (.int .i64), [], false⟩, ⟨false, 9, 0, (.int .i64), [], false⟩], [3, 6]⟩ ⟨[], [3, 6]⟩ 0 .nil))) .nil)))
noncomputable abbrev z2k : Sig := ⟨156, [z0a, (.slice (.int .i64))], [(.seq z0r)], fun x => z39 x.1 x.2⟩
noncomputable abbrev znh : Sig := ⟨22, [(.slice z03)], [.bool], fun x => zm2 x⟩
noncomputable abbrev z8h : Sig := ⟨25, [(.slice z03)], [(.slice z03)], fun x => z1r x⟩
noncomputable abbrev z5c : Sig := ⟨27, [(.slice (.int .i64))], [(.slice (.int .i64))], fun x => z3i x⟩
noncomputable abbrev zgz : Sig := ⟨23, [(.slice z03)], [(.int .i64)], fun x => zcz x⟩
noncomputable abbrev zgy : Sig := ⟨50, [z06], [(.int .i64)], fun x => zcy x⟩
noncomputable abbrev zba : Sig := ⟨28, [z06, (.slice z03)], [(.int .i64)], fun x => zay x.1 x.2⟩
noncomputable abbrev zqi : Sig := ⟨111, [(.int .i64)], [(.int .i64)], fun x => zla x⟩
noncomputable abbrev zqh : Sig := ⟨94, [z06, z03, z03], [(.int .i64)], fun x => ztu x.1 x.2.1 x.2.2⟩
noncomputable abbrev zlq : Sig := ⟨33, [z06, (.slice z03), (.slice (.int .i64))], [(.int .i64)], fun x => zkd x.1 x.2.1 x.2.2⟩
noncomputable abbrev z6m : Sig := ⟨107, [z06, (.slice z03), (.slice (.int .i64))], [z0a, (.int .i64)], fun x => z3m x.1 x.2.1 x.2.2⟩
noncomputable abbrev z8j : Sig := ⟨108, [z0a, (.slice (.int .i64))], [z0r, .bool], fun x => z3l x.1 x.2⟩
noncomputable abbrev ztj : Sig := ⟨93, [(.slice (.int .i64)), (.int .i64)], [.bool], fun x => zrz x.1 x.2⟩
noncomputable abbrev z96 : Sig := ⟨52, [(.slice z03), (.slice (.int .i64))], [(.int .i64)], fun x => z38 x.1 x.2⟩
noncomputable abbrev zf7 : Sig := ⟨53, [z06, (.slice z03), (.slice (.int .i64))], [z0r, .bool], fun x => zaw x.1 x.2.1 x.2.2⟩
end Go.Lift
