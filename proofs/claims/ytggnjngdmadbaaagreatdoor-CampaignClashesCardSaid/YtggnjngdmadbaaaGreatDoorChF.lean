/-
  The further functions of the law of the cheapest campaign.
-/
import Derived.Test.YtggnjngdmadbaaaGreatDoorFunF
import Derived.Test.YtggnjngdmadbaaaGreatDoorVioF
import Derived.Test.YtggnjngdmadbaaaGreatDoorFunT
set_option linter.unusedSectionVars false
set_option linter.unusedVariables false
set_option linter.unusedSimpArgs false
namespace Go.Lift
open Go
noncomputable def zax (l : (List z00)) (prices : (List Int)) : Option (Int) :=
 bif ((List.length prices : Int) != (List.length l : Int)) then
 some 10
 else
 (z2d (S := Int) (R := (Unit) ⊕ (Int)) (fun i =>
 bif decide (i < (List.length prices : Int)) then
 chk (decide ((0 : Int) ≤ i) && decide (i < (List.length prices : Int))) (
 (z1q (lget 0 prices i) (-10000) 10000).bind fun (t : Bool) =>
 bif !t then
 Option.map Sum.inr (Option.map Sum.inr (
 some 2))
 else
 some (.inl (wi64 (i + 1))))
 else
 some (.inr (.inl ()))) 0).bind fun j => match j with
 | .inl _ => (
 some 0)
 | .inr r => some r
noncomputable def zlx (r : z02) (l : (List z00)) (prices : (List Int)) : Option (Int) :=
 bif ((List.length l : Int) == 1) then
 some 0
 else
 (z2d (S := (List Int) × Int) (R := Int) (fun s =>
 let in_ : (List Int) := s.1
 let sum : Int := s.2
 bif decide ((List.length in_ : Int) < (List.length l : Int)) then
 (z2d (S := Int × Int × Int) (R := Int × Int) (fun s_1 =>
 let best : Int := s_1.1
 let at_ : Int := s_1.2.1
 let i : Int := s_1.2.2
 bif decide (i < (List.length in_ : Int)) then
 (z2d (S := Int × Int × Int) (R := Int × Int) (fun s_2 =>
 let best_1 : Int := s_2.1
 let at__1 : Int := s_2.2.1
 let k : Int := s_2.2.2
 bif decide (k < (List.length l : Int)) then
 (zrz in_ k).bind fun (t : Bool) =>
 bif t then
 some (.inl (best_1, at__1, wi64 (k + 1)))
 else
 chk (decide ((0 : Int) ≤ i) && decide (i < (List.length in_ : Int))) (
 chk (decide ((0 : Int) ≤ (lget 0 in_ i)) && decide ((lget 0 in_ i) < (List.length l : Int))) (
 chk (decide ((0 : Int) ≤ k) && decide (k < (List.length l : Int))) (
 (ztu r (lget (0, (0, (0, 0))) l (lget 0 in_ i)) (lget (0, (0, (0, 0))) l k)).bind fun (t_1 : Int) =>
 chk (decide ((0 : Int) ≤ i) && decide (i < (List.length in_ : Int))) (
 chk (decide ((0 : Int) ≤ (lget 0 in_ i)) && decide ((lget 0 in_ i) < (List.length prices : Int))) (
 chk (decide ((0 : Int) ≤ k) && decide (k < (List.length prices : Int))) (
 let n : Int := wi64 ((wi64 (t_1 - (lget 0 prices (lget 0 in_ i)))) - (lget 0 prices k))
 (bif ((decide (at__1 < 0)) || (decide (n < best_1))) then
 some (n, k)
 else
 some (best_1, at__1)).bind fun (j : Int × Int) =>
 let best_2 : Int := j.1
 let at__2 : Int := j.2
 some (.inl (best_2, at__2, wi64 (k + 1)))))))))
 else
 some (.inr (best_1, at__1))) (best, at_, 0)).bind fun (b : Int × Int) =>
 let best_3 : Int := b.1
 let at__3 : Int := b.2
 some (.inl (best_3, at__3, wi64 (i + 1)))
 else
 some (.inr (best, at_))) (0, (-1), 0)).bind fun (b_1 : Int × Int) =>
 let best_4 : Int := b_1.1
 let at__4 : Int := b_1.2
 (app in_ [at__4]).bind fun (t_2 : List Int) =>
 let sum_1 : Int := wi64 (sum + best_4)
 some (.inl (t_2, sum_1))
 else
 some (.inr sum)) ([0], 0)).bind fun (sum_2 : Int) =>
 (z2d (S := Int × Int × Int × Int) (R := Int × Int × Int) (fun s_3 =>
 let sum_3 : Int := s_3.1
 let first_ : Int := s_3.2.1
 let second_ : Int := s_3.2.2.1
 let i_1 : Int := s_3.2.2.2
 bif decide (i_1 < (List.length prices : Int)) then
 chk (decide ((0 : Int) ≤ i_1) && decide (i_1 < (List.length prices : Int))) (
 let sum_4 : Int := wi64 (sum_3 + (wi64 (2 * (lget 0 prices i_1))))
 chk (decide ((0 : Int) ≤ i_1) && decide (i_1 < (List.length prices : Int))) (
 (bif decide ((lget 0 prices i_1) > first_) then
 chk (decide ((0 : Int) ≤ i_1) && decide (i_1 < (List.length prices : Int))) (
 some (lget 0 prices i_1, first_))
 else
 chk (decide ((0 : Int) ≤ i_1) && decide (i_1 < (List.length prices : Int))) (
 (bif decide ((lget 0 prices i_1) > second_) then
 chk (decide ((0 : Int) ≤ i_1) && decide (i_1 < (List.length prices : Int))) (
 some (lget 0 prices i_1))
 else
 some second_).bind fun (second__1 : Int) =>
 some (first_, second__1))).bind fun (j_1 : Int × Int) =>
 let first__1 : Int := j_1.1
 let second__2 : Int := j_1.2
 some (.inl (sum_4, first__1, second__2, wi64 (i_1 + 1)))))
 else
 some (.inr (sum_3, first_, second_))) (sum_2, (-10000), (-10000), 0)).bind fun (b_2 : Int × Int × Int) =>
 let sum_5 : Int := b_2.1
 let first__2 : Int := b_2.2.1
 let second__3 : Int := b_2.2.2
 let t_3 : Int := wi64 ((wi64 (sum_5 - first__2)) - second__3)
 some t_3
noncomputable def y37 (rec : List Int → Option (List (List Int))) (l : List Int) : Option (List (List Int)) :=
 bif ((List.length l : Int) == 0) then
 some [[]]
 else
 (z2d (S := (List (List Int)) × Int) (R := (List (List Int))) (fun s =>
 let out : (List (List Int)) := s.1
 let i : Int := s.2
 bif decide (i < (List.length l : Int)) then
 chk (decide ((0 : Int) ≤ 0) && decide ((0 : Int) ≤ i) && decide (i ≤ (List.length l : Int))) (
 (z3i (List.drop (Int.toNat 0) (List.take (Int.toNat i) l))).bind fun (t : List Int) =>
 chk (decide ((0 : Int) ≤ (wi64 (i + 1))) && decide (((wi64 (i + 1)) : Int) ≤ (List.length l : Int)) && decide ((List.length l : Int) ≤ (List.length l : Int))) (
 (app t (List.drop (Int.toNat (wi64 (i + 1))) (List.take (Int.toNat (List.length l : Int)) l))).bind fun (t_1 : List Int) =>
 (rec t_1).bind fun (t_2 : (List (List Int))) =>
 (z2d (S := (List (List Int)) × Int) (R := (List (List Int))) (fun s_1 =>
 let out_1 : (List (List Int)) := s_1.1
 let k : Int := s_1.2
 bif decide (k < (List.length t_2 : Int)) then
 chk (decide ((0 : Int) ≤ i) && decide (i < (List.length l : Int))) (
 chk (decide ((0 : Int) ≤ k) && decide (k < (List.length t_2 : Int))) (
 (app [lget 0 l i] (lget [] t_2 k)).bind fun (t_3 : List Int) =>
 (app out_1 [t_3]).bind fun (t_4 : List (List Int)) =>
 some (.inl (t_4, wi64 (k + 1)))))
 else
 some (.inr out_1)) (out, 0)).bind fun (out_2 : (List (List Int))) =>
 some (.inl (out_2, wi64 (i + 1)))))
 else
 some (.inr out)) ([], 0)).bind fun (out_3 : (List (List Int))) =>
 some out_3
noncomputable def zqr : Nat → List Int → Option (List (List Int))
 | 0, _ => none
 | n + 1, l => y37 (zqr n) l
noncomputable def ztv (l : List Int) : Option (List (List Int)) := zqr (l.length + 1) l
noncomputable def zfg (r : z02) (l : (List z00)) : Option ((List Int) × Bool) :=
 (z2d (S := (List Int) × Int) (R := (List Int)) (fun s =>
 let all : (List Int) := s.1
 let i : Int := s.2
 bif decide (i < (List.length l : Int)) then
 (app all [i]).bind fun (t : List Int) =>
 some (.inl (t, wi64 (i + 1)))
 else
 some (.inr all)) ([], 0)).bind fun (all_1 : (List Int)) =>
 (ztv all_1).bind fun (t_1 : (List (List Int))) =>
 (z2d (S := (List Int) × Bool × Int) (R := (List Int) × Bool) (fun s_1 =>
 let best : (List Int) := s_1.1
 let found : Bool := s_1.2.1
 let i_1 : Int := s_1.2.2
 bif decide (i_1 < (List.length t_1 : Int)) then
 chk (decide ((0 : Int) ≤ i_1) && decide (i_1 < (List.length t_1 : Int))) (
 (zaw r l (lget [] t_1 i_1)).bind fun (r_1 : z1g × Bool) =>
 (bif !r_1.2 then
 (bif !found then some true else
 chk (decide ((0 : Int) ≤ i_1) && decide (i_1 < (List.length t_1 : Int))) (
 (zkd r l (lget [] t_1 i_1)).bind fun (t_2 : Int) =>
 (zkd r l best).bind fun (t_3 : Int) =>
 some (decide (t_2 < t_3)))).bind fun (c : Bool) =>
 some c
 else some false).bind fun (c_1 : Bool) =>
 (bif c_1 then
 chk (decide ((0 : Int) ≤ i_1) && decide (i_1 < (List.length t_1 : Int))) (
 some (lget [] t_1 i_1, true))
 else
 some (best, found)).bind fun (j : (List Int) × Bool) =>
 let best_1 : (List Int) := j.1
 let found_1 : Bool := j.2
 some (.inl (best_1, found_1, wi64 (i_1 + 1))))
 else
 some (.inr (best, found))) ([], false, 0)).bind fun (b : (List Int) × Bool) =>
 let best_2 : (List Int) := b.1
 let found_2 : Bool := b.2
 some (best_2, found_2)
noncomputable def z5r (r : z02) (l : (List z00)) (prices : (List Int)) : Option (Bool) :=
 (z7b).bind fun (t : Bool) =>
 bif !t then
 some false
 else
 (zm2 l).bind fun (t_1 : Bool) =>
 (bif ((!t_1) || (decide ((List.length prices : Int) > 10))) then some true else
 (zcz l).bind fun (t_2 : Int) =>
 some ((t_2 == 0) && (decide ((List.length l : Int) > 5)))).bind fun (c : Bool) =>
 bif c then
 some true
 else
 (z1r l).bind fun (t_3 : (List z00)) =>
 (z1x r t_3).bind fun (r_1 : (List Int) × Int × Int) =>
 (z1r l).bind fun (t_4 : (List z00)) =>
 (z3i prices).bind fun (t_5 : (List Int)) =>
 (z3d r t_4 t_5).bind fun (r_2 : Int × Int) =>
 (zay r l).bind fun (t_6 : Int) =>
 bif (t_6 != 0) then
 let t_7 : Bool := (((((r_1.2.2 == t_6) && (r_2.2 == t_6)) && ((List.length r_1.1 : Int) == 0)) && (r_1.2.1 == 0)) && (r_2.1 == 0))
 some t_7
 else
 (zax l prices).bind fun (t_8 : Int) =>
 (bif ((t_8 != 0) && ((r_2.2 != t_8) || (r_2.1 != 0))) then some true else
 (bif (t_8 == 0) then
 (bif (r_2.2 != 0) then some true else
 (zlx r l prices).bind fun (t_9 : Int) =>
 some (r_2.1 != t_9)).bind fun (c_1 : Bool) =>
 some c_1
 else some false).bind fun (c_2 : Bool) =>
 some c_2).bind fun (c_3 : Bool) =>
 bif c_3 then
 some false
 else
 (zfg r l).bind fun (r_3 : (List Int) × Bool) =>
 bif !r_3.2 then
 let t_10 : Bool := (((r_1.2.2 == 12) && ((List.length r_1.1 : Int) == 0)) && (r_1.2.1 == 0))
 some t_10
 else
 (bif (r_1.2.2 == 0) then
 (zlb r_1.1 r_3.1).bind fun (t_11 : Bool) =>
 some t_11
 else some false).bind fun (c_4 : Bool) =>
 (bif c_4 then
 (zkd r l r_3.1).bind fun (t_12 : Int) =>
 some (r_1.2.1 == t_12)
 else some false).bind fun (c_5 : Bool) =>
 some c_5
end Go.Lift
namespace Go.Lift
open Go Go.Proofs
def zlg : Ann := (.seq .nil (.seq .nil (.seq (.seq .nil (.blk (.loopBD ⟨[⟨false, 5, 0, (.int .i64), [], false⟩], []⟩ ⟨[], []⟩ 0 .nil))) .nil)))
def zvl : Ann := (.seq .nil (.seq .nil (.seq .nil (.seq .nil (.seq (.blk (.loopB ⟨[⟨false, 7, 0, (.slice (.int .i64)), [([], some 2201000700)], false⟩, ⟨false, 8, 0, (.int .i64), [], false⟩], [3]⟩ ⟨[⟨false, 8, 0, (.int .i64), [], false⟩], [3]⟩ 0 (.seq .nil (.blk (.seq .nil (.seq (.seq .nil (.blk (.loopB ⟨[⟨false, 9, 0, (.int .i64), [], false⟩, ⟨false, 10, 0, (.int .i64), [], false⟩, ⟨false, 11, 0, (.int .i64), [], false⟩], [3, 2201000700]⟩ ⟨[⟨false, 9, 0, (.int .i64), [], false⟩, ⟨false, 10, 0, (.int .i64), [], false⟩], [3, 2201000700]⟩ 2 (.seq .nil (.seq (.blk (.seq .nil (.blk (.loopB ⟨[⟨false, 9, 0, (.int .i64), [], false⟩, ⟨false, 10, 0, (.int .i64), [], false⟩, ⟨false, 12, 0, (.int .i64), [], false⟩], [3, 2201000700]⟩ ⟨[⟨false, 9, 0, (.int .i64), [], false⟩, ⟨false, 10, 0, (.int .i64), [], false⟩], [3, 2201000700]⟩ 4 (.seq .nil (.seq (.blk (.seq .nil (.seq .nil (.seq .nil (.join ⟨[⟨false, 9, 0, (.int .i64), [], false⟩, ⟨false, 10, 0, (.int .i64), [], false⟩], [3, 2201000700]⟩ .nil .nil))))) .nil)))))) .nil))))) .nil)))))) (.seq .nil (.seq (.seq .nil (.blk (.loopB ⟨[⟨false, 8, 0, (.int .i64), [], false⟩, ⟨false, 14, 0, (.int .i64), [], false⟩, ⟨false, 15, 0, (.int .i64), [], false⟩, ⟨false, 16, 0, (.int .i64), [], false⟩], [3]⟩ ⟨[⟨false, 8, 0, (.int .i64), [], false⟩, ⟨false, 14, 0, (.int .i64), [], false⟩, ⟨false, 15, 0, (.int .i64), [], false⟩], [3]⟩ 6 (.seq .nil (.seq (.blk (.seq .nil (.seq .nil (.join ⟨[⟨false, 14, 0, (.int .i64), [], false⟩, ⟨false, 15, 0, (.int .i64), [], false⟩], [3]⟩ .nil (.seq .nil (.join ⟨[⟨false, 15, 0, (.int .i64), [], false⟩], [3]⟩ .nil .nil)))))) .nil))))) .nil)))))))
def zna : Ann := (.seq .nil (.seq .nil (.seq (.seq .nil (.blk (.loopB ⟨[⟨false, 6, 0, (.slice (.int .i64)), [([], some 101000600)], false⟩, ⟨false, 8, 0, (.int .i64), [], false⟩], [2]⟩ ⟨[⟨false, 6, 0, (.slice (.int .i64)), [([], some 201000600)], false⟩], [2]⟩ 0 .nil))) (.seq .nil (.seq .nil (.seq (.seq .nil (.blk (.loopB ⟨[⟨false, 7, 0, (.slice (.int .i64)), [], false⟩, ⟨false, 9, 0, .bool, [], false⟩, ⟨false, 11, 0, (.int .i64), [], false⟩], [2, 201000600]⟩ ⟨[⟨false, 7, 0, (.slice (.int .i64)), [], false⟩, ⟨false, 9, 0, .bool, [], false⟩], [2, 201000600]⟩ 2 (.seq .nil (.seq (.blk (.seq .nil (.seq .nil (.join ⟨[⟨false, 7, 0, (.slice (.int .i64)), [], false⟩, ⟨false, 9, 0, .bool, [], false⟩], [2, 12, 201000600]⟩ .nil .nil)))) .nil))))) .nil))))))
def zcn : Ann := .nil
noncomputable abbrev zk6 : Sig := ⟨95, [(.slice (.int .i64))], [(.slice (.slice (.int .i64)))], fun x => ztv x⟩
noncomputable abbrev zf8 : Sig := ⟨29, [(.slice z03), (.slice (.int .i64))], [(.int .i64)], fun x => zax x.1 x.2⟩
noncomputable abbrev ztf : Sig := ⟨30, [z06, (.slice z03), (.slice (.int .i64))], [(.int .i64)], fun x => zlx x.1 x.2.1 x.2.2⟩
noncomputable abbrev zmx : Sig := ⟨31, [z06, (.slice z03)], [(.slice (.int .i64)), .bool], fun x => zfg x.1 x.2⟩
noncomputable abbrev zcb : Sig := ⟨4, [z06, (.slice z03), (.slice (.int .i64))], [.bool], fun x => z5r x.1 x.2.1 x.2.2⟩
end Go.Lift
