/-
  The further functions of the law of the cheapest campaign.
-/
import Derived.Test.YtggnjngdmadbaaaGreatDoorFunF
import Derived.Test.YtggnjngdmadbaaaGreatDoorVioF
import Derived.Test.YtggnjngdmadbaaaGreatDoorFunT
set_option linter.unusedSectionVars false
set_option linter.unusedVariables false
set_option linter.unusedSimpArgs false
namespace Go.Lift
open Go
noncomputable def y37 (rec : List Int → Option (List (List Int))) (l : List Int) : Option (List (List Int)) :=
 bif ((List.length l : Int) == 0) then
 some [[]]
 else
 (z2d (S := (List (List Int)) × Int) (R := (List (List Int))) (fun s =>
 let out : (List (List Int)) := s.1
 let i : Int := s.2
 bif decide (i < (List.length l : Int)) then
 chk (decide ((0 : Int) ≤ 0) && decide ((0 : Int) ≤ i) && decide (i ≤ (List.length l : Int))) (
 (z3i (List.drop (Int.toNat 0) (List.take (Int.toNat i) l))).bind fun (t : List Int) =>
 chk (decide ((0 : Int) ≤ (wi64 (i + 1))) && decide (((wi64 (i + 1)) : Int) ≤ (List.length l : Int)) && decide ((List.length l : Int) ≤ (List.length l : Int))) (
 (app t (List.drop (Int.toNat (wi64 (i + 1))) (List.take (Int.toNat (List.length l : Int)) l))).bind fun (t_1 : List Int) =>
 (rec t_1).bind fun (t_2 : (List (List Int))) =>
 (z2d (S := (List (List Int)) × Int) (R := (List (List Int))) (fun s_1 =>
 let out_1 : (List (List Int)) := s_1.1
 let k : Int := s_1.2
 bif decide (k < (List.length t_2 : Int)) then
 chk (decide ((0 : Int) ≤ i) && decide (i < (List.length l : Int))) (
 chk (decide ((0 : Int) ≤ k) && decide (k < (List.length t_2 : Int))) (
 (app [lget 0 l i] (lget [] t_2 k)).bind fun (t_3 : List Int) =>
 (app out_1 [t_3]).bind fun (t_4 : List (List Int)) =>
 some (.inl (t_4, wi64 (k + 1)))))
 else
 some (.inr out_1)) (out, 0)).bind fun (out_2 : (List (List Int))) =>
 some (.inl (out_2, wi64 (i + 1)))))
 else
 some (.inr out)) ([], 0)).bind fun (out_3 : (List (List Int))) =>
 some out_3
noncomputable def zqr : Nat → List Int → Option (List (List Int))
 | 0, _ => none
 | n + 1, l => y37 (zqr n) l
noncomputable def ztv (l : List Int) : Option (List (List Int)) := zqr (l.length + 1) l
end Go.Lift
namespace Go.Lift
open Go Go.Proofs
noncomputable abbrev zk6 : Sig := ⟨95, [(.slice (.int .i64))], [(.slice (.slice (.int .i64)))], fun x => ztv x⟩
end Go.Lift
