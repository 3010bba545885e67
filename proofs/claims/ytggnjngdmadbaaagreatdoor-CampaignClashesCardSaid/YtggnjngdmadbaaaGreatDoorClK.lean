/-
  The functions of the law of clashes, their code, their contracts.
-/
import Derived.Test.YtggnjngdmadbaaaGreatDoorFunF
import Derived.Test.YtggnjngdmadbaaaGreatDoorVioF
import Derived.Test.YtggnjngdmadbaaaGreatDoorChF
import Derived.Test.YtggnjngdmadbaaaGreatDoorFunT
import Derived.Test.YtggnjngdmadbaaaGreatDoorFunH
import Derived.Test.YtggnjngdmadbaaaGreatDoorVioK
import Derived.Test.YtggnjngdmadbaaaGreatDoorChK
set_option linter.unusedSectionVars false
set_option linter.unusedVariables false
set_option linter.unusedSimpArgs false
namespace Go.Lift
open Go
def subL (n : Int) : Nat → List Int → Int → List (List Int)
 | 0, begun, _ => [begun]
 | m + 1, begun, fr => ((List.range (n - fr).toNat).map fun (j : Nat) => subL n m (begun ++ [fr + (j : Int)]) (fr + (j : Int) + 1)).flatten
noncomputable def z7o (n count : Int) : Option (List (List Int)) := bif decide ((0 : Int) ≤ n) && decide (n ≤ 1000) && decide ((0 : Int) ≤ count) && decide (count ≤ 1000) then some (subL n count.toNat [] 0) else none
noncomputable def z3a (r : z05) (items : (List Int)) : Option (Bool) :=
 (z1f r items).bind fun (t : (List (List Int))) =>
 (zno (X := (List Int)) (S := Unit) (R := Bool) (fun t_1 _ =>
 Option.map Sum.inr (
 some true)) t ()).bind fun j => match j with
 | .inl _ => (
 some false)
 | .inr r => some r
noncomputable def z41 (r : z02) (l : (List z00)) : Option ((List Int) × Int) :=
 (z3t r l).bind fun (r_1 : z05 × Int) =>
 bif (r_1.2 != 0) then
 some ([], r_1.2)
 else
 (z2d (S := Int) (R := (Unit) ⊕ ((List Int) × Int)) (fun t =>
 bif decide (t < (List.length l : Int)) then
 (z7o (List.length l : Int) (wi64 (t + 1))).bind fun (t_1 : (List (List Int))) =>
 (zno (X := (List Int)) (S := Unit) (R := (Int) ⊕ ((Unit) ⊕ ((List Int) × Int))) (fun t_2 _ =>
 (z3a r_1.1 t_2).bind fun (t_3 : Bool) =>
 bif !t_3 then
 Option.map Sum.inr (
 Option.map Sum.inr (Option.map Sum.inr (
 some (t_2, 0))))
 else
 some (.inl ())) t_1 ()).bind fun j => match j with
 | .inl _ => (
 some (.inl (wi64 (t + 1))))
 | .inr r => some r
 else
 some (.inr (.inl ()))) 0).bind fun j => match j with
 | .inl _ => (
 some ([], 12))
 | .inr r => some r
noncomputable def z65 (r : z02) (l : (List z00)) (sequence : (List Int)) : Option (Bool) :=
 (z7b).bind fun (t : Bool) =>
 bif !t then
 some false
 else
 (bif decide ((List.length l : Int) > 5) then some true else
 (zay r l).bind fun (t_1 : Int) =>
 some (t_1 != 0)).bind fun (c : Bool) =>
 (bif c then some true else
 (z38 l sequence).bind fun (t_2 : Int) =>
 some (t_2 != 0)).bind fun (c_1 : Bool) =>
 bif c_1 then
 some true
 else
 (z1r l).bind fun (t_3 : (List z00)) =>
 (z3i sequence).bind fun (t_4 : (List Int)) =>
 (z1u r t_3 t_4).bind fun (r_1 : z1g × Int) =>
 (bif ((r_1.2 != 0) && (r_1.2 != 12)) then some true else
 (bif (r_1.2 == 0) then
 (z1q r_1.1.1 0 (wi64 ((List.length sequence : Int) - 1))).bind fun (t_5 : Bool) =>
 some (!t_5)
 else some false).bind fun (c_2 : Bool) =>
 some c_2).bind fun (c_3 : Bool) =>
 bif c_3 then
 some false
 else
 (z2d (S := Int) (R := (Unit) ⊕ (Bool)) (fun n =>
 bif decide (n ≤ (List.length sequence : Int)) then
 (z1r l).bind fun (t_6 : (List z00)) =>
 chk (decide ((0 : Int) ≤ 0) && decide ((0 : Int) ≤ n) && decide (n ≤ (List.length sequence : Int))) (
 (z3i (List.drop (Int.toNat 0) (List.take (Int.toNat n) sequence))).bind fun (t_7 : (List Int)) =>
 (z1u r t_6 t_7).bind fun (r_2 : z1g × Int) =>
 bif ((r_2.2 == 12) != ((r_1.2 == 12) || (decide (n ≤ r_1.1.1)))) then
 Option.map Sum.inr (Option.map Sum.inr (
 some false))
 else
 some (.inl (wi64 (n + 1))))
 else
 some (.inr (.inl ()))) 0).bind fun j => match j with
 | .inl _ => (
 (z1r l).bind fun (t_8 : (List z00)) =>
 (z41 r t_8).bind fun (r_3 : (List Int) × Int) =>
 bif (r_3.2 != 0) then
 (z1r l).bind fun (t_9 : (List z00)) =>
 (z1x r t_9).bind fun (r_4 : (List Int) × Int × Int) =>
 let t_10 : Bool := (((r_3.2 == 12) && (r_4.2.2 == 0)) && ((List.length r_3.1 : Int) == 0))
 some t_10
 else
 (bif ((List.length r_3.1 : Int) == 0) then some true else
 (z38 l r_3.1).bind fun (t_11 : Int) =>
 some (t_11 != 0)).bind fun (c_4 : Bool) =>
 bif c_4 then
 some false
 else
 (z2d (S := Int) (R := (Unit) ⊕ (Bool)) (fun i =>
 bif decide (i < (List.length r_3.1 : Int)) then
 (z2d (S := (List z00) × Int) (R := (List z00)) (fun s =>
 let some_ : (List z00) := s.1
 let k : Int := s.2
 bif decide (k < (List.length r_3.1 : Int)) then
 (bif (k != i) then
 chk (decide ((0 : Int) ≤ k) && decide (k < (List.length r_3.1 : Int))) (
 chk (decide ((0 : Int) ≤ (lget 0 r_3.1 k)) && decide ((lget 0 r_3.1 k) < (List.length l : Int))) (
 (app some_ [lget (0, (0, (0, 0))) l (lget 0 r_3.1 k)]).bind fun (t_12 : List z00) =>
 some t_12))
 else
 some some_).bind fun (some__1 : (List z00)) =>
 some (.inl (some__1, wi64 (k + 1)))
 else
 some (.inr some_)) ([], 0)).bind fun (some__2 : (List z00)) =>
 bif ((List.length some__2 : Int) == 0) then
 some (.inl (wi64 (i + 1)))
 else
 (z1x r some__2).bind fun (r_5 : (List Int) × Int × Int) =>
 bif (((r_5.2.2 == 12) != (decide (i < 0))) || ((r_5.2.2 != 0) && (r_5.2.2 != 12))) then
 Option.map Sum.inr (Option.map Sum.inr (
 some false))
 else
 some (.inl (wi64 (i + 1)))
 else
 some (.inr (.inl ()))) (-1)).bind fun j => match j with
 | .inl _ => (
 some true)
 | .inr r => some r)
 | .inr r => some r
end Go.Lift
namespace Go.Lift
open Go Go.Proofs
def z8c : Ann := (.seq .nil (.seq (.seq .nil (.blk (.loopD ⟨[], [2, 4]⟩ .nil))) .nil))
def za9 : Ann := (.seq .nil (.seq .nil (.seq .nil (.seq (.seq .nil (.blk (.loopBD ⟨[⟨false, 21, 0, (.int .i64), [], false⟩], [2, 4, 5, 6]⟩ ⟨[], [2, 4, 5, 6]⟩ 0 (.seq .nil (.seq .nil (.seq (.blk (.seq .nil (.seq .nil (.blk (.loopD ⟨[], [2, 4, 5, 6]⟩ .nil))))) .nil)))))) .nil))))
def zdz : Ann := (.seq .nil (.seq .nil (.seq .nil (.seq .nil (.seq .nil (.seq (.seq .nil (.blk (.loopBD ⟨[⟨false, 9, 0, (.int .i64), [], false⟩], [3, 7]⟩ ⟨[], [3, 7]⟩ 0 .nil))) (.seq .nil (.seq .nil (.seq .nil (.seq (.seq .nil (.blk (.loopBD ⟨[⟨false, 17, 0, (.int .i64), [], false⟩], [3, 7]⟩ ⟨[], [3, 7]⟩ 2 (.seq .nil (.seq (.blk (.seq .nil (.seq (.seq .nil (.blk (.loopB ⟨[⟨false, 18, 0, (.slice z03), [([], some 2001001800)], false⟩, ⟨false, 19, 0, (.int .i64), [], false⟩], [3, 7]⟩ ⟨[⟨false, 18, 0, (.slice z03), [([], some 2201001800)], false⟩], [3, 7]⟩ 4 (.seq .nil (.seq (.blk (.seq .nil (.join ⟨[⟨false, 18, 0, (.slice z03), [([], some 2301001800)], false⟩], [3, 7]⟩ .nil .nil))) .nil))))) .nil))) .nil))))) .nil))))))))))
noncomputable abbrev zaf : Sig := ⟨112, [(.int .i64), (.int .i64)], [(.seq (.slice (.int .i64)))], fun x => z7o x.1 x.2⟩
noncomputable abbrev z87 : Sig := ⟨113, [z0a, (.slice (.int .i64))], [.bool], fun x => z3a x.1 x.2⟩
noncomputable abbrev z9y : Sig := ⟨54, [z06, (.slice z03)], [(.slice (.int .i64)), (.int .i64)], fun x => z41 x.1 x.2⟩
noncomputable abbrev zdh : Sig := ⟨9, [z06, (.slice z03), (.slice (.int .i64))], [.bool], fun x => z65 x.1 x.2.1 x.2.2⟩
end Go.Lift
namespace Go.Lift
open Go Go.Proofs
theorem zez (r : z05) (items : (List Int)) : funK (cx [] [z1c]) Tryz.f113 z8c [z0a, (.slice (.int .i64))] [.bool] (r, items) = z3a r items := by kernel_rfl
end Go.Lift
namespace Go.Lift
open Go Go.Proofs
theorem zhd (r : z02) (l : (List z00)) : funK (cx [] [z7h, zaf, z87]) Tryz.f54 za9 [z06, (.slice z03)] [(.slice (.int .i64)), (.int .i64)] (r, l) = z41 r l := by kernel_rfl
end Go.Lift
namespace Go.Lift
open Go Go.Proofs
theorem zl3 (r : z02) (l : (List z00)) (sequence : (List Int)) : funK (cx [] [zcw, z5b, z1i, z8h, z5c, zba, z56, z96, z9y]) Tryz.f9 zdz [z06, (.slice z03), (.slice (.int .i64))] [.bool] (r, l, sequence) = z65 r l sequence := by kernel_rfl
end Go.Lift
namespace Go.Lift
open Go Go.Proofs
end Go.Lift
namespace Go.Lift
open Go Go.Proofs
set_option maxRecDepth 100000
section
variable (z5e : Has Tryz.prog z5m) (z6q : Has Tryz.prog z61) (z5f : Has Tryz.prog z5n) (z0h : Has Tryz.prog z2k) (z0q : Has Tryz.prog z1c) (z4q : Has Tryz.prog zaf) (z08 : Has Tryz.prog z2i) (z0d : Has Tryz.prog z2y) (z0e : Has Tryz.prog z2z) (z0g : Has Tryz.prog z1i) (z0f : Has Tryz.prog z2j)  
include z0q in
theorem zfl : Has Tryz.prog z87 :=
 z0y z04 z0s z0t z0u (own := []) (all_cons z0q all_nil) (n := z8c) Tryz.func113 (by kernel_rfl) fun x => zez x.1 x.2
include z0q z4q in
theorem zhw : Has Tryz.prog z9y :=
 z0y z04 z0s z0t z0u (own := []) (all_cons zbm (all_cons z4q (all_cons (zfl z0q) all_nil))) (n := za9) Tryz.func54 (by kernel_rfl) fun x => zhd x.1 x.2
include z0h z0q z4q z08 z0d z0e z0g z0f in
theorem zmn : Has Tryz.prog zdh :=
 z0y z04 z0s z0t z0u (own := []) (all_cons (zhs z08 z0d z0e z0g z0f) (all_cons z7c (all_cons z0g (all_cons zdc (all_cons zbq (all_cons zgj (all_cons (z7z z0h) (all_cons zeb (all_cons (zhw z0q z4q) all_nil))))))))) (n := zdz) Tryz.func9 (by kernel_rfl) fun x => zl3 x.1 x.2.1 x.2.2
end
end Go.Lift
