/-
  The functions of the law of clashes, their code, their contracts.
-/
import Derived.Test.YtggnjngdmadbaaaGreatDoorFunF
import Derived.Test.YtggnjngdmadbaaaGreatDoorVioF
import Derived.Test.YtggnjngdmadbaaaGreatDoorChF
import Derived.Test.YtggnjngdmadbaaaGreatDoorFunT
import Derived.Test.YtggnjngdmadbaaaGreatDoorFunH
import Derived.Test.YtggnjngdmadbaaaGreatDoorVioK
import Derived.Test.YtggnjngdmadbaaaGreatDoorChK
set_option linter.unusedSectionVars false
set_option linter.unusedVariables false
set_option linter.unusedSimpArgs false
namespace Go.Lift
open Go
def subL (n : Int) : Nat → List Int → Int → List (List Int)
 | 0, begun, _ => [begun]
 | m + 1, begun, fr => ((List.range (n - fr).toNat).map fun (j : Nat) => subL n m (begun ++ [fr + (j : Int)]) (fr + (j : Int) + 1)).flatten
noncomputable def z7o (n count : Int) : Option (List (List Int)) := bif decide ((0 : Int) ≤ n) && decide (n ≤ 1000) && decide ((0 : Int) ≤ count) && decide (count ≤ 1000) then some (subL n count.toNat [] 0) else none
noncomputable def z3a (r : z05) (items : (List Int)) : Option (Bool) :=
 (z1f r items).bind fun (t : (List (List Int))) =>
 (zno (X := (List Int)) (S := Unit) (R := Bool) (fun t_1 _ =>
 Option.map Sum.inr (
 some true)) t ()).bind fun j => match j with
 | .inl _ => (
 some false)
 | .inr r => some r
noncomputable def z41 (r : z02) (l : (List z00)) : Option ((List Int) × Int) :=
 (z3t r l).bind fun (r_1 : z05 × Int) =>
 bif (r_1.2 != 0) then
 some ([], r_1.2)
 else
 (z2d (S := Int) (R := (Unit) ⊕ ((List Int) × Int)) (fun t =>
 bif decide (t < (List.length l : Int)) then
 (z7o (List.length l : Int) (wi64 (t + 1))).bind fun (t_1 : (List (List Int))) =>
 (zno (X := (List Int)) (S := Unit) (R := (Int) ⊕ ((Unit) ⊕ ((List Int) × Int))) (fun t_2 _ =>
 (z3a r_1.1 t_2).bind fun (t_3 : Bool) =>
 bif !t_3 then
 Option.map Sum.inr (
 Option.map Sum.inr (Option.map Sum.inr (
 some (t_2, 0))))
 else
 some (.inl ())) t_1 ()).bind fun j => match j with
 | .inl _ => (
 some (.inl (wi64 (t + 1))))
 | .inr r => some r
 else
 some (.inr (.inl ()))) 0).bind fun j => match j with
 | .inl _ => (
 some ([], 12))
 | .inr r => some r
end Go.Lift
namespace Go.Lift
open Go Go.Proofs
def z8c : Ann := (.seq .nil (.seq (.seq .nil (.blk (.loopD ⟨[], [2, 4]⟩ .nil))) .nil))
def za9 : Ann := (.seq .nil (.seq .nil (.seq .nil (.seq (.seq .nil (.blk (.loopBD ⟨[⟨false, 21, 0, (.int .i64), [], false⟩], [2, 4, 5, 6]⟩ ⟨[], [2, 4, 5, 6]⟩ 0 (.seq .nil (.seq .nil (.seq (.blk (.seq .nil (.seq .nil (.blk (.loopD ⟨[], [2, 4, 5, 6]⟩ .nil))))) .nil)))))) .nil))))
noncomputable abbrev zaf : Sig := ⟨112, [(.int .i64), (.int .i64)], [(.seq (.slice (.int .i64)))], fun x => z7o x.1 x.2⟩
noncomputable abbrev z87 : Sig := ⟨113, [z0a, (.slice (.int .i64))], [.bool], fun x => z3a x.1 x.2⟩
noncomputable abbrev z9y : Sig := ⟨54, [z06, (.slice z03)], [(.slice (.int .i64)), (.int .i64)], fun x => z41 x.1 x.2⟩
end Go.Lift
namespace Go.Lift
open Go Go.Proofs
theorem zez (r : z05) (items : (List Int)) : funK (cx [] [z1c]) Tryz.f113 z8c [z0a, (.slice (.int .i64))] [.bool] (r, items) = z3a r items := by kernel_rfl
end Go.Lift
namespace Go.Lift
open Go Go.Proofs
theorem zhd (r : z02) (l : (List z00)) : funK (cx [] [z7h, zaf, z87]) Tryz.f54 za9 [z06, (.slice z03)] [(.slice (.int .i64)), (.int .i64)] (r, l) = z41 r l := by kernel_rfl
end Go.Lift
namespace Go.Lift
open Go Go.Proofs
end Go.Lift
namespace Go.Lift
open Go Go.Proofs
end Go.Lift
namespace Go.Lift
open Go Go.Proofs
set_option maxRecDepth 100000
section
variable (z5e : Has Tryz.prog z5m) (z6q : Has Tryz.prog z61) (z5f : Has Tryz.prog z5n) (z0h : Has Tryz.prog z2k) (z0q : Has Tryz.prog z1c) (z4q : Has Tryz.prog zaf) (z08 : Has Tryz.prog z2i) (z0d : Has Tryz.prog z2y) (z0e : Has Tryz.prog z2z) (z0g : Has Tryz.prog z1i) (z0f : Has Tryz.prog z2j)  
include z0q in
theorem zfl : Has Tryz.prog z87 :=
 z0y z04 z0s z0t z0u (own := []) (all_cons z0q all_nil) (n := z8c) Tryz.func113 (by kernel_rfl) fun x => zez x.1 x.2
include z0q z4q in
theorem zhw : Has Tryz.prog z9y :=
 z0y z04 z0s z0t z0u (own := []) (all_cons zbm (all_cons z4q (all_cons (zfl z0q) all_nil))) (n := za9) Tryz.func54 (by kernel_rfl) fun x => zhd x.1 x.2
end
end Go.Lift
