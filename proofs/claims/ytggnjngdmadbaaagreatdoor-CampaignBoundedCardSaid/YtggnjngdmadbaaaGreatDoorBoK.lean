/-
  The law of bounds: its function, its code, its contract.
-/
import Derived.Test.YtggnjngdmadbaaaGreatDoorFunF
import Derived.Test.YtggnjngdmadbaaaGreatDoorVioF
import Derived.Test.YtggnjngdmadbaaaGreatDoorChF
import Derived.Test.YtggnjngdmadbaaaGreatDoorFunT
import Derived.Test.YtggnjngdmadbaaaGreatDoorFunH
import Derived.Test.YtggnjngdmadbaaaGreatDoorVioK
import Derived.Test.YtggnjngdmadbaaaGreatDoorChK
set_option linter.unusedSectionVars false
set_option linter.unusedVariables false
set_option linter.unusedSimpArgs false
namespace Go.Lift
open Go
noncomputable def z66 (r : z02) (l : (List z00)) (x : y4d) : Option (Bool) :=
 (z7b).bind fun (t : Bool) =>
 bif !t then
 some false
 else
 (bif decide ((List.length l : Int) > 6) then some true else
 (zay r l).bind fun (t_1 : Int) =>
 some (t_1 != 0)).bind fun (c : Bool) =>
 (bif c then some true else
 (z38 l x.1).bind fun (t_2 : Int) =>
 some (t_2 != 0)).bind fun (c_1 : Bool) =>
 (bif (c_1 || ((List.length x.1 : Int) != (List.length l : Int))) then some true else
 (zax l x.2).bind fun (t_3 : Int) =>
 some (t_3 != 0)).bind fun (c_2 : Bool) =>
 bif c_2 then
 some true
 else
 (z1r l).bind fun (t_4 : (List z00)) =>
 (z3i x.2).bind fun (t_5 : (List Int)) =>
 (z3d r t_4 t_5).bind fun (r_1 : Int × Int) =>
 (z1r l).bind fun (t_6 : (List z00)) =>
 (z3i x.1).bind fun (t_7 : (List Int)) =>
 (z3u r t_6 t_7).bind fun (r_2 : Int × Int) =>
 let i : Int := wi64 ((List.length l : Int) - 1)
 (z2d (S := (List Int) × Int) (R := (List Int)) (fun s =>
 let reversed : (List Int) := s.1
 let i_1 : Int := s.2
 bif decide (i_1 ≥ 0) then
 chk (decide ((0 : Int) ≤ i_1) && decide (i_1 < (List.length x.1 : Int))) (
 (app reversed [lget 0 x.1 i_1]).bind fun (t_8 : List Int) =>
 some (.inl (t_8, wi64 (i_1 - 1))))
 else
 some (.inr reversed)) ([], i)).bind fun (reversed_1 : (List Int)) =>
 (z1r l).bind fun (t_9 : (List z00)) =>
 (z3u r t_9 reversed_1).bind fun (r_3 : Int × Int) =>
 bif (((((r_1.2 != 0) || (r_2.2 != 0)) || (r_3.2 != 0)) || (decide (r_2.1 < r_1.1))) || (r_3.1 != r_2.1)) then
 some false
 else
 (z1r l).bind fun (t_10 : (List z00)) =>
 (z1x r t_10).bind fun (r_4 : (List Int) × Int × Int) =>
 (z1r l).bind fun (t_11 : (List z00)) =>
 (z3i x.1).bind fun (t_12 : (List Int)) =>
 (z1u r t_11 t_12).bind fun (r_5 : z1g × Int) =>
 bif (r_4.2.2 != 0) then
 let t_13 : Bool := (((r_4.2.2 == 12) && ((List.length r_4.1 : Int) == 0)) && (r_5.2 != 12))
 some t_13
 else
 (z38 l r_4.1).bind fun (t_14 : Int) =>
 bif ((((t_14 != 0) || ((List.length r_4.1 : Int) != (List.length l : Int))) || (decide (r_4.2.1 < r_1.1))) || ((r_5.2 == 12) && (decide (r_2.1 < r_4.2.1)))) then
 some false
 else
 (z1r l).bind fun (t_15 : (List z00)) =>
 (z3i r_4.1).bind fun (t_16 : (List Int)) =>
 (z3u r t_15 t_16).bind fun (r_6 : Int × Int) =>
 (z1r l).bind fun (t_17 : (List z00)) =>
 (z3i r_4.1).bind fun (t_18 : (List Int)) =>
 (z1u r t_17 t_18).bind fun (r_7 : z1g × Int) =>
 bif (((r_7.2 != 12) || (r_6.2 != 0)) || (r_6.1 != r_4.2.1)) then
 some false
 else
 (z1r l).bind fun (t_19 : (List z00)) =>
 (z1x (r.1, (2500, (2500, (300000, (99, (70000, r.2.2.2.2.2.2)))))) t_19).bind fun (r_8 : (List Int) × Int × Int) =>
 let t_20 : Bool := (((r_8.2.2 == 0) && (decide (r_8.2.1 ≤ r_4.2.1))) && (decide (r_8.2.1 ≥ r_1.1)))
 some t_20
end Go.Lift
namespace Go.Lift
open Go Go.Proofs
def ze0 : Ann := (.seq .nil (.seq .nil (.seq .nil (.seq .nil (.seq .nil (.seq .nil (.seq (.seq .nil (.blk (.loopB ⟨[⟨false, 11, 0, (.slice (.int .i64)), [([], some 101001100)], false⟩, ⟨false, 12, 0, (.int .i64), [], false⟩], [3, 5]⟩ ⟨[⟨false, 11, 0, (.slice (.int .i64)), [([], some 201001100)], false⟩], [3, 5]⟩ 0 .nil))) .nil)))))))
noncomputable abbrev zdi : Sig := ⟨8, [z06, (.slice z03), zvt], [.bool], fun x => z66 x.1 x.2.1 x.2.2⟩
end Go.Lift
namespace Go.Lift
open Go Go.Proofs
theorem zl4 (r : z02) (l : (List z00)) (x : y4d) : funK (cx [] [zcw, z1i, z8h, z79, z5c, zba, zf8, z56, zbd, z96]) Tryz.f8 ze0 [z06, (.slice z03), zvt] [.bool] (r, l, x) = z66 r l x := by kernel_rfl
end Go.Lift
namespace Go.Lift
open Go Go.Proofs
end Go.Lift
namespace Go.Lift
open Go Go.Proofs
end Go.Lift
namespace Go.Lift
open Go Go.Proofs
end Go.Lift
namespace Go.Lift
open Go Go.Proofs
set_option maxRecDepth 100000
section
variable (z5e : Has Tryz.prog z5m) (z6q : Has Tryz.prog z61) (z5f : Has Tryz.prog z5n) (z0h : Has Tryz.prog z2k) (z0q : Has Tryz.prog z1c) (z08 : Has Tryz.prog z2i) (z0d : Has Tryz.prog z2y) (z0e : Has Tryz.prog z2z) (z0g : Has Tryz.prog z1i) (z0f : Has Tryz.prog z2j)  
include z0h z08 z0d z0e z0g z0f in
theorem zmo : Has Tryz.prog zdi :=
 z0y z04 z0s z0t z0u (own := []) (all_cons (zhs z08 z0d z0e z0g z0f) (all_cons z0g (all_cons zdc (all_cons (zbp z0d z0e) (all_cons zbq (all_cons zgj (all_cons zn4 (all_cons (z7z z0h) (all_cons zhv (all_cons zeb all_nil)))))))))) (n := ze0) Tryz.func8 (by kernel_rfl) fun x => zl4 x.1 x.2.1 x.2.2
end
end Go.Lift
