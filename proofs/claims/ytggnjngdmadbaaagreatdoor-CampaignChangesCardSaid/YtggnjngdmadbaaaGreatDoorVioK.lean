/-
  Each function's code computes the plain function; the contracts.
-/
import Derived.Test.YtggnjngdmadbaaaGreatDoorVioF
import Derived.Test.YtggnjngdmadbaaaGreatDoorFunH
set_option linter.unusedSectionVars false
set_option linter.unusedVariables false
set_option linter.unusedSimpArgs false
namespace Go.Lift
open Go Go.Proofs
theorem y3y (l : (List z00)) : funK (cx [] []) Tryz.f22 zvm [(.slice z03)] [.bool] l = zm2 l := by kernel_rfl
theorem zwe (r : z02) : funK (cx [] [z5b]) Tryz.f50 zn7 [z06] [(.int .i64)] r = zcy r := by kernel_rfl
theorem y7n (r : z02) (l : (List z00)) (sequence : (List Int)) : funK (cx [] [zqh]) Tryz.f33 zxx [z06, (.slice z03), (.slice (.int .i64))] [(.int .i64)] (r, l, sequence) = zkd r l sequence := by kernel_rfl
end Go.Lift
namespace Go.Lift
open Go Go.Proofs
theorem zvc (l : (List z00)) : funK (cx [] []) Tryz.f25 zlh [(.slice z03)] [(.slice z03)] l = z1r l := by kernel_rfl
theorem zzf (r : z02) (l : (List z00)) : funK (cx [] [zgz, zgy]) Tryz.f28 zq9 [z06, (.slice z03)] [(.int .i64)] (r, l) = zay r l := by kernel_rfl
theorem zi0 (r : z02) (l : (List z00)) (sequence : (List Int)) : funK (cx [] [z2e, z1z, z7h, z17, z5w]) Tryz.f107 zb1 [z06, (.slice z03), (.slice (.int .i64))] [z0a, (.int .i64)] (r, l, sequence) = z3m r l sequence := by kernel_rfl
theorem yap (l : (List Int)) (n : Int) : funK (cx [] []) Tryz.f93 y2c [(.slice (.int .i64)), (.int .i64)] [.bool] (l, n) = zrz l n := by kernel_rfl
end Go.Lift
namespace Go.Lift
open Go Go.Proofs
theorem zwi (l : (List Int)) : funK (cx [] []) Tryz.f27 zdd [(.slice (.int .i64))] [(.slice (.int .i64))] l = z3i l := by kernel_rfl
theorem y7p (n : Int) : funK (cx [] []) Tryz.f111 zxz [(.int .i64)] [(.int .i64)] n = zla n := by kernel_rfl
theorem zfo (r : z05) (sequence : (List Int)) : funK (cx [] [z2k]) Tryz.f108 z8w [z0a, (.slice (.int .i64))] [z0r, .bool] (r, sequence) = z3l r sequence := by kernel_rfl
theorem zre (l : (List z00)) (sequence : (List Int)) : funK (cx [] [z5b, ztj]) Tryz.f52 zi6 [(.slice z03), (.slice (.int .i64))] [(.int .i64)] (l, sequence) = z38 l sequence := by kernel_rfl
end Go.Lift
namespace Go.Lift
open Go Go.Proofs
theorem zwg (l : (List z00)) : funK (cx [] [z5b, zeo]) Tryz.f23 zn9 [(.slice z03)] [(.int .i64)] l = zcz l := by kernel_rfl
theorem y7m (r : z02) (x : z00) (y : z00) : funK (cx [] [zqi]) Tryz.f94 zxw [z06, z03, z03] [(.int .i64)] (r, x, y) = ztu r x y := by kernel_rfl
theorem zva (r : z02) (l : (List z00)) (sequence : (List Int)) : funK (cx [] [zqi]) Tryz.f53 zlf [z06, (.slice z03), (.slice (.int .i64))] [z0r, .bool] (r, l, sequence) = zaw r l sequence := by kernel_rfl
end Go.Lift
namespace Go.Lift
open Go Go.Proofs
set_option maxRecDepth 100000
section
variable (z5e : Has Tryz.prog z5m) (z6q : Has Tryz.prog z61) (z5f : Has Tryz.prog z5n) (z0h : Has Tryz.prog z2k) (z0q : Has Tryz.prog z1c) (z08 : Has Tryz.prog z2i) (z0d : Has Tryz.prog z2y) (z0e : Has Tryz.prog z2z) (z0g : Has Tryz.prog z1i) (z0f : Has Tryz.prog z2j)  
theorem zxa : Has Tryz.prog znh :=
 z0y z04 z0s z0t z0u (own := []) all_nil (n := zvm) Tryz.func22 (by kernel_rfl) fun x => y3y x
theorem zdc : Has Tryz.prog z8h :=
 z0y z04 z0s z0t z0u (own := []) all_nil (n := zlh) Tryz.func25 (by kernel_rfl) fun x => zvc x
theorem zbq : Has Tryz.prog z5c :=
 z0y z04 z0s z0t z0u (own := []) all_nil (n := zdd) Tryz.func27 (by kernel_rfl) fun x => zwi x
theorem zpi : Has Tryz.prog zgz :=
 z0y z04 z0s z0t z0u (own := []) (all_cons z7c (all_cons zks all_nil)) (n := zn9) Tryz.func23 (by kernel_rfl) fun x => zwg x
theorem zph : Has Tryz.prog zgy :=
 z0y z04 z0s z0t z0u (own := []) (all_cons z7c all_nil) (n := zn7) Tryz.func50 (by kernel_rfl) fun x => zwe x
theorem zgj : Has Tryz.prog zba :=
 z0y z04 z0s z0t z0u (own := []) (all_cons zpi (all_cons zph all_nil)) (n := zq9) Tryz.func28 (by kernel_rfl) fun x => zzf x.1 x.2
theorem y1j : Has Tryz.prog zqi :=
 z0y z04 z0s z0t z0u (own := []) all_nil (n := zxz) Tryz.func111 (by kernel_rfl) fun x => y7p x
theorem y1h : Has Tryz.prog zqh :=
 z0y z04 z0s z0t z0u (own := []) (all_cons y1j all_nil) (n := zxw) Tryz.func94 (by kernel_rfl) fun x => y7m x.1 x.2.1 x.2.2
theorem zuo : Has Tryz.prog zlq :=
 z0y z04 z0s z0t z0u (own := []) (all_cons y1h all_nil) (n := zxx) Tryz.func33 (by kernel_rfl) fun x => y7n x.1 x.2.1 x.2.2
theorem zbl : Has Tryz.prog z6m :=
 z0y z04 z0s z0t z0u (own := []) (all_cons z3c (all_cons z2f (all_cons zbm (all_cons z1m (all_cons z8q all_nil))))) (n := zb1) Tryz.func107 (by kernel_rfl) fun x => zi0 x.1 x.2.1 x.2.2
include z0h in
theorem zg5 : Has Tryz.prog z8j :=
 z0y z04 z0s z0t z0u (own := []) (all_cons z0h all_nil) (n := z8w) Tryz.func108 (by kernel_rfl) fun x => zfo x.1 x.2
theorem y5l : Has Tryz.prog ztj :=
 z0y z04 z0s z0t z0u (own := []) all_nil (n := y2c) Tryz.func93 (by kernel_rfl) fun x => yap x.1 x.2
theorem zeb : Has Tryz.prog z96 :=
 z0y z04 z0s z0t z0u (own := []) (all_cons z7c (all_cons y5l all_nil)) (n := zi6) Tryz.func52 (by kernel_rfl) fun x => zre x.1 x.2
theorem zn3 : Has Tryz.prog zf7 :=
 z0y z04 z0s z0t z0u (own := []) (all_cons y1j all_nil) (n := zlf) Tryz.func53 (by kernel_rfl) fun x => zva x.1 x.2.1 x.2.2
end
end Go.Lift
