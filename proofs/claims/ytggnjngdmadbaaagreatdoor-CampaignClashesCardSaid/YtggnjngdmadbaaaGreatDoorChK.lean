/-
  Each function's code computes the plain function; the contracts.
-/
import Derived.Test.YtggnjngdmadbaaaGreatDoorChF
import Derived.Test.YtggnjngdmadbaaaGreatDoorFunH
import Derived.Test.YtggnjngdmadbaaaGreatDoorVioK
set_option linter.unusedSectionVars false
set_option linter.unusedVariables false
set_option linter.unusedSimpArgs false
namespace Go.Lift
open Go Go.Proofs
theorem zvb (l : (List z00)) (prices : (List Int)) : funK (cx [] [z5b]) Tryz.f29 zlg [(.slice z03), (.slice (.int .i64))] [(.int .i64)] (l, prices) = zax l prices := by kernel_rfl
end Go.Lift
namespace Go.Lift
open Go Go.Proofs
theorem y3x (r : z02) (l : (List z00)) (prices : (List Int)) : funK (cx [] [ztj, zqh]) Tryz.f30 zvl [z06, (.slice z03), (.slice (.int .i64))] [(.int .i64)] (r, l, prices) = zlx r l prices := by kernel_rfl
end Go.Lift
namespace Go.Lift
open Go Go.Proofs
theorem zwh (r : z02) (l : (List z00)) : funK (cx [] [zlq, zf7, zk6]) Tryz.f31 zna [z06, (.slice z03)] [(.slice (.int .i64)), .bool] (r, l) = zfg r l := by kernel_rfl
end Go.Lift
namespace Go.Lift
open Go Go.Proofs
theorem zjv (r : z02) (l : (List z00)) (prices : (List Int)) : funK (cx [] [zcw, znh, zgz, z1i, z8h, z79, z5c, zba, zf8, ztf, zmx, zqj, zlq]) Tryz.f4 zcn [z06, (.slice z03), (.slice (.int .i64))] [.bool] (r, l, prices) = z5r r l prices := by kernel_rfl
end Go.Lift
namespace Go.Lift
open Go Go.Proofs
set_option maxRecDepth 100000
section
variable (z5e : Has Tryz.prog z5m) (z6q : Has Tryz.prog z61) (z5f : Has Tryz.prog z5n) (z0q : Has Tryz.prog z1c) (z08 : Has Tryz.prog z2i) (z0d : Has Tryz.prog z2y) (z0e : Has Tryz.prog z2z) (z0g : Has Tryz.prog z1i) (z0f : Has Tryz.prog z2j) (zd1 : Has Tryz.prog zk6)  
theorem zn4 : Has Tryz.prog zf8 :=
 z0y z04 z0s z0t z0u (own := []) (all_cons z7c all_nil) (n := zlg) Tryz.func29 (by kernel_rfl) fun x => zvb x.1 x.2
theorem y74 : Has Tryz.prog ztf :=
 z0y z04 z0s z0t z0u (own := []) (all_cons y5l (all_cons y1h all_nil)) (n := zvl) Tryz.func30 (by kernel_rfl) fun x => y3x x.1 x.2.1 x.2.2
include zd1 in
theorem zz0 : Has Tryz.prog zmx :=
 z0y z04 z0s z0t z0u (own := []) (all_cons zuo (all_cons zn3 (all_cons zd1 all_nil))) (n := zna) Tryz.func31 (by kernel_rfl) fun x => zwh x.1 x.2
include z08 z0d z0e z0g z0f zd1 in
theorem zkt : Has Tryz.prog zcb :=
 z0y z04 z0s z0t z0u (own := []) (all_cons (zhs z08 z0d z0e z0g z0f) (all_cons zxa (all_cons zpi (all_cons z0g (all_cons zdc (all_cons (zbp z0d z0e) (all_cons zbq (all_cons zgj (all_cons zn4 (all_cons y74 (all_cons (zz0 zd1) (all_cons y1k (all_cons zuo all_nil))))))))))))) (n := zcn) Tryz.func4 (by kernel_rfl) fun x => zjv x.1 x.2.1 x.2.2
end
end Go.Lift
