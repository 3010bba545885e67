/-
  The law's own contract.
-/
import Derived.Test.YtbmclapepgfjhaaGreatFunH
set_option linter.unusedSectionVars false
set_option linter.unusedVariables false
set_option linter.unusedSimpArgs false
namespace Go.Lift
open Go Go.Proofs
set_option maxRecDepth 100000
theorem zsm (l : List Int) : y1b (zu7 zpl ztq zu6 [] [] []) Tryz.f11 za6 [(.slice (.int .i64))] (.int .i64) l = Sig.listRun za4 (.int .i64) l := by kernel_rfl
theorem zpy : FCo Tryz.prog za4 := own_of z03 z0q z0r z0s (own := []) (owns := []) all_nil zqt (n := za6) Tryz.func11 rfl fun x => zsm x
theorem z9x (r : z01) (x : z5s) : funK (zu7 zpl ztq zu6 [] [11] [z71, zit, zft, z2s, zfu, z80, za4, zdq, z2z, z6e, z8n, zcr, zda, zk0]) Tryz.f3 z5i [z07, z2q] [.bool] (r, x) = z1l r x := by kernel_rfl
section
variable (z0b : Has Tryz.prog z2j) (z4j : Has Tryz.prog z2o) (z0e : Has Tryz.prog z4h) (z16 : Has Tryz.prog z57) (z17 : Has Tryz.prog z58) (z1r : Has Tryz.prog z2s) (z3e : Has Tryz.prog z2z)  
include z0b z0e z16 z17 z1r z3e in
theorem zaj : Has Tryz.prog z59 :=
 y2v z03 z0q z0r z0s (own := []) (owns := [11]) (all_cons (zdi z0e z16 z17 z1r) (all_cons zs9 (all_cons zo9 (all_cons z1r (all_cons zoa (all_cons (zcv z16 z17) (all_cons zq9 (all_cons zl7 (all_cons z3e (all_cons z9w (all_cons (zfi z0b) (all_cons zkg (all_cons zjb (all_cons zsa all_nil)))))))))))))) (z3t (fun h => by cases h) (z3t (fun h => by cases h) (z3t (fun h => by cases h) (z3t (fun h => by cases h) (z3t (fun h => by cases h) (z3t (fun h => by cases h) (z3t (fun _ => zpy) (z3t (fun h => by cases h) (z3t (fun h => by cases h) (z3t (fun h => by cases h) (z3t (fun h => by cases h) (z3t (fun h => by cases h) (z3t (fun h => by cases h) (z3t (fun h => by cases h) zqt)))))))))))))) (n := z5i) Tryz.func3 (by kernel_rfl) fun x => z9x x.1 x.2
end
end Go.Lift
