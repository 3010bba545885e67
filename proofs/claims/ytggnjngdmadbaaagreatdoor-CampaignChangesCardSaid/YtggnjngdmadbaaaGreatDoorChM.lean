/-
  The contract of the reference's Orders.
-/
import Derived.Test.YtggnjngdmadbaaaGreatDoorChF
import Derived.Test.YtggnjngdmadbaaaGreatDoorVioK
import Derived.Test.YtggnjngdmadbaaaGreatDoorManA
set_option linter.unusedSectionVars false
set_option linter.unusedVariables false
set_option linter.unusedSimpArgs false
namespace Go.Lift
open Go Go.Proofs
set_option maxRecDepth 100000
def zs0 : Ann := (.seq .nil (.seq .nil (.seq .nil (.seq (.seq .nil (.blk (.loopB ⟨[⟨false, 3, 0, (.slice (.slice (.int .i64))), [([], some 401000300)], false⟩, ⟨false, 4, 0, (.int .i64), [], false⟩], []⟩ ⟨[⟨false, 3, 0, (.slice (.slice (.int .i64))), [([], some 801000300)], false⟩], []⟩ 0 (.seq .nil (.seq (.blk (.seq .nil (.seq .nil (.blk (.loopB ⟨[⟨false, 3, 0, (.slice (.slice (.int .i64))), [([], some 1001000300)], false⟩, ⟨false, 6, 0, (.int .i64), [], false⟩], [25]⟩ ⟨[⟨false, 3, 0, (.slice (.slice (.int .i64))), [([], some 1101000300)], false⟩], [25]⟩ 2 .nil))))) .nil))))) .nil))))
noncomputable abbrev cx95 (g : List Int → Option (List (List Int))) : Ctx := y1w zw3 y11 y1v [] [27] [z5c, ⟨95, [(.slice (.int .i64))], [(.slice (.slice (.int .i64)))], fun x => g x⟩]
theorem y20 (l : List Int) : yci (y1w zw3 y11 y1v [] [] []) Tryz.f27 zdd [(.slice (.int .i64))] (.int .i64) l = Sig.listRun z5c (.int .i64) l := by kernel_rfl
theorem zyr : FCo Tryz.prog z5c := own_of z04 z0s z0t z0u (own := []) (owns := []) all_nil zt0 (n := zdd) Tryz.func27 rfl fun x => y20 x
noncomputable abbrev y6c (n : Nat) : Sig := ⟨95, [(.slice (.int .i64))], [(.slice (.slice (.int .i64)))], fun x => zqr n x⟩
theorem yao (g : List Int → Option (List (List Int))) (l : List Int) : funK (cx95 g) Tryz.f95 zs0 [(.slice (.int .i64))] [(.slice (.slice (.int .i64)))] l = y37 g l := by kernel_rfl
theorem zuq : ∀ n, Has Tryz.prog (y6c n)
 | 0 => by
  refine ⟨enters_of (by kernel_rfl), fun x L hr => ?_⟩
  cases hr
 | n + 1 => yel z04 z0s z0t z0u (own := []) (owns := [27]) (all_cons zbq (all_cons (zuq n) all_nil)) (zli (fun _ => zyr) (zli (fun h => by cases h) zt0)) (n := zs0) Tryz.func95 (by kernel_rfl) fun x => yao (zqr n) x
theorem zd1 : Has Tryz.prog zk6 :=
 ⟨(zuq 0).1, fun x L hr => (zuq (List.length x + 1)).2 x L hr⟩
end Go.Lift
