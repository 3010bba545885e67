/-
  TopCampaignReached: the statement.
-/
import Derived.Test.YtbmclapepgfjhaaGreatFunH
import Derived.Test.YtbmclapepgfjhaaGreatTopD
import Derived.Test.YtbmclapepgfjhaaGreatLiftL
import Derived.Test.YtbmclapepgfjhaaGreatFunE
import Derived.Test.YtbmclapepgfjhaaGreatManA
import Derived.Test.YtbmclapepgfjhaaGreatManB
import Derived.Test.YtbmclapepgfjhaaGreatManD
import Derived.Test.YtbmclapepgfjhaaGreatYaN
import Derived.Test.YtbmclapepgfjhaaGreatPlM
import Derived.Test.YtbmclapepgfjhaaGreatPlP
import Derived.Test.YtbmclapepgfjhaaGreatRows
import Derived.LaidMore
import Derived.Stop.Joined
import Derived.Stop.LaidErr
set_option linter.unusedSectionVars false
set_option linter.unusedVariables false
set_option linter.unusedSimpArgs false
namespace Go.Proofs.YtbmclapepgfjhaaGreat
open Go Go.ChangeShapes Go.WideShapes Go.ChangeAt Go.RowKit Go.Lift
theorem own : ownKnob Tryz.prog.godebug = none := by kernel_rfl
theorem laidOut : laidOutB Tryz.prog = true := by kernel_rfl
theorem the_law (x : Args [z1j]) (h : okvs _ x) : z1u x = some true := zhq zzz x fun p hp z hz => (h.1.2 p hp).2 z hz
theorem the_has : Has Tryz.prog z54 := zaz z08 z21 z24 z38 z88 z1o z57
theorem y3o {W : World} : Tab.T (snap W) W := fun x hx => by cases hx
set_option maxHeartbeats 4000000 in
set_option maxRecDepth 100000 in
theorem lifted (os : Os) (started : os.Started) (H : Type) (enc : TypeId × Value → H) :
  ReturnsInHanded {} Tryz.checked os 4 .any (fun w args => Rows.topCampaignReachedSpec.pre enc Tryz.prog Tryz.f4 [] false w args ∧ sizedMet enc Tryz.prog Tryz.f4 (OpenSpec.ofChange Rows.topCampaignReachedSpec) false w args)
   (Rows.topCampaignReachedSpec.post enc Tryz.prog Tryz.f4 false true false false) := by
 refine returnsInHanded_of_change (C := Tryz.checked) own started (by kernel_rfl) Tryz.func4 ?_ ?_
 ·obtain ⟨w, t, i, h1, h2, h3, h4, ⟨⟨h5, _⟩, h6⟩, h7⟩ := ChangeSpec.witness_shaped (s := Rows.topCampaignReachedSpec) (fn := Tryz.f4) (f := 4) (enc := enc) (C := Tryz.checked) (os := os) (conds := []) (apart := false) (X := fun _ _ => True) false (World.doorLaid Tryz.prog 4000 os)
   #[.agg #[.slice none 0 0, .slice none 0 0]] 8 rfl (World.shaped_of_RefB (by kernel_rfl) (by kernel_rfl)) (by kernel_rfl) (by kernel_rfl) (by kernel_rfl) trivial
  exact ⟨w, t, i, h1, h2, h3, h4, ⟨h5, h6⟩, h7⟩
 ·intro W base args ds gs before hval hW a1 a2
  exact y29 laidOut rfl the_has (by kernel_rfl) (tb := 4) (by kernel_rfl) (by kernel_rfl) the_law (fun ds hd => match ds, hd with | [d1], _ => rfl) hval hW y3o
theorem and_of {a b : Bool} (ha : a = true) (hb : b = true) : (a && b) = true := by rw [ha, hb]; rfl
set_option maxHeartbeats 4000000 in
theorem zyr : joinedFacts Tryz.checked.prog 4 Tryz.f4 Rows.topCampaignReachedSpec Rows.topCampaignReachedRow = true := by
 unfold joinedFacts
 repeat' with_reducible refine and_of ?_ ?_
 all_goals as_aux_lemma => kernel_rfl
set_option maxHeartbeats 4000000 in
theorem row_holds : Rows.TopCampaignReachedSaid :=
 OpenClaim.holds_of_wide 4 Tryz.f4 rfl rfl rfl rfl rfl rfl rfl ⟨rfl, rfl, rfl, rfl, rfl⟩ rfl rfl rfl rfl rfl (by as_aux_lemma => kernel_rfl) Tryz.func4 zyr
  (of_decide_eq_true (by as_aux_lemma => kernel_rfl)) (by unfold Func.isWrapper; first | (rw [if_pos (by decide +kernel)]; kernel_rfl) | (rw [if_neg (by decide +kernel)]; exact ⟨rfl, rfl⟩))
  (fun os started H enc _ => lifted os started H enc)
end Go.Proofs.YtbmclapepgfjhaaGreat
