/-
  The statement is proved, under its own conditions: a rejected cause contradicts a named reading.
-/
import Derived.Test.YteobfadhflofpaaGreatFunH
import Derived.Test.YteobfadhflofpaaGreatLawRj
import Derived.Test.YteobfadhflofpaaGreatManN
import Derived.Test.YteobfadhflofpaaGreatLiftL
import Derived.Test.YteobfadhflofpaaGreatAwake
import Derived.Test.YteobfadhflofpaaGreatManE
import Derived.Test.YteobfadhflofpaaGreatRows
import Derived.LaidMore
import Derived.Stop.Joined
import Derived.Stop.LaidErr
set_option linter.unusedSectionVars false
set_option linter.unusedVariables false
set_option linter.unusedSimpArgs false
namespace Go.Proofs.YteobfadhflofpaaGreat
open Go Go.ChangeShapes Go.WideShapes Go.ChangeAt Go.RowKit Go.Lift
theorem own : ownKnob Tryz.prog.godebug = none := by kernel_rfl
theorem laidOut : laidOutB Tryz.prog = true := by kernel_rfl
theorem the_law (x : Args [Tapi_TraceCourse, .slice Tapi_TraceCause, .slice Tapi_TraceReading]) (h : okvs _ x) : cobbletop_TopTraceRejected x.1 x.2.1 x.2.2 = some true := TopTraceRejected_ok traceAwake_true h.1 h.2.1 h.2.2
theorem the_has : Has Tryz.prog sg_cobbletop_TopTraceRejected := h_cobbletop_TopTraceRejected m_slices_Clone_uint32 m_trace_evidence_explanations n_r9_CopyReadings
theorem tabs_met {W : World} : Tab.T (snap W) W := fun x hx => by cases hx
set_option maxRecDepth 100000 in
theorem lifted (os : Os) (started : os.Started) (H : Type) (enc : TypeId × Value → H) :
    ReturnsInHanded {} Tryz.checked os 3 .any (fun w args => Rows.topTraceRejectedSpec.pre enc Tryz.prog Tryz.f3 [] false w args ∧ sizedMet enc Tryz.prog Tryz.f3 (OpenSpec.ofChange Rows.topTraceRejectedSpec) false w args)
      (Rows.topTraceRejectedSpec.post enc Tryz.prog Tryz.f3 false true false false) := by
  refine returnsInHanded_of_change (C := Tryz.checked) own started (by kernel_rfl) Tryz.func3 ?_ ?_
  · obtain ⟨w, t, i, h1, h2, h3, h4, ⟨⟨h5, _⟩, h6⟩, h7⟩ := ChangeSpec.witness_shaped (s := Rows.topTraceRejectedSpec) (fn := Tryz.f3) (f := 3) (enc := enc) (C := Tryz.checked) (os := os) (conds := []) (apart := false) (X := fun _ _ => True) false (World.doorLaid Tryz.prog 4000 os)
      #[.agg #[.string ⟨#[]⟩, .slice none 0 0, .slice none 0 0, .slice none 0 0], .slice none 0 0, .slice none 0 0] 8 rfl (World.shaped_of_RefB (by kernel_rfl) (by kernel_rfl)) (by kernel_rfl) (by kernel_rfl) (by kernel_rfl) trivial
    exact ⟨w, t, i, h1, h2, h3, h4, ⟨h5, h6⟩, h7⟩
  · intro W base args ds gs before hval hW a1 a2
    exact law_calls laidOut rfl the_has (by kernel_rfl) (tb := 4) (by kernel_rfl) (by kernel_rfl) the_law (fun ds hd => match ds, hd with | [d1, d2, d3], _ => rfl) hval hW tabs_met
set_option maxHeartbeats 4000000 in
theorem row_holds : Rows.TopTraceRejectedSaid :=
  OpenClaim.holds_of_wide 3 Tryz.f3 rfl rfl rfl rfl rfl rfl rfl ⟨rfl, rfl, rfl, rfl, rfl⟩ rfl rfl rfl rfl rfl (by as_aux_lemma => kernel_rfl) Tryz.func3 (by as_aux_lemma => kernel_rfl)
    (of_decide_eq_true (by as_aux_lemma => kernel_rfl)) (by unfold Func.isWrapper; first | (rw [if_pos (by decide +kernel)]; kernel_rfl) | (rw [if_neg (by decide +kernel)]; exact ⟨rfl, rfl⟩))
    (fun os started H enc _ => lifted os started H enc)
end Go.Proofs.YteobfadhflofpaaGreat
