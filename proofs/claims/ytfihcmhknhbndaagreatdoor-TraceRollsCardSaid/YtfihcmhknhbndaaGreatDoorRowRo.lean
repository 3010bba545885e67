/-
  The statement is proved, under its own conditions: which rolls explain marks is as specified.
-/
import Derived.Test.YtfihcmhknhbndaaGreatDoorExtRo
import Derived.Test.YtfihcmhknhbndaaGreatDoorLawRo
import Derived.Test.YtfihcmhknhbndaaGreatDoorLiftL
import Derived.Test.YtfihcmhknhbndaaGreatDoorAwake
import Derived.Test.YtfihcmhknhbndaaGreatDoorManE
import Derived.Test.YtfihcmhknhbndaaGreatDoorManA
import Derived.Test.YtfihcmhknhbndaaGreatDoorTie
import Derived.Test.YtfihcmhknhbndaaGreatDoorCards
import Derived.LaidMore
import Derived.Stop.Joined
import Derived.Stop.LaidErr
set_option linter.unusedSectionVars false
set_option linter.unusedVariables false
set_option linter.unusedSimpArgs false
namespace Go.Proofs.YtfihcmhknhbndaaGreatDoor
open Go Go.ChangeShapes Go.WideShapes Go.ChangeAt Go.RowKit Go.Lift
theorem own : ownKnob Tryz.prog.godebug = none := by kernel_rfl
theorem laidOut : laidOutB Tryz.prog = true := by kernel_rfl
abbrev laidL : List (String × DataW Unit) := [("math/bits.deBruijn32tab", Rows.laid_math_bits_deBruijn32tab), ("math/bits.deBruijn64tab", Rows.laid_math_bits_deBruijn64tab), ("internal/strconv.uint64pow10", Rows.laid_internal_strconv_uint64pow10)]
theorem door_met (os : Os) (args : Array Value) : laidMetH Tryz.prog laidL ((World.doorLaid Tryz.prog 4000 os).forCall (fun _ _ => 0) ⟨#[], args, []⟩).memory :=
  laidMetH_of_parts3 (fuel := 8) (laidMet_of_run' 8 (by kernel_rfl) (by kernel_rfl)) (by kernel_rfl) (by kernel_rfl)
theorem the_law (x : Args [Tapi_TraceCourse, Tapi_TraceMarks, .slice Tapi_TraceRoll]) (h : okvs _ x) : l9_TraceRolls x.1 x.2.1 x.2.2 = some true := TraceRolls_ok awake_true h.1 h.2.1 h.2.2
theorem the_has : Has Tryz.prog sg_l9_TraceRolls := h_l9_TraceRolls m_slices_Clone_uint32 m_trace_evidence_explanations m_strings_Join m_strconv_Itoa
theorem tabs_met {W : World} (h : laidMetH Tryz.prog laidL W) : Tab.T (snap W) W := by
  have h1 : laidMet Tryz.prog laidL W := h
  have h2 : laidMet Tryz.prog [("internal/strconv.uint64pow10", Lib.tabData .u64 Lib.pow10Tab)] W := h1.tail.tail
  intro x hx
  obtain rfl := List.mem_singleton.1 hx
  exact tabAt_of (Lib.tabIs_of_head (g := 0) (t := 336) (e := 275) (n := 20) (by kernel_rfl) (by kernel_rfl) (by kernel_rfl) (by kernel_rfl) (by kernel_rfl) (by kernel_rfl) h2) (by kernel_rfl)
set_option maxRecDepth 100000 in
theorem lifted (os : Os) (started : os.Started) (H : Type) (enc : TypeId × Value → H) :
    ReturnsInHanded {} Tryz.checked os 11 .any (fun w args => (Rows.traceRollsSpec.pre enc Tryz.prog Tryz.f11 [] false w args ∧ laidMetH Tryz.prog laidL w) ∧ sizedMet enc Tryz.prog Tryz.f11 (OpenSpec.ofChange Rows.traceRollsSpec) false w args)
      (Rows.traceRollsSpec.post enc Tryz.prog Tryz.f11 false true false false) := by
  refine returnsInHanded_of_change_and (C := Tryz.checked) (X := fun w _ => laidMetH Tryz.prog laidL w) (fun _ _ _ hh h => h.of_heap hh) own started (by kernel_rfl) Tryz.func11
    (ChangeSpec.witness_shaped (enc := enc) (C := Tryz.checked) (os := os) (X := fun w _ => laidMetH Tryz.prog laidL w) false (World.doorLaid Tryz.prog 4000 os)
      #[.agg #[.string ⟨#[]⟩, .slice none 0 0, .slice none 0 0, .slice none 0 0], .agg #[.slice none 0 0, .int .i64 0], .slice none 0 0] 8 rfl (World.shaped_of_RefB (by kernel_rfl) (by kernel_rfl)) (by kernel_rfl) (by kernel_rfl) (by kernel_rfl) (door_met os _)) ?_
  intro W base args ds gs before hval hW a1 a2 a3 a4
  exact law_calls laidOut rfl the_has (by kernel_rfl) (tb := 4) (by kernel_rfl) (by kernel_rfl) the_law (fun ds hd => match ds, hd with | [d1, d2, d3], _ => rfl) hval hW (tabs_met a3)
set_option maxHeartbeats 4000000 in
theorem row_holds : Rows.TraceRollsSaid :=
  OpenClaim.holds_of_wide 11 Tryz.f11 rfl rfl rfl rfl rfl rfl rfl ⟨rfl, rfl, rfl, rfl, rfl⟩ rfl rfl rfl rfl rfl (by as_aux_lemma => kernel_rfl) Tryz.func11 (by as_aux_lemma => kernel_rfl)
    (of_decide_eq_true (by as_aux_lemma => kernel_rfl)) (by unfold Func.isWrapper; first | (rw [if_pos (by decide +kernel)]; kernel_rfl) | (rw [if_neg (by decide +kernel)]; exact ⟨rfl, rfl⟩))
    (fun os started H enc _ => lifted os started H enc)
set_option maxHeartbeats 4000000 in
theorem card_holds : Rows.TraceRollsCardSaid :=
  Claim7.holds_tied_plain_at .later [] [.data, .data, .data] true (true, "39105412d60a62561ef58ab587db3a4a2db6baa934f93ff9a7794118f4b047eb") false
    row_holds (fun _ h => by cases h) (by kernel_rfl) (fun _ h => by cases h) traceRolls_row_tie rfl ⟨rfl, rfl⟩ (by kernel_rfl) rfl
    (fun f fn hf hfn => by
      obtain rfl : f = 11 := Option.some.inj ((show Tryz.prog.funcNamed "cobble/cobblelaw09.TraceRolls" = some 11 by kernel_rfl).symm.trans hf) |>.symm
      obtain rfl : fn = Tryz.f11 := (Option.some.inj (Tryz.func11.symm.trans hfn)).symm
      exact ⟨by kernel_rfl, fun j t ht => by
        rw [Tryz.params11] at ht
        have hm : t ∈ [25, 129, 130] := by simpa using Array.mem_of_getElem? ht
        have hall : ([25, 129, 130].all fun u => !Tryz.prog.wantsStandIn u) = true := by kernel_rfl
        exact (show Tryz.prog.wantsStandIn t = false by simpa using List.all_eq_true.1 hall t hm)⟩)
    (by kernel_rfl)
end Go.Proofs.YtfihcmhknhbndaaGreatDoor
