/-
  The statement is proved, under its own conditions: a report is as is specified, and of what is written and read again.
-/
import Derived.Test.YteobfadhflofpaaGreatDoorFunH
import Derived.Test.YteobfadhflofpaaGreatDoorLawRp
import Derived.Test.YteobfadhflofpaaGreatDoorAwakeT
import Derived.Test.YteobfadhflofpaaGreatDoorManE
import Derived.Test.YteobfadhflofpaaGreatDoorManA
import Derived.Test.YteobfadhflofpaaGreatDoorManB
import Derived.Test.YteobfadhflofpaaGreatDoorManS
import Derived.Test.YteobfadhflofpaaGreatDoorLiftO
import Derived.Test.YteobfadhflofpaaGreatDoorTie
import Derived.Test.YteobfadhflofpaaGreatDoorCards
import Derived.LaidMore
import Derived.Lay
import Derived.LaidLaws
import Derived.Stop.Joined
import Derived.Stop.LaidErr
set_option linter.unusedSectionVars false
set_option linter.unusedVariables false
set_option linter.unusedSimpArgs false
namespace Go.Proofs.YteobfadhflofpaaGreatDoor
open Go Go.ChangeShapes Go.WideShapes Go.ChangeAt Go.RowKit Go.Lift
theorem own : ownKnob Tryz.prog.godebug = none := by kernel_rfl
theorem laidOut : laidOutB Tryz.prog = true := by kernel_rfl
abbrev laidL : List (String × DataW Unit) := [("math/bits.deBruijn32tab", Rows.laid_math_bits_deBruijn32tab), ("math/bits.deBruijn64tab", Rows.laid_math_bits_deBruijn64tab), ("internal/strconv.uint64pow10", Rows.laid_internal_strconv_uint64pow10), ("unicode/utf8.acceptRanges", Rows.laid_unicode_utf8_acceptRanges), ("strconv.ErrRange", Rows.laid_strconv_ErrRange), ("strconv.ErrSyntax", Rows.laid_strconv_ErrSyntax), ("unicode/utf8.first", Rows.laid_unicode_utf8_first)]
theorem the_law (x : Args [Tapi_TraceCourse, .slice Tapi_TraceReading]) (h : okvs _ x) : l9_TraceReports x.1 x.2 = some true := TraceReports_ok awake_true h.1 h.2
theorem the_has : Has Tryz.prog sg_l9_TraceReports := h_l9_TraceReports m_slices_Clone_uint32 m_trace_evidence_explanations m_strings_Join m_strconv_Itoa m_strings_Split m_strings_Cut m_strconv_Atoi i_strings_SplitSeq
theorem laid_out {W : World} (h : laidMetH Tryz.prog laidL W) : laidMet Tryz.prog laidL W := by
  rw [MakeChecks.laidMetH_plain _ _ _ (by kernel_rfl)] at h
  exact h
theorem star : "*" ++ "errors.errorString" = "*errors.errorString" := by decide
theorem err_row (u : TypeId) (h : Tryz.prog.typeName? 3 u = some "*errors.errorString") : u = 272 :=
  typeName_ptr_named (nm := "errors.errorString") (by rw [star]; kernel_rfl) (by kernel_rfl) (by decide) u (by rw [star]; exact h)
theorem tabs_met {W : World} (hs : W.ShapedOpen Tryz.prog) (h : laidMetH Tryz.prog laidL W) : Tab.T (snap W) W := by
  have h1 := laid_out h
  have h2 : laidMet Tryz.prog (("internal/strconv.uint64pow10", Lib.tabData .u64 Lib.pow10Tab) :: laidL.drop 3) W := h1.tail.tail
  have h3 := h2.tail.tail
  have h4 := h3.tail
  refine ⟨fun x hx => ?_, fun y hy => ?_⟩
  · obtain rfl := List.mem_singleton.1 hx
    exact tabAt_of (Lib.tabIs_of_head (g := 0) (t := 254) (e := 184) (n := 20) (by kernel_rfl) (by kernel_rfl) (by kernel_rfl) (by kernel_rfl) (by kernel_rfl) (by kernel_rfl) h2) (by kernel_rfl)
  · rcases List.mem_cons.1 hy with rfl | hy
    · exact var_int hs (t := 3) (zero := #[.int .i64 0]) (of_decide_eq_true (by kernel_rfl)) (by kernel_rfl) rfl (by kernel_rfl) (by kernel_rfl) (by kernel_rfl)
    · rcases List.mem_cons.1 hy with rfl | hy
      · exact var_err (g := 4) (ti := 148) (tp := 272) (te := 274) (ts := 9) h4 (by kernel_rfl) (by kernel_rfl) (by kernel_rfl) err_row (by kernel_rfl) (by kernel_rfl) (by kernel_rfl) (by kernel_rfl) (by kernel_rfl)
      · obtain rfl := List.mem_singleton.1 hy
        exact var_err (g := 5) (ti := 148) (tp := 272) (te := 274) (ts := 9) h3 (by kernel_rfl) (by kernel_rfl) (by kernel_rfl) err_row (by kernel_rfl) (by kernel_rfl) (by kernel_rfl) (by kernel_rfl) (by kernel_rfl)
set_option maxRecDepth 100000 in
theorem lifted (os : Os) (started : os.Started) (H : Type) (enc : TypeId × Value → H) :
    ReturnsInHanded {} Tryz.checked os 4 .any (fun w args => (Rows.traceReportsSpec.pre enc Tryz.prog Tryz.f4 [] false w args ∧ laidMetH Tryz.prog laidL w) ∧ sizedMet enc Tryz.prog Tryz.f4 (OpenSpec.ofChange Rows.traceReportsSpec) false w args)
      (Rows.traceReportsSpec.post enc Tryz.prog Tryz.f4 false true false false) := by
  refine returns_shaped (C := Tryz.checked) (X := fun w _ => laidMetH Tryz.prog laidL w) (fun _ _ _ hh h => h.of_heap hh) own started (by kernel_rfl) Tryz.func4
    (ChangeSpec.witness_shaped (enc := enc) (C := Tryz.checked) (os := os) (X := fun w _ => laidMetH Tryz.prog laidL w) false (World.laidAll Tryz.prog os laidL)
      #[.agg #[.string ⟨#[]⟩, .slice none 0 0, .slice none 0 0, .slice none 0 0], .slice none 0 0] 8 (World.laidAll_os _ _ _) (World.shaped_of_ZipB (by kernel_rfl) (by kernel_rfl)) (by kernel_rfl) (by kernel_rfl) (by kernel_rfl)
      (by rw [MakeChecks.laidMetH_plain _ _ _ (by kernel_rfl)]; exact laidMet_laidAll _ (by kernel_rfl) (by kernel_rfl))) ?_
  intro W base args ds gs before hsh hval hW a3
  exact law_calls laidOut rfl the_has (by kernel_rfl) (tb := 4) (by kernel_rfl) (by kernel_rfl) the_law (fun ds hd => match ds, hd with | [d1, d2], _ => rfl) hval hW (tabs_met hsh a3)
set_option maxHeartbeats 4000000 in
theorem row_holds : Rows.TraceReportsSaid :=
  OpenClaim.holds_of_wide 4 Tryz.f4 rfl rfl rfl rfl rfl rfl rfl ⟨rfl, rfl, rfl, rfl, rfl⟩ rfl rfl rfl rfl rfl (by as_aux_lemma => kernel_rfl) Tryz.func4 (by as_aux_lemma => kernel_rfl)
    (of_decide_eq_true (by as_aux_lemma => kernel_rfl)) (by unfold Func.isWrapper; first | (rw [if_pos (by decide +kernel)]; kernel_rfl) | (rw [if_neg (by decide +kernel)]; exact ⟨rfl, rfl⟩))
    (fun os started H enc _ => lifted os started H enc)
set_option maxHeartbeats 4000000 in
theorem card_holds : Rows.TraceReportsCardSaid :=
  Claim7.holds_tied_plain_at .later [] [.data, .data, .data, .data, .sentinel, .sentinel, .pinned] true (true, "c87fe37b90a591a29fdb175adfff295be5e6cd47735bf6f382ec8225bb1ac81b") true
    row_holds (fun _ h => by cases h) (by kernel_rfl) (fun _ h => by cases h) traceReports_row_tie rfl ⟨rfl, rfl⟩ (by kernel_rfl) rfl
    (fun f fn hf hfn => by
      obtain rfl : f = 4 := Option.some.inj ((show Tryz.prog.funcNamed "cobble/cobblelaw09.TraceReports" = some 4 by kernel_rfl).symm.trans hf) |>.symm
      obtain rfl : fn = Tryz.f4 := (Option.some.inj (Tryz.func4.symm.trans hfn)).symm
      exact ⟨by kernel_rfl, fun j t ht => by
        rw [Tryz.params4] at ht
        have hm : t ∈ [25, 37] := by simpa using Array.mem_of_getElem? ht
        have hall : ([25, 37].all fun u => !Tryz.prog.wantsStandIn u) = true := by kernel_rfl
        exact (show Tryz.prog.wantsStandIn t = false by simpa using List.all_eq_true.1 hall t hm)⟩)
    (by kernel_rfl)
end Go.Proofs.YteobfadhflofpaaGreatDoor
