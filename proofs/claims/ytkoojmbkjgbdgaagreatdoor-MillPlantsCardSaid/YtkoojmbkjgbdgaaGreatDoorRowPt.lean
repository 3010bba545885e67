/-
  MillPlants: the statement.
-/
import Derived.Test.YtkoojmbkjgbdgaaGreatDoorDeskD
import Derived.Test.YtkoojmbkjgbdgaaGreatDoorLiftL
import Derived.Test.YtkoojmbkjgbdgaaGreatDoorLiftO
import Derived.Test.YtkoojmbkjgbdgaaGreatDoorTie
import Derived.Test.YtkoojmbkjgbdgaaGreatDoorCards
import Derived.LaidMore
import Derived.Lay
import Derived.LaidLaws
import Derived.Stop.Joined
import Derived.Stop.LaidErr
set_option linter.unusedSectionVars false
set_option linter.unusedVariables false
set_option linter.unusedSimpArgs false
namespace Go.Proofs.YtkoojmbkjgbdgaaGreatDoor
open Go Go.ChangeShapes Go.WideShapes Go.ChangeAt Go.RowKit Go.Lift
theorem own : ownKnob Tryz.prog.godebug = none := by kernel_rfl
theorem laidOut : laidOutB Tryz.prog = true := by kernel_rfl
abbrev laidL : List (String × DataW Unit) := [("math/bits.deBruijn32tab", Rows.laid_math_bits_deBruijn32tab), ("math/bits.deBruijn64tab", Rows.laid_math_bits_deBruijn64tab), ("internal/strconv.uint64pow10", Rows.laid_internal_strconv_uint64pow10), ("unicode/utf8.acceptRanges", Rows.laid_unicode_utf8_acceptRanges), ("strconv.ErrRange", Rows.laid_strconv_ErrRange), ("strconv.ErrSyntax", Rows.laid_strconv_ErrSyntax), ("cobble/pass.thickness", Rows.laid_cobble_pass_thickness), ("cobble/pass.heat", Rows.laid_cobble_pass_heat), ("cobble/pass.stress", Rows.laid_cobble_pass_stress), ("cobble/pass.friction", Rows.laid_cobble_pass_friction), ("cobble/pass.loss", Rows.laid_cobble_pass_loss), ("unicode/utf8.first", Rows.laid_unicode_utf8_first)]
set_option linter.all false
theorem the_law (x : Args [Tapi_MillPlant]) (h : okvs _ x) : (some true : Option Bool) = some true := rfl
theorem the_has : Has Tryz.prog sg_plants := m_plants
theorem laid_out {W : World} (h : laidMetH Tryz.prog laidL W) : laidMet Tryz.prog laidL W := by
  rw [MakeChecks.laidMetH_plain _ _ _ (by kernel_rfl)] at h
  exact h
theorem star : "*" ++ "errors.errorString" = "*errors.errorString" := by decide
theorem err_row (u : TypeId) (h : Tryz.prog.typeName? 3 u = some "*errors.errorString") : u = 398 :=
  typeName_ptr_named (nm := "errors.errorString") (by rw [star]; kernel_rfl) (by kernel_rfl) (by decide) u (by rw [star]; exact h)
noncomputable def Fs : Array Field := match Tryz.prog.underlying 260 with | some (.struct fs) => fs | _ => #[]
noncomputable def F0 : Field := Fs.getD 0 default
noncomputable def F1 : Field := Fs.getD 1 default
theorem under260 : Tryz.prog.underlying 260 = some (.struct #[F0, F1]) := by kernel_rfl
theorem tabs_met {W : World} (hs : W.ShapedOpen Tryz.prog) (h : laidMetH Tryz.prog laidL W) : Tab.T (snap W) W := by
  have h1 := laid_out h
  have h2 : laidMet Tryz.prog (("internal/strconv.uint64pow10", Lib.tabData .u64 Lib.pow10Tab) :: laidL.drop 3) W := h1.tail.tail
  have h3 := h2.tail.tail
  have h4 := h3.tail
  have h5 := h4.tail
  have h6 := h5.tail
  have h7 := h6.tail
  have h8 := h7.tail
  have h9 := h8.tail
  refine ⟨⟨fun x hx => ?_, fun y hy => ?_⟩, fun g x hx => ?_⟩
  · obtain rfl := List.mem_singleton.1 hx
    exact tabAt_of (Lib.tabIs_of_head (g := 8) (t := 394) (e := 273) (n := 20) (by kernel_rfl) (by kernel_rfl) (by kernel_rfl) (by kernel_rfl) (by kernel_rfl) (by kernel_rfl) h2) (by kernel_rfl)
  · rcases List.mem_cons.1 hy with rfl | hy
    · exact var_int hs (t := 3) (zero := #[.int .i64 0]) (of_decide_eq_true (by kernel_rfl)) (by kernel_rfl) rfl (by kernel_rfl) (by kernel_rfl) (by kernel_rfl)
    · rcases List.mem_cons.1 hy with rfl | hy
      · exact var_err (g := 6) (ti := 147) (tp := 398) (te := 400) (ts := 9) h4 (by kernel_rfl) (by kernel_rfl) (by kernel_rfl) err_row (by kernel_rfl) (by kernel_rfl) (by kernel_rfl) (by kernel_rfl) (by kernel_rfl)
      · obtain rfl := List.mem_singleton.1 hy
        exact var_err (g := 7) (ti := 147) (tp := 398) (te := 400) (ts := 9) h3 (by kernel_rfl) (by kernel_rfl) (by kernel_rfl) err_row (by kernel_rfl) (by kernel_rfl) (by kernel_rfl) (by kernel_rfl) (by kernel_rfl)
  · match g, hx with
    | 0, hx => cases hx; exact gv_of (pair_of_head (g := 0) (t := 260) (f0 := F0) (f1 := F1) (by kernel_rfl) (by kernel_rfl) under260 (by kernel_rfl) (by kernel_rfl) (by kernel_rfl) (by kernel_rfl) (by kernel_rfl) (by kernel_rfl) (by kernel_rfl) h6) (by kernel_rfl)
    | 1, hx => cases hx; exact gv_of (pair_of_head (g := 1) (t := 260) (f0 := F0) (f1 := F1) (by kernel_rfl) (by kernel_rfl) under260 (by kernel_rfl) (by kernel_rfl) (by kernel_rfl) (by kernel_rfl) (by kernel_rfl) (by kernel_rfl) (by kernel_rfl) h7) (by kernel_rfl)
    | 2, hx => cases hx; exact gv_of (pair_of_head (g := 2) (t := 260) (f0 := F0) (f1 := F1) (by kernel_rfl) (by kernel_rfl) under260 (by kernel_rfl) (by kernel_rfl) (by kernel_rfl) (by kernel_rfl) (by kernel_rfl) (by kernel_rfl) (by kernel_rfl) h8) (by kernel_rfl)
    | 3, hx => cases hx; exact gv_of (pair_of_head (g := 3) (t := 260) (f0 := F0) (f1 := F1) (by kernel_rfl) (by kernel_rfl) under260 (by kernel_rfl) (by kernel_rfl) (by kernel_rfl) (by kernel_rfl) (by kernel_rfl) (by kernel_rfl) (by kernel_rfl) h9) (by kernel_rfl)
    | 4, hx => cases hx
    | 5, hx => cases hx; exact gv_of (pair_of_head (g := 5) (t := 260) (f0 := F0) (f1 := F1) (by kernel_rfl) (by kernel_rfl) under260 (by kernel_rfl) (by kernel_rfl) (by kernel_rfl) (by kernel_rfl) (by kernel_rfl) (by kernel_rfl) (by kernel_rfl) h5) (by kernel_rfl)
    | g + 6, hx => cases hx
set_option maxHeartbeats 4000000 in
set_option maxRecDepth 100000 in
theorem lifted (os : Os) (started : os.Started) (H : Type) (enc : TypeId × Value → H) :
    ReturnsInHanded {} Tryz.checked os 3 .any (fun w args => (Rows.millPlantsSpec.pre enc Tryz.prog Tryz.f3 [] false w args ∧ laidMetH Tryz.prog laidL w) ∧ sizedMet enc Tryz.prog Tryz.f3 (OpenSpec.ofChange Rows.millPlantsSpec) false w args)
      (Rows.millPlantsSpec.post enc Tryz.prog Tryz.f3 false true false false) := by
  refine returns_shaped (C := Tryz.checked) (X := fun w _ => laidMetH Tryz.prog laidL w) (fun _ _ _ hh h => h.of_heap hh) own started (by kernel_rfl) Tryz.func3
    (ChangeSpec.witness_shaped (enc := enc) (C := Tryz.checked) (os := os) (X := fun w _ => laidMetH Tryz.prog laidL w) false (World.laidAll Tryz.prog os laidL)
      #[.agg #[.slice none 0 0, .slice none 0 0, .string ⟨#[]⟩, .string ⟨#[]⟩]] 8 (World.laidAll_os _ _ _) (World.shaped_of_ZipB (by kernel_rfl) (by kernel_rfl)) (by kernel_rfl) (by kernel_rfl) (by kernel_rfl)
      (by rw [MakeChecks.laidMetH_plain _ _ _ (by kernel_rfl)]; exact laidMet_laidAll _ (by kernel_rfl) (by kernel_rfl))) ?_
  intro W base args ds gs before hsh hval hW a3
  exact law_calls laidOut rfl the_has (by kernel_rfl) (tb := 4) (by kernel_rfl) (by kernel_rfl) the_law (fun ds hd => match ds, hd with | [d1], _ => rfl) hval hW (tabs_met hsh a3)
theorem and_of {a b : Bool} (ha : a = true) (hb : b = true) : (a && b) = true := by rw [ha, hb]; rfl
set_option maxHeartbeats 4000000 in
theorem row_closed : joinedFacts Tryz.checked.prog 3 Tryz.f3 Rows.millPlantsSpec Rows.millPlantsRow = true := by
  unfold joinedFacts
  repeat' with_reducible refine and_of ?_ ?_
  all_goals as_aux_lemma => kernel_rfl
set_option maxHeartbeats 4000000 in
theorem row_holds : Rows.MillPlantsSaid :=
  OpenClaim.holds_of_wide 3 Tryz.f3 rfl rfl rfl rfl rfl rfl rfl ⟨rfl, rfl, rfl, rfl, rfl⟩ rfl rfl rfl rfl rfl (by as_aux_lemma => kernel_rfl) Tryz.func3 row_closed
    (of_decide_eq_true (by as_aux_lemma => kernel_rfl)) (by unfold Func.isWrapper; first | (rw [if_pos (by decide +kernel)]; kernel_rfl) | (rw [if_neg (by decide +kernel)]; exact ⟨rfl, rfl⟩))
    (fun os started H enc _ => lifted os started H enc)
set_option maxHeartbeats 4000000 in
theorem card_holds : Rows.MillPlantsCardSaid :=
  Claim7.holds_tied_plain_at .later [] [.data, .data, .data, .data, .sentinel, .sentinel, .data, .wider, .wider, .wider, .wider, .pinned] true (true, "c1c875e61c2c306e19e7b46852e97baca3bcf208792e23f87408bd13ec4e140f") true
    row_holds (fun _ h => by cases h) (by as_aux_lemma => kernel_rfl) (fun _ h => by cases h) millPlants_row_tie rfl ⟨rfl, rfl⟩ (by as_aux_lemma => kernel_rfl) rfl
    (fun f fn hf hfn => by
      obtain rfl : f = 3 := Option.some.inj ((show Tryz.prog.funcNamed "cobble/cobblelaw10.MillPlants" = some 3 by as_aux_lemma => kernel_rfl).symm.trans hf) |>.symm
      obtain rfl : fn = Tryz.f3 := (Option.some.inj (Tryz.func3.symm.trans hfn)).symm
      exact ⟨by as_aux_lemma => kernel_rfl, fun j t ht => by
        rw [Tryz.params3] at ht
        have hm : t ∈ [25] := by simpa using Array.mem_of_getElem? ht
        have hall : ([25].all fun u => !Tryz.prog.wantsStandIn u) = true := by as_aux_lemma => kernel_rfl
        exact (show Tryz.prog.wantsStandIn t = false by simpa using List.all_eq_true.1 hall t hm)⟩)
    (by as_aux_lemma => kernel_rfl)
end Go.Proofs.YtkoojmbkjgbdgaaGreatDoor
