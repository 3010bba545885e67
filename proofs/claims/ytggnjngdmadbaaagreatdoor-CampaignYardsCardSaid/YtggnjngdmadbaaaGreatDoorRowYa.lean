/-
  CampaignYards: the statement.
-/
import Derived.Test.YtggnjngdmadbaaaGreatDoorFunH
import Derived.Test.YtggnjngdmadbaaaGreatDoorYaF
import Derived.Test.YtggnjngdmadbaaaGreatDoorYaB
import Derived.Test.YtggnjngdmadbaaaGreatDoorLiftL
import Derived.Test.YtggnjngdmadbaaaGreatDoorFunE
import Derived.Test.YtggnjngdmadbaaaGreatDoorManA
import Derived.Test.YtggnjngdmadbaaaGreatDoorManB
import Derived.Test.YtggnjngdmadbaaaGreatDoorManD
import Derived.Test.YtggnjngdmadbaaaGreatDoorManI
import Derived.Test.YtggnjngdmadbaaaGreatDoorYaN
import Derived.Test.YtggnjngdmadbaaaGreatDoorYaO
import Derived.Test.YtggnjngdmadbaaaGreatDoorLiftO
import Derived.Test.YtggnjngdmadbaaaGreatDoorTie
import Derived.Test.YtggnjngdmadbaaaGreatDoorCards
import Derived.LaidMore
import Derived.Lay
import Derived.LaidLaws
import Derived.Stop.Joined
import Derived.Stop.LaidErr
set_option linter.unusedSectionVars false
set_option linter.unusedVariables false
set_option linter.unusedSimpArgs false
namespace Go.Proofs.YtggnjngdmadbaaaGreatDoor
open Go Go.ChangeShapes Go.WideShapes Go.ChangeAt Go.RowKit Go.Lift
theorem own : ownKnob Tryz.prog.godebug = none := by kernel_rfl
theorem laidOut : laidOutB Tryz.prog = true := by kernel_rfl
abbrev z29 : List (String × DataW Unit) := [("math/bits.deBruijn32tab", Rows.laid_math_bits_deBruijn32tab), ("math/bits.deBruijn64tab", Rows.laid_math_bits_deBruijn64tab), ("internal/strconv.uint64pow10", Rows.laid_internal_strconv_uint64pow10), ("unicode/utf8.acceptRanges", Rows.laid_unicode_utf8_acceptRanges), ("strconv.ErrRange", Rows.laid_strconv_ErrRange), ("strconv.ErrSyntax", Rows.laid_strconv_ErrSyntax), ("unicode/utf8.first", Rows.laid_unicode_utf8_first)]
theorem the_law (x : Args [.slice (.slice .str), .slice .str, z0q]) (h : okvs _ x) : z7x x.1 x.2.1 x.2.2 = some true := zt8 z84 _ _ _
theorem the_has : Has Tryz.prog zfh := zq3 z0d z0n z0o z0w z0m zan zmq
theorem z5o {W : World} (h : laidMetH Tryz.prog z29 W) : laidMet Tryz.prog z29 W := by
 rw [MakeChecks.laidMetH_plain _ _ _ (by kernel_rfl)] at h
 exact h
theorem star : "*" ++ "errors.errorString" = "*errors.errorString" := by decide
theorem z4c (u : TypeId) (h : Tryz.prog.typeName? 3 u = some "*errors.errorString") : u = 313 :=
 typeName_ptr_named (nm := "errors.errorString") (by rw [star]; kernel_rfl) (by kernel_rfl) (by decide) u (by rw [star]; exact h)
theorem z5j {W : World} (hs : W.ShapedOpen Tryz.prog) (h : laidMetH Tryz.prog z29 W) : Tab.T (snap W) W := by
 have h1 := z5o h
 have h2 : laidMet Tryz.prog (("internal/strconv.uint64pow10", Lib.tabData .u64 Lib.pow10Tab) :: z29.drop 3) W := h1.tail.tail
 have h3 := h2.tail.tail
 have h4 := h3.tail
 refine ⟨fun x hx => ?_, fun y hy => ?_⟩
 ·obtain rfl := List.mem_singleton.1 hx
  exact zdd (Lib.tabIs_of_head (g := 0) (t := 296) (e := 270) (n := 20) (by kernel_rfl) (by kernel_rfl) (by kernel_rfl) (by kernel_rfl) (by kernel_rfl) (by kernel_rfl) h2) (by kernel_rfl)
 ·rcases List.mem_cons.1 hy with rfl | hy
  ·exact zhf hs (t := 3) (zero := #[.int .i64 0]) (of_decide_eq_true (by kernel_rfl)) (by kernel_rfl) rfl (by kernel_rfl) (by kernel_rfl) (by kernel_rfl)
  ·rcases List.mem_cons.1 hy with rfl | hy
   ·exact z74 (g := 2) (ti := 211) (tp := 313) (te := 315) (ts := 9) h4 (by kernel_rfl) (by kernel_rfl) (by kernel_rfl) z4c (by kernel_rfl) (by kernel_rfl) (by kernel_rfl) (by kernel_rfl) (by kernel_rfl)
   ·obtain rfl := List.mem_singleton.1 hy
    exact z74 (g := 3) (ti := 211) (tp := 313) (te := 315) (ts := 9) h3 (by kernel_rfl) (by kernel_rfl) (by kernel_rfl) z4c (by kernel_rfl) (by kernel_rfl) (by kernel_rfl) (by kernel_rfl) (by kernel_rfl)
set_option maxHeartbeats 4000000 in
set_option maxRecDepth 100000 in
theorem lifted (os : Os) (started : os.Started) (H : Type) (enc : TypeId × Value → H) :
  ReturnsInHanded {} Tryz.checked os 6 .any (fun w args => (Rows.campaignYardsSpec.pre enc Tryz.prog Tryz.f6 [] false w args ∧ laidMetH Tryz.prog z29 w) ∧ sizedMet enc Tryz.prog Tryz.f6 (OpenSpec.ofChange Rows.campaignYardsSpec) false w args)
   (Rows.campaignYardsSpec.post enc Tryz.prog Tryz.f6 false true false false) := by
 refine z44 (C := Tryz.checked) (X := fun w _ => laidMetH Tryz.prog z29 w) (fun _ _ _ hh h => h.of_heap hh) own started (by kernel_rfl) Tryz.func6
  (ChangeSpec.witness_shaped (enc := enc) (C := Tryz.checked) (os := os) (X := fun w _ => laidMetH Tryz.prog z29 w) false (World.laidAll Tryz.prog os z29)
   #[.slice none 0 0, .slice none 0 0, .agg #[.int .i64 0, .int .i64 0]] 8 (World.laidAll_os _ _ _) (World.shaped_of_ZipB (by kernel_rfl) (by kernel_rfl)) (by kernel_rfl) (by kernel_rfl) (by kernel_rfl)
   (by rw [MakeChecks.laidMetH_plain _ _ _ (by kernel_rfl)]; exact laidMet_laidAll _ (by kernel_rfl) (by kernel_rfl))) ?_
 intro W base args ds gs before hsh hval hW a3
 exact zaa laidOut rfl the_has (by kernel_rfl) (tb := 4) (by kernel_rfl) (by kernel_rfl) the_law (fun ds hd => match ds, hd with | [d1, d2, d3], _ => rfl) hval hW (z5j hsh a3)
theorem zc2 {a b : Bool} (ha : a = true) (hb : b = true) : (a && b) = true := by rw [ha, hb]; rfl
set_option maxHeartbeats 4000000 in
theorem z3c : joinedFacts Tryz.checked.prog 6 Tryz.f6 Rows.campaignYardsSpec Rows.campaignYardsRow = true := by
 unfold joinedFacts
 repeat' with_reducible refine zc2 ?_ ?_
 all_goals as_aux_lemma => kernel_rfl
set_option maxHeartbeats 4000000 in
theorem row_holds : Rows.CampaignYardsSaid :=
 OpenClaim.holds_of_wide 6 Tryz.f6 rfl rfl rfl rfl rfl rfl rfl ⟨rfl, rfl, rfl, rfl, rfl⟩ rfl rfl rfl rfl rfl (by as_aux_lemma => kernel_rfl) Tryz.func6 z3c
  (of_decide_eq_true (by as_aux_lemma => kernel_rfl)) (by unfold Func.isWrapper; first | (rw [if_pos (by decide +kernel)]; kernel_rfl) | (rw [if_neg (by decide +kernel)]; exact ⟨rfl, rfl⟩))
  (fun os started H enc _ => lifted os started H enc)
set_option maxHeartbeats 4000000 in
theorem card_holds : Rows.CampaignYardsCardSaid :=
 Claim7.holds_tied_plain_at .later [] [.data, .data, .data, .data, .sentinel, .sentinel, .pinned] true (true, "09afae0ca9ec711746c75b5b5caedd0aa7f11b65afe4b6ae38ad20c905d73d61") true
  row_holds (fun _ h => by cases h) (by as_aux_lemma => kernel_rfl) (fun _ h => by cases h) campaignYards_row_tie rfl ⟨rfl, rfl⟩ (by as_aux_lemma => kernel_rfl) rfl
  (fun f fn hf hfn => by
   obtain rfl : f = 6 := Option.some.inj ((show Tryz.prog.funcNamed "cobble/cobblelaw01.CampaignYards" = some 6 by as_aux_lemma => kernel_rfl).symm.trans hf) |>.symm
   obtain rfl : fn = Tryz.f6 := (Option.some.inj (Tryz.func6.symm.trans hfn)).symm
   exact ⟨by as_aux_lemma => kernel_rfl, fun j t ht => by
    rw [Tryz.params6] at ht
    have hm : t ∈ [60, 61, 63] := by simpa using Array.mem_of_getElem? ht
    have hall : ([60, 61, 63].all fun u => !Tryz.prog.wantsStandIn u) = true := by as_aux_lemma => kernel_rfl
    exact (show Tryz.prog.wantsStandIn t = false by simpa using List.all_eq_true.1 hall t hm)⟩)
  (by as_aux_lemma => kernel_rfl)
end Go.Proofs.YtggnjngdmadbaaaGreatDoor
