/-
  CampaignOrders: the statement.
-/
import Derived.Test.YtggnjngdmadbaaaGreatDoorFunH
import Derived.Test.YtggnjngdmadbaaaGreatDoorSlF
import Derived.Test.YtggnjngdmadbaaaGreatDoorOrK
import Derived.Test.YtggnjngdmadbaaaGreatDoorOrB
import Derived.Test.YtggnjngdmadbaaaGreatDoorLiftL
import Derived.Test.YtggnjngdmadbaaaGreatDoorFunE
import Derived.Test.YtggnjngdmadbaaaGreatDoorManA
import Derived.Test.YtggnjngdmadbaaaGreatDoorManB
import Derived.Test.YtggnjngdmadbaaaGreatDoorManD
import Derived.Test.YtggnjngdmadbaaaGreatDoorManI
import Derived.Test.YtggnjngdmadbaaaGreatDoorSlM
import Derived.Test.YtggnjngdmadbaaaGreatDoorOrM
import Derived.Test.YtggnjngdmadbaaaGreatDoorLiftO
import Derived.Test.YtggnjngdmadbaaaGreatDoorTie
import Derived.Test.YtggnjngdmadbaaaGreatDoorCards
import Derived.LaidMore
import Derived.Lay
import Derived.LaidLaws
import Derived.Stop.Joined
import Derived.Stop.LaidErr
set_option linter.unusedSectionVars false
set_option linter.unusedVariables false
set_option linter.unusedSimpArgs false
namespace Go.Proofs.YtggnjngdmadbaaaGreatDoor
open Go Go.ChangeShapes Go.WideShapes Go.ChangeAt Go.RowKit Go.Lift
theorem own : ownKnob Tryz.prog.godebug = none := by kernel_rfl
theorem laidOut : laidOutB Tryz.prog = true := by kernel_rfl
abbrev z4k : List (String × DataW Unit) := [("math/bits.deBruijn32tab", Rows.laid_math_bits_deBruijn32tab), ("math/bits.deBruijn64tab", Rows.laid_math_bits_deBruijn64tab), ("internal/strconv.uint64pow10", Rows.laid_internal_strconv_uint64pow10), ("unicode/utf8.acceptRanges", Rows.laid_unicode_utf8_acceptRanges), ("strconv.ErrRange", Rows.laid_strconv_ErrRange), ("strconv.ErrSyntax", Rows.laid_strconv_ErrSyntax), ("unicode/utf8.first", Rows.laid_unicode_utf8_first)]
theorem the_law (x : Args [z0i, .str]) (h : okvs _ x) : yo9 x.1 x.2 = some true := ypj zf2 (o := x.1) (show OrdI x.1 from ⟨h.1.2.1, h.1.2.2.1, h.1.2.2.2.1, h.1.2.2.2.2.1, h.1.2.2.2.2.2.1.1, h.1.2.2.2.2.2.1.2, h.1.2.2.2.2.2.2⟩)
theorem the_has : Has Tryz.prog yoj := yp9 yjc z5e z08 z0d z0e z0g z0f yo7
theorem zbj {W : World} (h : laidMetH Tryz.prog z4k W) : laidMet Tryz.prog z4k W := by
 rw [MakeChecks.laidMetH_plain _ _ _ (by kernel_rfl)] at h
 exact h
theorem star : "*" ++ "errors.errorString" = "*errors.errorString" := by decide
theorem z8u (u : TypeId) (h : Tryz.prog.typeName? 3 u = some "*errors.errorString") : u = 313 :=
 typeName_ptr_named (nm := "errors.errorString") (by rw [star]; kernel_rfl) (by kernel_rfl) (by decide) u (by rw [star]; exact h)
theorem zb8 {W : World} (hs : W.ShapedOpen Tryz.prog) (h : laidMetH Tryz.prog z4k W) : Tab.T (snap W) W := by
 have h1 := zbj h
 have h2 : laidMet Tryz.prog (("internal/strconv.uint64pow10", Lib.tabData .u64 Lib.pow10Tab) :: z4k.drop 3) W := h1.tail.tail
 have h3 := h2.tail.tail
 have h4 := h3.tail
 refine ⟨fun x hx => ?_, fun y hy => ?_⟩
 ·obtain rfl := List.mem_singleton.1 hx
  exact zln (Lib.tabIs_of_head (g := 0) (t := 296) (e := 270) (n := 20) (by kernel_rfl) (by kernel_rfl) (by kernel_rfl) (by kernel_rfl) (by kernel_rfl) (by kernel_rfl) h2) (by kernel_rfl)
 ·rcases List.mem_cons.1 hy with rfl | hy
  ·exact zqg hs (t := 3) (zero := #[.int .i64 0]) (of_decide_eq_true (by kernel_rfl)) (by kernel_rfl) rfl (by kernel_rfl) (by kernel_rfl) (by kernel_rfl)
  ·rcases List.mem_cons.1 hy with rfl | hy
   ·exact ze6 (g := 2) (ti := 211) (tp := 313) (te := 315) (ts := 9) h4 (by kernel_rfl) (by kernel_rfl) (by kernel_rfl) z8u (by kernel_rfl) (by kernel_rfl) (by kernel_rfl) (by kernel_rfl) (by kernel_rfl)
   ·obtain rfl := List.mem_singleton.1 hy
    exact ze6 (g := 3) (ti := 211) (tp := 313) (te := 315) (ts := 9) h3 (by kernel_rfl) (by kernel_rfl) (by kernel_rfl) z8u (by kernel_rfl) (by kernel_rfl) (by kernel_rfl) (by kernel_rfl) (by kernel_rfl)
set_option maxHeartbeats 4000000 in
set_option maxRecDepth 100000 in
theorem lifted (os : Os) (started : os.Started) (H : Type) (enc : TypeId × Value → H) :
  ReturnsInHanded {} Tryz.checked os 10 .any (fun w args => (Rows.campaignOrdersSpec.pre enc Tryz.prog Tryz.f10 [] false w args ∧ laidMetH Tryz.prog z4k w) ∧ sizedMet enc Tryz.prog Tryz.f10 (OpenSpec.ofChange Rows.campaignOrdersSpec) false w args)
   (Rows.campaignOrdersSpec.post enc Tryz.prog Tryz.f10 false true false false) := by
 refine z7q (C := Tryz.checked) (X := fun w _ => laidMetH Tryz.prog z4k w) (fun _ _ _ hh h => h.of_heap hh) own started (by kernel_rfl) Tryz.func10
  (ChangeSpec.witness_shaped (enc := enc) (C := Tryz.checked) (os := os) (X := fun w _ => laidMetH Tryz.prog z4k w) false (World.laidAll Tryz.prog os z4k)
   #[.agg #[.string ⟨#[]⟩, .int .i64 0, .int .i64 0, .int .i64 0, .int .i64 0, .int .i64 0, .int .i64 0, .int .i64 0], .string ⟨#[]⟩] 8 (World.laidAll_os _ _ _) (World.shaped_of_ZipB (by kernel_rfl) (by kernel_rfl)) (by kernel_rfl) (by kernel_rfl) (by kernel_rfl)
   (by rw [MakeChecks.laidMetH_plain _ _ _ (by kernel_rfl)]; exact laidMet_laidAll _ (by kernel_rfl) (by kernel_rfl))) ?_
 intro W base args ds gs before hsh hval hW a3
 exact zhr laidOut rfl the_has (by kernel_rfl) (tb := 4) (by kernel_rfl) (by kernel_rfl) the_law (fun ds hd => match ds, hd with | [d1, d2], _ => rfl) hval hW (zb8 hsh a3)
theorem zle {a b : Bool} (ha : a = true) (hb : b = true) : (a && b) = true := by rw [ha, hb]; rfl
set_option maxHeartbeats 4000000 in
theorem z6n : joinedFacts Tryz.checked.prog 10 Tryz.f10 Rows.campaignOrdersSpec Rows.campaignOrdersRow = true := by
 unfold joinedFacts
 repeat' with_reducible refine zle ?_ ?_
 all_goals as_aux_lemma => kernel_rfl
set_option maxHeartbeats 4000000 in
theorem row_holds : Rows.CampaignOrdersSaid :=
 OpenClaim.holds_of_wide 10 Tryz.f10 rfl rfl rfl rfl rfl rfl rfl ⟨rfl, rfl, rfl, rfl, rfl⟩ rfl rfl rfl rfl rfl (by as_aux_lemma => kernel_rfl) Tryz.func10 z6n
  (of_decide_eq_true (by as_aux_lemma => kernel_rfl)) (by unfold Func.isWrapper; first | (rw [if_pos (by decide +kernel)]; kernel_rfl) | (rw [if_neg (by decide +kernel)]; exact ⟨rfl, rfl⟩))
  (fun os started H enc _ => lifted os started H enc)
set_option maxHeartbeats 4000000 in
theorem card_holds : Rows.CampaignOrdersCardSaid :=
 Claim7.holds_tied_plain_at .later [] [.data, .data, .data, .data, .sentinel, .sentinel, .pinned] true (true, "09afae0ca9ec711746c75b5b5caedd0aa7f11b65afe4b6ae38ad20c905d73d61") true
  row_holds (fun _ h => by cases h) (by as_aux_lemma => kernel_rfl) (fun _ h => by cases h) campaignOrders_row_tie rfl ⟨rfl, rfl⟩ (by as_aux_lemma => kernel_rfl) rfl
  (fun f fn hf hfn => by
   obtain rfl : f = 10 := Option.some.inj ((show Tryz.prog.funcNamed "cobble/cobblelaw01.CampaignOrders" = some 10 by as_aux_lemma => kernel_rfl).symm.trans hf) |>.symm
   obtain rfl : fn = Tryz.f10 := (Option.some.inj (Tryz.func10.symm.trans hfn)).symm
   exact ⟨by as_aux_lemma => kernel_rfl, fun j t ht => by
    rw [Tryz.params10] at ht
    have hm : t ∈ [27, 9] := by simpa using Array.mem_of_getElem? ht
    have hall : ([27, 9].all fun u => !Tryz.prog.wantsStandIn u) = true := by as_aux_lemma => kernel_rfl
    exact (show Tryz.prog.wantsStandIn t = false by simpa using List.all_eq_true.1 hall t hm)⟩)
  (by as_aux_lemma => kernel_rfl)
end Go.Proofs.YtggnjngdmadbaaaGreatDoor
