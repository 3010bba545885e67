/-
  CampaignReached: the statement.
-/
import Derived.Test.YtggnjngdmadbaaaGreatDoorPlC
import Derived.Test.YtggnjngdmadbaaaGreatDoorFunE
import Derived.Test.YtggnjngdmadbaaaGreatDoorPlP
import Derived.Test.YtggnjngdmadbaaaGreatDoorLiftO
import Derived.Test.YtggnjngdmadbaaaGreatDoorTie
import Derived.Test.YtggnjngdmadbaaaGreatDoorCards
import Derived.LaidMore
import Derived.Lay
import Derived.LaidLaws
import Derived.Stop.Joined
set_option maxRecDepth 100000
set_option maxHeartbeats 4000000
set_option linter.unusedSectionVars false
set_option linter.unusedVariables false
set_option linter.unusedSimpArgs false
namespace Go.Proofs.YtggnjngdmadbaaaGreatDoor
open Go Go.ChangeShapes Go.WideShapes Go.ChangeAt Go.RowKit Go.Lift
theorem own:ownKnob Tryz.prog.godebug=none:=by kernel_rfl
theorem laidOut:laidOutB Tryz.prog=true:=by kernel_rfl
abbrev zzd : List (String × DataW Unit) := [("math/bits.deBruijn32tab", Rows.laid_math_bits_deBruijn32tab), ("math/bits.deBruijn64tab", Rows.laid_math_bits_deBruijn64tab), ("internal/strconv.uint64pow10", Rows.laid_internal_strconv_uint64pow10), ("unicode/utf8.acceptRanges", Rows.laid_unicode_utf8_acceptRanges), ("strconv.ErrRange", Rows.laid_strconv_ErrRange), ("strconv.ErrSyntax", Rows.laid_strconv_ErrSyntax), ("unicode/utf8.first", Rows.laid_unicode_utf8_first)]
theorem the_law(x:Args [.slice (.slice .str),.slice .str,.slice z0d])(h:okvs _ x):z5q x.1 x.2.1 x.2.2=some true:=zos y6h _ _ _
theorem the_has:Has Tryz.prog zcf:=zlb z08 z1r z1s z2k z27 z2c z67
theorem ybg{W:World}(h:laidMetH Tryz.prog zzd W):laidMet Tryz.prog zzd W:=by
 rw[MakeChecks.laidMetH_plain _ _ _ (by kernel_rfl)] at h;exact h
theorem star : "*" ++ "errors.errorString" = "*errors.errorString" := by decide
theorem y98(u : TypeId)(h : Tryz.prog.typeName? 3 u = some "*errors.errorString") : u = 313 :=
 typeName_ptr_named (nm := "errors.errorString") (by rw [star]; kernel_rfl) (by kernel_rfl) (by decide) u (by rw [star]; exact h)
theorem ya9{W:World}(hs:W.ShapedOpen Tryz.prog)(h:laidMetH Tryz.prog zzd W):Tab.T (snap W) W:=by
 have h1:=ybg h
 have h2 : laidMet Tryz.prog (("internal/strconv.uint64pow10", Lib.tabData .u64 Lib.pow10Tab) :: zzd.drop 3) W := h1.tail.tail
 have h3:=h2.tail.tail;have h4:=h3.tail;refine⟨fun x hx => ?_,fun y hy => ?_⟩
 ·obtain rfl:=List.mem_singleton.1 hx;exact yab (Lib.tabIs_of_head (g:=0) (t:=296) (e:=270) (n:=20) (by kernel_rfl) (by kernel_rfl) (by kernel_rfl) (by kernel_rfl) (by kernel_rfl) (by kernel_rfl) h2) (by kernel_rfl)
 ·rcases List.mem_cons.1 hy with rfl|hy
  ·exact yd8 hs (t:=3) (zero := #[.int .i64 0]) (of_decide_eq_true (by kernel_rfl)) (by kernel_rfl) rfl (by kernel_rfl) (by kernel_rfl) (by kernel_rfl)
  ·rcases List.mem_cons.1 hy with rfl|hy
   ·exact y6t (g:=2) (ti:=211) (tp:=313) (te:=315) (ts:=9) h4 (by kernel_rfl) (by kernel_rfl) (by kernel_rfl) y98 (by kernel_rfl) (by kernel_rfl) (by kernel_rfl) (by kernel_rfl) (by kernel_rfl)
   ·obtain rfl:=List.mem_singleton.1 hy;exact y6t (g:=3) (ti:=211) (tp:=313) (te:=315) (ts:=9) h3 (by kernel_rfl) (by kernel_rfl) (by kernel_rfl) y98 (by kernel_rfl) (by kernel_rfl) (by kernel_rfl) (by kernel_rfl) (by kernel_rfl)
theorem lifted(os:Os)(started:os.Started)(H:Type)(enc:TypeId×Value→H) :
  ReturnsInHanded {} Tryz.checked os 13 .any (fun w args=>(Rows.campaignReachedSpec.pre enc Tryz.prog Tryz.f13 [] false w args∧laidMetH Tryz.prog zzd w)∧sizedMet enc Tryz.prog Tryz.f13 (OpenSpec.ofChange Rows.campaignReachedSpec) false w args)
   (Rows.campaignReachedSpec.post enc Tryz.prog Tryz.f13 false true false false):=by
 refine zua (C:=Tryz.checked) (X:=fun w _=>laidMetH Tryz.prog zzd w) (fun _ _ _ hh h=>h.of_heap hh) own started (by kernel_rfl) Tryz.func13
  (ChangeSpec.witness_shaped (enc:=enc) (C:=Tryz.checked) (os:=os) (X:=fun w _=>laidMetH Tryz.prog zzd w) false (World.laidAll Tryz.prog os zzd)
   #[.slice none 0 0,.slice none 0 0,.slice none 0 0] 8 (World.laidAll_os _ _ _) (World.shaped_of_ZipB (by kernel_rfl) (by kernel_rfl)) (by kernel_rfl) (by kernel_rfl) (by kernel_rfl)
   (by rw[MakeChecks.laidMetH_plain _ _ _ (by kernel_rfl)];exact laidMet_laidAll _ (by kernel_rfl) (by kernel_rfl))) ?_
 intro W base args ds gs before hsh hval hW a3;exact y8o laidOut rfl the_has (by kernel_rfl) (tb:=4) (by kernel_rfl) (by kernel_rfl) the_law (fun ds hd=>match ds,hd with | [d1,d2,d3],_=>rfl) hval hW (ya9 hsh a3)
theorem and_of{a b:Bool}(ha:a=true)(hb:b=true):(a&&b)=true:=by rw[ha,hb];rfl
theorem y4x:joinedFacts Tryz.checked.prog 13 Tryz.f13 Rows.campaignReachedSpec Rows.campaignReachedRow=true:=by
 unfold joinedFacts;repeat' with_reducible refine and_of ?_ ?_
 all_goals as_aux_lemma=>kernel_rfl
theorem row_holds:Rows.CampaignReachedSaid:=
 OpenClaim.holds_of_wide 13 Tryz.f13 rfl rfl rfl rfl rfl rfl rfl ⟨rfl,rfl,rfl,rfl,rfl⟩ rfl rfl rfl rfl rfl (by as_aux_lemma=>kernel_rfl) Tryz.func13 y4x
  (of_decide_eq_true (by as_aux_lemma=>kernel_rfl)) (by unfold Func.isWrapper;first|(rw[if_pos (by decide +kernel)];kernel_rfl)|(rw[if_neg (by decide +kernel)];exact⟨rfl,rfl⟩))
  (fun os started H enc _=>lifted os started H enc)
theorem card_holds:Rows.CampaignReachedCardSaid:=
 Claim7.holds_tied_plain_at .later [] [.data, .data, .data, .data, .sentinel, .sentinel, .pinned] true (true, "09afae0ca9ec711746c75b5b5caedd0aa7f11b65afe4b6ae38ad20c905d73d61") true
  row_holds (fun _ h=>by cases h) (by as_aux_lemma=>kernel_rfl) (fun _ h=>by cases h) campaignReached_row_tie rfl ⟨rfl,rfl⟩ (by as_aux_lemma=>kernel_rfl) rfl
  (fun f fn hf hfn=>by
   obtain rfl : f = 13 := Option.some.inj ((show Tryz.prog.funcNamed "cobble/cobblelaw01.CampaignReached" = some 13 by as_aux_lemma => kernel_rfl).symm.trans hf) |>.symm
   obtain rfl:fn=Tryz.f13:=(Option.some.inj (Tryz.func13.symm.trans hfn)).symm;exact⟨by as_aux_lemma=>kernel_rfl,fun j t ht=>by
    rw[Tryz.params13] at ht;have hm:t∈[60,61,110]:=by simpa using Array.mem_of_getElem? ht
    have hall:([60,61,110].all fun u => !Tryz.prog.wantsStandIn u)=true:=by as_aux_lemma=>kernel_rfl
    exact(show Tryz.prog.wantsStandIn t=false by simpa using List.all_eq_true.1 hall t hm)⟩)
  (by as_aux_lemma=>kernel_rfl)
end Go.Proofs.YtggnjngdmadbaaaGreatDoor
