/-
  CampaignPlans: the statement.
-/
import Derived.Test.YtggnjngdmadbaaaGreatDoorPnB
import Derived.Test.YtggnjngdmadbaaaGreatDoorFunE
import Derived.Test.YtggnjngdmadbaaaGreatDoorPlP
import Derived.Test.YtggnjngdmadbaaaGreatDoorLiftO
import Derived.Test.YtggnjngdmadbaaaGreatDoorTie
import Derived.Test.YtggnjngdmadbaaaGreatDoorCards
import Derived.LaidMore
import Derived.Lay
set_option maxRecDepth 100000
set_option maxHeartbeats 4000000
set_option linter.all false
namespace Go.Proofs.YtggnjngdmadbaaaGreatDoor
open Go Go.ChangeShapes Go.WideShapes Go.ChangeAt Go.RowKit Go.Lift
theorem own:ownKnob Tryz.prog.godebug=none:=by kernel_rfl
theorem laidOut:laidOutB Tryz.prog=true:=by kernel_rfl
abbrev AM : List (String × DataW Unit) := [("math/bits.deBruijn32tab", Rows.laid_math_bits_deBruijn32tab), ("math/bits.deBruijn64tab", Rows.laid_math_bits_deBruijn64tab), ("internal/strconv.uint64pow10", Rows.laid_internal_strconv_uint64pow10), ("unicode/utf8.acceptRanges", Rows.laid_unicode_utf8_acceptRanges), ("strconv.ErrRange", Rows.laid_strconv_ErrRange), ("strconv.ErrSyntax", Rows.laid_strconv_ErrSyntax), ("unicode/utf8.first", Rows.laid_unicode_utf8_first)]
theorem the_law(x:vx [.slice (.slice .str),.slice .str,.slice wP])(h:Bm _ x):nx x.1 x.2.1 x.2.2=some true:=zr6 y7e _ _ _
theorem the_has:Has Tryz.prog zek:=zoo Kb C6 C5 cb cj Ek C9 bT
theorem ycj{W:World}(h:laidMetH Tryz.prog AM W):laidMet Tryz.prog AM W:=by
 rw[MakeChecks.laidMetH_plain _ _ _ (by kernel_rfl)]at h;exact h
theorem star : "*" ++ "errors.errorString" = "*errors.errorString" := by decide
theorem yab(u : TypeId)(h : Tryz.prog.typeName? 3 u = some "*errors.errorString") : u = 313 :=
 typeName_ptr_named (nm := "errors.errorString") (by rw [star]; kernel_rfl) (by kernel_rfl) (by decide) u (by rw [star]; exact h)
theorem ybb{W:World}(hs:W.ShapedOpen Tryz.prog)(h:laidMetH Tryz.prog AM W):wB.T (Qt W) W:=by
 have h1:=ycj h
 have h2 : laidMet Tryz.prog (("internal/strconv.uint64pow10", Lib.tabData .u64 Lib.pow10Tab) :: AM.drop 3) W := h1.tail.tail
 have h3:=h2.tail.tail;have h4:=h3.tail;refine⟨fun x hx =>?_,fun y hy =>?_⟩
 ·obtain rfl:=qE.1 hx;exact ybd (Lib.tabIs_of_head (g:=0) (t:=296) (e:=270) (n:=20) (by kernel_rfl) (by kernel_rfl) (by kernel_rfl) (by kernel_rfl) (by kernel_rfl) (by kernel_rfl) h2) (by kernel_rfl)
 ·rcases qF.1 hy with rfl|hy
  ·exact yeg hs (t:=3) (zero := #[.int .i64 0]) (xI (by kernel_rfl)) (by kernel_rfl) rfl (by kernel_rfl) (by kernel_rfl) (by kernel_rfl)
  ·rcases qF.1 hy with rfl|hy
   ·exact y7t (g:=2) (ti:=211) (tp:=313) (te:=315) (ts:=9) h4 (by kernel_rfl) (by kernel_rfl) (by kernel_rfl) yab (by kernel_rfl) (by kernel_rfl) (by kernel_rfl) (by kernel_rfl) (by kernel_rfl)
   ·obtain rfl:=qE.1 hy;exact y7t (g:=3) (ti:=211) (tp:=313) (te:=315) (ts:=9) h3 (by kernel_rfl) (by kernel_rfl) (by kernel_rfl) yab (by kernel_rfl) (by kernel_rfl) (by kernel_rfl) (by kernel_rfl) (by kernel_rfl)
theorem lifted(os:Os)(Y0:os.Started)(H:Type)(enc:TypeId×Value→H):
  ReturnsInHanded {} Tryz.checked os 12 .any (fun w args=>(Rows.campaignPlansSpec.pre enc Tryz.prog Tryz.f12 [] false w args∧laidMetH Tryz.prog AM w)∧sizedMet enc Tryz.prog Tryz.f12 (OpenSpec.ofChange Rows.campaignPlansSpec) false w args)
   (Rows.campaignPlansSpec.post enc Tryz.prog Tryz.f12 false true false false):=by
 refine zuu (C:=Tryz.checked) (X:=fun w _=>laidMetH Tryz.prog AM w) (fun _ _ _ hh h=>h.of_heap hh) own Y0 (by kernel_rfl) Tryz.func12
  (ChangeSpec.witness_shaped (enc:=enc) (C:=Tryz.checked) (os:=os) (X:=fun w _=>laidMetH Tryz.prog AM w) false (World.laidAll Tryz.prog os AM)
   #[.slice none 0 0,.slice none 0 0,.slice none 0 0] 8 (World.laidAll_os _ _ _) (World.shaped_of_ZipB (by kernel_rfl) (by kernel_rfl)) (by kernel_rfl) (by kernel_rfl) (by kernel_rfl)
   (by rw[MakeChecks.laidMetH_plain _ _ _ (by kernel_rfl)];exact laidMet_laidAll _ (by kernel_rfl) (by kernel_rfl))) ?_
 intro W base args ds gs Xw NO Kq hW a3;exact y9m laidOut rfl the_has (by kernel_rfl) (tb:=4) (by kernel_rfl) (by kernel_rfl) the_law (fun ds hd=>match ds,hd with | [d1,d2,d3],_=>rfl) Kq hW (ybb NO a3)
theorem fU{a b:Bool}(ha:a=true)(hb:b=true):(a&&b)=true:=by rw[ha,hb];rfl
theorem y5u:joinedFacts Tryz.checked.prog 12 Tryz.f12 Rows.campaignPlansSpec Rows.campaignPlansRow=true:=by
 unfold joinedFacts;repeat' with_reducible refine fU ?_ ?_
 all_goals as_aux_lemma=>kernel_rfl
theorem row_holds:Rows.CampaignPlansSaid:=
 OpenClaim.holds_of_wide 12 Tryz.f12 rfl rfl rfl rfl rfl rfl rfl ⟨rfl,rfl,rfl,rfl,rfl⟩ rfl rfl rfl rfl rfl (by as_aux_lemma=>kernel_rfl) Tryz.func12 y5u
  (xI (by as_aux_lemma=>kernel_rfl)) (by unfold Func.isWrapper;first|(rw[qH (by decide +kernel)];kernel_rfl)|(rw[qT (by decide +kernel)];exact⟨rfl,rfl⟩))
  (fun os Y0 H enc _=>lifted os Y0 H enc)
theorem card_holds:Rows.CampaignPlansCardSaid:=
 Claim7.holds_tied_plain_at .later [] [.data, .data, .data, .data, .sentinel, .sentinel, .pinned] true (true, "09afae0ca9ec711746c75b5b5caedd0aa7f11b65afe4b6ae38ad20c905d73d61") true
  row_holds (fun _ h=>by cases h) (by as_aux_lemma=>kernel_rfl) (fun _ h=>by cases h) campaignPlans_row_tie rfl ⟨rfl,rfl⟩ (by as_aux_lemma=>kernel_rfl) rfl
  (fun f fn hf Fl=>by
   obtain rfl : f = 12 := zQ ((show Tryz.prog.funcNamed "cobble/cobblelaw01.CampaignPlans" = some 12 by as_aux_lemma => kernel_rfl).symm.trans hf) |>.symm
   obtain rfl:fn=Tryz.f12:=(zQ (Tryz.func12.symm.trans Fl)).symm;exact⟨by as_aux_lemma=>kernel_rfl,fun j t ht=>by
    rw[Tryz.params12]at ht;have hm:t∈[60,61,110]:=by simpa using Array.mem_of_getElem? ht
    have ZU:([60,61,110].all fun u => !Tryz.prog.wantsStandIn u)=true:=by as_aux_lemma=>kernel_rfl
    exact(show Tryz.prog.wantsStandIn t=false by simpa using qW.1 ZU t hm)⟩)
  (by as_aux_lemma=>kernel_rfl)
end Go.Proofs.YtggnjngdmadbaaaGreatDoor
