/-
  The contracts of all functions.
-/
import Derived.Test.YtbmclapepgfjhaaGreatFunK
set_option linter.unusedSectionVars false
set_option linter.unusedVariables false
set_option linter.unusedSimpArgs false
namespace Go.Lift
open Go Go.Proofs
set_option maxRecDepth 100000
section
variable (zan : Has Tryz.prog z90) (z08 : Has Tryz.prog z60) (z21 : Has Tryz.prog z7j) (z24 : Has Tryz.prog z7k) (z38 : Has Tryz.prog z50) (z88 : Has Tryz.prog za9) (z1o : Has Tryz.prog z6f) (z57 : Has Tryz.prog z85)
theorem z4k : Has Tryz.prog z36 :=
 z17 z04 z0z z10 z11 (own := []) all_nil (n := zf6) Tryz.func40 (by kernel_rfl) fun x => zm8 x
theorem z2r : Has Tryz.prog z1r :=
 z17 z04 z0z z10 z11 (own := []) all_nil (n := ze5) Tryz.func41 (by kernel_rfl) fun x => zl9 x.1 x.2
theorem z8v : Has Tryz.prog z49 :=
 z17 z04 z0z z10 z11 (own := []) all_nil (n := z4e) Tryz.func94 (by kernel_rfl) fun x => z8e x.1 x.2
theorem z7n : Has Tryz.prog z3k :=
 z17 z04 z0z z10 z11 (own := []) (all_cons z8v all_nil) (n := z3n) Tryz.func62 (by kernel_rfl) fun x => z6y x.1 x.2
theorem z29 : Has Tryz.prog z1h :=
 z17 z04 z0z z10 z11 (own := []) all_nil (n := ze4) Tryz.func39 (by kernel_rfl) fun x => zl8 x.1 x.2.1 x.2.2
theorem zkv : Has Tryz.prog zcf :=
 z17 z04 z0z z10 z11 (own := []) (all_cons z29 all_nil) (n := zd0) Tryz.func64 (by kernel_rfl) fun x => zjr x
theorem zgg : Has Tryz.prog z93 :=
 z17 z04 z0z z10 z11 (own := []) (all_cons z29 all_nil) (n := z9i) Tryz.func65 (by kernel_rfl) fun x => zfy x
theorem zkw : Has Tryz.prog zcg :=
 z17 z04 z0z z10 z11 (own := []) (all_cons z29 all_nil) (n := zd1) Tryz.func66 (by kernel_rfl) fun x => zjs x
theorem zlz : Has Tryz.prog zdn :=
 z17 z04 z0z z10 z11 (own := []) (all_cons z29 (all_cons zkv (all_cons zgg (all_cons zkw all_nil)))) (n := ze6) Tryz.func63 (by kernel_rfl) fun x => zla x
theorem zgd : Has Tryz.prog z91 :=
 z17 z04 z0z z10 z11 (own := []) all_nil (n := z9e) Tryz.func71 (by kernel_rfl) fun x => zfu x.1 x.2
theorem z7z : Has Tryz.prog z4g :=
 z17 z04 z0z z10 z11 (own := []) (all_cons zgd all_nil) (n := z7c) Tryz.func37 (by kernel_rfl) fun x => zdg x.1 x.2
theorem zek : Has Tryz.prog z78 :=
 z17 z04 z0z z10 z11 (own := []) (all_cons z29 all_nil) (n := z7h) Tryz.func96 (by kernel_rfl) fun x => zdl x.1 x.2
theorem zfo : Has Tryz.prog z8m :=
 z17 z04 z0z z10 z11 (own := []) (all_cons z7z (all_cons zek all_nil)) (n := z8t) Tryz.func95 (by kernel_rfl) fun x => zf4 x.1 x.2
theorem zhb : Has Tryz.prog z9x :=
 z17 z04 z0z z10 z11 (own := []) (all_cons z2r (all_cons zfo all_nil)) (n := za6) Tryz.func67 (by kernel_rfl) fun x => zgm x
theorem zha : Has Tryz.prog zbb :=
 z17 z04 z0z z10 z11 (own := []) (all_cons z4k (all_cons z2r (all_cons z7n (all_cons zlz (all_cons zhb all_nil))))) (n := zg6) Tryz.func33 (by kernel_rfl) fun x => zn0 x.1 x.2
theorem zku : Has Tryz.prog zce :=
 z17 z04 z0z z10 z11 (own := []) all_nil (n := zcz) Tryz.func35 (by kernel_rfl) fun x => zjq x
theorem zh8 : Has Tryz.prog zba :=
 z17 z04 z0z z10 z11 (own := []) all_nil (n := zg5) Tryz.func99 (by kernel_rfl) fun x => zmz x
theorem zej : Has Tryz.prog z33 :=
 z17 z04 z0z z10 z11 (own := []) (all_cons z29 (all_cons zh8 all_nil)) (n := z7g) Tryz.func97 (by kernel_rfl) fun x => zdk x.1 x.2.1 x.2.2
theorem zjj : Has Tryz.prog zbi :=
 z17 z04 z0z z10 z11 (own := []) all_nil (n := zbp) Tryz.func111 (by kernel_rfl) fun x => zio x.1 x.2
theorem zge : Has Tryz.prog z3w :=
 z17 z04 z0z z10 z11 (own := []) (all_cons zjj all_nil) (n := z9f) Tryz.func98 (by kernel_rfl) fun x => zfv x.1 x.2
theorem zkt : Has Tryz.prog zcd :=
 z17 z04 z0z z10 z11 (own := []) all_nil (n := zcy) Tryz.func75 (by kernel_rfl) fun x => zjp x.1 x.2
theorem zay : Has Tryz.prog z5z :=
 z17 z04 z0z z10 z11 (own := []) (all_cons zkt all_nil) (n := za2) Tryz.func47 (by kernel_rfl) fun x => zgi x.1 x.2
theorem zb0 : Has Tryz.prog z61 :=
 z17 z04 z0z z10 z11 (own := []) (all_cons zh8 all_nil) (n := za5) Tryz.func70 (by kernel_rfl) fun x => zgl x.1 x.2.1 x.2.2
theorem zgf : Has Tryz.prog z92 :=
 z17 z04 z0z z10 z11 (own := []) (all_cons zb0 all_nil) (n := z9g) Tryz.func36 (by kernel_rfl) fun x => zfw x.1 x.2
theorem zin : Has Tryz.prog zaq :=
 z17 z04 z0z z10 z11 (own := []) (all_cons z29 all_nil) (n := zb7) Tryz.func38 (by kernel_rfl) fun x => zhj x
theorem zh9 : Has Tryz.prog z9w :=
 z17 z04 z0z z10 z11 (own := []) (all_cons zay (all_cons zb0 all_nil)) (n := za4) Tryz.func44 (by kernel_rfl) fun x => zgk x.1 x.2
include z21 z24 in
theorem zky : Has Tryz.prog zci :=
 z17 z04 z0z z10 z11 (own := []) (all_cons zha (all_cons z7z (all_cons zin (all_cons z4k (all_cons z2r (all_cons z24 (all_cons z21 (all_cons zh9 all_nil)))))))) (n := zd3) Tryz.func10 (by kernel_rfl) fun x => zju x.1 x.2.1 x.2.2
theorem y2f : Has Tryz.prog zqf :=
 z17 z04 z0z z10 z11 (own := []) all_nil (n := zre) Tryz.func18 (by kernel_rfl) fun x => zzv x.1 x.2
include z08 in
theorem zh7 : Has Tryz.prog z9v :=
 z17 z04 z0z z10 z11 (own := []) (all_cons z08 all_nil) (n := za3) Tryz.func88 (by kernel_rfl) fun x => zgj x
theorem zm0 : Has Tryz.prog zdo :=
 z17 z04 z0z z10 z11 (own := []) (all_cons z29 all_nil) (n := ze7) Tryz.func110 (by kernel_rfl) fun x => zlb x
theorem zbm : Has Tryz.prog zao :=
 y6z z04 z0z z10 z11 (own := []) (all_cons z4k (all_cons z2r (all_cons zm0 all_nil))) (n := zb5) Tryz.func93 (by kernel_rfl) fun x => zhh x
include z08 in
theorem zcu : Has Tryz.prog zbk :=
 z17 z04 z0z z10 z11 (own := []) (all_cons (zh7 z08) (all_cons zbm all_nil)) (n := zbr) Tryz.func59 (by kernel_rfl) fun x => zir x
theorem zef : Has Tryz.prog z71 :=
 z17 z04 z0z z10 z11 (own := []) all_nil (n := z7b) Tryz.func105 (by kernel_rfl) fun x => zdf x.1 x.2
theorem zc2 : Has Tryz.prog z5m :=
 z17 z04 z0z z10 z11 (own := []) (all_cons zef all_nil) (n := z5u) Tryz.func80 (by kernel_rfl) fun x => zbf x.1 x.2
theorem zax : Has Tryz.prog z5y :=
 z17 z04 z0z z10 z11 (own := []) all_nil (n := za1) Tryz.func106 (by kernel_rfl) fun x => zgh x.1 x.2
theorem z58 : Has Tryz.prog z3d :=
 z17 z04 z0z z10 z11 (own := []) (all_cons zax all_nil) (n := z80) Tryz.func82 (by kernel_rfl) fun x => zem x.1 x.2
theorem zf0 : Has Tryz.prog z7v :=
 z17 z04 z0z z10 z11 (own := []) (all_cons z58 all_nil) (n := z82) Tryz.func81 (by kernel_rfl) fun x => zeo x.1 x.2
include z08 in
theorem z62 : Has Tryz.prog z3x :=
 z17 z04 z0z z10 z11 (own := []) (all_cons z4k (all_cons z2r (all_cons (zcu z08) (all_cons zc2 (all_cons zf0 (all_cons z58 all_nil)))))) (n := z9h) Tryz.func53 (by kernel_rfl) fun x => zfx x.1 x.2
theorem zbe : Has Tryz.prog z5f :=
 z17 z04 z0z z10 z11 (own := []) all_nil (n := z5h) Tryz.func109 (by kernel_rfl) fun x => zb3 x.1 x.2
theorem zaf : Has Tryz.prog z4x :=
 z17 z04 z0z z10 z11 (own := []) (all_cons zbe all_nil) (n := z4z) Tryz.func90 (by kernel_rfl) fun x => z9s x.1 x.2
theorem zmv : Has Tryz.prog zet :=
 z17 z04 z0z z10 z11 (own := []) (all_cons zax all_nil) (n := zf5) Tryz.func92 (by kernel_rfl) fun x => zm7 x.1 x.2.1 x.2.2
theorem zde : Has Tryz.prog z6d :=
 z17 z04 z0z z10 z11 (own := []) (all_cons z58 (all_cons zmv all_nil)) (n := z6n) Tryz.func91 (by kernel_rfl) fun x => zcv x.1 x.2.1 x.2.2
theorem z8q : Has Tryz.prog z7u :=
 z17 z04 z0z z10 z11 (own := []) (all_cons zaf (all_cons zde all_nil)) (n := z81) Tryz.func58 (by kernel_rfl) fun x => zen x.1 x.2
include z08 in
theorem zbn : Has Tryz.prog z6g :=
 z17 z04 z0z z10 z11 (own := []) (all_cons (z62 z08) (all_cons z8q all_nil)) (n := zb8) Tryz.func27 (by kernel_rfl) fun x => zhk x.1 x.2
theorem zzq : Has Tryz.prog znq :=
 z17 z04 z0z z10 z11 (own := []) all_nil (n := zpj) Tryz.func31 (by kernel_rfl) fun x => zwq x.1 x.2
include z08 z21 z24 z38 in
theorem zeh : Has Tryz.prog z74 :=
 z17 z04 z0z z10 z11 (own := []) (all_cons z38 (all_cons (zky z21 z24) (all_cons y2f (all_cons (zbn z08) (all_cons zzq all_nil))))) (n := z7e) Tryz.func5 (by kernel_rfl) fun x => zdi 
theorem zdx : Has Tryz.prog z94 :=
 z17 z04 z0z z10 z11 (own := []) all_nil (n := zlj) Tryz.func30 (by kernel_rfl) fun x => zso x.1 x.2
theorem zwe : Has Tryz.prog zmd :=
 z17 z04 z0z z10 z11 (own := []) all_nil (n := zmr) Tryz.func79 (by kernel_rfl) fun x => zup x
theorem zq2 : Has Tryz.prog zgo :=
 z17 z04 z0z z10 z11 (own := []) (all_cons zdx (all_cons zwe all_nil)) (n := zho) Tryz.func52 (by kernel_rfl) fun x => zpa x
theorem zue : Has Tryz.prog zkb :=
 z17 z04 z0z z10 z11 (own := []) (all_cons zq2 all_nil) (n := zli) Tryz.func19 (by kernel_rfl) fun x => zsn x
theorem zot : Has Tryz.prog zg0 :=
 z17 z04 z0z z10 z11 (own := []) (all_cons zdx all_nil) (n := zg4) Tryz.func20 (by kernel_rfl) fun x => zmy x.1 x.2
theorem zeg : Has Tryz.prog z73 :=
 z17 z04 z0z z10 z11 (own := []) all_nil (n := z7d) Tryz.func21 (by kernel_rfl) fun x => zdh x
theorem zei : Has Tryz.prog z77 :=
 z17 z04 z0z z10 z11 (own := []) (all_cons z29 all_nil) (n := z7f) Tryz.func87 (by kernel_rfl) fun x => zdj x.1 x.2
theorem z3z : Has Tryz.prog z8l :=
 z17 z04 z0z z10 z11 (own := []) (all_cons z4k (all_cons z2r (all_cons zei all_nil))) (n := z8s) Tryz.func55 (by kernel_rfl) fun x => zf3 x.1 x.2
include zan in
theorem zjl : Has Tryz.prog zie :=
 z17 z04 z0z z10 z11 (own := []) (all_cons zan all_nil) (n := zbs) Tryz.func85 (by kernel_rfl) fun x => zis x
include z08 z57 in
theorem zkx : Has Tryz.prog zch :=
 z17 z04 z0z z10 z11 (own := []) (all_cons z2r (all_cons (z62 z08) (all_cons z57 all_nil))) (n := zd2) Tryz.func22 (by kernel_rfl) fun x => zjt x.1 x.2
theorem zj0 : Has Tryz.prog zcj :=
 z17 z04 z0z z10 z11 (own := []) all_nil (n := zhp) Tryz.func24 (by kernel_rfl) fun x => zpb x
theorem zsb : Has Tryz.prog zit :=
 z17 z04 z0z z10 z11 (own := []) (all_cons zj0 all_nil) (n := zj2) Tryz.func23 (by kernel_rfl) fun x => zq5 x
theorem zjk : Has Tryz.prog zbj :=
 z17 z04 z0z z10 z11 (own := []) all_nil (n := zbq) Tryz.func56 (by kernel_rfl) fun x => ziq x.1 x.2
include z08 z1o in
theorem zim : Has Tryz.prog zap :=
 z17 z04 z0z z10 z11 (own := []) (all_cons z4k (all_cons z2r (all_cons (z62 z08) (all_cons z3z (all_cons zjk (all_cons z1o all_nil)))))) (n := zb6) Tryz.func25 (by kernel_rfl) fun x => zhi x.1 x.2.1 x.2.2
theorem zsc : Has Tryz.prog ziu :=
 z17 z04 z0z z10 z11 (own := []) all_nil (n := zj3) Tryz.func26 (by kernel_rfl) fun x => zq6 x
theorem zfn : Has Tryz.prog z8k :=
 z17 z04 z0z z10 z11 (own := []) (all_cons zdx all_nil) (n := z8r) Tryz.func29 (by kernel_rfl) fun x => zf2 x.1 x.2
include z08 z21 z24 z38 z88 z1o z57 in
theorem zaz : Has Tryz.prog z54 :=
 z17 z04 z0z z10 z11 (own := []) (all_cons (zeh z08 z21 z24 z38) (all_cons zue (all_cons zot (all_cons zeg (all_cons (zkx z08 z57) (all_cons zsb (all_cons zj0 (all_cons (zim z08 z1o) (all_cons zsc (all_cons (zbn z08) (all_cons z88 (all_cons zfn (all_cons zdx all_nil))))))))))))) (n := z5b) Tryz.func4 (by kernel_rfl) fun x => zag x
end
end Go.Lift
