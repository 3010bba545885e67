/-
  The contracts of all functions.
-/
import Derived.Test.YtbmclapepgfjhaaGreatFunK
set_option linter.unusedSectionVars false
set_option linter.unusedVariables false
set_option linter.unusedSimpArgs false
namespace Go.Lift
open Go Go.Proofs
set_option maxRecDepth 100000
section
variable (z0b : Has Tryz.prog z2j) (z4j : Has Tryz.prog z2o) (z0e : Has Tryz.prog z4h) (z16 : Has Tryz.prog z57) (z17 : Has Tryz.prog z58) (z1r : Has Tryz.prog z2s) (z3e : Has Tryz.prog z2z)  
theorem z4o : Has Tryz.prog z35 :=
 z12 z03 z0q z0r z0s (own := []) all_nil (n := zeb) Tryz.func40 (by kernel_rfl) fun x => zkq x
theorem z2g : Has Tryz.prog z1j :=
 z12 z03 z0q z0r z0s (own := []) all_nil (n := zd6) Tryz.func41 (by kernel_rfl) fun x => zjo x.1 x.2
theorem z8g : Has Tryz.prog z49 :=
 z12 z03 z0q z0r z0s (own := []) all_nil (n := z4e) Tryz.func94 (by kernel_rfl) fun x => z84 x.1 x.2
theorem z7b : Has Tryz.prog z3h :=
 z12 z03 z0q z0r z0s (own := []) (all_cons z8g all_nil) (n := z3m) Tryz.func62 (by kernel_rfl) fun x => z6y x.1 x.2
theorem z1v : Has Tryz.prog z19 :=
 z12 z03 z0q z0r z0s (own := []) all_nil (n := zd5) Tryz.func39 (by kernel_rfl) fun x => zjn x.1 x.2.1 x.2.2
theorem zjd : Has Tryz.prog zbo :=
 z12 z03 z0q z0r z0s (own := []) (all_cons z1v all_nil) (n := zc7) Tryz.func64 (by kernel_rfl) fun x => zig x
theorem zfh : Has Tryz.prog z8m :=
 z12 z03 z0q z0r z0s (own := []) (all_cons z1v all_nil) (n := z90) Tryz.func65 (by kernel_rfl) fun x => zez x
theorem zje : Has Tryz.prog zbp :=
 z12 z03 z0q z0r z0s (own := []) (all_cons z1v all_nil) (n := zc8) Tryz.func66 (by kernel_rfl) fun x => zih x
theorem zke : Has Tryz.prog zcp :=
 z12 z03 z0q z0r z0s (own := []) (all_cons z1v (all_cons zjd (all_cons zfh (all_cons zje all_nil)))) (n := zd7) Tryz.func63 (by kernel_rfl) fun x => zjp x
theorem zfd : Has Tryz.prog z8k :=
 z12 z03 z0q z0r z0s (own := []) all_nil (n := z8v) Tryz.func71 (by kernel_rfl) fun x => zeu x.1 x.2
theorem z7n : Has Tryz.prog z4i :=
 z12 z03 z0q z0r z0s (own := []) (all_cons zfd all_nil) (n := z76) Tryz.func37 (by kernel_rfl) fun x => zck x.1 x.2
theorem zdj : Has Tryz.prog z72 :=
 z12 z03 z0q z0r z0s (own := []) (all_cons z1v all_nil) (n := z79) Tryz.func96 (by kernel_rfl) fun x => zcn x.1 x.2
theorem zep : Has Tryz.prog z8a :=
 z12 z03 z0q z0r z0s (own := []) (all_cons z7n (all_cons zdj all_nil)) (n := z8e) Tryz.func95 (by kernel_rfl) fun x => ze7 x.1 x.2
theorem zgc : Has Tryz.prog z9e :=
 z12 z03 z0q z0r z0s (own := []) (all_cons z2g (all_cons zep all_nil)) (n := z9n) Tryz.func67 (by kernel_rfl) fun x => zfo x
theorem zbz : Has Tryz.prog z7w :=
 z12 z03 z0q z0r z0s (own := []) (all_cons z4o (all_cons z2g (all_cons z7b (all_cons zke (all_cons zgc all_nil))))) (n := zf7) Tryz.func33 (by kernel_rfl) fun x => zld x.1 x.2
theorem zjc : Has Tryz.prog zbn :=
 z12 z03 z0q z0r z0s (own := []) all_nil (n := zc6) Tryz.func35 (by kernel_rfl) fun x => zif x
theorem zga : Has Tryz.prog zas :=
 z12 z03 z0q z0r z0s (own := []) all_nil (n := zf6) Tryz.func99 (by kernel_rfl) fun x => zlc x
theorem z7o : Has Tryz.prog z2x :=
 z12 z03 z0q z0r z0s (own := []) (all_cons z1v (all_cons zga all_nil)) (n := z78) Tryz.func97 (by kernel_rfl) fun x => zcm x.1 x.2.1 x.2.2
theorem zi9 : Has Tryz.prog zb2 :=
 z12 z03 z0q z0r z0s (own := []) all_nil (n := zb5) Tryz.func111 (by kernel_rfl) fun x => zhi x.1 x.2
theorem zfe : Has Tryz.prog z3v :=
 z12 z03 z0q z0r z0s (own := []) (all_cons zi9 all_nil) (n := z8w) Tryz.func98 (by kernel_rfl) fun x => zev x.1 x.2
theorem zja : Has Tryz.prog zbm :=
 z12 z03 z0q z0r z0s (own := []) all_nil (n := zc5) Tryz.func75 (by kernel_rfl) fun x => zie x.1 x.2
theorem z4t : Has Tryz.prog z2y :=
 z12 z03 z0q z0r z0s (own := []) (all_cons zja all_nil) (n := z9j) Tryz.func47 (by kernel_rfl) fun x => zfk x.1 x.2
theorem zak : Has Tryz.prog z5z :=
 z12 z03 z0q z0r z0s (own := []) (all_cons zga all_nil) (n := z9m) Tryz.func70 (by kernel_rfl) fun x => zfn x.1 x.2.1 x.2.2
theorem z60 : Has Tryz.prog z2n :=
 z12 z03 z0q z0r z0s (own := []) (all_cons zak all_nil) (n := z8y) Tryz.func36 (by kernel_rfl) fun x => zex x.1 x.2
theorem zhg : Has Tryz.prog za9 :=
 z12 z03 z0q z0r z0s (own := []) (all_cons z1v all_nil) (n := zap) Tryz.func38 (by kernel_rfl) fun x => zgj x
theorem zgb : Has Tryz.prog z9d :=
 z12 z03 z0q z0r z0s (own := []) (all_cons z4t (all_cons zak all_nil)) (n := z9l) Tryz.func44 (by kernel_rfl) fun x => zfm x.1 x.2
include z16 z17 in
theorem zcv : Has Tryz.prog z80 :=
 z12 z03 z0q z0r z0s (own := []) (all_cons zbz (all_cons z7n (all_cons zhg (all_cons z4o (all_cons z2g (all_cons z17 (all_cons z16 (all_cons zgb all_nil)))))))) (n := zc9) Tryz.func10 (by kernel_rfl) fun x => zii x.1 x.2.1 x.2.2
theorem zsa : Has Tryz.prog zk0 :=
 z12 z03 z0q z0r z0s (own := []) all_nil (n := zpi) Tryz.func18 (by kernel_rfl) fun x => zx7 x.1 x.2
include z0e in
theorem zg9 : Has Tryz.prog z9c :=
 z12 z03 z0q z0r z0s (own := []) (all_cons z0e all_nil) (n := z9k) Tryz.func88 (by kernel_rfl) fun x => zfl x
theorem zkf : Has Tryz.prog zcq :=
 z12 z03 z0q z0r z0s (own := []) (all_cons z1v all_nil) (n := zd8) Tryz.func110 (by kernel_rfl) fun x => zjq x
theorem zhf : Has Tryz.prog za8 :=
 y2w z03 z0q z0r z0s (own := []) (all_cons z4o (all_cons z2g (all_cons zkf all_nil))) (n := zao) Tryz.func93 (by kernel_rfl) fun x => zgi x
include z0e in
theorem zia : Has Tryz.prog zb3 :=
 z12 z03 z0q z0r z0s (own := []) (all_cons (zg9 z0e) (all_cons zhf all_nil)) (n := zb6) Tryz.func59 (by kernel_rfl) fun x => zhj x
theorem zdh : Has Tryz.prog z70 :=
 z12 z03 z0q z0r z0s (own := []) all_nil (n := z75) Tryz.func105 (by kernel_rfl) fun x => zcj x.1 x.2
theorem zbd : Has Tryz.prog z5t :=
 z12 z03 z0q z0r z0s (own := []) (all_cons zdh all_nil) (n := z5v) Tryz.func80 (by kernel_rfl) fun x => zay x.1 x.2
theorem zai : Has Tryz.prog z5y :=
 z12 z03 z0q z0r z0s (own := []) all_nil (n := z9i) Tryz.func106 (by kernel_rfl) fun x => zfj x.1 x.2
theorem z5e : Has Tryz.prog z38 :=
 z12 z03 z0q z0r z0s (own := []) (all_cons zai all_nil) (n := z7r) Tryz.func82 (by kernel_rfl) fun x => zdl x.1 x.2
theorem ze3 : Has Tryz.prog z7j :=
 z12 z03 z0q z0r z0s (own := []) (all_cons z5e all_nil) (n := z7t) Tryz.func81 (by kernel_rfl) fun x => zdn x.1 x.2
include z0e in
theorem zfg : Has Tryz.prog z8l :=
 z12 z03 z0q z0r z0s (own := []) (all_cons z4o (all_cons z2g (all_cons (zia z0e) (all_cons zbd (all_cons ze3 (all_cons z5e all_nil)))))) (n := z8z) Tryz.func53 (by kernel_rfl) fun x => zey x.1 x.2
theorem zax : Has Tryz.prog z5m :=
 z12 z03 z0q z0r z0s (own := []) all_nil (n := z5o) Tryz.func109 (by kernel_rfl) fun x => zan x.1 x.2
theorem z9v : Has Tryz.prog z55 :=
 z12 z03 z0q z0r z0s (own := []) (all_cons zax all_nil) (n := z56) Tryz.func90 (by kernel_rfl) fun x => z99 x.1 x.2
theorem zl8 : Has Tryz.prog zdr :=
 z12 z03 z0q z0r z0s (own := []) (all_cons zai all_nil) (n := zea) Tryz.func92 (by kernel_rfl) fun x => zkp x.1 x.2.1 x.2.2
theorem zci : Has Tryz.prog z6d :=
 z12 z03 z0q z0r z0s (own := []) (all_cons z5e (all_cons zl8 all_nil)) (n := z6n) Tryz.func91 (by kernel_rfl) fun x => zc0 x.1 x.2.1 x.2.2
theorem ze2 : Has Tryz.prog z7i :=
 z12 z03 z0q z0r z0s (own := []) (all_cons z9v (all_cons zci all_nil)) (n := z7s) Tryz.func58 (by kernel_rfl) fun x => zdm x.1 x.2
include z0e in
theorem zhh : Has Tryz.prog zaa :=
 z12 z03 z0q z0r z0s (own := []) (all_cons (zfg z0e) (all_cons ze2 all_nil)) (n := zaq) Tryz.func27 (by kernel_rfl) fun x => zgk x.1 x.2
theorem zwz : Has Tryz.prog zm5 :=
 z12 z03 z0q z0r z0s (own := []) all_nil (n := zns) Tryz.func31 (by kernel_rfl) fun x => zua x.1 x.2
include z0e z16 z17 z1r in
theorem zdi : Has Tryz.prog z71 :=
 z12 z03 z0q z0r z0s (own := []) (all_cons z1r (all_cons (zcv z16 z17) (all_cons zsa (all_cons (zhh z0e) (all_cons zwz all_nil))))) (n := z77) Tryz.func5 (by kernel_rfl) fun x => zcl 
theorem z9w : Has Tryz.prog z6e :=
 z12 z03 z0q z0r z0s (own := []) all_nil (n := zl3) Tryz.func14 (by kernel_rfl) fun x => zsn x.1 x.2.1 x.2.2
theorem zjb : Has Tryz.prog zda :=
 z12 z03 z0q z0r z0s (own := []) (all_cons z9w all_nil) (n := zhr) Tryz.func17 (by kernel_rfl) fun x => zod x
theorem zs8 : Has Tryz.prog zis :=
 z12 z03 z0q z0r z0s (own := []) (all_cons z9w all_nil) (n := zjw) Tryz.func61 (by kernel_rfl) fun x => zqm x
theorem zq8 : Has Tryz.prog zhk :=
 z12 z03 z0q z0r z0s (own := []) (all_cons z9w (all_cons zs8 all_nil)) (n := zhs) Tryz.func32 (by kernel_rfl) fun x => zoe x
theorem zs9 : Has Tryz.prog zit :=
 z12 z03 z0q z0r z0s (own := []) (all_cons zjb (all_cons zq8 all_nil)) (n := zjx) Tryz.func6 (by kernel_rfl) fun x => zqn x.1 x.2
theorem zo9 : Has Tryz.prog zft :=
 z12 z03 z0q z0r z0s (own := []) (all_cons z9w all_nil) (n := zgo) Tryz.func7 (by kernel_rfl) fun x => znh x.1 x.2
theorem zoa : Has Tryz.prog zfu :=
 z12 z03 z0q z0r z0s (own := []) all_nil (n := zgp) Tryz.func9 (by kernel_rfl) fun x => zni x
theorem zq9 : Has Tryz.prog za4 :=
 z12 z03 z0q z0r z0s (own := []) all_nil (n := za6) Tryz.func11 (by kernel_rfl) fun x => zof x
theorem y19 : Has Tryz.prog zr8 :=
 z12 z03 z0q z0r z0s (own := []) all_nil (n := zt2) Tryz.func45 (by kernel_rfl) fun x => zzo x.1 x.2
theorem zl7 : Has Tryz.prog zdq :=
 z12 z03 z0q z0r z0s (own := []) (all_cons z9w (all_cons y19 all_nil)) (n := ze9) Tryz.func12 (by kernel_rfl) fun x => zko x.1 x.2
theorem z5q : Has Tryz.prog z2f :=
 z12 z03 z0q z0r z0s (own := []) (all_cons zbz (all_cons z1v (all_cons z4o (all_cons z2g (all_cons z4t all_nil))))) (n := z8d) Tryz.func46 (by kernel_rfl) fun x => ze6 x.1 x.2.1 x.2.2
include z0b in
theorem z74 : Has Tryz.prog z4a :=
 z12 z03 z0q z0r z0s (own := []) (all_cons z0b all_nil) (n := z6o) Tryz.func51 (by kernel_rfl) fun x => zc1 x.1 x.2
include z0b in
theorem zff : Has Tryz.prog z3w :=
 z12 z03 z0q z0r z0s (own := []) (all_cons (z74 z0b) all_nil) (n := z8x) Tryz.func50 (by kernel_rfl) fun x => zew x.1 x.2
include z0b in
theorem zfi : Has Tryz.prog z8n :=
 z12 z03 z0q z0r z0s (own := []) (all_cons z2g (all_cons z5q (all_cons (z74 z0b) all_nil))) (n := z91) Tryz.func15 (by kernel_rfl) fun x => zf0 x.1 x.2.1 x.2.2
theorem zkg : Has Tryz.prog zcr :=
 z12 z03 z0q z0r z0s (own := []) (all_cons z60 (all_cons z5q all_nil)) (n := zd9) Tryz.func16 (by kernel_rfl) fun x => zjr x.1 x.2.1 x.2.2
end
end Go.Lift
