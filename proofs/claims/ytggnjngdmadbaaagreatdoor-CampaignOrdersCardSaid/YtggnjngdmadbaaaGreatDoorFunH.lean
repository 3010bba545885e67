/-
  The contracts of all functions.
-/
import Derived.Test.YtggnjngdmadbaaaGreatDoorFunK
set_option linter.unusedSectionVars false
set_option linter.unusedVariables false
set_option linter.unusedSimpArgs false
namespace Go.Lift
open Go Go.Proofs
set_option maxRecDepth 100000
section
variable (z5e : Has Tryz.prog z5m) (z6q : Has Tryz.prog z61) (z5f : Has Tryz.prog z5n) (z0q : Has Tryz.prog z1c) (z08 : Has Tryz.prog z2i) (z0d : Has Tryz.prog z2y) (z0e : Has Tryz.prog z2z) (z0g : Has Tryz.prog z1i) (z0f : Has Tryz.prog z2j)  
theorem z3c : Has Tryz.prog z2e :=
 z0y z04 z0s z0t z0u (own := []) all_nil (n := zi9) Tryz.func80 (by kernel_rfl) fun x => zrh x
theorem z2f : Has Tryz.prog z1z :=
 z0y z04 z0s z0t z0u (own := []) all_nil (n := zgr) Tryz.func81 (by kernel_rfl) fun x => zpy x.1 x.2
theorem z1m : Has Tryz.prog z17 :=
 z0y z04 z0s z0t z0u (own := []) all_nil (n := zgq) Tryz.func89 (by kernel_rfl) fun x => zpx x.1 x.2.1 x.2.2
theorem z98 : Has Tryz.prog z88 :=
 z0y z04 z0s z0t z0u (own := []) (all_cons z1m all_nil) (n := zgu) Tryz.func99 (by kernel_rfl) fun x => zq1 x
theorem zbo : Has Tryz.prog z78 :=
 z0y z04 z0s z0t z0u (own := []) (all_cons z1m all_nil) (n := zfu) Tryz.func122 (by kernel_rfl) fun x => zo6 x
theorem z7y : Has Tryz.prog z55 :=
 z0y z04 z0s z0t z0u (own := []) (all_cons z1m all_nil) (n := zby) Tryz.func123 (by kernel_rfl) fun x => zj6 x
theorem zbn : Has Tryz.prog z77 :=
 z0y z04 z0s z0t z0u (own := []) (all_cons z1m all_nil) (n := zft) Tryz.func124 (by kernel_rfl) fun x => zo5 x
theorem zr4 : Has Tryz.prog zgd :=
 z0y z04 z0s z0t z0u (own := []) (all_cons z1m all_nil) (n := zgv) Tryz.func125 (by kernel_rfl) fun x => zq2 x
theorem z8r : Has Tryz.prog z7x :=
 z0y z04 z0s z0t z0u (own := []) (all_cons z3c (all_cons z2f (all_cons z1m (all_cons z98 (all_cons zbo (all_cons z7y (all_cons zbn (all_cons zr4 all_nil)))))))) (n := zct) Tryz.func58 (by kernel_rfl) fun x => zk1 x
theorem zei : Has Tryz.prog z8k :=
 z0y z04 z0s z0t z0u (own := []) (all_cons z3c (all_cons z2f (all_cons z1m (all_cons z98 (all_cons zbo (all_cons z7y (all_cons zbn all_nil))))))) (n := ze2) Tryz.func63 (by kernel_rfl) fun x => zl6 x
theorem zjf : Has Tryz.prog zcx :=
 z0y z04 z0s z0t z0u (own := []) (all_cons z1m all_nil) (n := zi7) Tryz.func82 (by kernel_rfl) fun x => zrf x.1 x.2
theorem zdu : Has Tryz.prog z7v :=
 z0y z04 z0s z0t z0u (own := []) (all_cons z8r (all_cons zei (all_cons z3c (all_cons z2f (all_cons zjf all_nil))))) (n := zcr) Tryz.func19 (by kernel_rfl) fun x => zjz x.1 x.2
theorem zjq : Has Tryz.prog zb9 :=
 z0y z04 z0s z0t z0u (own := []) all_nil (n := zbu) Tryz.func144 (by kernel_rfl) fun x => zj2 x.1 x.2
theorem za2 : Has Tryz.prog z5x :=
 z0y z04 z0s z0t z0u (own := []) (all_cons zjq all_nil) (n := z9k) Tryz.func87 (by kernel_rfl) fun x => zg7 x.1 x.2
theorem zh8 : Has Tryz.prog z9g :=
 z0y z04 z0s z0t z0u (own := []) (all_cons z1m all_nil) (n := z9m) Tryz.func110 (by kernel_rfl) fun x => zg9 x.1 x.2
theorem ziv : Has Tryz.prog zat :=
 z0y z04 z0s z0t z0u (own := []) (all_cons za2 (all_cons zh8 all_nil)) (n := zb2) Tryz.func109 (by kernel_rfl) fun x => zi1 x.1 x.2
theorem zdv : Has Tryz.prog z7w :=
 z0y z04 z0s z0t z0u (own := []) (all_cons z2f (all_cons ziv all_nil)) (n := zcs) Tryz.func51 (by kernel_rfl) fun x => zk0 x
theorem zb4 : Has Tryz.prog z5o :=
 z0y z04 z0s z0t z0u (own := []) all_nil (n := z5u) Tryz.func180 (by kernel_rfl) fun x => zal x.1 x.2
theorem z9p : Has Tryz.prog z4o :=
 z0y z04 z0s z0t z0u (own := []) (all_cons zb4 all_nil) (n := z4s) Tryz.func139 (by kernel_rfl) fun x => z9b x.1 x.2
theorem zr2 : Has Tryz.prog zgc :=
 z0y z04 z0s z0t z0u (own := []) (all_cons z1m (all_cons zbo (all_cons z7y (all_cons zbn all_nil)))) (n := zgs) Tryz.func140 (by kernel_rfl) fun x => zpz x
theorem zbm : Has Tryz.prog z7h :=
 z0y z04 z0s z0t z0u (own := []) (all_cons zdv (all_cons z3c (all_cons z2f (all_cons z9p (all_cons zr2 all_nil))))) (n := zji) Tryz.func83 (by kernel_rfl) fun x => zsf x.1 x.2
theorem zpk : Has Tryz.prog zfa :=
 z0y z04 z0s z0t z0u (own := []) all_nil (n := zfs) Tryz.func85 (by kernel_rfl) fun x => zo4 x
theorem zkv : Has Tryz.prog ze7 :=
 z0y z04 z0s z0t z0u (own := []) all_nil (n := zjh) Tryz.func183 (by kernel_rfl) fun x => zse x
theorem za3 : Has Tryz.prog z3x :=
 z0y z04 z0s z0t z0u (own := []) (all_cons z1m (all_cons zkv all_nil)) (n := z9l) Tryz.func181 (by kernel_rfl) fun x => zg8 x.1 x.2.1 x.2.2
theorem znv : Has Tryz.prog zeg :=
 z0y z04 z0s z0t z0u (own := []) all_nil (n := zek) Tryz.func212 (by kernel_rfl) fun x => zms x.1 x.2
theorem zjr : Has Tryz.prog z54 :=
 z0y z04 z0s z0t z0u (own := []) (all_cons znv all_nil) (n := zbv) Tryz.func182 (by kernel_rfl) fun x => zj3 x.1 x.2
theorem zpg : Has Tryz.prog zf6 :=
 z0y z04 z0s z0t z0u (own := []) all_nil (n := zfq) Tryz.func177 (by kernel_rfl) fun x => zo2 x.1 x.2
theorem z8q : Has Tryz.prog z5w :=
 z0y z04 z0s z0t z0u (own := []) (all_cons zpg all_nil) (n := zcm) Tryz.func133 (by kernel_rfl) fun x => zju x.1 x.2
theorem zdt : Has Tryz.prog z7u :=
 z0y z04 z0s z0t z0u (own := []) (all_cons zkv all_nil) (n := zcq) Tryz.func143 (by kernel_rfl) fun x => zjy x.1 x.2.1 x.2.2
theorem zck : Has Tryz.prog z74 :=
 z0y z04 z0s z0t z0u (own := []) (all_cons zdt all_nil) (n := zbw) Tryz.func86 (by kernel_rfl) fun x => zj4 x.1 x.2
theorem zmq : Has Tryz.prog zdk :=
 z0y z04 z0s z0t z0u (own := []) (all_cons z1m all_nil) (n := ze3) Tryz.func88 (by kernel_rfl) fun x => zl7 x
theorem zkw : Has Tryz.prog zcd :=
 z0y z04 z0s z0t z0u (own := []) (all_cons z8q (all_cons zdt all_nil)) (n := zcp) Tryz.func92 (by kernel_rfl) fun x => zjx x.1 x.2
include z0d z0e in
theorem zbp : Has Tryz.prog z79 :=
 z0y z04 z0s z0t z0u (own := []) (all_cons z3c (all_cons z2f (all_cons zbm (all_cons za2 (all_cons zmq (all_cons z0e (all_cons z0d (all_cons zkw all_nil)))))))) (n := zfv) Tryz.func26 (by kernel_rfl) fun x => zo7 x.1 x.2.1 x.2.2
theorem y1k : Has Tryz.prog zqj :=
 z0y z04 z0s z0t z0u (own := []) all_nil (n := zy0) Tryz.func32 (by kernel_rfl) fun x => y7q x.1 x.2
theorem zmp : Has Tryz.prog zdj :=
 yem z04 z0s z0t z0u (own := []) (all_cons z3c (all_cons z2f (all_cons z98 all_nil))) (n := ze1) Tryz.func37 (by kernel_rfl) fun x => zl5 x
include z08 in
theorem zku : Has Tryz.prog zcc :=
 z0y z04 z0s z0t z0u (own := []) (all_cons z08 all_nil) (n := zco) Tryz.func148 (by kernel_rfl) fun x => zjw x
include z08 in
theorem znw : Has Tryz.prog zeh :=
 z0y z04 z0s z0t z0u (own := []) (all_cons zmp (all_cons (zku z08) all_nil)) (n := zel) Tryz.func100 (by kernel_rfl) fun x => zmt x
theorem zh7 : Has Tryz.prog z9f :=
 z0y z04 z0s z0t z0u (own := []) all_nil (n := z9j) Tryz.func188 (by kernel_rfl) fun x => zg6 x.1 x.2
theorem zew : Has Tryz.prog z7g :=
 z0y z04 z0s z0t z0u (own := []) (all_cons zh7 all_nil) (n := z7p) Tryz.func150 (by kernel_rfl) fun x => zec x.1 x.2
theorem zds : Has Tryz.prog z7t :=
 z0y z04 z0s z0t z0u (own := []) all_nil (n := zcl) Tryz.func189 (by kernel_rfl) fun x => zjt x.1 x.2
theorem z6s : Has Tryz.prog z4d :=
 z0y z04 z0s z0t z0u (own := []) (all_cons zds all_nil) (n := za6) Tryz.func152 (by kernel_rfl) fun x => zha x.1 x.2
theorem zhu : Has Tryz.prog z9x :=
 z0y z04 z0s z0t z0u (own := []) (all_cons z6s all_nil) (n := za8) Tryz.func151 (by kernel_rfl) fun x => zhc x.1 x.2
include z08 in
theorem zjs : Has Tryz.prog zbb :=
 z0y z04 z0s z0t z0u (own := []) (all_cons z3c (all_cons z2f (all_cons (znw z08) (all_cons zew (all_cons zhu (all_cons z6s all_nil)))))) (n := zbx) Tryz.func103 (by kernel_rfl) fun x => zj5 x.1 x.2
theorem zea : Has Tryz.prog z71 :=
 z0y z04 z0s z0t z0u (own := []) all_nil (n := z73) Tryz.func190 (by kernel_rfl) fun x => zdy x.1 x.2
theorem zc7 : Has Tryz.prog z64 :=
 z0y z04 z0s z0t z0u (own := []) (all_cons zea all_nil) (n := z69) Tryz.func153 (by kernel_rfl) fun x => zbt x.1 x.2
theorem zs9 : Has Tryz.prog zhj :=
 z0y z04 z0s z0t z0u (own := []) (all_cons zds all_nil) (n := zi8) Tryz.func155 (by kernel_rfl) fun x => zrg x.1 x.2.1 x.2.2
theorem zg4 : Has Tryz.prog z8i :=
 z0y z04 z0s z0t z0u (own := []) (all_cons z6s (all_cons zs9 all_nil)) (n := z8v) Tryz.func154 (by kernel_rfl) fun x => zfn x.1 x.2.1 x.2.2
theorem zht : Has Tryz.prog z9w :=
 z0y z04 z0s z0t z0u (own := []) (all_cons zc7 (all_cons zg4 all_nil)) (n := za7) Tryz.func104 (by kernel_rfl) fun x => zhb x.1 x.2
include z08 in
theorem zmr : Has Tryz.prog zdl :=
 z0y z04 z0s z0t z0u (own := []) (all_cons (zjs z08) (all_cons zht all_nil)) (n := ze4) Tryz.func40 (by kernel_rfl) fun x => zl8 x.1 x.2
theorem y77 : Has Tryz.prog zti :=
 z0y z04 z0s z0t z0u (own := []) all_nil (n := zvq) Tryz.func46 (by kernel_rfl) fun x => y42 x.1 x.2
include z5e z5f in
theorem zr3 : Has Tryz.prog zbc :=
 z0y z04 z0s z0t z0u (own := []) (all_cons z5e (all_cons z5f all_nil)) (n := zgt) Tryz.func127 (by kernel_rfl) fun x => zq0 x
theorem y9z : Has Tryz.prog zwr :=
 z0y z04 z0s z0t z0u (own := []) all_nil (n := zxy) Tryz.func75 (by kernel_rfl) fun x => y7o 
theorem y75 : Has Tryz.prog ztg :=
 z0y z04 z0s z0t z0u (own := []) all_nil (n := zvo) Tryz.func76 (by kernel_rfl) fun x => y40 
theorem y76 : Has Tryz.prog zth :=
 z0y z04 z0s z0t z0u (own := []) all_nil (n := zvp) Tryz.func77 (by kernel_rfl) fun x => y41 
include z08 z0d z0e z0g z0f in
theorem zhs : Has Tryz.prog zcw :=
 z0y z04 z0s z0t z0u (own := []) (all_cons zdu (all_cons z0g (all_cons (zbp z0d z0e) (all_cons y1k (all_cons (zmr z08) (all_cons y77 (all_cons z0f (all_cons y9z (all_cons y75 (all_cons y76 all_nil)))))))))) (n := zvn) Tryz.func15 (by kernel_rfl) fun x => y3z 
theorem z7c : Has Tryz.prog z5b :=
 z0y z04 z0s z0t z0u (own := []) all_nil (n := zs1) Tryz.func20 (by kernel_rfl) fun x => y21 x.1 x.2.1 x.2.2
theorem zur : Has Tryz.prog zk7 :=
 z0y z04 z0s z0t z0u (own := []) all_nil (n := zs2) Tryz.func78 (by kernel_rfl) fun x => y22 x
theorem zks : Has Tryz.prog zeo :=
 z0y z04 z0s z0t z0u (own := []) (all_cons z7c all_nil) (n := zq7) Tryz.func79 (by kernel_rfl) fun x => zzd x
theorem zyz : Has Tryz.prog zmw :=
 z0y z04 z0s z0t z0u (own := []) (all_cons z7c (all_cons zur (all_cons zks all_nil))) (n := zn8) Tryz.func17 (by kernel_rfl) fun x => zwf x
theorem zxb : Has Tryz.prog zni :=
 z0y z04 z0s z0t z0u (own := []) all_nil (n := zvr) Tryz.func96 (by kernel_rfl) fun x => y43 x.1 x.2
end
end Go.Lift
