/-
  The contracts of all functions.
-/
import Derived.Test.YtggnjngdmadbaaaGreatDoorFunK
set_option linter.unusedSectionVars false
set_option linter.unusedVariables false
set_option linter.unusedSimpArgs false
namespace Go.Lift
open Go Go.Proofs
set_option maxRecDepth 100000
section
variable (z5r : Has Tryz.prog zbf) (zbo : Has Tryz.prog zal) (z81 : Has Tryz.prog zbg) (z3k : Has Tryz.prog z45) (z0d : Has Tryz.prog z6f) (z0n : Has Tryz.prog z70) (z0o : Has Tryz.prog z71) (z0w : Has Tryz.prog z5h) (z0m : Has Tryz.prog z6g)  
theorem z3t : Has Tryz.prog z2p :=
 z1m z04 z11 z12 z13 (own := []) all_nil (n := zio) Tryz.func80 (by kernel_rfl) fun x => zs0 x
theorem z2q : Has Tryz.prog z27 :=
 z1m z04 z11 z12 z13 (own := []) all_nil (n := zh8) Tryz.func81 (by kernel_rfl) fun x => zqk x.1 x.2
theorem z1z : Has Tryz.prog z1g :=
 z1m z04 z11 z12 z13 (own := []) all_nil (n := zh7) Tryz.func89 (by kernel_rfl) fun x => zqj x.1 x.2.1 x.2.2
theorem z9d : Has Tryz.prog z8f :=
 z1m z04 z11 z12 z13 (own := []) (all_cons z1z all_nil) (n := zhb) Tryz.func99 (by kernel_rfl) fun x => zqn x
theorem zbw : Has Tryz.prog z7p :=
 z1m z04 z11 z12 z13 (own := []) (all_cons z1z all_nil) (n := zg7) Tryz.func122 (by kernel_rfl) fun x => zoq x
theorem z88 : Has Tryz.prog z5m :=
 z1m z04 z11 z12 z13 (own := []) (all_cons z1z all_nil) (n := zc7) Tryz.func123 (by kernel_rfl) fun x => zjp x
theorem zbv : Has Tryz.prog z7o :=
 z1m z04 z11 z12 z13 (own := []) (all_cons z1z all_nil) (n := zg6) Tryz.func124 (by kernel_rfl) fun x => zop x
theorem zrm : Has Tryz.prog zgp :=
 z1m z04 z11 z12 z13 (own := []) (all_cons z1z all_nil) (n := zhc) Tryz.func125 (by kernel_rfl) fun x => zqo x
theorem zdx : Has Tryz.prog zck :=
 z1m z04 z11 z12 z13 (own := []) (all_cons z3t (all_cons z2q (all_cons z1z (all_cons z9d (all_cons zbw (all_cons z88 (all_cons zbv (all_cons zrm all_nil)))))))) (n := zcy) Tryz.func58 (by kernel_rfl) fun x => zkq x
theorem zek : Has Tryz.prog z8q :=
 z1m z04 z11 z12 z13 (own := []) (all_cons z3t (all_cons z2q (all_cons z1z (all_cons z9d (all_cons zbw (all_cons z88 (all_cons zbv all_nil))))))) (n := ze2) Tryz.func63 (by kernel_rfl) fun x => zly x
theorem zsy : Has Tryz.prog zi0 :=
 z1m z04 z11 z12 z13 (own := []) (all_cons z1z all_nil) (n := zim) Tryz.func82 (by kernel_rfl) fun x => zry x.1 x.2
theorem zlq : Has Tryz.prog zci :=
 z1m z04 z11 z12 z13 (own := []) (all_cons zdx (all_cons zek (all_cons z3t (all_cons z2q (all_cons zsy all_nil))))) (n := zcw) Tryz.func19 (by kernel_rfl) fun x => zko x.1 x.2
theorem zkg : Has Tryz.prog zbh :=
 z1m z04 z11 z12 z13 (own := []) all_nil (n := zc3) Tryz.func144 (by kernel_rfl) fun x => zjl x.1 x.2
theorem zad : Has Tryz.prog z6i :=
 z1m z04 z11 z12 z13 (own := []) (all_cons zkg all_nil) (n := z9r) Tryz.func87 (by kernel_rfl) fun x => zgj x.1 x.2
theorem zhq : Has Tryz.prog z9n :=
 z1m z04 z11 z12 z13 (own := []) (all_cons z1z all_nil) (n := z9u) Tryz.func110 (by kernel_rfl) fun x => zgm x.1 x.2
theorem zje : Has Tryz.prog zb0 :=
 z1m z04 z11 z12 z13 (own := []) (all_cons zad (all_cons zhq all_nil)) (n := zb7) Tryz.func109 (by kernel_rfl) fun x => zij x.1 x.2
theorem zlr : Has Tryz.prog zcj :=
 z1m z04 z11 z12 z13 (own := []) (all_cons z2q (all_cons zje all_nil)) (n := zcx) Tryz.func51 (by kernel_rfl) fun x => zkp x
theorem zba : Has Tryz.prog z60 :=
 z1m z04 z11 z12 z13 (own := []) all_nil (n := z6b) Tryz.func180 (by kernel_rfl) fun x => zat x.1 x.2
theorem z9x : Has Tryz.prog z58 :=
 z1m z04 z11 z12 z13 (own := []) (all_cons zba all_nil) (n := z5b) Tryz.func139 (by kernel_rfl) fun x => z9g x.1 x.2
theorem zrl : Has Tryz.prog zgo :=
 z1m z04 z11 z12 z13 (own := []) (all_cons z1z (all_cons zbw (all_cons z88 (all_cons zbv all_nil)))) (n := zh9) Tryz.func140 (by kernel_rfl) fun x => zql x
theorem zlp : Has Tryz.prog ze6 :=
 z1m z04 z11 z12 z13 (own := []) (all_cons zlr (all_cons z3t (all_cons z2q (all_cons z9x (all_cons zrl all_nil))))) (n := zk5) Tryz.func83 (by kernel_rfl) fun x => zt5 x.1 x.2
theorem zq4 : Has Tryz.prog zfi :=
 z1m z04 z11 z12 z13 (own := []) all_nil (n := zg5) Tryz.func85 (by kernel_rfl) fun x => zoo x
theorem zln : Has Tryz.prog ze5 :=
 z1m z04 z11 z12 z13 (own := []) all_nil (n := zk4) Tryz.func183 (by kernel_rfl) fun x => zt4 x
theorem zae : Has Tryz.prog z4k :=
 z1m z04 z11 z12 z13 (own := []) (all_cons z1z (all_cons zln all_nil)) (n := z9t) Tryz.func181 (by kernel_rfl) fun x => zgl x.1 x.2.1 x.2.2
theorem zog : Has Tryz.prog zeh :=
 z1m z04 z11 z12 z13 (own := []) all_nil (n := zep) Tryz.func212 (by kernel_rfl) fun x => znc x.1 x.2
theorem zkh : Has Tryz.prog z5k :=
 z1m z04 z11 z12 z13 (own := []) (all_cons zog all_nil) (n := zc4) Tryz.func182 (by kernel_rfl) fun x => zjm x.1 x.2
theorem zq1 : Has Tryz.prog zfg :=
 z1m z04 z11 z12 z13 (own := []) all_nil (n := zg3) Tryz.func177 (by kernel_rfl) fun x => zom x.1 x.2
theorem z8y : Has Tryz.prog z6e :=
 z1m z04 z11 z12 z13 (own := []) (all_cons zq1 all_nil) (n := zcs) Tryz.func133 (by kernel_rfl) fun x => zkk x.1 x.2
theorem zdw : Has Tryz.prog z87 :=
 z1m z04 z11 z12 z13 (own := []) (all_cons zln all_nil) (n := zcv) Tryz.func143 (by kernel_rfl) fun x => zkn x.1 x.2.1 x.2.2
theorem zcq : Has Tryz.prog z5l :=
 z1m z04 z11 z12 z13 (own := []) (all_cons zdw all_nil) (n := zc5) Tryz.func86 (by kernel_rfl) fun x => zjn x.1 x.2
theorem znb : Has Tryz.prog zdm :=
 z1m z04 z11 z12 z13 (own := []) (all_cons z1z all_nil) (n := ze3) Tryz.func88 (by kernel_rfl) fun x => zlz x
theorem zlo : Has Tryz.prog zch :=
 z1m z04 z11 z12 z13 (own := []) (all_cons z8y (all_cons zdw all_nil)) (n := zcu) Tryz.func92 (by kernel_rfl) fun x => zkm x.1 x.2
include z0n z0o in
theorem zq5 : Has Tryz.prog zfj :=
 z1m z04 z11 z12 z13 (own := []) (all_cons z3t (all_cons z2q (all_cons zlp (all_cons zad (all_cons znb (all_cons z0o (all_cons z0n (all_cons zlo all_nil)))))))) (n := zg8) Tryz.func26 (by kernel_rfl) fun x => zor x.1 x.2.1 x.2.2
theorem yfk : Has Tryz.prog zyj :=
 z1m z04 z11 z12 z13 (own := []) all_nil (n := zzy) Tryz.func32 (by kernel_rfl) fun x => yca x.1 x.2
theorem z9y : Has Tryz.prog z8p :=
 yn1 z04 z11 z12 z13 (own := []) (all_cons z3t (all_cons z2q (all_cons z9d all_nil))) (n := ze1) Tryz.func37 (by kernel_rfl) fun x => zlx x
include z0d in
theorem zlm : Has Tryz.prog zcg :=
 z1m z04 z11 z12 z13 (own := []) (all_cons z0d all_nil) (n := zct) Tryz.func148 (by kernel_rfl) fun x => zkl x
include z0d in
theorem zfz : Has Tryz.prog zei :=
 z1m z04 z11 z12 z13 (own := []) (all_cons z9y (all_cons (zlm z0d) all_nil)) (n := zeq) Tryz.func100 (by kernel_rfl) fun x => znd x
theorem zho : Has Tryz.prog z9l :=
 z1m z04 z11 z12 z13 (own := []) all_nil (n := z9q) Tryz.func188 (by kernel_rfl) fun x => zgi x.1 x.2
theorem zf2 : Has Tryz.prog z7t :=
 z1m z04 z11 z12 z13 (own := []) (all_cons zho all_nil) (n := z7z) Tryz.func150 (by kernel_rfl) fun x => zec x.1 x.2
theorem zdv : Has Tryz.prog z86 :=
 z1m z04 z11 z12 z13 (own := []) all_nil (n := zcr) Tryz.func189 (by kernel_rfl) fun x => zkj x.1 x.2
theorem z7b : Has Tryz.prog z4w :=
 z1m z04 z11 z12 z13 (own := []) (all_cons zdv all_nil) (n := zag) Tryz.func152 (by kernel_rfl) fun x => zhs x.1 x.2
theorem zid : Has Tryz.prog za7 :=
 z1m z04 z11 z12 z13 (own := []) (all_cons z7b all_nil) (n := zai) Tryz.func151 (by kernel_rfl) fun x => zhu x.1 x.2
include z0d in
theorem zki : Has Tryz.prog zbi :=
 z1m z04 z11 z12 z13 (own := []) (all_cons z3t (all_cons z2q (all_cons (zfz z0d) (all_cons zf2 (all_cons zid (all_cons z7b all_nil)))))) (n := zc6) Tryz.func103 (by kernel_rfl) fun x => zjo x.1 x.2
theorem zeb : Has Tryz.prog z7j :=
 z1m z04 z11 z12 z13 (own := []) all_nil (n := z7m) Tryz.func190 (by kernel_rfl) fun x => ze0 x.1 x.2
theorem zcd : Has Tryz.prog z6l :=
 z1m z04 z11 z12 z13 (own := []) (all_cons zeb all_nil) (n := z6o) Tryz.func153 (by kernel_rfl) fun x => zbz x.1 x.2
theorem zsz : Has Tryz.prog zi1 :=
 z1m z04 z11 z12 z13 (own := []) (all_cons zdv all_nil) (n := zin) Tryz.func155 (by kernel_rfl) fun x => zrz x.1 x.2.1 x.2.2
theorem zgh : Has Tryz.prog z8o :=
 z1m z04 z11 z12 z13 (own := []) (all_cons z7b (all_cons zsz all_nil)) (n := z92) Tryz.func154 (by kernel_rfl) fun x => zg1 x.1 x.2.1 x.2.2
theorem zic : Has Tryz.prog za6 :=
 z1m z04 z11 z12 z13 (own := []) (all_cons zcd (all_cons zgh all_nil)) (n := zah) Tryz.func104 (by kernel_rfl) fun x => zht x.1 x.2
include z0d in
theorem zel : Has Tryz.prog z8r :=
 z1m z04 z11 z12 z13 (own := []) (all_cons (zki z0d) (all_cons zic all_nil)) (n := ze4) Tryz.func40 (by kernel_rfl) fun x => zm0 x.1 x.2
theorem zrn : Has Tryz.prog ziv :=
 z1m z04 z11 z12 z13 (own := []) all_nil (n := zx8) Tryz.func46 (by kernel_rfl) fun x => y7m x.1 x.2
include z5r z81 in
theorem zie : Has Tryz.prog z8e :=
 z1m z04 z11 z12 z13 (own := []) (all_cons z5r (all_cons z81 all_nil)) (n := zha) Tryz.func127 (by kernel_rfl) fun x => zqm x
theorem yfj : Has Tryz.prog zyi :=
 z1m z04 z11 z12 z13 (own := []) all_nil (n := zzx) Tryz.func75 (by kernel_rfl) fun x => yc9 
theorem ybs : Has Tryz.prog zum :=
 z1m z04 z11 z12 z13 (own := []) all_nil (n := zx6) Tryz.func76 (by kernel_rfl) fun x => y7j 
theorem ybt : Has Tryz.prog zun :=
 z1m z04 z11 z12 z13 (own := []) all_nil (n := zx7) Tryz.func77 (by kernel_rfl) fun x => y7k 
include z0d z0n z0o z0w z0m in
theorem ybr : Has Tryz.prog zul :=
 z1m z04 z11 z12 z13 (own := []) (all_cons zlq (all_cons z0w (all_cons (zq5 z0n z0o) (all_cons yfk (all_cons (zel z0d) (all_cons zrn (all_cons z0m (all_cons yfj (all_cons ybs (all_cons ybt all_nil)))))))))) (n := zx5) Tryz.func15 (by kernel_rfl) fun x => y7i 
theorem y75 : Has Tryz.prog zs9 :=
 z1m z04 z11 z12 z13 (own := []) all_nil (n := zso) Tryz.func20 (by kernel_rfl) fun x => y4x x.1 x.2.1 x.2.2
theorem y76 : Has Tryz.prog zsa :=
 z1m z04 z11 z12 z13 (own := []) all_nil (n := zsp) Tryz.func78 (by kernel_rfl) fun x => y4y x
end
end Go.Lift
