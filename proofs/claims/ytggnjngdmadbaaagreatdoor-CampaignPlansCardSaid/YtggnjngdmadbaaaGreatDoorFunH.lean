/-
  The contracts of all functions.
-/
import Derived.Test.YtggnjngdmadbaaaGreatDoorFunK
set_option linter.all false
namespace Go.Lift
open Go Go.Proofs
set_option maxRecDepth 100000
section
variable (ul:Has Tryz.prog Rv) (uk:Has Tryz.prog Ru) (Kb:Has Tryz.prog nM) (C6:Has Tryz.prog uE) (C5:Has Tryz.prog uC) (cb:Has Tryz.prog nI) (cj:Has Tryz.prog uN)
theorem C4:Has Tryz.prog Cl:=
 we vi vU vT vS (own:=[]) all_nil (n:=zhb) Tryz.func80 (by kernel_rfl) fun x=>zq5 x
theorem z25:Has Tryz.prog Ep:=
 we vi vU vT vS (own:=[]) all_nil (n:=zg6) Tryz.func81 (by kernel_rfl) fun x=>zp1 x.1 x.2
theorem FA:Has Tryz.prog GX:=
 we vi vU vT vS (own:=[]) all_nil (n:=zg5) Tryz.func89 (by kernel_rfl) fun x=>zp0 x.1 x.2.1 x.2.2
theorem uw:Has Tryz.prog uy:=
 we vi vU vT vS (own:=[]) (all_cons FA all_nil) (n:=zg9) Tryz.func99 (by kernel_rfl) fun x=>zp4 x
theorem RH:Has Tryz.prog uz:=
 we vi vU vT vS (own:=[]) (all_cons FA all_nil) (n:=zf5) Tryz.func122 (by kernel_rfl) fun x=>znc x
theorem R5:Has Tryz.prog uO:=
 we vi vU vT vS (own:=[]) (all_cons FA all_nil) (n:=zb6) Tryz.func123 (by kernel_rfl) fun x=>zi8 x
theorem RI:Has Tryz.prog uB:=
 we vi vU vT vS (own:=[]) (all_cons FA all_nil) (n:=zf4) Tryz.func124 (by kernel_rfl) fun x=>znb x
theorem zpx:Has Tryz.prog zfp:=
 we vi vU vT vS (own:=[]) (all_cons FA all_nil) (n:=zga) Tryz.func125 (by kernel_rfl) fun x=>zp5 x
theorem zcz:Has Tryz.prog zbj:=
 we vi vU vT vS (own:=[]) (all_cons C4 (all_cons z25 (all_cons FA (all_cons uw (all_cons RH (all_cons R5 (all_cons RI (all_cons zpx all_nil)))))))) (n:=zbw) Tryz.func58 (by kernel_rfl) fun x=>zj2 x
theorem zlq:Has Tryz.prog zcj:=
 we vi vU vT vS (own:=[]) (all_cons C4 (all_cons z25 (all_cons FA (all_cons uw (all_cons RH (all_cons R5 (all_cons RI all_nil))))))) (n:=zd6) Tryz.func63 (by kernel_rfl) fun x=>zk5 x
theorem zqy:Has Tryz.prog zgx:=
 we vi vU vT vS (own:=[]) (all_cons FA all_nil) (n:=zh9) Tryz.func82 (by kernel_rfl) fun x=>zq3 x.1 x.2
theorem zjx:Has Tryz.prog zbh:=
 we vi vU vT vS (own:=[]) (all_cons zcz (all_cons zlq (all_cons C4 (all_cons z25 (all_cons zqy all_nil))))) (n:=zbu) Tryz.func19 (by kernel_rfl) fun x=>zj0 x.1 x.2
theorem zis:Has Tryz.prog zak:=
 we vi vU vT vS (own:=[]) all_nil (n:=zb2) Tryz.func144 (by kernel_rfl) fun x=>zi4 x.1 x.2
theorem z9e:Has Tryz.prog Pk:=
 we vi vU vT vS (own:=[]) (all_cons zis all_nil) (n:=z8v) Tryz.func87 (by kernel_rfl) fun x=>zfj x.1 x.2
theorem zgm:Has Tryz.prog z8q:=
 we vi vU vT vS (own:=[]) (all_cons FA all_nil) (n:=z8y) Tryz.func110 (by kernel_rfl) fun x=>zfm x.1 x.2
theorem zhw:Has Tryz.prog za1:=
 we vi vU vT vS (own:=[]) (all_cons z9e (all_cons zgm all_nil)) (n:=zaa) Tryz.func109 (by kernel_rfl) fun x=>zh7 x.1 x.2
theorem zjy:Has Tryz.prog zbi:=
 we vi vU vT vS (own:=[]) (all_cons z25 (all_cons zhw all_nil)) (n:=zbv) Tryz.func51 (by kernel_rfl) fun x=>zj1 x
theorem zac:Has Tryz.prog z55:=
 we vi vU vT vS (own:=[]) all_nil (n:=z5b) Tryz.func180 (by kernel_rfl) fun x=>z9u x.1 x.2
theorem z91:Has Tryz.prog z4e:=
 we vi vU vT vS (own:=[]) (all_cons zac all_nil) (n:=z4g) Tryz.func139 (by kernel_rfl) fun x=>z8k x.1 x.2
theorem zpv:Has Tryz.prog zfo:=
 we vi vU vT vS (own:=[]) (all_cons FA (all_cons RH (all_cons R5 (all_cons RI all_nil)))) (n:=zg7) Tryz.func140 (by kernel_rfl) fun x=>zp2 x
theorem zjw:Has Tryz.prog Rz:=
 we vi vU vT vS (own:=[]) (all_cons zjy (all_cons C4 (all_cons z25 (all_cons z91 (all_cons zpv all_nil))))) (n:=zii) Tryz.func83 (by kernel_rfl) fun x=>zr4 x.1 x.2
theorem zop:Has Tryz.prog zel:=
 we vi vU vT vS (own:=[]) all_nil (n:=zf3) Tryz.func85 (by kernel_rfl) fun x=>zna x
theorem zju:Has Tryz.prog RA:=
 we vi vU vT vS (own:=[]) all_nil (n:=zih) Tryz.func183 (by kernel_rfl) fun x=>zr3 x
theorem zgl:Has Tryz.prog uT:=
 we vi vU vT vS (own:=[]) (all_cons FA (all_cons zju all_nil)) (n:=z8x) Tryz.func181 (by kernel_rfl) fun x=>zfl x.1 x.2.1 x.2.2
theorem zmz:Has Tryz.prog zdl:=
 we vi vU vT vS (own:=[]) all_nil (n:=zdq) Tryz.func212 (by kernel_rfl) fun x=>zlu x.1 x.2
theorem zit:Has Tryz.prog uQ:=
 we vi vU vT vS (own:=[]) (all_cons zmz all_nil) (n:=zb3) Tryz.func182 (by kernel_rfl) fun x=>zi5 x.1 x.2
theorem zon:Has Tryz.prog zei:=
 we vi vU vT vS (own:=[]) all_nil (n:=zf1) Tryz.func177 (by kernel_rfl) fun x=>zn8 x.1 x.2
theorem zcx:Has Tryz.prog R8:=
 we vi vU vT vS (own:=[]) (all_cons zon all_nil) (n:=zbq) Tryz.func133 (by kernel_rfl) fun x=>ziw x.1 x.2
theorem zcy:Has Tryz.prog R7:=
 we vi vU vT vS (own:=[]) (all_cons zju all_nil) (n:=zbt) Tryz.func143 (by kernel_rfl) fun x=>ziz x.1 x.2.1 x.2.2
theorem ziu:Has Tryz.prog zal:=
 we vi vU vT vS (own:=[]) (all_cons zcy all_nil) (n:=zb4) Tryz.func86 (by kernel_rfl) fun x=>zi6 x.1 x.2
theorem zls:Has Tryz.prog zcl:=
 we vi vU vT vS (own:=[]) (all_cons FA all_nil) (n:=zd8) Tryz.func88 (by kernel_rfl) fun x=>zk7 x
theorem zjv:Has Tryz.prog zbg:=
 we vi vU vT vS (own:=[]) (all_cons zcx (all_cons zcy all_nil)) (n:=zbs) Tryz.func92 (by kernel_rfl) fun x=>ziy x.1 x.2
include C6 C5 in
theorem zor:Has Tryz.prog zen:=
 we vi vU vT vS (own:=[]) (all_cons C4 (all_cons z25 (all_cons zjw (all_cons z9e (all_cons zls (all_cons C5 (all_cons C6 (all_cons zjv all_nil)))))))) (n:=zf7) Tryz.func26 (by kernel_rfl) fun x=>zne x.1 x.2.1 x.2.2
theorem y9x:Has Tryz.prog Ii:=
 we vi vU vT vS (own:=[]) all_nil (n:=LB) Tryz.func32 (by kernel_rfl) fun x=>y7a x.1 x.2
theorem zlp:Has Tryz.prog zci:=
 yfe vi vU vT vS (own:=[]) (all_cons C4 (all_cons z25 (all_cons uw all_nil))) (n:=zd5) Tryz.func37 (by kernel_rfl) fun x=>zk4 x
include Kb in
theorem zjt:Has Tryz.prog zbf:=
 we vi vU vT vS (own:=[]) (all_cons Kb all_nil) (n:=zbr) Tryz.func148 (by kernel_rfl) fun x=>zix x
include Kb in
theorem zn1:Has Tryz.prog zdn:=
 we vi vU vT vS (own:=[]) (all_cons zlp (all_cons (zjt Kb) all_nil)) (n:=zds) Tryz.func100 (by kernel_rfl) fun x=>zlw x
theorem zgj:Has Tryz.prog z8o:=
 we vi vU vT vS (own:=[]) all_nil (n:=z8u) Tryz.func188 (by kernel_rfl) fun x=>zfi x.1 x.2
theorem ze3:Has Tryz.prog z6w:=
 we vi vU vT vS (own:=[]) (all_cons zgj all_nil) (n:=z78) Tryz.func150 (by kernel_rfl) fun x=>zdf x.1 x.2
theorem zcw:Has Tryz.prog R9:=
 we vi vU vT vS (own:=[]) all_nil (n:=zbp) Tryz.func189 (by kernel_rfl) fun x=>ziv x.1 x.2
theorem Pd:Has Tryz.prog uS:=
 we vi vU vT vS (own:=[]) (all_cons zcw all_nil) (n:=z9g) Tryz.func152 (by kernel_rfl) fun x=>zgo x.1 x.2
theorem zh4:Has Tryz.prog z99:=
 we vi vU vT vS (own:=[]) (all_cons Pd all_nil) (n:=z9i) Tryz.func151 (by kernel_rfl) fun x=>zgq x.1 x.2
include Kb in
theorem R6:Has Tryz.prog uP:=
 we vi vU vT vS (own:=[]) (all_cons C4 (all_cons z25 (all_cons (zn1 Kb) (all_cons ze3 (all_cons zh4 (all_cons Pd all_nil)))))) (n:=zb5) Tryz.func103 (by kernel_rfl) fun x=>zi7 x.1 x.2
theorem zde:Has Tryz.prog z6j:=
 we vi vU vT vS (own:=[]) all_nil (n:=z6n) Tryz.func190 (by kernel_rfl) fun x=>zd2 x.1 x.2
theorem zbd:Has Tryz.prog z5n:=
 we vi vU vT vS (own:=[]) (all_cons zde all_nil) (n:=z5v) Tryz.func153 (by kernel_rfl) fun x=>zb0 x.1 x.2
theorem zqz:Has Tryz.prog zgy:=
 we vi vU vT vS (own:=[]) (all_cons zcw all_nil) (n:=zha) Tryz.func155 (by kernel_rfl) fun x=>zq4 x.1 x.2.1 x.2.2
theorem zfh:Has Tryz.prog z7s:=
 we vi vU vT vS (own:=[]) (all_cons Pd (all_cons zqz all_nil)) (n:=z86) Tryz.func154 (by kernel_rfl) fun x=>zf0 x.1 x.2.1 x.2.2
theorem za7:Has Tryz.prog z98:=
 we vi vU vT vS (own:=[]) (all_cons zbd (all_cons zfh all_nil)) (n:=z9h) Tryz.func104 (by kernel_rfl) fun x=>zgp x.1 x.2
include Kb in
theorem zlt:Has Tryz.prog zcm:=
 we vi vU vT vS (own:=[]) (all_cons (R6 Kb) (all_cons za7 all_nil)) (n:=zd9) Tryz.func40 (by kernel_rfl) fun x=>zk8 x.1 x.2
theorem LV:Has Tryz.prog U8:=
 we vi vU vT vS (own:=[]) all_nil (n:=Is) Tryz.func46 (by kernel_rfl) fun x=>y3e x.1 x.2
include ul uk in
theorem zpw:Has Tryz.prog RJ:=
 we vi vU vT vS (own:=[]) (all_cons ul (all_cons uk all_nil)) (n:=zg8) Tryz.func127 (by kernel_rfl) fun x=>zp3 x
theorem y9w:Has Tryz.prog Ij:=
 we vi vU vT vS (own:=[]) all_nil (n:=LC) Tryz.func75 (by kernel_rfl) fun x=>y79
theorem y6y:Has Tryz.prog IZ:=
 we vi vU vT vS (own:=[]) all_nil (n:=Iv) Tryz.func76 (by kernel_rfl) fun x=>y3c
theorem y6z:Has Tryz.prog IY:=
 we vi vU vT vS (own:=[]) all_nil (n:=Iu) Tryz.func77 (by kernel_rfl) fun x=>y3d
include Kb C6 C5 cb cj in
theorem y6x:Has Tryz.prog I0:=
 we vi vU vT vS (own:=[]) (all_cons zjx (all_cons cb (all_cons (zor C6 C5) (all_cons y9x (all_cons (zlt Kb) (all_cons LV (all_cons cj (all_cons y9w (all_cons y6y (all_cons y6z all_nil)))))))))) (n:=Iw) Tryz.func15 (by kernel_rfl) fun x=>y3b
theorem y2w:Has Tryz.prog zqb:=
 we vi vU vT vS (own:=[]) all_nil (n:=zqq) Tryz.func20 (by kernel_rfl) fun x=>y0s x.1 x.2.1 x.2.2
theorem y2x:Has Tryz.prog zqc:=
 we vi vU vT vS (own:=[]) all_nil (n:=zqr) Tryz.func78 (by kernel_rfl) fun x=>y0t x
end
end Go.Lift
