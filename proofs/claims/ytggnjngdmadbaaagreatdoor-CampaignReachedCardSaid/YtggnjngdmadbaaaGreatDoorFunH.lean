/-
  The contracts of all functions.
-/
import Derived.Test.YtggnjngdmadbaaaGreatDoorFunK
set_option linter.unusedSectionVars false
set_option linter.unusedVariables false
set_option linter.unusedSimpArgs false
namespace Go.Lift
open Go Go.Proofs
set_option maxRecDepth 100000
section
variable (z6z:Has Tryz.prog z7q) (z71:Has Tryz.prog z7r) (z08:Has Tryz.prog z3v) (z1r:Has Tryz.prog z4q) (z1s:Has Tryz.prog z4r) (z2k:Has Tryz.prog z3q) (z27:Has Tryz.prog z3w)
theorem z3a:Has Tryz.prog z2b:=
 z13 z02 z0x z0y z0z (own:=[]) all_nil (n:=zh5) Tryz.func80 (by kernel_rfl) fun x=>zpl x
theorem z24:Has Tryz.prog z1g:=
 z13 z02 z0x z0y z0z (own:=[]) all_nil (n:=zfx) Tryz.func81 (by kernel_rfl) fun x=>zod x.1 x.2
theorem z1f:Has Tryz.prog z15:=
 z13 z02 z0x z0y z0z (own:=[]) all_nil (n:=zfw) Tryz.func89 (by kernel_rfl) fun x=>zoc x.1 x.2.1 x.2.2
theorem z8h:Has Tryz.prog z7i:=
 z13 z02 z0x z0y z0z (own:=[]) (all_cons z1f all_nil) (n:=zg0) Tryz.func99 (by kernel_rfl) fun x=>zog x
theorem zat:Has Tryz.prog z6m:=
 z13 z02 z0x z0y z0z (own:=[]) (all_cons z1f all_nil) (n:=zew) Tryz.func122 (by kernel_rfl) fun x=>zmq x
theorem z7c:Has Tryz.prog z4w:=
 z13 z02 z0x z0y z0z (own:=[]) (all_cons z1f all_nil) (n:=zb4) Tryz.func123 (by kernel_rfl) fun x=>zi2 x
theorem zas:Has Tryz.prog z6l:=
 z13 z02 z0x z0y z0z (own:=[]) (all_cons z1f all_nil) (n:=zev) Tryz.func124 (by kernel_rfl) fun x=>zmp x
theorem zpd:Has Tryz.prog zff:=
 z13 z02 z0x z0y z0z (own:=[]) (all_cons z1f all_nil) (n:=zg1) Tryz.func125 (by kernel_rfl) fun x=>zoh x
theorem zcx:Has Tryz.prog zbj:=
 z13 z02 z0x z0y z0z (own:=[]) (all_cons z3a (all_cons z24 (all_cons z1f (all_cons z8h (all_cons zat (all_cons z7c (all_cons zas (all_cons zpd all_nil)))))))) (n:=zbw) Tryz.func58 (by kernel_rfl) fun x=>ziv x
theorem zlc:Has Tryz.prog zch:=
 z13 z02 z0x z0y z0z (own:=[]) (all_cons z3a (all_cons z24 (all_cons z1f (all_cons z8h (all_cons zat (all_cons z7c (all_cons zas all_nil))))))) (n:=zd4) Tryz.func63 (by kernel_rfl) fun x=>zjv x
theorem zqc:Has Tryz.prog zgp:=
 z13 z02 z0x z0y z0z (own:=[]) (all_cons z1f all_nil) (n:=zh3) Tryz.func82 (by kernel_rfl) fun x=>zpj x.1 x.2
theorem zjm:Has Tryz.prog zbh:=
 z13 z02 z0x z0y z0z (own:=[]) (all_cons zcx (all_cons zlc (all_cons z3a (all_cons z24 (all_cons zqc all_nil))))) (n:=zbu) Tryz.func19 (by kernel_rfl) fun x=>zit x.1 x.2
theorem zik:Has Tryz.prog zag:=
 z13 z02 z0x z0y z0z (own:=[]) all_nil (n:=zb0) Tryz.func144 (by kernel_rfl) fun x=>zhy x.1 x.2
theorem z9b:Has Tryz.prog z5i:=
 z13 z02 z0x z0y z0z (own:=[]) (all_cons zik all_nil) (n:=z8u) Tryz.func87 (by kernel_rfl) fun x=>zf9 x.1 x.2
theorem zge:Has Tryz.prog z8q:=
 z13 z02 z0x z0y z0z (own:=[]) (all_cons z1f all_nil) (n:=z8x) Tryz.func110 (by kernel_rfl) fun x=>zfc x.1 x.2
theorem zhp:Has Tryz.prog za0:=
 z13 z02 z0x z0y z0z (own:=[]) (all_cons z9b (all_cons zge all_nil)) (n:=za7) Tryz.func109 (by kernel_rfl) fun x=>zh1 x.1 x.2
theorem zjn:Has Tryz.prog zbi:=
 z13 z02 z0x z0y z0z (own:=[]) (all_cons z24 (all_cons zhp all_nil)) (n:=zbv) Tryz.func51 (by kernel_rfl) fun x=>ziu x
theorem za9:Has Tryz.prog z5a:=
 z13 z02 z0x z0y z0z (own:=[]) all_nil (n:=z5g) Tryz.func180 (by kernel_rfl) fun x=>z9t x.1 x.2
theorem z90:Has Tryz.prog z4f:=
 z13 z02 z0x z0y z0z (own:=[]) (all_cons za9 all_nil) (n:=z4h) Tryz.func139 (by kernel_rfl) fun x=>z8k x.1 x.2
theorem zpb:Has Tryz.prog zfe:=
 z13 z02 z0x z0y z0z (own:=[]) (all_cons z1f (all_cons zat (all_cons z7c (all_cons zas all_nil)))) (n:=zfy) Tryz.func140 (by kernel_rfl) fun x=>zoe x
theorem zjl:Has Tryz.prog zd9:=
 z13 z02 z0x z0y z0z (own:=[]) (all_cons zjn (all_cons z3a (all_cons z24 (all_cons z90 (all_cons zpb all_nil))))) (n:=zic) Tryz.func83 (by kernel_rfl) fun x=>zqi x.1 x.2
theorem zo1:Has Tryz.prog zeb:=
 z13 z02 z0x z0y z0z (own:=[]) all_nil (n:=zeu) Tryz.func85 (by kernel_rfl) fun x=>zmo x
theorem zjj:Has Tryz.prog zd8:=
 z13 z02 z0x z0y z0z (own:=[]) all_nil (n:=zib) Tryz.func183 (by kernel_rfl) fun x=>zqh x
theorem zgd:Has Tryz.prog z3t:=
 z13 z02 z0x z0y z0z (own:=[]) (all_cons z1f (all_cons zjj all_nil)) (n:=z8w) Tryz.func181 (by kernel_rfl) fun x=>zfb x.1 x.2.1 x.2.2
theorem zmf:Has Tryz.prog zdj:=
 z13 z02 z0x z0y z0z (own:=[]) all_nil (n:=zdp) Tryz.func212 (by kernel_rfl) fun x=>zlf x.1 x.2
theorem zil:Has Tryz.prog z4u:=
 z13 z02 z0x z0y z0z (own:=[]) (all_cons zmf all_nil) (n:=zb1) Tryz.func182 (by kernel_rfl) fun x=>zhz x.1 x.2
theorem znz:Has Tryz.prog zea:=
 z13 z02 z0x z0y z0z (own:=[]) all_nil (n:=zet) Tryz.func177 (by kernel_rfl) fun x=>zmn x.1 x.2
theorem zcv:Has Tryz.prog z78:=
 z13 z02 z0x z0y z0z (own:=[]) (all_cons znz all_nil) (n:=zbq) Tryz.func133 (by kernel_rfl) fun x=>zio x.1 x.2
theorem zcw:Has Tryz.prog z79:=
 z13 z02 z0x z0y z0z (own:=[]) (all_cons zjj all_nil) (n:=zbt) Tryz.func143 (by kernel_rfl) fun x=>zis x.1 x.2.1 x.2.2
theorem zim:Has Tryz.prog zah:=
 z13 z02 z0x z0y z0z (own:=[]) (all_cons zcw all_nil) (n:=zb2) Tryz.func86 (by kernel_rfl) fun x=>zi0 x.1 x.2
theorem zle:Has Tryz.prog zcj:=
 z13 z02 z0x z0y z0z (own:=[]) (all_cons z1f all_nil) (n:=zd6) Tryz.func88 (by kernel_rfl) fun x=>zjx x
theorem zjk:Has Tryz.prog zbf:=
 z13 z02 z0x z0y z0z (own:=[]) (all_cons zcv (all_cons zcw all_nil)) (n:=zbs) Tryz.func92 (by kernel_rfl) fun x=>zir x.1 x.2
include z1r z1s in
theorem zo3:Has Tryz.prog zed:=
 z13 z02 z0x z0y z0z (own:=[]) (all_cons z3a (all_cons z24 (all_cons zjl (all_cons z9b (all_cons zle (all_cons z1s (all_cons z1r (all_cons zjk all_nil)))))))) (n:=zey) Tryz.func26 (by kernel_rfl) fun x=>zms x.1 x.2.1 x.2.2
theorem y8v:Has Tryz.prog zuq:=
 z13 z02 z0x z0y z0z (own:=[]) all_nil (n:=zvz) Tryz.func32 (by kernel_rfl) fun x=>y6d x.1 x.2
theorem zdm:Has Tryz.prog zcg:=
 ye8 z02 z0x z0y z0z (own:=[]) (all_cons z3a (all_cons z24 (all_cons z8h all_nil))) (n:=zd3) Tryz.func37 (by kernel_rfl) fun x=>zju x
include z08 in
theorem zji:Has Tryz.prog zbe:=
 z13 z02 z0x z0y z0z (own:=[]) (all_cons z08 all_nil) (n:=zbr) Tryz.func148 (by kernel_rfl) fun x=>ziq x
include z08 in
theorem zeq:Has Tryz.prog zdl:=
 z13 z02 z0x z0y z0z (own:=[]) (all_cons zdm (all_cons (zji z08) all_nil)) (n:=zdr) Tryz.func100 (by kernel_rfl) fun x=>zlh x
theorem zgb:Has Tryz.prog z8o:=
 z13 z02 z0x z0y z0z (own:=[]) all_nil (n:=z8t) Tryz.func188 (by kernel_rfl) fun x=>zf8 x.1 x.2
theorem ze3:Has Tryz.prog z6s:=
 z13 z02 z0x z0y z0z (own:=[]) (all_cons zgb all_nil) (n:=z6y) Tryz.func150 (by kernel_rfl) fun x=>zdd x.1 x.2
theorem zcu:Has Tryz.prog z77:=
 z13 z02 z0x z0y z0z (own:=[]) all_nil (n:=zbp) Tryz.func189 (by kernel_rfl) fun x=>zin x.1 x.2
theorem z68:Has Tryz.prog z49:=
 z13 z02 z0x z0y z0z (own:=[]) (all_cons zcu all_nil) (n:=z9d) Tryz.func152 (by kernel_rfl) fun x=>zgg x.1 x.2
theorem zgy:Has Tryz.prog z98:=
 z13 z02 z0x z0y z0z (own:=[]) (all_cons z68 all_nil) (n:=z9f) Tryz.func151 (by kernel_rfl) fun x=>zgi x.1 x.2
include z08 in
theorem z7b:Has Tryz.prog z4v:=
 z13 z02 z0x z0y z0z (own:=[]) (all_cons z3a (all_cons z24 (all_cons (zeq z08) (all_cons ze3 (all_cons zgy (all_cons z68 all_nil)))))) (n:=zb3) Tryz.func103 (by kernel_rfl) fun x=>zi1 x.1 x.2
theorem zdc:Has Tryz.prog z6h:=
 z13 z02 z0x z0y z0z (own:=[]) all_nil (n:=z6k) Tryz.func190 (by kernel_rfl) fun x=>zd0 x.1 x.2
theorem zbb:Has Tryz.prog z5o:=
 z13 z02 z0x z0y z0z (own:=[]) (all_cons zdc all_nil) (n:=z5u) Tryz.func153 (by kernel_rfl) fun x=>zax x.1 x.2
theorem zqd:Has Tryz.prog zgq:=
 z13 z02 z0x z0y z0z (own:=[]) (all_cons zcu all_nil) (n:=zh4) Tryz.func155 (by kernel_rfl) fun x=>zpk x.1 x.2.1 x.2.2
theorem zf7:Has Tryz.prog z7s:=
 z13 z02 z0x z0y z0z (own:=[]) (all_cons z68 (all_cons zqd all_nil)) (n:=z86) Tryz.func154 (by kernel_rfl) fun x=>zes x.1 x.2.1 x.2.2
theorem za4:Has Tryz.prog z97:=
 z13 z02 z0x z0y z0z (own:=[]) (all_cons zbb (all_cons zf7 all_nil)) (n:=z9e) Tryz.func104 (by kernel_rfl) fun x=>zgh x.1 x.2
include z08 in
theorem zdn:Has Tryz.prog z7u:=
 z13 z02 z0x z0y z0z (own:=[]) (all_cons (z7b z08) (all_cons za4 all_nil)) (n:=zd7) Tryz.func40 (by kernel_rfl) fun x=>zjy x.1 x.2
theorem y63:Has Tryz.prog zre:=
 z13 z02 z0x z0y z0z (own:=[]) all_nil (n:=ztr) Tryz.func46 (by kernel_rfl) fun x=>y2h x.1 x.2
include z6z z71 in
theorem zpc:Has Tryz.prog zai:=
 z13 z02 z0x z0y z0z (own:=[]) (all_cons z6z (all_cons z71 all_nil)) (n:=zfz) Tryz.func127 (by kernel_rfl) fun x=>zof x
theorem y8u:Has Tryz.prog zup:=
 z13 z02 z0x z0y z0z (own:=[]) all_nil (n:=zvy) Tryz.func75 (by kernel_rfl) fun x=>y6c
theorem y61:Has Tryz.prog zrc:=
 z13 z02 z0x z0y z0z (own:=[]) all_nil (n:=ztp) Tryz.func76 (by kernel_rfl) fun x=>y2f
theorem y62:Has Tryz.prog zrd:=
 z13 z02 z0x z0y z0z (own:=[]) all_nil (n:=ztq) Tryz.func77 (by kernel_rfl) fun x=>y2g
include z08 z1r z1s z2k z27 in
theorem y60:Has Tryz.prog zrb:=
 z13 z02 z0x z0y z0z (own:=[]) (all_cons zjm (all_cons z2k (all_cons (zo3 z1r z1s) (all_cons y8v (all_cons (zdn z08) (all_cons y63 (all_cons z27 (all_cons y8u (all_cons y61 (all_cons y62 all_nil)))))))))) (n:=zto) Tryz.func15 (by kernel_rfl) fun x=>y2e
theorem y20:Has Tryz.prog zps:=
 z13 z02 z0x z0y z0z (own:=[]) all_nil (n:=zq7) Tryz.func78 (by kernel_rfl) fun x=>zzy x
end
end Go.Lift
