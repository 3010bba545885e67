/-
  The walk of the iterator over all campaigns, and its contract.
-/
import Derived.Test.YtggnjngdmadbaaaGreatDoorManB
import Derived.Test.YtggnjngdmadbaaaGreatDoorFunH
import Derived.Test.YtggnjngdmadbaaaGreatDoorPlainA
set_option maxHeartbeats 2000000
set_option linter.all false
namespace Go.Lift
open Go Go.Proofs Go.RowKit
noncomputable def wO:Code:=Tryz.f142.body.getD .skip
noncomputable def Ca:Code:=cF (cF (cS (cF (cS (cS (cS wO))))))
noncomputable def K2:Code:=cF (cF (cS (cS Ca)))
def opsOf:Code→Array Oper
 |.region _ jA _=>jA
 |_ => #[]
abbrev TI:Ty :=.slice (.int .i64)
noncomputable abbrev Sh:Sig:=⟨135,[TI],[TI],fun x=>app [] x⟩
noncomputable abbrev Nl(t:Bool):Sig:=⟨133,[TI,.int .i64],[.bool],fun _=>some t⟩
noncomputable abbrev Pt:QW:=PG cE nV nS [] [135] [R8,Sh]
noncomputable abbrev Sm(t:Bool):QW:=PG cE nV nS [] [135] [Nl t,Sh]
abbrev oK(r:Qk)(b i:List Int)(v:Value):Qi:=[(0,.data Xf r []),(1,.data TI b []),(2,.data TI i []),(3,.raw v)]
abbrev XZ(r:Qk)(b i:List Int)(v:Value):Qi:=[(1,.data TI b []),(2,.data TI i []),(3,.raw v),(4,.data (.ptr Xf) r [])]
abbrev V5(r:Qk)(b i:List Int)(v:Value)(p:Int):Qi:=[(1,.data TI b []),(2,.data TI i []),(3,.raw v),(4,.data (.ptr Xf) r []),(31,.data TI i []),(32,.data (.int .i64) (i.length:Int) []),(33,.data (.int .i64) p [])]
section
variable (r:Qk) (b i:List Int) (v:Value) (p x:Int) (t:Bool)
theorem fK:vY (cx [] []) (cF wO) .nil (wR (oK r b i v)) (XX [4] [1,2,3,4])=some (.normal,XZ r b i v):=by kernel_rfl
theorem fJ:vY (cx [] [uT,uQ]) (cF (cS wO)) (.seq .nil (.cond (.seq .nil (.seq (.frz 9 .nil) .nil)) .nil)) (wR (XZ r b i v)) (XX [] [1,2,3,4,8])=
 bif decide ((b.length:Int)>0)then(iN r b (jv ((b.length:Int)-1))).bind fun o=>(iM ((List.range 5).map o) true).bind fun t=>bif t then some (.ret,XZ r b i v++[(8,.data .bool true [])])else some (.normal,XZ r b i v)
 else some (.normal,XZ r b i v):=by kernel_rfl
theorem fI:vY (cx [] []) (cF (cF (cS (cS wO)))) .nil (wR (XZ r b i v)) (XX [] [1,2,3,4,27])=some (.normal,XZ r b i v++[(27,.data .bool ((b.length:Int)==(i.length:Int)) [])]):=by kernel_rfl
theorem fH:vY (cx [] []) (cF (cF (cS (cS (cS wO))))) .nil (wR (XZ r b i v)) (XX [] [1,2,3,4,31,32,33])=some (.normal,V5 r b i v 0):=by kernel_rfl
theorem fG:vY (cx [] []) (cS (cS (cS (cS wO)))) .nil (wR (V5 r b i v p)) (XX [] [8])=some (.ret,[(8,.data .bool true [])]):=by kernel_rfl
theorem fF:Q6 (cx [] []) (opsOf (cF (cF (cS (cF (cS (cS wO))))))).toList (List.range' 0 2) (wR (XZ r b i v)) [] (De [] [28,29])=some [(28,.raw v),(29,.data TI b [])]:=by kernel_rfl
theorem fE:Q6 (cx [] []) (opsOf (cF (cF (cS (cF (cS (cS wO))))))).toList (List.range' 3 1) (wR [(30,.data .bool t [])]) [] (De [] [8])=some [(8,.data .bool t [])]:=by kernel_rfl
theorem ye8:vY (cx [] []) (cF Ca) .nil (wR (V5 r b i v p)) (XX [] [1,2,3,4,31,32,33,34])=some (.normal,V5 r b i v p++[(34,.data .bool (decide (p<(i.length:Int))) [])]):=by kernel_rfl
theorem fD:vY (cx [] []) (cF K2) .nil (wR (V5 r b i v p)) (XX [] [1,2,3,4,31,32,33,11])=chk (decide (0≤p)&&decide (p<(i.length:Int))) (some (.normal,V5 r b i v p++[(11,.data (.int .i64) (jt 0 i p) [])])):=by kernel_rfl
theorem yep:Q6 Pt (opsOf (cF (cS K2))).toList (List.range 16) (wR (V5 r b i v p++[(11,.data (.int .i64) x [])])) [] (XY (opsOf (cF (cS K2))).toList [] [1,2,3,4,31,32,33,52])=
 (jS b x).bind fun t=>Q6 (Sm t) (opsOf (cF (cS K2))).toList (List.range 16) (wR (V5 r b i v p++[(11,.data (.int .i64) x [])])) [] (XY (opsOf (cF (cS K2))).toList [] [1,2,3,4,31,32,33,52]):=by kernel_rfl
theorem yej:Q6 (Sm true) (opsOf (cF (cS K2))).toList (List.range 16) (wR (V5 r b i v p++[(11,.data (.int .i64) x [])])) [] (XY (opsOf (cF (cS K2))).toList [] [1,2,3,4,31,32,33,52])=
 some (V5 r b i v p++[(52,.data .bool false [])]):=by kernel_rfl
theorem yeh:Q6 Pt (opsOf (cF (cS K2))).toList (List.range 13) (wR (V5 r b i v p++[(11,.data (.int .i64) x [])])) [] (XY (opsOf (cF (cS K2))).toList [] [1,2,3,4,31,32,33,41,42,47,48,49])=
 (jS b x).bind fun t=>Q6 (Sm t) (opsOf (cF (cS K2))).toList (List.range 13) (wR (V5 r b i v p++[(11,.data (.int .i64) x [])])) [] (XY (opsOf (cF (cS K2))).toList [] [1,2,3,4,31,32,33,41,42,47,48,49]):=by kernel_rfl
theorem yfq:Q6 (Sm false) (opsOf (cF (cS K2))).toList (List.range 13) (wR (V5 r b i v p++[(11,.data (.int .i64) x [])])) [] (XY (opsOf (cF (cS K2))).toList [] [1,2,3,4,31,32,33,41,42,47,48,49])=
 (app [] b).bind fun c=>(app c [x]).bind fun d=>some (V5 r b i v p++[(41,.data .bool true []),(42,.data Xf r []),(47,.data TI d []),(48,.data TI i []),(49,.raw v)]):=by kernel_rfl
theorem yfl:Q6 (cx [] []) (opsOf (cF (cS K2))).toList (List.range' 14 2) (wR (V5 r b i v p++[(41,.data .bool true []),(50,.data .bool t [])])) [(5,.quiet),(10,.app none)] (XY (opsOf (cF (cS K2))).toList [] [1,2,3,4,31,32,33,52])=
 some (V5 r b i v p++[(52,.data .bool (!t) [])]):=by kernel_rfl
theorem yft:vY (cx [] []) (cF (cS (cS K2))) .nil (wR (V5 r b i v p)) (XX [] [8])=some (.ret,[(8,.data .bool false [])]):=by kernel_rfl
theorem yfs:vY (cx [] []) (cS (cS (cS Ca))) .nil (wR (V5 r b i v p)) (XX [] [1,2,3,4,31,32,33])=some (.normal,V5 r b i v (jv (p+1))):=by kernel_rfl
end
end Go.Lift
namespace Go.Lift
open Go Go.Proofs Go.RowKit
theorem yad(r:Qk)(b i:List Int)(v:Value):vY (cx [] [uT,uQ]) (cF (cS wO)) (.seq .nil (.cond (.seq .nil (.seq (.frz 9 .nil) .nil)) .nil)) (wR (XZ r b i v)) (XX [] [1,2,3,4,8])=
  (mo r b).bind fun t=>bif t then some (.ret,XZ r b i v++[(8,.data .bool true [])])else some (.normal,XZ r b i v):=by
 rw[fJ];unfold mo;cases decide ((b.length:Int)>0)with
 |false=>rfl
 |true=>
  simp only[qv,Option.bind_assoc]
noncomputable abbrev EK:Code:=cF (cF (cS (cF (cS (cS wO)))))
noncomputable abbrev mh:Code:=cF (cS K2)
noncomputable def lM:Oper:=(opsOf EK).getD 2 default
noncomputable def mb:Oper:=(opsOf mh).getD 13 default
def KE(o:Oper):Call:=match o.op with
 |.call c=>c
 |_=>default
theorem eQ:Has Tryz.prog Sh:=y0r (e :=.int .i64) Tryz.laysSlE041_f135 (by kernel_rfl) rfl (by decide) rfl (by kernel_rfl)
theorem fC:aX Tryz.prog Sh:=yaj (e :=.int .i64) Tryz.laysSlE041_f135 (by kernel_rfl) rfl (by decide) rfl
theorem yea:Qw Tryz.prog Pt:=ycx (yfw (gr vU vT vS (all_cons zcx (all_cons eQ all_nil))) (y13 (fun h=>by cases h) (y13 (fun _=>fC) yde)))
theorem yai:Qw Tryz.prog (cx [] [uT,uQ]):=gr vU vT vS (all_cons zgl (all_cons zit all_nil))
section walk
variable {F:Fence} (hd:F.depth=none) (hF:∀f,F.fn f) (Yu:F.alive=false) (hro:F.round=none) {n0 l:Nat} {xs:List (List Int)} {J Jx:List (List Int)→Mem→World→Prop}
 (Kx:∀pre N W,J pre N W→Good N W) (VY:∀pre N W,Jx pre N W→Good N W) (YL:EU J) (JT:EU Jx)
 (hY:∀pre x N W1 v,J pre N W1→pre++[x] <+: xs→jz Tryz.prog TI N x v→YieldAt F n0 Tryz.prog l #[v] W1 fun e W'=>
  ∃N',Mem.le N N'∧((e = .returned (.bool true)∧J (pre++[x]) N' W')∨(e = .returned (.bool false)∧Jx (pre++[x]) N' W')))
def n9(J Jx:List (List Int)→Mem→World→Prop)(xs:List (List Int))(pre L:List (List Int))(M:Mem)(e:Ending)(w':World):Prop:=
 ∃M',Mem.le M M'∧((e = .returned (.bool true)∧J (pre++L) M' w')∨(e = .returned (.bool false)∧∃p,p <+: xs∧Jx p M' w'))
include YL JT in
theorem y2z{pre L:List (List Int)}{M N:Mem}{e:Ending}{w w':World}(h:∃M',Mem.le M M'∧Mem.le M' N∧((e = .returned (.bool true)∧J (pre++L) M' w)∨(e = .returned (.bool false)∧∃p,p <+: xs∧Jx p M' w))∧Good N w'∧vm M' w N w'):n9 J Jx xs pre L M e w':=by
 obtain⟨M',h1,h2,h3,h4,h5⟩:=h;refine⟨N,Mem.le_trans h1 h2,h3.imp (fun h=>⟨h.1,YL _ _ _ _ _ h.2 h4 h5⟩) fun h=>⟨h.1,?_⟩⟩;obtain⟨p,hp,hx⟩:=h.2;exact⟨p,hp,JT _ _ _ _ _ hx h4 h5⟩
theorem Sq{t:Bool}{M':Mem}{l':Qi}{a':Act}{w':World}{R:Ending→World→Prop}(hT:Thin Tryz.prog M' l' a' w')(hm:(8,AVal.data .bool t [])∈l')(hdf:a'.defers=[])(hR:R (.returned (.bool t)) w'):bodyPost Tryz.prog Tryz.f142 R .ret a' w':=by
 refine zu (yi (t:=8) (by kernel_rfl) _ _ _) hdf ?_;have:=X8.1 (hT.data hm);have e:a'.tmps.getD 8 undef = .bool t:=this;rw[e];exact hR
def sG(F:Fence)(l:Nat)(xs:List (List Int))(J Jx:List (List Int)→Mem→World→Prop)(r:Qk)(i:List Int)(m:Nat):Prop:=
 ∀(b:List Int) (L:List (List Int)),CC r i m b=some L→b.length+m≤100000→∀(n:Nat) (pre:List (List Int)) (M:Mem) (W:World) (rv bv iv:Value),
  J pre M W→jz Tryz.prog Xf M r rv→jz Tryz.prog TI M b bv→jz Tryz.prog TI M i iv→pre++L <+: xs→
  CallsIn F n Tryz.prog 142 #[rv,bv,iv,.func (.yield l) #[] #[]] W (n9 J Jx xs pre L M)
noncomputable abbrev yeu:Code:=cF (cS (cS K2))
noncomputable abbrev y8p:Code:=cS (cS (cS Ca))
theorem yas:cS (cS (cS wO)) = .seq (.seq (cF (cF (cS (cS (cS wO))))) (.block 0 (.loop Ca))) (cS (cS (cS (cS wO)))):=by kernel_rfl
theorem y4s:Ca = .seq (cF Ca) (.seq (.cond (.tmp 34) .skip (.exit 0)) (.seq (.block 1 (.seq (cF K2) (.seq mh (.cond (.tmp 52) yeu .skip)))) y8p)):=by kernel_rfl
theorem gV:(opsOf mh).size=16:=by kernel_rfl
theorem y8n:mh = .region 10 (opsOf mh) true:=by kernel_rfl
theorem y7f:(KE mb).args=#[.tmp 42,.tmp 47,.tmp 48,.tmp 49]:=by kernel_rfl
include hd hF Yu hro Kx VY YL JT in
theorem y89{r:Qk}{i:List Int}{m:Nat}(hC:sG F l xs J Jx r i m){b:List Int}(jH:b.length+(m+1)≤100000)(X2:i.length≤1000){n:Nat}{pre L:List (List Int)}{M:Mem}(vc:pre++L <+: xs){R:Ending→World→Prop}(hR:∀e w,n9 J Jx xs pre L M e w→R e w):
  ∀(ys:List Int) (p:Nat),p+ys.length=i.length→(∀j (hj:j<ys.length),jt 0 i ((p+j:Nat):Int)=ys[j])→∀(D L2:List (List Int)),JX (fun x=>(jS b x).bind fun t=>bif t then some []else CC r i m (b++[x])) ys=some L2→D++L2=L→
   ∀(M4:Mem) (a4:Act) (w4:World),Mem.le M M4→Thin Tryz.prog M4 (V5 r b i (.func (.yield l) #[] #[]) (p:Int)) a4 w4→a4.tmps.size=54→a4.defers=[]→J (pre++D) M4 w4→
   Code.roundsIn F n Tryz.prog Ca (Exit.inBlock 0 (Exit.then (fun a w=>(cS (cS (cS (cS wO)))).wpIn F n Tryz.prog (bodyPost Tryz.prog Tryz.f142 R) a w) (bodyPost Tryz.prog Tryz.f142 R))) (ys.length+1) a4 w4:=by
 have jx:Open F:=⟨hF,hd,Yu⟩
 intro ys;induction ys with
 |nil=>
  intro p hp hy D L2 Kv sg M4 a4 w4 Ks Vk G7 HC r6;simp only[JX,qb]at Kv
  subst Kv
  rw[qL]at sg;subst sg;rw[xD,y4s];refine zq (EQ vi z26 jx _ (.inr (by kernel_rfl)) (ye8 r b i (.func (.yield l) #[] #[]) (p:Int)) (by rw[G7];kernel_rfl) (by kernel_rfl) Vk fun M5 a5 w5 WS JS =>?_);have Mo:=YL _ _ _ _ _ r6 WS.1 JS.grow;have Dr:a5.tmps.size=54:=JS.size.trans G7;have FV:a5.defers=[]:=JS.defers.trans HC;refine zq (xd (X8.1 (WS.data (s:=34) (t :=.bool) (x:=decide ((p:Int)<(i.length:Int))) (by simp))) (fun ht =>?_) (fun ht=>wpIn_exit ?_))
  ·simp at hp;simp at ht;omega
  ·show(cS (cS (cS (cS wO)))).wpIn F n Tryz.prog _ a5 w5;refine EQ vi z26 jx _ (.inr (by kernel_rfl)) (fG r b i (.func (.yield l) #[] #[]) (p:Int)) (by rw[Dr];kernel_rfl) (by kernel_rfl) (WS.sub (by simp)) fun M6 a6 w6 JP KS =>?_
   exact Sq JP (t:=true) (by simp) (KS.defers.trans FV) (hR _ _ ⟨M6,Mem.le_trans Ks (Mem.le_trans JS.le KS.le),.inl ⟨rfl,YL _ _ _ _ _ Mo JP.1 KS.grow⟩⟩)
 |cons y ys ihy=>
  intro p hp hy D L2 Kv sg M4 a4 w4 Ks Vk G7 HC r6;simp only[qk]at hp;have hy0:jt 0 i (p:Int)=y:=by have:=hy 0 (by simp);simpa using this
  have hy':∀j (hj:j<ys.length),jt 0 i (((p+1)+j:Nat):Int)=ys[j]:=fun j hj=>by
   have:=hy (j+1) (by simpa using hj);rw[show p+(j+1)=p+1+j by omega]at this;simpa using this
  simp only[JX]at Kv
  obtain⟨L3,hf,Kv⟩:=qi.1 Kv
  obtain⟨L4,rA,Kv⟩:=qi.1 Kv
  simp only[qb]at Kv
  subst Kv
  obtain⟨t,ry,hf⟩:=qi.1 hf;rw[xD,y4s];refine zq (EQ vi z26 jx _ (.inr (by kernel_rfl)) (ye8 r b i (.func (.yield l) #[] #[]) (p:Int)) (by rw[G7];kernel_rfl) (by kernel_rfl) Vk fun M5 a5 w5 WS JS =>?_);have Mo:=YL _ _ _ _ _ r6 WS.1 JS.grow;have Dr:a5.tmps.size=54:=JS.size.trans G7;have FV:a5.defers=[]:=JS.defers.trans HC;have eo:=Mem.le_trans Ks JS.le;refine zq (xd (X8.1 (WS.data (s:=34) (t :=.bool) (x:=decide ((p:Int)<(i.length:Int))) (by simp))) (fun ht=>jk ?_) (fun ht =>?_));rotate_left
  ·simp at ht;omega
  refine zq (xx ?_);have O0:(decide ((0:Int)≤(p:Int))&&decide ((p:Int)<(i.length:Int)))=true:=by simp;omega
  refine zq (EQ vi z26 jx _ (.inr (by kernel_rfl)) ((fD r b i (.func (.yield l) #[] #[]) (p:Int)).trans (by rw[O0,hy0];rfl)) (by rw[Dr];kernel_rfl) (by kernel_rfl) (WS.sub (by simp)) fun M6 a6 w6 JP KS =>?_);have hJ6:=YL _ _ _ _ _ Mo JP.1 KS.grow;have FN:a6.tmps.size=54:=KS.size.trans Dr;have DK:a6.defers=[]:=KS.defers.trans FV;have pI:=Mem.le_trans eo KS.le;have next:∀(D':List (List Int)) (M7:Mem) (a7:Act) (w7:World),D'=D++L3→Mem.le M M7→Thin Tryz.prog M7 (V5 r b i (.func (.yield l) #[] #[]) (p:Int)) a7 w7→a7.tmps.size=54→a7.defers=[]→J (pre++D') M7 w7→
    y8p.wpIn F n Tryz.prog (Exit.then (Code.roundsIn F n Tryz.prog Ca (Exit.inBlock 0 (Exit.then (fun a w=>(cS (cS (cS (cS wO)))).wpIn F n Tryz.prog (bodyPost Tryz.prog Tryz.f142 R) a w) (bodyPost Tryz.prog Tryz.f142 R))) (ys.length+1)) (Exit.inBlock 0 (Exit.then (fun a w=>(cS (cS (cS (cS wO)))).wpIn F n Tryz.prog (bodyPost Tryz.prog Tryz.f142 R) a w) (bodyPost Tryz.prog Tryz.f142 R)))) a7 w7:=by
   rintro _ M7 a7 w7 rfl en YK Es eJ Mn;refine EQ vi z26 jx _ (.inr (by kernel_rfl)) (yfs r b i (.func (.yield l) #[] #[]) (p:Int)) (by rw[Es];kernel_rfl) (by kernel_rfl) YK fun M8 a8 w8 BP Td =>?_
   show Code.roundsIn F n Tryz.prog Ca _ (ys.length+1) a8 w8;have hw:jv ((p:Int)+1)=((p+1:Nat):Int):=by rw[Qj (by omega) (by omega)];rfl
   rw[hw]at BP;exact ihy (p+1) (by omega) hy' (D++L3) L4 rA (by rw[zM];exact sg) M8 a8 w8 (Mem.le_trans en Td.le) BP (Td.size.trans Es) (Td.defers.trans eJ) (YL _ _ _ _ _ Mn BP.1 Td.grow)
  refine zq ?_;rw[y8n];cases t with
  |true=>
   simp only[qv,qb]at hf;subst hf;refine y5q vi yea (by rw[gV];exact(yep r b i _ _ _).trans (by rw[ry];exact yej r b i _ _ _)) FN (by kernel_rfl) (by kernel_rfl) JP jx fun M7 a7 w7 YK VW =>?_
   refine xd (X8.1 (YK.data (s:=52) (t :=.bool) (x:=false) (by simp))) (fun ht=>by cases ht) (fun ht=>jk ?_);exact next D M7 a7 w7 (by rw[qL]) (Mem.le_trans pI VW.le) (YK.sub (by simp)) (VW.size.trans FN) (VW.defers.trans DK) (YL _ _ _ _ _ hJ6 YK.1 VW.grow)
  |false=>
   simp only[qu]at hf;have rL:app [] b=some b:=by unfold app;rw[qH (by simp;omega),qP]
   have rK:app b [y]=some (b++[y]):=by unfold app;rw[qH (by simp;omega)]
   refine yb9 vi yea (c:=13) (by rw[gV];decide) (by kernel_rfl) ((yeh r b i _ _ _).trans (by rw[ry];exact(yfq r b i _ _ _).trans (by rw[rL,qh,rK,qh]))) FN (by kernel_rfl) (by kernel_rfl) JP jx fun Qg M7 a7 w7 hfu YK VW =>?_
   have Mn:=YL _ _ _ _ _ hJ6 YK.1 VW.grow;have Es:a7.tmps.size=54:=VW.size.trans FN;have eJ:a7.defers=[]:=VW.defers.trans DK;have en:=Mem.le_trans pI VW.le;rw[gV]at hfu;obtain⟨vC,rfl⟩:∃vC,Qg=vC+1:=⟨Qg-1,by omega⟩
   refine ydd jx (o:=mb) (cc:=KE mb) (f:=142) (by kernel_rfl) (by kernel_rfl) (UC (Ar YK) (by kernel_rfl)) (by kernel_rfl) (by kernel_rfl) (enters_of (by kernel_rfl)) (R:=n9 J Jx xs (pre++D) L3 M7) ?_ ?_
   ·rw[show(KE mb).args.map a7.eval=#[a7.eval (.tmp 42),a7.eval (.tmp 47),a7.eval (.tmp 48),a7.eval (.tmp 49)] from by rw[y7f];simp only[xg,zl,xC],YK.raw (s:=49) (v :=.func (.yield l) #[] #[]) (by simp)];exact hC (b++[y]) L3 hf (by simp;omega) (n-1) (pre++D) M7 w7 _ _ _ Mn (YK.data (s:=42) (t:=Xf) (x:=r) (by simp)) (YK.data (s:=47) (t:=TI) (x:=b++[y]) (by simp)) (YK.data (s:=48) (t:=TI) (x:=i) (by simp)) (by
     refine List.IsPrefix.trans ?_ vc;rw[←sg];exact⟨L4,by simp⟩)
   ·rintro e w8 ⟨M8,pH,hc⟩;have hw:∃t,e = .returned (.bool t)∧Good M8 w8∧((t=true∧J (pre++D++L3) M8 w8)∨(t=false∧∃p,p <+: xs∧Jx p M8 w8)):=by
     rcases hc with⟨rfl,h⟩|⟨rfl,q,hq,h⟩
     ·exact⟨true,rfl,Kx _ _ _ h,.inl ⟨rfl,h⟩⟩
     ·exact⟨false,rfl,VY _ _ _ h,.inr ⟨rfl,q,hq,h⟩⟩
    obtain⟨t,rfl,ay,Q2⟩:=hw;refine⟨_,rfl,?_⟩;rw[show mb.dst=some 50 from by kernel_rfl];have BP:Thin Tryz.prog M8 ((50,.data .bool t [])::(V5 r b i (.func (.yield l) #[] #[]) (p:Int)++[(41,.data .bool true [])])) (a7.put (some 50) (.bool t)) w8:=
     Thin.put ((YK.turn ay pH).sub (by simp)) (by rw[Es];decide) ⟨X8.2 rfl,rfl⟩ rfl
    refine y7w (n0:=54) z26 jx (by rw[gV];decide) (by rw[gV];omega) [(5,.quiet),(10,.app none)] (by kernel_rfl) (by rw[gV];exact yfl r b i (.func (.yield l) #[] #[]) (p:Int) t) (by kernel_rfl) (by rw[KZ];exact Es) (by kernel_rfl) (by kernel_rfl) (BP.sub (by simp)) fun M9 a9 w9 DP DQ =>?_
    have hs9:a9.tmps.size=54:=DQ.size.trans ((KZ _ _ _).trans Es);have S4:a9.defers=[]:=DQ.defers.trans ((put_defers _ _ _).trans eJ);have pG:=Mem.le_trans en (Mem.le_trans pH DQ.le);refine xd (X8.1 (DP.data (s:=52) (t :=.bool) (x := !t) (by simp))) (fun ht =>?_) (fun ht=>jk ?_)
    ·
     have ht:t=false:=by simpa using ht
     subst ht;obtain⟨q,hq,hx⟩:∃q,q <+: xs∧Jx q M8 w8:=by
      rcases Q2 with⟨h,_⟩|⟨_,h⟩
      ·cases h
      ·exact h
     refine EQ vi z26 jx _ (.inr (by kernel_rfl)) (yft r b i (.func (.yield l) #[] #[]) (p:Int)) (by rw[hs9];kernel_rfl) (by kernel_rfl) (DP.sub (by simp)) fun M10 a10 w10 rR fh =>?_
     refine Sq rR (t:=false) (by simp) (fh.defers.trans S4) (hR _ _ ⟨M10,Mem.le_trans pG fh.le,.inr ⟨rfl,q,hq,?_⟩⟩);exact JT _ _ _ _ _ (JT _ _ _ _ _ hx DP.1 DQ.grow) rR.1 fh.grow
    ·have ht:t=true:=by simpa using ht
     subst ht;have hJ8:J (pre++D++L3) M8 w8:=by
      rcases Q2 with⟨_,h⟩|⟨h,_⟩
      ·exact h
      ·cases h
     exact next (D++L3) M9 a9 w9 rfl pG (DP.sub (by simp)) hs9 S4 (by rw[←zM];exact YL _ _ _ _ _ hJ8 DP.1 DQ.grow)
include hd hF Yu hro Kx VY YL JT hY in
theorem y80{r:Qk}{i:List Int}(X2:i.length≤1000){m:Nat}(ih:∀m',m=m'+1→sG F l xs J Jx r i m'):sG F l xs J Jx r i m:=by
 intro b L hL jH n pre M W rv bv iv hJ hr hb hi vc;have jx:Open F:=⟨hF,hd,Yu⟩
 unfold CC at hL;cases hbad:mo r b with
 |none=>rw[hbad]at hL;cases hL
 |some fS=>
 rw[hbad,qh]at hL;refine zy (c:=wO) Tryz.func142 (by kernel_rfl) (hF 142) ?_ hro;obtain⟨a0,Zt⟩:∃a0:Act,a0={tmps := #[rv,bv,iv,.func (.yield l) #[] #[]]++Array.replicate (Tryz.f142.ntmps-(#[rv,bv,iv,.func (.yield l) #[] #[]]:Array Value).size) undef,defers:=[]}:=⟨_,rfl⟩
 rw[←Zt];have QY:a0.tmps.size=54:=by rw[Zt,Tryz.ntmps142];simp
 have VT:a0.defers=[]:=by rw[Zt]
 have Wt:Thin Tryz.prog M (oK r b i (.func (.yield l) #[] #[])) a0 W:=by
  rw[Zt];refine tY (Kx _ _ _ hJ) fun e he =>?_
  simp only[qF,yb,ka]at he;rcases he with rfl|rfl|rfl|rfl
  ·exact⟨by show 0<4;omega,hr,rfl⟩
  ·exact⟨by show 1<4;omega,hb,rfl⟩
  ·exact⟨by show 2<4;omega,hi,rfl⟩
  ·exact⟨by show 3<4;omega,rfl⟩
 rw[show wO = .seq (cF wO) (cS wO) from by kernel_rfl];refine zq (EQ vi z26 jx _ (.inr (by kernel_rfl)) (fK r b i (.func (.yield l) #[] #[])) (by rw[QY];kernel_rfl) (by kernel_rfl) Wt fun M1 a1 w1 HG Z5 =>?_);show(cS wO).wpIn F n Tryz.prog _ a1 w1;have Tg:=YL _ _ _ _ _ hJ HG.1 Z5.grow;have XD:a1.tmps.size=54:=Z5.size.trans QY;have wN:a1.defers=[]:=Z5.defers.trans VT;rw[show cS wO = .seq (cF (cS wO)) (cS (cS wO)) from by kernel_rfl];cases fS with
 |true=>
  simp only[qv,qb]at hL;subst hL;refine zq (EQ vi yai jx _ (.inr (by kernel_rfl)) ((yad r b i (.func (.yield l) #[] #[])).trans (by rw[hbad];rfl)) (by rw[XD];kernel_rfl) (by kernel_rfl) HG fun M2 a2 w2 Zg ZK =>?_);refine Sq Zg (t:=true) (by simp) (ZK.defers.trans wN) ⟨M2,Mem.le_trans Z5.le ZK.le,.inl ⟨rfl,?_⟩⟩;rw[qL];exact YL _ _ _ _ _ Tg Zg.1 ZK.grow
 |false=>
 rw[qu]at hL;refine zq (EQ vi yai jx _ (.inr (by kernel_rfl)) ((yad r b i (.func (.yield l) #[] #[])).trans (by rw[hbad];rfl)) (by rw[XD];kernel_rfl) (by kernel_rfl) HG fun M2 a2 w2 Zg ZK =>?_);show(cS (cS wO)).wpIn F n Tryz.prog _ a2 w2;have fi:=YL _ _ _ _ _ Tg Zg.1 ZK.grow;have VO:a2.tmps.size=54:=ZK.size.trans XD;have QL:a2.defers=[]:=ZK.defers.trans wN;have YI:=Mem.le_trans Z5.le ZK.le;rw[show cS (cS wO) = .seq (.seq (cF (cF (cS (cS wO)))) (.cond (.tmp 27) (.seq EK .ret) .skip)) (cS (cS (cS wO))) from by kernel_rfl];refine zq (zq (EQ vi z26 jx _ (.inr (by kernel_rfl)) (fI r b i (.func (.yield l) #[] #[])) (by rw[VO];kernel_rfl) (by kernel_rfl) Zg fun M3 a3 w3 Gq Te =>?_));have Tf:=YL _ _ _ _ _ fi Gq.1 Te.grow;have SK:a3.tmps.size=54:=Te.size.trans VO;have BK:a3.defers=[]:=Te.defers.trans QL;have pJ:=Mem.le_trans YI Te.le;refine xd (X8.1 (Gq.data (s:=27) (t :=.bool) (x:=((b.length:Int)==(i.length:Int))) (by simp))) (fun ht =>?_) (fun ht=>jk ?_)
 ·
  rw[ht,qv,qb]at hL;subst hL;refine zq ?_;rw[show EK = .region 6 (opsOf EK) false from by kernel_rfl];refine xO ?_;refine UB z26 jx 0 2 (by rw[yO,zY]) (by rw[show(opsOf EK).size=4 from by kernel_rfl];decide) (fF r b i (.func (.yield l) #[] #[])) SK (by kernel_rfl) (by kernel_rfl) (Gq.sub (by simp)) fun M4 a4 w4 Vk VX =>?_
  have r6:=YL _ _ _ _ _ Tf Vk.1 VX.grow;have G7:a4.tmps.size=54:=VX.size.trans SK;have HC:a4.defers=[]:=VX.defers.trans BK;have Ks:=Mem.le_trans pJ VX.le;rw[show List.range' (0+2) ((opsOf EK).size-(0+2))=2::List.range' 3 1 from by rw[show(opsOf EK).size=4 from by kernel_rfl];rfl];refine yc1 jx hro (o:=lM) (cc:=KE lM) (s:=28) (l:=l) (by kernel_rfl) (by kernel_rfl) (by kernel_rfl) (by kernel_rfl) (Vk.raw (by simp))
   (R:=fun e W'=>∃N',Mem.le M4 N'∧((e = .returned (.bool true)∧J (pre++[b]) N' W')∨(e = .returned (.bool false)∧Jx (pre++[b]) N' W'))) ?_ ?_
  ·rw[show(KE lM).args.map a4.eval=#[a4.eval (.tmp 29)] from by rw[show(KE lM).args=#[.tmp 29] from by kernel_rfl];simp only[xg,zl,xC]];exact zum hd _ (hY pre b M4 w4 _ r6 vc (Vk.data (by simp)))
  ·rintro e W5 ⟨N5,eo,hc⟩;have hw:∃t,e = .returned (.bool t)∧Good N5 W5∧((Ending.returned (.bool t) = .returned (.bool true)∧J (pre++[b]) N5 W5)∨(Ending.returned (.bool t) = .returned (.bool false)∧∃p,p <+: xs∧Jx p N5 W5)):=by
    rcases hc with⟨rfl,h⟩|⟨rfl,h⟩
    ·exact⟨true,rfl,Kx _ _ _ h,.inl ⟨rfl,h⟩⟩
    ·exact⟨false,rfl,VY _ _ _ h,.inr ⟨rfl,_,vc,h⟩⟩
   obtain⟨t,rfl,DF,Q2⟩:=hw;refine⟨_,rfl,?_⟩;rw[show lM.dst=some 30 from by kernel_rfl];have WS:Thin Tryz.prog N5 [(30,.data .bool t [])] (a4.put (some 30) (.bool t)) W5:=Thin.put (l:=[]) ⟨DF,fun e he=>by cases he⟩ (by rw[G7];decide) ⟨X8.2 rfl,rfl⟩ rfl;refine UB (n0:=54) z26 jx 3 1 (by rw[show(opsOf EK).size=4 from by kernel_rfl]) (by rw[show(opsOf EK).size=4 from by kernel_rfl];decide) (fE t) (by rw[KZ];exact G7) (by kernel_rfl) (by kernel_rfl) WS fun M6 a6 w6 JP KS =>?_
   rw[show List.range' (3+1) ((opsOf EK).size-(3+1))=[] from by rw[show(opsOf EK).size=4 from by kernel_rfl];rfl];show Code.ret.wpIn F n Tryz.prog _ a6 w6;refine jq ?_;exact Sq JP (t:=t) (by simp) ((KS.defers.trans (put_defers _ _ _)).trans HC) (y2z YL JT ⟨N5,Mem.le_trans Ks eo,KS.le,Q2,JP.1,KS.grow⟩)
 ·rw[ht,qu]at hL;cases m with
  |zero=>cases hL
  |succ m=>
  simp only at hL;show(cS (cS (cS wO))).wpIn F n Tryz.prog _ a3 w3;rw[yas];refine zq (zq (EQ vi z26 jx _ (.inr (by kernel_rfl)) (fH r b i (.func (.yield l) #[] #[])) (by rw[SK];kernel_rfl) (by kernel_rfl) (Gq.sub (by simp)) fun M4 a4 w4 Vk VX =>?_));refine xx (xP (i.length+1) ?_);have Fe:∀j (hj:j<i.length),jt 0 i ((0+j:Nat):Int)=i[j]:=fun j hj=>by
   rw[qY];unfold jt;simp[qC,hj]
  exact y89 hd hF Yu hro Kx VY YL JT (ih m rfl) jH X2 vc (fun _ _ h=>h) i 0 (by omega) Fe [] L hL rfl M4 a4 w4 (Mem.le_trans pJ VX.le) Vk (VX.size.trans SK) (VX.defers.trans BK) (by rw[qL];exact YL _ _ _ _ _ Tf Vk.1 VX.grow)
include hd hF Yu hro Kx VY YL JT hY in
theorem yah{r:Qk}{i:List Int}(X2:i.length≤1000):∀m,sG F l xs J Jx r i m
 |0=>y80 hd hF Yu hro Kx VY YL JT hY X2 fun m' h=>by cases h
 |m+1=>y80 hd hF Yu hro Kx VY YL JT hY X2 fun m' h=>by cases h;exact yah X2 m
end walk
end Go.Lift
namespace Go.Lift
open Go Go.Proofs Go.RowKit
noncomputable def Tn:Code:=Tryz.f84.body.getD .skip
noncomputable def c141:Code:=Tryz.f141.body.getD .skip
def oI(e:Ex)(τ:St):Option (Nat×List EF):=match e with
 |.ret=>match τ.env 4 with
  |some (.clo g caps)=>some (g,caps)
  |_=>none
 |_=>none
theorem e84(r:Qk)(i:List Int):vY (cx [] []) Tn (.seq .nil (.seq (.frz 2 (.frz 3 .nil)) .nil)) (wR [(0,.data Xf r []),(1,.data TI i [])]) oI=some (141,[.inr ⟨Xf,r⟩,.inr ⟨TI,i⟩]):=by kernel_rfl
theorem ML(r:Qk)(i:List Int)(v:Value):Q6 (cx [] []) (opsOf c141).toList (List.range' 0 3) (wR [(0,.raw v),(1,.data (.ptr Xf) r []),(2,.data (.ptr TI) i [])]) [] (De [] [4,5,6])=some [(4,.data Xf r []),(5,.data TI i []),(6,.raw v)]:=by kernel_rfl
noncomputable def dq:Oper:=(opsOf c141).getD 3 default
theorem yg5:(KE dq).args=#[.tmp 4,.const (.slice none 0 0),.tmp 5,.tmp 6]:=by kernel_rfl
theorem AG{o:Oper}{f:Nat→Option Bool}(h:o.guard=none):Region.wanted o f=true:=by unfold Region.wanted;rw[h]
theorem cM{M:Mem}:jz Tryz.prog TI M ([]:List Int) (.slice none 0 0):=by
 unfold jz Qd;simp only[Ty.agg,qA,zp];exact⟨_,rfl,.inl ⟨rfl,rfl⟩⟩
theorem cV{r:Qk}{i:List Int}{L:List (List Int)}(X2:i.length≤1000)(hL:CC r i (i.length+1) []=some L){M:Mem}{u v:Value}(hu:jz Tryz.prog (.ptr Xf) M r u)(hv:jz Tryz.prog (.ptr TI) M i v):
  y17 Tryz.prog (fun M' x v=>Qd TI.agg (jB Tryz.prog TI M' x) v) M L 141 #[u,v]:=by
 refine⟨zV Tryz.func141 (by kernel_rfl) rfl,?_⟩;intro F n l J Jx M0 W hM hd hF Yu hro Kx VY YL JT hY h0;have jx:Open F:=⟨hF,hd,Yu⟩
 show CallsIn F n Tryz.prog 141 #[.func (.yield l) #[] #[],u,v] W _;refine zy (c:=c141) Tryz.func141 (by kernel_rfl) (hF 141) ?_ hro;obtain⟨a0,Zt⟩:∃a0:Act,a0={tmps := #[.func (.yield l) #[] #[],u,v]++Array.replicate (Tryz.f141.ntmps-(#[.func (.yield l) #[] #[],u,v]:Array Value).size) undef,defers:=[]}:=⟨_,rfl⟩
 rw[←Zt];have QY:a0.tmps.size=8:=by rw[Zt,Tryz.ntmps141];simp
 have VT:a0.defers=[]:=by rw[Zt]
 have Wt:Thin Tryz.prog M0 [(0,.raw (.func (.yield l) #[] #[])),(1,.data (.ptr Xf) r []),(2,.data (.ptr TI) i [])] a0 W:=by
  rw[Zt];refine tY (Kx _ _ _ h0) fun e he =>?_
  simp only[qF,yb,ka]at he;rcases he with rfl|rfl|rfl
  ·exact⟨by show 0<3;omega,rfl⟩
  ·exact⟨by show 1<3;omega,ZZ hM hu,rfl⟩
  ·exact⟨by show 2<3;omega,ZZ hM hv,rfl⟩
 rw[show c141 = .region 0 (opsOf c141) false from by kernel_rfl];refine xO ?_;have vQ:(opsOf c141).size=4:=by kernel_rfl
 refine UB (n0:=8) z26 jx 0 3 (by rw[yO,zY]) (by rw[vQ];decide) (ML r i (.func (.yield l) #[] #[])) QY (by kernel_rfl) (by kernel_rfl) Wt fun M1 a1 w1 HG Z5 =>?_
 have Tg:=YL _ _ _ _ _ h0 HG.1 Z5.grow;rw[show List.range' (0+3) ((opsOf c141).size-(0+3))=[3] from by rw[vQ];rfl,xo];refine Ag jx (o:=dq) (cc:=KE dq) (f:=142) (by kernel_rfl) (AG (by kernel_rfl)) (by kernel_rfl) (by kernel_rfl) (enters_of (by kernel_rfl)) (R:=n9 J Jx L [] L M1) ?_ ?_
 ·rw[yg5];simp only[xg,zl,xC];rw[HG.raw (s:=6) (v :=.func (.yield l) #[] #[]) (by simp)];exact yah (n0:=n-1) hd hF Yu hro Kx VY YL JT hY X2 (i.length+1) [] L hL (by simp;omega) (n-1) [] M1 w1 _ _ _ Tg (HG.data (s:=4) (t:=Xf) (x:=r) (by simp)) cM (HG.data (s:=5) (t:=TI) (x:=i) (by simp)) (by simp)
 ·rintro e w2 ⟨M2,YI,hc⟩;have Q2:∃t,e = .returned (.bool t):=by
   rcases hc with⟨rfl,_⟩|⟨rfl,_⟩<;>exact⟨_,rfl⟩
  obtain⟨t,rfl⟩:=Q2;refine⟨_,rfl,?_⟩;refine bodyPost_end (results_none (by kernel_rfl) _ _ _) (by rw[put_defers];exact Z5.defers.trans VT) ?_;refine⟨⟨_,rfl⟩,M2,Mem.le_trans Z5.le YI,?_⟩;rcases hc with⟨_,h⟩|⟨_,q,hq,h⟩
  ·exact .inl (by simpa using h)
  ·exact .inr ⟨q,hq,h⟩
theorem zfb:Has Tryz.prog z7t:=by
 refine⟨enters_of (by kernel_rfl),fun x L hr M w vs hg Q3 =>?_⟩;obtain⟨r,i⟩:=x;obtain⟨rv,_,rfl,NT,iv,rfl,DC⟩:=Q3;have hr:iQ r i=some L:=hr;unfold iQ at hr;cases hc:decide (i.length≤1000)with
 |false=>rw[hc]at hr;cases hr
 |true=>
 rw[hc,qv]at hr;rw[qI]at hc;refine(xZ (n:=3)).1 ?_;refine zy (c:=Tn) Tryz.func84 (by kernel_rfl) True.intro ?_ rfl;obtain⟨a0,Zt⟩:∃a0:Act,a0={tmps := #[rv,iv]++Array.replicate (Tryz.f84.ntmps-(#[rv,iv]:Array Value).size) undef,defers:=[]}:=⟨_,rfl⟩
 show Tn.wpIn _ _ _ _ {tmps := #[rv,iv]++Array.replicate (Tryz.f84.ntmps-(#[rv,iv]:Array Value).size) undef,defers:=[]} w;rw[←Zt];have QY:a0.tmps.size=6:=by rw[Zt,Tryz.ntmps84];simp
 have VT:a0.defers=[]:=by rw[Zt]
 have Wt:Thin Tryz.prog M [(0,.data Xf r []),(1,.data TI i [])] a0 w:=by
  rw[Zt];refine tY hg fun e he =>?_
  simp only[qF,yb,ka]at he;rcases he with rfl|rfl
  ·exact⟨by show 0<2;omega,NT,rfl⟩
  ·exact⟨by show 1<2;omega,DC,rfl⟩
 refine EV vi z26 ET Tn (.inr (by kernel_rfl)) (e84 r i) (by rw[QY];kernel_rfl) (Ar Wt) fun e κ' M' σ' a' w' j4 j6 hk =>?_
 have wb:=gG j6 (ES (by kernel_rfl));unfold oI at hk;split at hk
 ·split at hk
  ·rename_i g caps rj;simp only[qb,qX]at hk;obtain⟨rfl,rfl⟩:=hk;obtain⟨cs,OT,v1,r1,Kt,h1,v2,r2,OW,h2,OV⟩:=j4.env 4 _ rj;subst OV OW;have OX:cs=#[v1,v2]:=yR Kt;subst OX;refine zu (yi (t:=4) (by kernel_rfl) _ _ _) (wb.defers.trans VT) ?_;refine⟨M',_,rfl,?_,j4.good,wb.grow⟩;show jz Tryz.prog (.seq TI) M' L (a'.tmps.getD 4 undef);rw[OT];exact⟨141,#[v1,v2],rfl,cV hc hr h1 h2⟩
  ·cases hk
 ·cases hk
end Go.Lift
