/-
  The reader of words: words, numbers, units.
-/
import Derived.Test.YtggnjngdmadbaaaGreatDoorManD
import Derived.Test.YtggnjngdmadbaaaGreatDoorLiftP
set_option maxHeartbeats 1000000
set_option linter.all false
namespace Go.Lift
open Go Go.Proofs Go.RowKit
noncomputable def c164:Code:=Tryz.f164.body.getD .skip
noncomputable def sz:Code:=Tryz.f165.body.getD .skip
abbrev TR:Ty:=Ry
abbrev TO:Ty:=GV
abbrev TF:Ty :=.pair (.int .i64) (.int .i64)
abbrev fP(ws:List js)(i:Int):Nat×Box:=(100,⟨166,TR,(ws,i),[],false⟩)
theorem MJ(ws:List js)(i:Int):vY (cx [] []) c164 .nil (Qc [(0,.bptr 100 [])] [fP ws i]) (Bn [2,3] [100] [])=
 bif decide (i≥(ws.length:Int))then some ([(2,.data .str ByteArray.empty []),(3,.data .bool false [])],[fP ws i])else chk (decide ((0:Int)≤i)&&decide (i<(ws.length:Int))) (some ([(2,.data .str (jt ByteArray.empty ws i) []),(3,.data .bool true [])],[fP ws i])):=by kernel_rfl
theorem MI(ws:List js)(i:Int):vY (cx [] []) sz .nil (Qc [(0,.bptr 100 [])] [fP ws i]) (Bn [2] [100] [8])=
 some ([(2,.data (.ptr TF) (i,7) [])],[fP ws i]):=by kernel_rfl
theorem y7r{ws:List js}{i:Int}(h0:0≤i)(h:i<(ws.length:Int)):wo ws i=jt ByteArray.empty ws i:=by unfold wo;rw[qH h]
theorem y7s{ws:List js}{i:Int}(h:¬i<(ws.length:Int)):wo ws i=ByteArray.empty:=by unfold wo;rw[qT h]
theorem IW{fn:Func}{s t:Nat}(h:fn.results=#[.tmp s,.tmp t])(tmps:Array Value)(w:World):(Go.results fn tmps).run Tryz.prog w = .ok (.tuple #[tmps.getD s undef,tmps.getD t undef]) w:=results_tmp2 h tmps Tryz.prog w
theorem sw{ws:List js}{i:Int}(h0:0≤i):vY (cx [] []) c164 .nil (Qc [(0,.bptr 100 [])] [fP ws i]) (Bn [2,3] [100] [])=some ([(2,.data .str (wo ws i) []),(3,.data .bool (decide (i<(ws.length:Int))) [])],[fP ws i]):=by
 refine(MJ ws i).trans ?_;by_cases h:i<(ws.length:Int)
 ·rw[show decide (i≥(ws.length:Int))=false from xW (by omega),qu,show(decide ((0:Int)≤i)&&decide (i<(ws.length:Int)))=true from by rw[yE h0,yE h];rfl,y7r h0 h,yE h];rfl
 ·rw[show decide (i≥(ws.length:Int))=true from yE (by omega),qv,y7s h,xW h]
theorem mV{F:Fence}(hF:Open F)(hro:F.round=none)(n:Nat){M:Mem}{w:World}{bR:Nat}{ws:List js}{i:Int}(hg:Good M w)(hR:z4d Tryz.prog M w bR TR (ws,i))(h0:0≤i):
  CallsIn F n Tryz.prog 164 #[.pointer (some ⟨bR,0,none⟩)] w fun e w'=>∃M',e = .returned (.tuple #[.string (wo ws i),.bool (decide (i<(ws.length:Int)))])∧Good M' w'∧Fra [bR] M w M' w'∧z4d Tryz.prog M' w' bR TR (ws,i):=by
 refine(aQ (base:=0) (κ:=Jq 100 bR) (G:=[bR]) (resv:=fun t =>.tuple #[t.getD 2 undef,t.getD 3 undef]) vi z26 hF hro (c:=c164) Tryz.func164 (by kernel_rfl) (sw h0) (by kernel_rfl) (by rw[Tryz.ntmps164];kernel_rfl) (by kernel_rfl) (by kernel_rfl) (y8g hg hR fun e he =>?_) (fun i g h =>?_) (IW (by kernel_rfl))).mono ?_
 ·rw[qE]at he;subst he;exact⟨_,bR,0,rfl,qH rfl,rfl,Uc (j:=0) (jh 0)⟩
 ·unfold Jq at h;split at h
  ·cases h;simp
  ·cases h
 ·rintro e w' ⟨κ',M',a',rfl,eD,JQ,hκ⟩;have hs:a'.tmps.getD 2 undef = .string (wo ws i):=Xj.1 (JQ.env 2 _ rfl).1;have hb:a'.tmps.getD 3 undef = .bool (decide (i<(ws.length:Int))):=X8.1 (JQ.env 3 _ rfl).1;refine⟨M',by rw[hs,hb],JQ.good,eD,?_⟩;have hk:κ' 100=some bR:=(hκ 100 (by simp) _ rfl).trans (qH rfl);exact sR hk (JQ.bx 100 _ rfl)
theorem ub{F:Fence}(hF:Open F)(hro:F.round=none)(n:Nat){M:Mem}{w:World}{bR:Nat}{ws:List js}{i:Int}(hg:Good M w)(hR:z4d Tryz.prog M w bR TR (ws,i)):
  CallsIn F n Tryz.prog 165 #[.pointer (some ⟨bR,0,none⟩)] w fun e w'=>∃M' v,e = .returned v∧jz Tryz.prog (.ptr TF) M' (i,7) v∧Good M' w'∧Fra [bR] M w M' w'∧z4d Tryz.prog M' w' bR TR (ws,i):=by
 refine(aQ (base:=0) (κ:=Jq 100 bR) (G:=[bR]) (resv:=fun t=>t.getD 2 undef) vi z26 hF hro (c:=sz) Tryz.func165 (by kernel_rfl) (MI ws i) (by kernel_rfl) (by rw[Tryz.ntmps165];kernel_rfl) (by kernel_rfl) (by kernel_rfl) (y8g hg hR fun e he =>?_) (fun i g h =>?_) (fun t w=>yi (t:=2) (by kernel_rfl) t Tryz.prog w)).mono ?_
 ·rw[qE]at he;subst he;exact⟨_,bR,0,rfl,qH rfl,rfl,Uc (j:=0) (jh 0)⟩
 ·unfold Jq at h;split at h
  ·cases h;simp
  ·cases h
 ·rintro e w' ⟨κ',M',a',rfl,eD,JQ,hκ⟩;have hk:κ' 100=some bR:=(hκ 100 (by simp) _ rfl).trans (qH rfl);exact⟨M',_,rfl,(JQ.env 2 _ rfl).1,JQ.good,eD,sR hk (JQ.bx 100 _ rfl)⟩
noncomputable def ZW:Code:=Tryz.f199.body.getD .skip
def Gy:Nat→wm
 |0=>[.snd,.fst]
 |1=>[.snd,.snd,.fst]
 |2=>[.snd,.snd,.snd,.fst]
 |3=>[.snd,.snd,.snd,.snd,.fst]
 |4=>[.snd,.snd,.snd,.snd,.snd,.fst,.fst]
 |5=>[.snd,.snd,.snd,.snd,.snd,.fst,.snd]
 |_=>[.snd,.snd,.snd,.snd,.snd,.snd]
def Zm:Nat→vn→Int→vn
 |0,o,n=>(o.1,(n,o.2.2))
 |1,o,n=>(o.1,(o.2.1,(n,o.2.2.2)))
 |2,o,n=>(o.1,(o.2.1,(o.2.2.1,(n,o.2.2.2.2))))
 |3,o,n=>(o.1,(o.2.1,(o.2.2.1,(o.2.2.2.1,(n,o.2.2.2.2.2)))))
 |4,o,n=>(o.1,(o.2.1,(o.2.2.1,(o.2.2.2.1,(o.2.2.2.2.1,((n,o.2.2.2.2.2.1.2),o.2.2.2.2.2.2))))))
 |5,o,n=>(o.1,(o.2.1,(o.2.2.1,(o.2.2.2.1,(o.2.2.2.2.1,((o.2.2.2.2.2.1.1,n),o.2.2.2.2.2.2))))))
 |_,o,n=>(o.1,(o.2.1,(o.2.2.1,(o.2.2.2.1,(o.2.2.2.2.1,(o.2.2.2.2.2.1,n))))))
abbrev wc(bR bO:Nat):zyi:=⟨166,TR,bR,27,TO,bO⟩
abbrev Xm(k:Nat):Qi:=[(0,.bptr 100 []),(1,.bptr 101 (Gy k))]
section
variable (bR bO:Nat) (ws:List js) (i:Int) (o:vn) (k:Nat) (s:js) (b:Bool) (n:Int) (v:Value)
theorem MW:vY (cx [] []) (cF ZW) .nil (Qc (Xm k) ((wc bR bO).bs (ws,i) o)) (Ea [0,1] [])=some (.normal,Xm k,(wc bR bO).bs (ws,i) o):=by kernel_rfl
theorem MU:Q6 (cx [] []) (opsOf (cF (cS ZW))).toList (List.range' 0 1) (Qc (Xm k) ((wc bR bO).bs (ws,i) o)) [] (KV [0,1,10] [])=some (Xm k++[(10,.bptr 100 [])],(wc bR bO).bs (ws,i) o):=by kernel_rfl
theorem d199:Q6 (cx [] []) (opsOf (cF (cS ZW))).toList (List.range' 2 5) (Qc ((11,.tup [.str,.bool] (s,b))::Xm k) ((wc bR bO).bs (ws,i) o)) [] (KV [0,1,5,6] [])=some (Xm k++[(5,.data .str s []),(6,.data .bool b [])],(wc bR bO).bs (ws,i) o):=by kernel_rfl
theorem MH:vY (cx [] [RJ]) (cF (cS (cS ZW))) .nil (Qc (Xm k++[(5,.data .str s []),(6,.data .bool b [])]) ((wc bR bO).bs (ws,i) o)) (Ea [0,1,7,8] [])=
 (iF s).bind fun r=>some (.normal,Xm k++[(7,.data (.int .i64) r.1 []),(8,.data .bool r.2 [])],(wc bR bO).bs (ws,i) o):=by kernel_rfl
theorem f199:vY (cx [] []) (cF (cF (cS (cS (cS ZW))))) .nil (Qc (Xm k++[(7,.data (.int .i64) n []),(8,.data .bool b [])]) ((wc bR bO).bs (ws,i) o)) (Ea [0,1,7,20] [])=
 some (.normal,Xm k++[(7,.data (.int .i64) n []),(20,.data .bool (!b) [])],(wc bR bO).bs (ws,i) o):=by kernel_rfl
theorem Mz:Q6 (cx [] []) (opsOf (cF (cF (cS (cF (cS (cS (cS ZW)))))))).toList (List.range' 0 1) (Qc (Xm k) ((wc bR bO).bs (ws,i) o)) [] (KV [21] [])=some ([(21,.bptr 100 [])],(wc bR bO).bs (ws,i) o):=by kernel_rfl
theorem Mx:Q6 (cx [] []) (opsOf (cF (cF (cS (cF (cS (cS (cS ZW)))))))).toList (List.range' 2 1) (Qc [(22,.data (.ptr TF) (i,7) [])] ((wc bR bO).bs (ws,i) o)) [] (KV [4] [])=some ([(4,.data (.ptr TF) (i,7) [])],(wc bR bO).bs (ws,i) o):=by kernel_rfl
end
theorem i199(bR bO:Nat)(ws:List js)(i:Int)(o:vn)(n:Int):∀k,vY (cx [] []) (cS (cS (cS (cS ZW)))) .nil (Qc (Xm k++[(7,.data (.int .i64) n [])]) ((wc bR bO).bs (ws,i) o)) (Ea [4] [])=
 some (.ret,[(4,.raw (.pointer none))],(wc bR bO).bs (ws,jv (i+1)) (Zm k o n))
 |0=>by kernel_rfl
 |1=>by kernel_rfl
 |2=>by kernel_rfl
 |3=>by kernel_rfl
 |4=>by kernel_rfl
 |5=>by kernel_rfl
 |k+6=>by kernel_rfl
end Go.Lift
namespace Go.Lift
open Go Go.Proofs Go.RowKit
def aZ(M:Mem)(r:Option Int)(v:Value):Prop:=match r with
 |none=>v = .pointer none
 |some j=>jz Tryz.prog (.ptr TF) M (j,7) v
def zr5(bR bO:Nat)(M:Mem)(w:World)(ws:List js)(r:Option Int)(i':Int)(o':vn)(e:Ending)(w':World):Prop:=
 ∃M' v,e = .returned v∧aZ M' r v∧Good M' w'∧Fra [bR,bO] M w M' w'∧z4d Tryz.prog M' w' bR TR (ws,i')∧z4d Tryz.prog M' w' bO TO o'
def QJ(k:Nat):Nat:=(jN TO (Gy k)).getD 0
theorem sM:∀k:Nat,jN TO (Gy k)=some (QJ k)
 |0=>rfl
 |1=>rfl
 |2=>rfl
 |3=>rfl
 |4=>rfl
 |5=>rfl
 |k+6=>rfl
noncomputable def Vq(k:Nat)(i:Int)(o:vn):Option Int→Option Int×Int×vn
 |none=>(some i,i,o)
 |some n=>(none,jv (i+1),Zm k o n)
noncomputable abbrev be:Code:=cF (cS ZW)
noncomputable abbrev bf:Code:=cF (cF (cS (cF (cS (cS (cS ZW))))))
noncomputable def Sr:Oper:=(opsOf be).getD 1 default
noncomputable def Sv:Oper:=(opsOf bf).getD 1 default
theorem fN:Qw Tryz.prog (cx [] [RJ]):=gr vU vT vS (all_cons (zpw ul uk) all_nil)
theorem yg2:ZW = .seq (cF ZW) (.seq be (.seq (cF (cS (cS ZW))) (.seq (.seq (cF (cF (cS (cS (cS ZW))))) (.cond (.tmp 20) (.seq bf .ret) .skip)) (cS (cS (cS (cS ZW))))))):=by kernel_rfl
theorem tv{D:zyi}{M:Mem}{w:World}{l:Qi}{args:Array Value}{k:Nat}{x:D.t1.den}{y:D.t2.den}(hg:Good M w)(ju:D.g1≠D.g2)(h1:z4d Tryz.prog M w D.g1 D.t1 x)(h2:z4d Tryz.prog M w D.g2 D.t2 y)(h:∀e∈l,e.1<args.size∧Jk Tryz.prog D M e.2 (args.getD e.1 undef)):
  Two Tryz.prog D M l x y {tmps:=args++Array.replicate k undef,defers:=[]} w:=
 ⟨hg,ju,h1,h2,fun e he=>by
  obtain⟨q1,q2⟩:=h e he;show Jk _ _ _ _ ((args++Array.replicate k undef).getD e.1 undef);rw[Uc q1];exact q2⟩
theorem Ri{F:Fence}(hF:Open F)(hro:F.round=none)(n:Nat)(k:Nat){M:Mem}{w:World}{bR bO:Nat}{ws:List js}{i:Int}{o:vn}{r:Option Int}(hg:Good M w)(ju:bR≠bO)(hR:z4d Tryz.prog M w bR TR (ws,i))(hO:z4d Tryz.prog M w bO TO o)(h0:0≤i)(A9:CV ws i=some r):
  CallsIn F n Tryz.prog 199 #[.pointer (some ⟨bR,0,none⟩),.pointer (some ⟨bO,QJ k,none⟩)] w (zr5 bR bO M w ws (Vq k i o r).1 (Vq k i o r).2.1 (Vq k i o r).2.2):=by
 unfold CV at A9;obtain⟨q,hq,A9⟩:=qi.1 A9;simp only[qb]at A9;refine zy (c:=ZW) Tryz.func199 (by kernel_rfl) (hF.fn 199) ?_ hro;obtain⟨a0,Zt⟩:∃a0:Act,a0={tmps := #[.pointer (some ⟨bR,0,none⟩),.pointer (some ⟨bO,QJ k,none⟩)]++Array.replicate (Tryz.f199.ntmps-(#[.pointer (some ⟨bR,0,none⟩),.pointer (some ⟨bO,QJ k,none⟩)]:Array Value).size) undef,defers:=[]}:=⟨_,rfl⟩
 rw[←Zt];have QY:a0.tmps.size=33:=by rw[Zt,Tryz.ntmps199];simp
 have VT:a0.defers=[]:=by rw[Zt]
 have Wt:Two Tryz.prog (wc bR bO) M (Xm k) (ws,i) o a0 w:=by
  rw[Zt];refine tv (D:=wc bR bO) hg ju hR hO fun e he =>?_
  simp only[qF,yb,ka]at he;rcases he with rfl|rfl
  ·exact⟨by show 0<2;omega,.inl ⟨rfl,0,rfl,rfl⟩⟩
  ·exact⟨by show 1<2;omega,.inr ⟨rfl,QJ k,sM k,rfl⟩⟩
 obtain⟨Q,hQ⟩:∃Q:Ending→World→Prop,Q=zr5 bR bO M w ws (Vq k i o r).1 (Vq k i o r).2.1 (Vq k i o r).2.2:=⟨_,rfl⟩
 rw[←hQ];have fin:∀{M':Mem} {a':Act} {w':World} {i':Int} {o':vn} {l':Qi},Two Tryz.prog (wc bR bO) M' l' (ws,i') o' a' w'→Fra [bR,bO] M w M' w'→a'.defers=[]→aZ M' (Vq k i o r).1 (a'.tmps.getD 4 undef)→i'=(Vq k i o r).2.1→o'=(Vq k i o r).2.2→bodyPost Tryz.prog Tryz.f199 Q .ret a' w':=fun hT hf hd hv e1 e2=>by
  subst e1 e2;refine zu (yi (t:=4) (by kernel_rfl) _ _ _) hd ?_;rw[hQ];exact⟨_,_,rfl,hv,hT.good,hf,hT.b1,hT.b2⟩
 rw[yg2];refine zq (Cb vi z26 hF _ (.inr (by kernel_rfl)) (MW bR bO ws i o k) (by rw[QY];kernel_rfl) (by kernel_rfl) (by kernel_rfl) rfl Wt fun M1 a1 w1 HG Z5 =>?_);have XD:=Z5.size.trans QY;have wN:=Z5.defers.trans VT;refine zq ?_;rw[show be = .region 1 (opsOf be) false from by kernel_rfl];refine xO ?_;have Xn:(opsOf be).size=7:=by kernel_rfl
 refine GL (n0:=33) (D:=wc bR bO) z26 hF 0 1 (by rw[yO,zY]) (by rw[Xn];decide) (MU bR bO ws i o k) XD (by kernel_rfl) (by kernel_rfl) (by kernel_rfl) rfl HG fun M2 a2 w2 Zg ZK =>?_
 have VO:=ZK.size.trans XD;have QL:=ZK.defers.trans wN;have QT:=Z5.fra.trans ZK.fra;rw[show List.range' (0+1) ((opsOf be).size-(0+1))=1::List.range' 2 5 from by rw[Xn];rfl,xo];have ed:a2.eval (.tmp 10) = .pointer (some ⟨bR,0,none⟩):=by
  rcases Zg.env (10,.bptr 100 []) (by simp)with⟨_,off,h1,h2⟩|⟨h,_⟩
  ·simp only[jN,qb]at h1;subst h1;exact h2
  ·cases h
 refine Ag hF (o:=Sr) (cc:=KE Sr) (f:=164) (by kernel_rfl) (AG (by kernel_rfl)) (by kernel_rfl) (by kernel_rfl) (enters_of (by kernel_rfl)) (by
  rw[show(KE Sr).args=#[.tmp 10] from by kernel_rfl];simp only[xg,zl,xC];rw[ed];exact mV hF hro (n-1) Zg.good Zg.b1 h0) ?_
 rintro e w3 ⟨M3,rfl,QS,Gj,HF⟩;refine⟨_,rfl,?_⟩;rw[show Sr.dst=some 11 from by kernel_rfl];have DJ:Fra [bR,bO] M2 w2 M3 w3:=Gj.sub (by simp);have Gq:=Zg.call (d:=11) (v :=.tup [.str,.bool] (wo ws i,decide (i<(ws.length:Int)))) (u :=.tuple #[.string (wo ws i),.bool (decide (i<(ws.length:Int)))]) DJ QS HF (Zg.b2.keep Gj (by simp;exact yL ju)) (by rw[VO];decide) ⟨_,rfl,_,_,rfl,Xj.2 rfl,_,rfl,X8.2 rfl⟩ rfl;refine GL (n0:=33) (D:=wc bR bO) z26 hF 2 5 (by rw[Xn]) (by rw[Xn];decide) (d199 bR bO ws i o k (wo ws i) (decide (i<(ws.length:Int)))) ((KZ _ _ _).trans VO) (by kernel_rfl) (by kernel_rfl) (by kernel_rfl) rfl (Gq.sub (by simp)) fun M4 a4 w4 Vk VX =>?_
 have G7:=VX.size.trans ((KZ _ _ _).trans VO);have HC:=VX.defers.trans ((put_defers _ _ _).trans QL);have Gi:=(QT.trans DJ).trans VX.fra;rw[show List.range' (2+5) ((opsOf be).size-(2+5))=[] from by rw[Xn];rfl];show(Code.seq _ _).wpIn F n Tryz.prog _ a4 w4;refine zq (Cb vi fN hF _ (.inr (by kernel_rfl)) ((MH bR bO ws i o k (wo ws i) (decide (i<(ws.length:Int)))).trans (by rw[hq];rfl)) (by rw[G7];kernel_rfl) (by kernel_rfl) (by kernel_rfl) rfl Vk fun M5 a5 w5 WS JS =>?_);have Dr:=JS.size.trans G7;have FV:=JS.defers.trans HC;have S1:=Gi.trans JS.fra;show(Code.seq _ _).wpIn F n Tryz.prog _ a5 w5;refine zq (zq (Cb vi z26 hF _ (.inr (by kernel_rfl)) (f199 bR bO ws i o k q.2 q.1) (by rw[Dr];kernel_rfl) (by kernel_rfl) (by kernel_rfl) rfl WS fun M6 a6 w6 JP KS =>?_));have FN:=KS.size.trans Dr;have DK:=KS.defers.trans FV;have DI:=S1.trans KS.fra;refine xd (X8.1 (JP.env (20,.data .bool (!q.2) []) (by simp)).1) (fun ht =>?_) (fun ht=>jk ?_)
 ·have ht:q.2=false:=by simpa using ht
  rw[ht,qu]at A9;subst A9;refine zq ?_;rw[show bf = .region 4 (opsOf bf) false from by kernel_rfl];refine xO ?_;have VM:(opsOf bf).size=3:=by kernel_rfl
  refine GL (n0:=33) (D:=wc bR bO) z26 hF 0 1 (by rw[yO,zY]) (by rw[VM];decide) (Mz bR bO ws i o k) FN (by kernel_rfl) (by kernel_rfl) (by kernel_rfl) rfl (JP.sub (by simp)) fun M7 a7 w7 YK VW =>?_
  have Es:=VW.size.trans FN;have eJ:=VW.defers.trans DK;have OL:=DI.trans VW.fra;rw[show List.range' (0+1) ((opsOf bf).size-(0+1))=1::List.range' 2 1 from by rw[VM];rfl,xo];have dZ:a7.eval (.tmp 21) = .pointer (some ⟨bR,0,none⟩):=by
   rcases YK.env (21,.bptr 100 []) (by simp)with⟨_,off,h1,h2⟩|⟨h,_⟩
   ·simp only[jN,qb]at h1;subst h1;exact h2
   ·cases h
  refine Ag hF (o:=Sv) (cc:=KE Sv) (f:=165) (by kernel_rfl) (AG (by kernel_rfl)) (by kernel_rfl) (by kernel_rfl) (enters_of (by kernel_rfl)) (by
   rw[show(KE Sv).args=#[.tmp 21] from by kernel_rfl];simp only[xg,zl,xC];rw[dZ];exact ub hF hro (n-1) YK.good YK.b1) ?_
  rintro e w8 ⟨M8,v,rfl,hv,ay,rh,DN⟩;refine⟨_,rfl,?_⟩;rw[show Sv.dst=some 22 from by kernel_rfl];have DH:Fra [bR,bO] M7 w7 M8 w8:=rh.sub (by simp);have BP:=YK.call (d:=22) (v :=.data (.ptr TF) (i,7) []) (u:=v) DH ay DN (YK.b2.keep rh (by simp;exact yL ju)) (by rw[Es];decide) ⟨hv,rfl⟩ rfl;refine GL (n0:=33) (D:=wc bR bO) z26 hF 2 1 (by rw[VM]) (by rw[VM];decide) (Mx bR bO ws i o) ((KZ _ _ _).trans Es) (by kernel_rfl) (by kernel_rfl) (by kernel_rfl) rfl (BP.sub (by simp)) fun M9 a9 w9 DP DQ =>?_
  rw[show List.range' (2+1) ((opsOf bf).size-(2+1))=[] from by rw[VM];rfl];show Code.ret.wpIn F n Tryz.prog _ a9 w9;refine jq ?_;exact fin DP ((OL.trans DH).trans DQ.fra) (DQ.defers.trans ((put_defers _ _ _).trans eJ)) (DP.env (4,.data (.ptr TF) (i,7) []) (by simp)).1 rfl rfl
 ·have ht:q.2=true:=by simpa using ht
  rw[ht,qv]at A9;subst A9;show(cS (cS (cS (cS ZW)))).wpIn F n Tryz.prog _ a6 w6;refine Cb vi z26 hF _ (.inr (by kernel_rfl)) (i199 bR bO ws i o q.1 k) (by rw[FN];kernel_rfl) (by kernel_rfl) (by kernel_rfl) rfl (JP.sub (by simp)) fun M7 a7 w7 YK VW =>?_
  exact fin YK (DI.trans VW.fra) (VW.defers.trans DK) (YK.env (4,.raw (.pointer none)) (by simp)) rfl rfl
noncomputable def c236:Code:=Tryz.f236.body.getD .skip
def fx:Nat→vn→Int
 |0,o=>o.2.1
 |1,o=>o.2.2.1
 |2,o=>o.2.2.2.1
 |3,o=>o.2.2.2.2.1
 |4,o=>o.2.2.2.2.2.1.1
 |5,o=>o.2.2.2.2.2.1.2
 |_,o=>o.2.2.2.2.2.2
abbrev Km(k:Nat)(v:Value):Qi:=[(0,.bptr 100 []),(1,.raw v),(2,.bptr 101 (Gy k))]
noncomputable abbrev CG:Code:=cF (cS c236)
noncomputable abbrev CI:Code:=cF (cS (cS c236))
noncomputable abbrev CJ:Code:=cF (cF (cS (cF (cS (cS (cS c236))))))
section
variable (bR bO:Nat) (ws:List js) (i:Int) (o:vn) (k:Nat) (s:js) (b f:Bool) (n:Int) (v:Value)
theorem a236:vY (cx [] []) (cF c236) .nil (Qc (Km k v) ((wc bR bO).bs (ws,i) o)) (Ea [0,1,2] [])=some (.normal,Km k v,(wc bR bO).bs (ws,i) o):=by kernel_rfl
theorem MS:Q6 (cx [] []) (opsOf CG).toList (List.range' 0 1) (Qc (Km k v) ((wc bR bO).bs (ws,i) o)) [] (KV [0,1,2,12] [])=some (Km k v++[(12,.bptr 100 [])],(wc bR bO).bs (ws,i) o):=by kernel_rfl
theorem d236:Q6 (cx [] []) (opsOf CG).toList (List.range' 2 5) (Qc ((13,.tup [.str,.bool] (s,b))::Km k v) ((wc bR bO).bs (ws,i) o)) [] (KV [0,1,2,7,8] [])=some (Km k v++[(7,.data .str s []),(8,.data .bool b [])],(wc bR bO).bs (ws,i) o):=by kernel_rfl
theorem MG:Q6 (cx [] []) (opsOf CI).toList (List.range' 0 2) (Qc (Km k v++[(7,.data .str s []),(8,.data .bool b [])]) ((wc bR bO).bs (ws,i) o)) [] (KV [0,1,2,8,17,18] [])=some (Km k v++[(8,.data .bool b []),(17,.raw v),(18,.data .str s [])],(wc bR bO).bs (ws,i) o):=by kernel_rfl
theorem f236:Q6 (cx [] []) (opsOf CI).toList (List.range' 3 5) (Qc ((19,.tup [.int .i64,.bool] (n,f))::(Km k v++[(8,.data .bool b [])])) ((wc bR bO).bs (ws,i) o)) [] (KV [0,2,8,9,10] [])=some ([(0,.bptr 100 []),(2,.bptr 101 (Gy k)),(8,.data .bool b []),(9,.data (.int .i64) n []),(10,.data .bool f [])],(wc bR bO).bs (ws,i) o):=by kernel_rfl
theorem My:vY (cx [] []) (cF (cF (cS (cS (cS c236))))) .nil (Qc [(0,.bptr 100 []),(2,.bptr 101 (Gy k)),(8,.data .bool b []),(9,.data (.int .i64) n []),(10,.data .bool f [])] ((wc bR bO).bs (ws,i) o)) (Ea [0,2,9,27] [])=
 some (.normal,[(0,.bptr 100 []),(2,.bptr 101 (Gy k)),(9,.data (.int .i64) n []),(27,.data .bool (bif !b then true else !f) [])],(wc bR bO).bs (ws,i) o):=by kernel_rfl
theorem Mv:Q6 (cx [] []) (opsOf CJ).toList (List.range' 0 1) (Qc [(0,.bptr 100 [])] ((wc bR bO).bs (ws,i) o)) [] (KV [28] [])=some ([(28,.bptr 100 [])],(wc bR bO).bs (ws,i) o):=by kernel_rfl
theorem i236:Q6 (cx [] []) (opsOf CJ).toList (List.range' 2 1) (Qc [(29,.data (.ptr TF) (i,7) [])] ((wc bR bO).bs (ws,i) o)) [] (KV [6] [])=some ([(6,.data (.ptr TF) (i,7) [])],(wc bR bO).bs (ws,i) o):=by kernel_rfl
end
theorem Nw(bR bO:Nat)(ws:List js)(i:Int)(o:vn)(n:Int):∀k,vY (cx [] []) (cS (cS (cS (cS c236)))) .nil (Qc [(0,.bptr 100 []),(2,.bptr 101 (Gy k)),(9,.data (.int .i64) n [])] ((wc bR bO).bs (ws,i) o)) (Ea [6] [])=
 some (.ret,[(6,.raw (.pointer none))],(wc bR bO).bs (ws,jv (i+1)) (Zm k o (jv (fx k o*n))))
 |0=>by kernel_rfl
 |1=>by kernel_rfl
 |2=>by kernel_rfl
 |3=>by kernel_rfl
 |4=>by kernel_rfl
 |5=>by kernel_rfl
 |k+6=>by kernel_rfl
end Go.Lift
namespace Go.Lift
open Go Go.Proofs Go.RowKit
noncomputable def EO(k:Nat)(i:Int)(o:vn):Option Int→Option Int×Int×vn
 |none=>(some i,i,o)
 |some b=>(none,jv (i+1),Zm k o (jv (fx k o*b)))
noncomputable def Ss:Oper:=(opsOf CG).getD 1 default
noncomputable def Su:Oper:=(opsOf CI).getD 2 default
noncomputable def Sw:Oper:=(opsOf CJ).getD 1 default
theorem yg1:c236 = .seq (cF c236) (.seq CG (.seq CI (.seq (.seq (cF (cF (cS (cS (cS c236))))) (.cond (.tmp 27) (.seq CJ .ret) .skip)) (cS (cS (cS (cS c236))))))):=by kernel_rfl
theorem y5m{F:Fence}(hF:Open F)(hro:F.round=none)(n:Nat)(k:Nat){us:List (js×Int)}{g cl:Nat}{es:Array MapEntry}{M:Mem}{w:World}{bR bO:Nat}{ws:List js}{i:Int}{o:vn}(Yf:w.heap[g]?=some (.map es cl))(hrel:XB .str (.int .i64) us es)(hg:Good M w)(ju:bR≠bO)(hR:z4d Tryz.prog M w bR TR (ws,i))(hO:z4d Tryz.prog M w bO TO o)(h0:0≤i):
  CallsIn F n Tryz.prog 236 #[.pointer (some ⟨bR,0,none⟩),.map (some g),.pointer (some ⟨bO,QJ k,none⟩)] w (zr5 bR bO M w ws (EO k i o (WG us ws i)).1 (EO k i o (WG us ws i)).2.1 (EO k i o (WG us ws i)).2.2):=by
 have SZ:g≠bR:=fun e=>by
  obtain⟨⟨jT,E,h,_⟩,_⟩:=hR;rw[e,h]at Yf;cases Yf
 have S0:g≠bO:=fun e=>by
  obtain⟨⟨jT,E,h,_⟩,_⟩:=hO;rw[e,h]at Yf;cases Yf
 have aw:=(qd.1 Yf).1;refine zy (c:=c236) Tryz.func236 (by kernel_rfl) (hF.fn 236) ?_ hro;obtain⟨a0,Zt⟩:∃a0:Act,a0={tmps := #[.pointer (some ⟨bR,0,none⟩),.map (some g),.pointer (some ⟨bO,QJ k,none⟩)]++Array.replicate (Tryz.f236.ntmps-(#[.pointer (some ⟨bR,0,none⟩),.map (some g),.pointer (some ⟨bO,QJ k,none⟩)]:Array Value).size) undef,defers:=[]}:=⟨_,rfl⟩
 rw[←Zt];have QY:a0.tmps.size=43:=by rw[Zt,Tryz.ntmps236];simp
 have VT:a0.defers=[]:=by rw[Zt]
 have Wt:Two Tryz.prog (wc bR bO) M (Km k (.map (some g))) (ws,i) o a0 w:=by
  rw[Zt];refine tv (D:=wc bR bO) hg ju hR hO fun e he =>?_
  simp only[qF,yb,ka]at he;rcases he with rfl|rfl|rfl
  ·exact⟨by show 0<3;omega,.inl ⟨rfl,0,rfl,rfl⟩⟩
  ·exact⟨by show 1<3;omega,rfl⟩
  ·exact⟨by show 2<3;omega,.inr ⟨rfl,QJ k,sM k,rfl⟩⟩
 obtain⟨Q,hQ⟩:∃Q:Ending→World→Prop,Q=zr5 bR bO M w ws (EO k i o (WG us ws i)).1 (EO k i o (WG us ws i)).2.1 (EO k i o (WG us ws i)).2.2:=⟨_,rfl⟩
 rw[←hQ];have fin:∀{M':Mem} {a':Act} {w':World} {i':Int} {o':vn} {l':Qi},Two Tryz.prog (wc bR bO) M' l' (ws,i') o' a' w'→Fra [bR,bO] M w M' w'→a'.defers=[]→aZ M' (EO k i o (WG us ws i)).1 (a'.tmps.getD 6 undef)→i'=(EO k i o (WG us ws i)).2.1→o'=(EO k i o (WG us ws i)).2.2→bodyPost Tryz.prog Tryz.f236 Q .ret a' w':=fun hT hf hd hv e1 e2=>by
  subst e1 e2;refine zu (yi (t:=6) (by kernel_rfl) _ _ _) hd ?_;rw[hQ];exact⟨_,_,rfl,hv,hT.good,hf,hT.b1,hT.b2⟩
 rw[yg1];refine zq (Cb vi z26 hF _ (.inr (by kernel_rfl)) (a236 bR bO ws i o k (.map (some g))) (by rw[QY];kernel_rfl) (by kernel_rfl) (by kernel_rfl) rfl Wt fun M1 a1 w1 HG Z5 =>?_);have XD:=Z5.size.trans QY;have wN:=Z5.defers.trans VT;refine zq ?_;rw[show CG = .region 1 (opsOf CG) false from by kernel_rfl];refine xO ?_;have Xn:(opsOf CG).size=7:=by kernel_rfl
 refine GL (n0:=43) (D:=wc bR bO) z26 hF 0 1 (by rw[yO,zY]) (by rw[Xn];decide) (MS bR bO ws i o k (.map (some g))) XD (by kernel_rfl) (by kernel_rfl) (by kernel_rfl) rfl HG fun M2 a2 w2 Zg ZK =>?_
 have VO:=ZK.size.trans XD;have QL:=ZK.defers.trans wN;have QT:=Z5.fra.trans ZK.fra;rw[show List.range' (0+1) ((opsOf CG).size-(0+1))=1::List.range' 2 5 from by rw[Xn];rfl,xo];have ed:a2.eval (.tmp 12) = .pointer (some ⟨bR,0,none⟩):=by
  rcases Zg.env (12,.bptr 100 []) (by simp)with⟨_,off,h1,h2⟩|⟨h,_⟩
  ·simp only[jN,qb]at h1;subst h1;exact h2
  ·cases h
 refine Ag hF (o:=Ss) (cc:=KE Ss) (f:=164) (by kernel_rfl) (AG (by kernel_rfl)) (by kernel_rfl) (by kernel_rfl) (enters_of (by kernel_rfl)) (by
  rw[show(KE Ss).args=#[.tmp 12] from by kernel_rfl];simp only[xg,zl,xC];rw[ed];exact mV hF hro (n-1) Zg.good Zg.b1 h0) ?_
 rintro e w3 ⟨M3,rfl,QS,Gj,HF⟩;refine⟨_,rfl,?_⟩;rw[show Ss.dst=some 13 from by kernel_rfl];have DJ:Fra [bR,bO] M2 w2 M3 w3:=Gj.sub (by simp);have Gq:=Zg.call (d:=13) (v :=.tup [.str,.bool] (wo ws i,decide (i<(ws.length:Int)))) (u :=.tuple #[.string (wo ws i),.bool (decide (i<(ws.length:Int)))]) DJ QS HF (Zg.b2.keep Gj (by simp;exact yL ju)) (by rw[VO];decide) ⟨_,rfl,_,_,rfl,Xj.2 rfl,_,rfl,X8.2 rfl⟩ rfl;refine GL (n0:=43) (D:=wc bR bO) z26 hF 2 5 (by rw[Xn]) (by rw[Xn];decide) (d236 bR bO ws i o k (wo ws i) (decide (i<(ws.length:Int))) (.map (some g))) ((KZ _ _ _).trans VO) (by kernel_rfl) (by kernel_rfl) (by kernel_rfl) rfl (Gq.sub (by simp)) fun M4 a4 w4 Vk VX =>?_
 have G7:=VX.size.trans ((KZ _ _ _).trans VO);have HC:=VX.defers.trans ((put_defers _ _ _).trans QL);have Gi:=(QT.trans DJ).trans VX.fra;rw[show List.range' (2+5) ((opsOf CG).size-(2+5))=[] from by rw[Xn];rfl];show(Code.seq _ _).wpIn F n Tryz.prog _ a4 w4;refine zq ?_;rw[show CI = .region 2 (opsOf CI) false from by kernel_rfl];refine xO ?_;have Dl:(opsOf CI).size=8:=by kernel_rfl
 refine GL (n0:=43) (D:=wc bR bO) z26 hF 0 2 (by rw[yO,zY]) (by rw[Dl];decide) (MG bR bO ws i o k (wo ws i) (decide (i<(ws.length:Int))) (.map (some g))) G7 (by kernel_rfl) (by kernel_rfl) (by kernel_rfl) rfl Vk fun M5 a5 w5 WS JS =>?_
 have Dr:=JS.size.trans G7;have FV:=JS.defers.trans HC;have S1:=Gi.trans JS.fra;have py:w5.heap[g]?=some (.map es cl):=(S1.block g aw (by simp[SZ,S0])).trans Yf;rw[show List.range' (0+2) ((opsOf CI).size-(0+2))=2::List.range' 3 5 from by rw[Dl];rfl,xo];refine mU (o:=Su) (by kernel_rfl) ?_;rw[AG (by kernel_rfl),qH rfl];refine⟨fun f _=>hF.fn f,?_⟩;have BB:Su.op = .lookup 251 (.tmp 17) (.tmp 18) true:=by kernel_rfl
 rw[jo _ _ _ (fun c' hc=>by rw[BB]at hc;cases hc)];have h17:a5.eval (.tmp 17) = .map (some g):=WS.env (17,.raw (.map (some g))) (by simp);have h18:a5.eval (.tmp 18) = .string (wo ws i):=Xj.1 (WS.env (18,.data .str (wo ws i) []) (by simp)).1;have lA:=y1n (P:=Tryz.prog) (k :=.str) (v :=.int .i64) rfl rfl (T:=251) (by kernel_rfl) py hrel (wo ws i);have jF:(execOp a5.eval Su).run Tryz.prog w5 = .ok (.value (.tuple #[.int .i64 (wK .str (.int .i64) us (wo ws i)),.bool (us.find? fun p=>jO (wo ws i) p.1).isSome])) w5:=by
  simp only[execOp,BB,h17,h18,qy];rw[show(Value.string (wo ws i))=encS .str (wo ws i) from rfl,lA];rfl
 rw[jF,yI,show Su.dst=some 19 from by kernel_rfl];have hTl:=WS.call (d:=19) (v :=.tup [.int .i64,.bool] (wK .str (.int .i64) us (wo ws i),(us.find? fun p=>jO (wo ws i) p.1).isSome)) (u :=.tuple #[.int .i64 (wK .str (.int .i64) us (wo ws i)),.bool (us.find? fun p=>jO (wo ws i) p.1).isSome]) Fra.refl WS.good WS.b1 WS.b2 (by rw[Dr];decide) ⟨_,rfl,_,_,rfl,YX.2 rfl,_,rfl,X8.2 rfl⟩ rfl;refine GL (n0:=43) (D:=wc bR bO) z26 hF 3 5 (by rw[Dl]) (by rw[Dl];decide) (f236 bR bO ws i o k (decide (i<(ws.length:Int))) (us.find? fun p=>jO (wo ws i) p.1).isSome (wK .str (.int .i64) us (wo ws i)) (.map (some g))) ((KZ _ _ _).trans Dr) (by kernel_rfl) (by kernel_rfl) (by kernel_rfl) rfl (hTl.sub (by simp)) fun M5' a5' w5' Mb ff =>?_
 have oZ:=ff.size.trans ((KZ _ _ _).trans Dr);have OR:=ff.defers.trans ((put_defers _ _ _).trans FV);have OM:=S1.trans ff.fra;rw[show List.range' (3+5) ((opsOf CI).size-(3+5))=[] from by rw[Dl];rfl];show(Code.seq _ _).wpIn F n Tryz.prog _ a5' w5';refine zq (zq (Cb vi z26 hF _ (.inr (by kernel_rfl)) (My bR bO ws i o k (decide (i<(ws.length:Int))) (us.find? fun p=>jO (wo ws i) p.1).isSome (wK .str (.int .i64) us (wo ws i))) (by rw[oZ];kernel_rfl) (by kernel_rfl) (by kernel_rfl) rfl Mb fun M6 a6 w6 JP KS =>?_));have FN:=KS.size.trans oZ;have DK:=KS.defers.trans OR;have DI:=OM.trans KS.fra;refine xd (X8.1 (JP.env (27,.data .bool (bif !(decide (i<(ws.length:Int)))then true else !(us.find? fun p=>jO (wo ws i) p.1).isSome) []) (by simp)).1) (fun ht =>?_) (fun ht=>jk ?_)
 ·have NU:WG us ws i=none:=by
   unfold WG SB;by_cases hi:i<(ws.length:Int)
   ·rw[qH hi];rw[yE hi]at ht;cases hfd:us.find? fun p=>jO (wo ws i) p.1 with
    |none=>rfl
    |some p=>rw[hfd]at ht;cases ht
   ·rw[qT hi]
  rw[NU]at fin;refine zq ?_;rw[show CJ = .region 4 (opsOf CJ) false from by kernel_rfl];refine xO ?_;have VM:(opsOf CJ).size=3:=by kernel_rfl
  refine GL (n0:=43) (D:=wc bR bO) z26 hF 0 1 (by rw[yO,zY]) (by rw[VM];decide) (Mv bR bO ws i o) FN (by kernel_rfl) (by kernel_rfl) (by kernel_rfl) rfl (JP.sub (by simp)) fun M7 a7 w7 YK VW =>?_
  have Es:=VW.size.trans FN;have eJ:=VW.defers.trans DK;have OL:=DI.trans VW.fra;rw[show List.range' (0+1) ((opsOf CJ).size-(0+1))=1::List.range' 2 1 from by rw[VM];rfl,xo];have dZ:a7.eval (.tmp 28) = .pointer (some ⟨bR,0,none⟩):=by
   rcases YK.env (28,.bptr 100 []) (by simp)with⟨_,off,h1,h2⟩|⟨h,_⟩
   ·simp only[jN,qb]at h1;subst h1;exact h2
   ·cases h
  refine Ag hF (o:=Sw) (cc:=KE Sw) (f:=165) (by kernel_rfl) (AG (by kernel_rfl)) (by kernel_rfl) (by kernel_rfl) (enters_of (by kernel_rfl)) (by
   rw[show(KE Sw).args=#[.tmp 28] from by kernel_rfl];simp only[xg,zl,xC];rw[dZ];exact ub hF hro (n-1) YK.good YK.b1) ?_
  rintro e w8 ⟨M8,v,rfl,hv,ay,rh,DN⟩;refine⟨_,rfl,?_⟩;rw[show Sw.dst=some 29 from by kernel_rfl];have DH:Fra [bR,bO] M7 w7 M8 w8:=rh.sub (by simp);have BP:=YK.call (d:=29) (v :=.data (.ptr TF) (i,7) []) (u:=v) DH ay DN (YK.b2.keep rh (by simp;exact yL ju)) (by rw[Es];decide) ⟨hv,rfl⟩ rfl;refine GL (n0:=43) (D:=wc bR bO) z26 hF 2 1 (by rw[VM]) (by rw[VM];decide) (i236 bR bO ws i o) ((KZ _ _ _).trans Es) (by kernel_rfl) (by kernel_rfl) (by kernel_rfl) rfl (BP.sub (by simp)) fun M9 a9 w9 DP DQ =>?_
  rw[show List.range' (2+1) ((opsOf CJ).size-(2+1))=[] from by rw[VM];rfl];show Code.ret.wpIn F n Tryz.prog _ a9 w9;refine jq ?_;exact fin DP ((OL.trans DH).trans DQ.fra) (DQ.defers.trans ((put_defers _ _ _).trans eJ)) (DP.env (6,.data (.ptr TF) (i,7) []) (by simp)).1 rfl rfl
 ·have NU:WG us ws i=some (wK .str (.int .i64) us (wo ws i)):=by
   unfold WG SB wK;by_cases hi:i<(ws.length:Int)
   ·rw[qH hi];rw[yE hi]at ht;cases hfd:us.find? fun p=>jO (wo ws i) p.1 with
    |none=>rw[hfd]at ht;cases ht
    |some p=>
     have:us.find? (fun p=>Ty.eqb .str (wo ws i) p.1)=some p:=hfd;rw[this];rfl
   ·rw[xW hi]at ht;cases ht
  rw[NU]at fin;show(cS (cS (cS (cS c236)))).wpIn F n Tryz.prog _ a6 w6;refine Cb vi z26 hF _ (.inr (by kernel_rfl)) (Nw bR bO ws i o (wK .str (.int .i64) us (wo ws i)) k) (by rw[FN];kernel_rfl) (by kernel_rfl) (by kernel_rfl) rfl (JP.sub (by simp)) fun M7 a7 w7 YK VW =>?_
  exact fin YK (DI.trans VW.fra) (VW.defers.trans DK) (YK.env (6,.raw (.pointer none)) (by simp)) rfl rfl
end Go.Lift
