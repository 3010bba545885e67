/-
  The reader of words: clauses.
-/
import Derived.Test.YtggnjngdmadbaaaGreatDoorManE
set_option maxRecDepth 100000
set_option maxHeartbeats 4000000
set_option linter.all false
namespace Go.Lift
open Go Go.Proofs Go.RowKit
def D6:Option Int→AVal
 |none =>.raw (.pointer none)
 |some j =>.data (.ptr TF) (j,7) []
theorem LO{D:zyi}{M:Mem}{r:Option Int}{v:Value}(h:aZ M r v):Jk Tryz.prog D M (D6 r) v:=by
 cases r with
 |none=>exact h
 |some j=>exact⟨h,rfl⟩
theorem y0k{D:zyi}{M:Mem}{r:Option Int}{v:Value}(h:Jk Tryz.prog D M (D6 r) v):aZ M r v:=by
 cases r with
 |none=>exact h
 |some j=>exact h.1
abbrev AY:Qi:=[(0,.bptr 100 []),(1,.bptr 101 [])]
def Tr(f:FuncId)(run:List js→Int→vn→Option (Option Int×Int×vn)):Prop:=
 ∀{F:Fence} (_:Open F) (_:F.round=none) (n:Nat) {M:Mem} {w:World} {bR bO:Nat} {ws:List js} {i:Int} {o:vn} {r:Option Int×Int×vn},Good M w→bR≠bO→z4d Tryz.prog M w bR TR (ws,i)→z4d Tryz.prog M w bO TO o→0≤i→run ws i o=some r→
  CallsIn F n Tryz.prog f #[.pointer (some ⟨bR,0,none⟩),.pointer (some ⟨bO,0,none⟩)] w (zr5 bR bO M w ws r.1 r.2.1 r.2.2)
noncomputable def Ei(k:Nat)(ws:List js)(i:Int)(o:vn):Option (Option Int×Int×vn):=(CV ws i).bind fun r=>some (Vq k i o r)
noncomputable def c198:Code:=Tryz.f198.body.getD .skip
noncomputable abbrev XV:Code:=cF (cS c198)
noncomputable def Bq:Oper:=(opsOf XV).getD 4 default
section
variable (bR bO:Nat) (ws:List js) (i:Int) (o:vn) (j:Int)
theorem a198:vY (cx [] []) (cF c198) .nil (Qc AY ((wc bR bO).bs (ws,i) o)) (Ea [0,1] [])=some (.normal,AY,(wc bR bO).bs (ws,i) o):=by kernel_rfl
theorem MV:Q6 (cx [] []) (opsOf XV).toList (List.range' 0 4) (Qc AY ((wc bR bO).bs (ws,i) o)) [] (KV [5,8] [])=some ([(5,.bptr 100 []),(8,.bptr 101 (Gy 0))],(wc bR bO).bs (ws,i) o):=by kernel_rfl
theorem n198:Q6 (cx [] []) (opsOf XV).toList (List.range' 5 1) (Qc [(9,.raw (.pointer none))] ((wc bR bO).bs (ws,i) o)) [] (KV [4] [])=some ([(4,.raw (.pointer none))],(wc bR bO).bs (ws,i) o):=by kernel_rfl
theorem Np:Q6 (cx [] []) (opsOf XV).toList (List.range' 5 1) (Qc [(9,.data (.ptr TF) (j,7) [])] ((wc bR bO).bs (ws,i) o)) [] (KV [4] [])=some ([(4,.data (.ptr TF) (j,7) [])],(wc bR bO).bs (ws,i) o):=by kernel_rfl
theorem v198(r:Option Int):Q6 (cx [] []) (opsOf XV).toList (List.range' 5 1) (Qc [(9,D6 r)] ((wc bR bO).bs (ws,i) o)) [] (KV [4] [])=some ([(4,D6 r)],(wc bR bO).bs (ws,i) o):=by
 cases r with
 |none=>exact n198 bR bO ws i o
 |some j=>exact Np bR bO ws i o j
end
theorem yam:Tr 198 (Ei 0):=by
 intro F hF hro n M w bR bO ws i o r hg ju hR hO h0 jF;unfold Ei at jF;obtain⟨q,hq,jF⟩:=qi.1 jF;simp only[qb]at jF;subst jF;refine zy (c:=c198) Tryz.func198 (by kernel_rfl) (hF.fn 198) ?_ hro;obtain⟨a0,Zt⟩:∃a0:Act,a0={tmps := #[.pointer (some ⟨bR,0,none⟩),.pointer (some ⟨bO,0,none⟩)]++Array.replicate (Tryz.f198.ntmps-(#[.pointer (some ⟨bR,0,none⟩),.pointer (some ⟨bO,0,none⟩)]:Array Value).size) undef,defers:=[]}:=⟨_,rfl⟩
 rw[←Zt];have QY:a0.tmps.size=10:=by rw[Zt,Tryz.ntmps198];simp
 have VT:a0.defers=[]:=by rw[Zt]
 have Wt:Two Tryz.prog (wc bR bO) M AY (ws,i) o a0 w:=by
  rw[Zt];refine tv (D:=wc bR bO) hg ju hR hO fun e he =>?_
  simp only[qF,yb,ka]at he;rcases he with rfl|rfl
  ·exact⟨by show 0<2;omega,.inl ⟨rfl,0,rfl,rfl⟩⟩
  ·exact⟨by show 1<2;omega,.inr ⟨rfl,0,rfl,rfl⟩⟩
 rw[show c198 = .seq (cF c198) (.seq XV .ret) from by kernel_rfl];refine zq (Cb vi z26 hF _ (.inr (by kernel_rfl)) (a198 bR bO ws i o) (by rw[QY];kernel_rfl) (by kernel_rfl) (by kernel_rfl) rfl Wt fun M1 a1 w1 HG Z5 =>?_);have XD:=Z5.size.trans QY;have wN:=Z5.defers.trans VT;show(Code.seq XV .ret).wpIn F n Tryz.prog _ a1 w1;refine zq ?_;rw[show XV = .region 1 (opsOf XV) false from by kernel_rfl];refine xO ?_;have vQ:(opsOf XV).size=6:=by kernel_rfl
 refine GL (n0:=10) (D:=wc bR bO) z26 hF 0 4 (by rw[yO,zY]) (by rw[vQ];decide) (MV bR bO ws i o) XD (by kernel_rfl) (by kernel_rfl) (by kernel_rfl) rfl HG fun M2 a2 w2 Zg ZK =>?_
 have VO:=ZK.size.trans XD;have QL:=ZK.defers.trans wN;have QT:=Z5.fra.trans ZK.fra;rw[show List.range' (0+4) ((opsOf XV).size-(0+4))=4::List.range' 5 1 from by rw[vQ];rfl,xo];have NY:a2.eval (.tmp 5) = .pointer (some ⟨bR,0,none⟩):=by
  rcases Zg.env (5,.bptr 100 []) (by simp)with⟨_,off,h1,h2⟩|⟨h,_⟩
  ·simp only[jN,qb]at h1;subst h1;exact h2
  ·cases h
 have NX:a2.eval (.tmp 8) = .pointer (some ⟨bO,QJ 0,none⟩):=by
  rcases Zg.env (8,.bptr 101 (Gy 0)) (by simp)with⟨h,_⟩|⟨_,off,h1,h2⟩
  ·cases h
  ·rw[show jN (wc bR bO).t2 (Gy 0)=some (QJ 0) from sM 0]at h1;cases h1;exact h2
 refine Ag hF (o:=Bq) (cc:=KE Bq) (f:=199) (by kernel_rfl) (AG (by kernel_rfl)) (by kernel_rfl) (by kernel_rfl) (enters_of (by kernel_rfl)) (by
  rw[show(KE Bq).args=#[.tmp 5,.tmp 8] from by kernel_rfl];simp only[xg,zl,xC];rw[NY,NX];exact Ri hF hro (n-1) 0 Zg.good ju Zg.b1 Zg.b2 h0 hq) ?_
 rintro e w3 ⟨M3,v,rfl,hv,QS,Gj,HF,pn⟩;refine⟨_,rfl,?_⟩;rw[show Bq.dst=some 9 from by kernel_rfl];have Gq:=Zg.call (d:=9) (v:=D6 (Vq 0 i o q).1) (u:=v) Gj QS HF pn (by rw[VO];decide) (LO hv) rfl;refine GL (n0:=10) (D:=wc bR bO) z26 hF 5 1 (by rw[vQ]) (by rw[vQ];decide) (v198 bR bO ws (Vq 0 i o q).2.1 (Vq 0 i o q).2.2 (Vq 0 i o q).1) ((KZ _ _ _).trans VO) (by kernel_rfl) (by kernel_rfl) (by kernel_rfl) (by cases(Vq 0 i o q).1<;>rfl) (Gq.sub (by simp)) fun M4 a4 w4 Vk VX =>?_
 rw[show List.range' (5+1) ((opsOf XV).size-(5+1))=[] from by rw[vQ];rfl];show Code.ret.wpIn F n Tryz.prog _ a4 w4;refine jq ?_;refine zu (yi (t:=4) (by kernel_rfl) _ _ _) (VX.defers.trans ((put_defers _ _ _).trans QL)) ?_;exact⟨M4,_,rfl,y0k (Vk.env (4,D6 (Vq 0 i o q).1) (by simp)),Vk.good,(QT.trans Gj).trans VX.fra,Vk.b1,Vk.b2⟩
noncomputable def c208:Code:=Tryz.f208.body.getD .skip
noncomputable abbrev XU:Code:=cF (cS c208)
noncomputable def Bp:Oper:=(opsOf XU).getD 4 default
section
variable (bR bO:Nat) (ws:List js) (i:Int) (o:vn) (j:Int)
theorem a208:vY (cx [] []) (cF c208) .nil (Qc AY ((wc bR bO).bs (ws,i) o)) (Ea [0,1] [])=some (.normal,AY,(wc bR bO).bs (ws,i) o):=by kernel_rfl
theorem MT:Q6 (cx [] []) (opsOf XU).toList (List.range' 0 4) (Qc AY ((wc bR bO).bs (ws,i) o)) [] (KV [5,8] [])=some ([(5,.bptr 100 []),(8,.bptr 101 (Gy 6))],(wc bR bO).bs (ws,i) o):=by kernel_rfl
theorem n208:Q6 (cx [] []) (opsOf XU).toList (List.range' 5 1) (Qc [(9,.raw (.pointer none))] ((wc bR bO).bs (ws,i) o)) [] (KV [4] [])=some ([(4,.raw (.pointer none))],(wc bR bO).bs (ws,i) o):=by kernel_rfl
theorem No:Q6 (cx [] []) (opsOf XU).toList (List.range' 5 1) (Qc [(9,.data (.ptr TF) (j,7) [])] ((wc bR bO).bs (ws,i) o)) [] (KV [4] [])=some ([(4,.data (.ptr TF) (j,7) [])],(wc bR bO).bs (ws,i) o):=by kernel_rfl
theorem v208(r:Option Int):Q6 (cx [] []) (opsOf XU).toList (List.range' 5 1) (Qc [(9,D6 r)] ((wc bR bO).bs (ws,i) o)) [] (KV [4] [])=some ([(4,D6 r)],(wc bR bO).bs (ws,i) o):=by
 cases r with
 |none=>exact n208 bR bO ws i o
 |some j=>exact No bR bO ws i o j
end
theorem yal:Tr 208 (Ei 6):=by
 intro F hF hro n M w bR bO ws i o r hg ju hR hO h0 jF;unfold Ei at jF;obtain⟨q,hq,jF⟩:=qi.1 jF;simp only[qb]at jF;subst jF;refine zy (c:=c208) Tryz.func208 (by kernel_rfl) (hF.fn 208) ?_ hro;obtain⟨a0,Zt⟩:∃a0:Act,a0={tmps := #[.pointer (some ⟨bR,0,none⟩),.pointer (some ⟨bO,0,none⟩)]++Array.replicate (Tryz.f208.ntmps-(#[.pointer (some ⟨bR,0,none⟩),.pointer (some ⟨bO,0,none⟩)]:Array Value).size) undef,defers:=[]}:=⟨_,rfl⟩
 rw[←Zt];have QY:a0.tmps.size=10:=by rw[Zt,Tryz.ntmps208];simp
 have VT:a0.defers=[]:=by rw[Zt]
 have Wt:Two Tryz.prog (wc bR bO) M AY (ws,i) o a0 w:=by
  rw[Zt];refine tv (D:=wc bR bO) hg ju hR hO fun e he =>?_
  simp only[qF,yb,ka]at he;rcases he with rfl|rfl
  ·exact⟨by show 0<2;omega,.inl ⟨rfl,0,rfl,rfl⟩⟩
  ·exact⟨by show 1<2;omega,.inr ⟨rfl,0,rfl,rfl⟩⟩
 rw[show c208 = .seq (cF c208) (.seq XU .ret) from by kernel_rfl];refine zq (Cb vi z26 hF _ (.inr (by kernel_rfl)) (a208 bR bO ws i o) (by rw[QY];kernel_rfl) (by kernel_rfl) (by kernel_rfl) rfl Wt fun M1 a1 w1 HG Z5 =>?_);have XD:=Z5.size.trans QY;have wN:=Z5.defers.trans VT;show(Code.seq XU .ret).wpIn F n Tryz.prog _ a1 w1;refine zq ?_;rw[show XU = .region 1 (opsOf XU) false from by kernel_rfl];refine xO ?_;have vQ:(opsOf XU).size=6:=by kernel_rfl
 refine GL (n0:=10) (D:=wc bR bO) z26 hF 0 4 (by rw[yO,zY]) (by rw[vQ];decide) (MT bR bO ws i o) XD (by kernel_rfl) (by kernel_rfl) (by kernel_rfl) rfl HG fun M2 a2 w2 Zg ZK =>?_
 have VO:=ZK.size.trans XD;have QL:=ZK.defers.trans wN;have QT:=Z5.fra.trans ZK.fra;rw[show List.range' (0+4) ((opsOf XU).size-(0+4))=4::List.range' 5 1 from by rw[vQ];rfl,xo];have NY:a2.eval (.tmp 5) = .pointer (some ⟨bR,0,none⟩):=by
  rcases Zg.env (5,.bptr 100 []) (by simp)with⟨_,off,h1,h2⟩|⟨h,_⟩
  ·simp only[jN,qb]at h1;subst h1;exact h2
  ·cases h
 have NX:a2.eval (.tmp 8) = .pointer (some ⟨bO,QJ 6,none⟩):=by
  rcases Zg.env (8,.bptr 101 (Gy 6)) (by simp)with⟨h,_⟩|⟨_,off,h1,h2⟩
  ·cases h
  ·rw[show jN (wc bR bO).t2 (Gy 6)=some (QJ 6) from sM 6]at h1;cases h1;exact h2
 refine Ag hF (o:=Bp) (cc:=KE Bp) (f:=199) (by kernel_rfl) (AG (by kernel_rfl)) (by kernel_rfl) (by kernel_rfl) (enters_of (by kernel_rfl)) (by
  rw[show(KE Bp).args=#[.tmp 5,.tmp 8] from by kernel_rfl];simp only[xg,zl,xC];rw[NY,NX];exact Ri hF hro (n-1) 6 Zg.good ju Zg.b1 Zg.b2 h0 hq) ?_
 rintro e w3 ⟨M3,v,rfl,hv,QS,Gj,HF,pn⟩;refine⟨_,rfl,?_⟩;rw[show Bp.dst=some 9 from by kernel_rfl];have Gq:=Zg.call (d:=9) (v:=D6 (Vq 6 i o q).1) (u:=v) Gj QS HF pn (by rw[VO];decide) (LO hv) rfl;refine GL (n0:=10) (D:=wc bR bO) z26 hF 5 1 (by rw[vQ]) (by rw[vQ];decide) (v208 bR bO ws (Vq 6 i o q).2.1 (Vq 6 i o q).2.2 (Vq 6 i o q).1) ((KZ _ _ _).trans VO) (by kernel_rfl) (by kernel_rfl) (by kernel_rfl) (by cases(Vq 6 i o q).1<;>rfl) (Gq.sub (by simp)) fun M4 a4 w4 Vk VX =>?_
 rw[show List.range' (5+1) ((opsOf XU).size-(5+1))=[] from by rw[vQ];rfl];show Code.ret.wpIn F n Tryz.prog _ a4 w4;refine jq ?_;refine zu (yi (t:=4) (by kernel_rfl) _ _ _) (VX.defers.trans ((put_defers _ _ _).trans QL)) ?_;exact⟨M4,_,rfl,y0k (Vk.env (4,D6 (Vq 6 i o q).1) (by simp)),Vk.good,(QT.trans Gj).trans VX.fra,Vk.b1,Vk.b2⟩
end Go.Lift
namespace Go.Lift
open Go Go.Proofs Go.RowKit
attribute [local go_sem] Oper.semAt_some
abbrev KB:=List js→Int→vn→Option (Option Int×Int×vn)
noncomputable def gD(r1 r2:KB):KB:=fun ws i o=>(r1 ws i o).bind fun q=>match q.1 with
 |some j=>some (some j,q.2)
 |none=>bif decide (0≤q.2.1)then r2 ws q.2.1 q.2.2 else none
noncomputable def sP(us:List (js×Int))(k:Nat):KB:=fun ws i o=>some (EO k i o (WG us ws i))
noncomputable def J9(us:List (js×Int))(k:Nat):KB:=gD (Ei k) (sP us k)
def gk(bR bO:Nat)(M0:Mem)(mp:Option (Nat×Obj))(v:Value)(run:KB):Prop:=
 ∃ f caps,v = .func (.func f) #[] caps∧(∀args w,(callFunc f args).run Tryz.prog w = .ok (.enter f args) w)∧
  ∀{F:Fence} (_:Open F) (_:F.round=none) (n:Nat) {M:Mem} {w:World} {ws:List js} {i:Int} {o:vn} {r:Option Int×Int×vn},Mem.le M0 M→(∀g ob,mp=some (g,ob)→w.heap[g]?=some ob)→Good M w→z4d Tryz.prog M w bR TR (ws,i)→z4d Tryz.prog M w bO TO o→0≤i→run ws i o=some r→
   CallsIn F n Tryz.prog f caps w (zr5 bR bO M w ws r.1 r.2.1 r.2.2)
theorem zr5.trans{bR bO:Nat}{M:Mem}{w:World}{M':Mem}{w1:World}{ws:List js}{r:Option Int}{i':Int}{o':vn}{e:Ending}{w':World}(hF:Fra [bR,bO] M w M' w1)(h:zr5 bR bO M' w1 ws r i' o' e w'):zr5 bR bO M w ws r i' o' e w':=by
 obtain⟨M2,v,h1,h2,h3,h4,h5,h6⟩:=h;exact⟨M2,v,h1,h2,h3,hF.trans h4,h5,h6⟩
theorem UX{M:Mem}{r:Option Int}{v:Value}(h:aZ M r v):(r=none∧v = .pointer none)∨∃j b off,r=some j∧v = .pointer (some ⟨b,off,none⟩):=by
 cases r with
 |none=>exact .inl ⟨rfl,h⟩
 |some j=>
  obtain⟨b,off,cells,h1,_⟩:jB Tryz.prog (.ptr TF) M (j,7) [v]:=h;simp only[qM,zA]at h1;exact .inr ⟨j,b,off,rfl,h1⟩
def K4:Value→Int
 |.int _ n=>n
 |_=>0
theorem y14{F:Fence}(hF:Open F)(hro:F.round=none)(n:Nat){M0:Mem}{mp:Option (Nat×Obj)}{gs cap:Nat}{v1 v2:Value}{r1 r2:KB}{M:Mem}{w:World}{bR bO:Nat}{ws:List js}{i:Int}{o:vn}{r:Option Int×Int×vn}
  (h1:gk bR bO M0 mp v1 r1) (h2:gk bR bO M0 mp v2 r2) (m1:M0 gs 0=some v1) (m2:M0 gs 1=some v2) (jL:Mem.le M0 M) (Fa:∀g ob,mp=some (g,ob)→w.heap[g]?=some ob) (Og:∀g ob,mp=some (g,ob)→g≠bR∧g≠bO)
  (hg:Good M w) (ju:bR≠bO) (hR:z4d Tryz.prog M w bR TR (ws,i)) (hO:z4d Tryz.prog M w bO TO o) (h0:0≤i) (jF:gD r1 r2 ws i o=some r):
  CallsIn F n Tryz.prog 205 #[.slice (some ⟨gs,0,none⟩) 2 cap] w (zr5 bR bO M w ws r.1 r.2.1 r.2.2):=by
 have wM:∀k:Nat,(F.depth.isSome=true→1≤k):=fun k h=>by rw[hF.depth]at h;cases h
 unfold gD at jF;obtain⟨q,hq,Ds⟩:=qi.1 jF;clear jF;obtain⟨f1,aP,rfl,Yt,h1⟩:=h1;obtain⟨f2,sy,rfl,Vj,h2⟩:=h2;have k1:w.cell? ⟨gs,0,none⟩=some (.func (.func f1) #[] aP):=hg.2 _ _ _ (jL _ _ _ m1);have c1:=h1 hF hro (n-1) jL Fa hg hR hO h0 hq;refine zy Tryz.func205 rfl (hF.fn 205) ?_ hro;simp only[Tryz.ntmps205,qJ,qk,qR,Nat.reduceAdd,Nat.reduceSub,zj,zk,zw,zo,qP,qS];gi_wp2
 gi_loopw [8] (fun p wr=>∃(k:Nat) (Mk:Mem) (ik:Int) (ok:vn),p = .int .i64 (k:Int)∧k≤2∧Good Mk wr∧Fra [bR,bO] M w Mk wr∧z4d Tryz.prog Mk wr bR TR (ws,ik)∧z4d Tryz.prog Mk wr bO TO ok∧(k≤1→0≤ik)∧
   ((k=0∧ik=i∧ok=o)∨(k=1∧r2 ws ik ok=some r)∨(k=2∧r=(none,ik,ok))))
  (fun p wr=>(3-K4 p).toNat)
 case atStart=>
  exact⟨0,M,i,o,rfl,by omega,hg,Fra.refl,hR,hO,fun _=>h0,.inl ⟨rfl,rfl,rfl⟩⟩
 case round=>
  obtain⟨k,Mk,ik,ok,rfl,VR,Wq,YJ,rW,Mi,Qa,Za⟩:=hrel;have BD:Mem.le M0 Mk:=Mem.le_trans jL YJ.le;have pv:∀g ob,mp=some (g,ob)→wr.heap[g]?=some ob:=fun g ob hm=>by
   have h:=Fa g ob hm;have hn:=Og g ob hm;exact(YJ.block g (qd.1 h).1 (by simp[hn.1,hn.2])).trans h
  rcases Za with⟨rfl,rfl,rfl⟩|⟨rfl,Wj⟩|⟨rfl,rfl⟩
  ·have kc:wr.cell? ⟨gs,0,none⟩=some (.func (.func f1) #[] aP):=Wq.2 _ _ _ (BD _ _ _ m1);have cc:=h1 hF hro (n-1) BD pv Wq rW Mi (Qa (by omega)) hq;clear c1 k1;gi_wp2_with (refine⟨hF.fn _,wM _,cc.mono ?_⟩;clear cc;rintro e W2 ⟨M2,v,rfl,hv,wE,QT,QU,Ze⟩)
   rcases UX hv with⟨Kd,rfl⟩|⟨j,b,off,Kd,rfl⟩
   ·rw[Kd]at Ds;cases hc:decide (0≤q.2.1)with
    |false=>rw[hc]at Ds;cases Ds
    |true=>
    rw[hc]at Ds;gi_wp2
    refine⟨⟨1,M2,_,_,by simp,by omega,wE,YJ.trans QT,QU,Ze,fun _=>xI hc,.inr (.inl ⟨rfl,Ds⟩)⟩,?_⟩;simp only[K4];omega
   ·rw[Kd]at Ds;simp only[qb]at Ds;subst Ds;rw[Kd]at hv;gi_wp2
    refine zu (yi (t:=2) rfl _ _ _) rfl ?_;exact⟨M2,_,rfl,hv,wE,YJ.trans QT,QU,Ze⟩
  ·have kc:wr.cell? ⟨gs,1,none⟩=some (.func (.func f2) #[] sy):=Wq.2 _ _ _ (BD _ _ _ m2);have cc:=(h2 hF hro (n-1) BD pv Wq rW Mi (Qa (by omega)) Wj).mono (R':=fun e W2=>(e = .returned (.pointer none)∧∃M2,r.1=none∧Good M2 W2∧Fra [bR,bO] Mk wr M2 W2∧z4d Tryz.prog M2 W2 bR TR (ws,r.2.1)∧z4d Tryz.prog M2 W2 bO TO r.2.2)∨
    ∃b off,e = .returned (.pointer (some ⟨b,off,none⟩))∧∃M2,aZ M2 r.1 (.pointer (some ⟨b,off,none⟩))∧Good M2 W2∧Fra [bR,bO] Mk wr M2 W2∧z4d Tryz.prog M2 W2 bR TR (ws,r.2.1)∧z4d Tryz.prog M2 W2 bO TO r.2.2) (by
     rintro e W2 ⟨M2,v,rfl,hv,wE,QT,QU,Ze⟩;rcases UX hv with⟨Kd,rfl⟩|⟨j,b,off,Kd,rfl⟩
     ·exact .inl ⟨rfl,M2,Kd,wE,QT,QU,Ze⟩
     ·exact .inr ⟨b,off,rfl,M2,hv,wE,QT,QU,Ze⟩)
   clear c1 k1;gi_wp2_with (refine⟨hF.fn _,wM _,cc.mono ?_⟩;clear cc;rintro e W2 (⟨rfl,M2,Kd,wE,QT,QU,Ze⟩|⟨b,off,rfl,M2,hv,wE,QT,QU,Ze⟩))
   ·skip
    refine⟨⟨2,M2,_,_,by simp,by omega,wE,YJ.trans QT,QU,Ze,fun h=>by omega,.inr (.inr ⟨rfl,?_⟩)⟩,?_⟩
    ·rw[←Kd]
    ·simp only[K4];omega
   ·refine zu (yi (t:=2) rfl _ _ _) rfl ?_;exact⟨M2,_,rfl,hv,wE,YJ.trans QT,QU,Ze⟩
  ·gi_wp2
   refine zu (yi (t:=2) rfl _ _ _) rfl ?_;exact⟨Mk,_,rfl,rfl,Wq,YJ,rW,Mi⟩
end Go.Lift
namespace Go.Lift
open Go Go.Proofs Go.RowKit
attribute [local go_sem] Oper.semAt_some
def Zi(M:Mem)(B:Nat)(cs:List Value):Mem:=fun b o=>if b=B then cs[o]? else M b o
theorem Fz{M:Mem}{B:Nat}{cs:List Value}(o:Nat):Zi M B cs B o=cs[o]?:=qH rfl
theorem GO{M:Mem}{w:World}{cs:Array Value}{T:TypeId}(hg:Good M w):Good (Zi M w.heap.size cs.toList) (w.alloc (.cells cs T))∧vm M w (Zi M w.heap.size cs.toList) (w.alloc (.cells cs T))∧Mem.le M (Zi M w.heap.size cs.toList):=by
 have hb:Below w.heap.size w (w.alloc (.cells cs T)):=(qN _ w).alloc (ql _) _;have Ys:∀o,M w.heap.size o=none:=fun o=>W9 hg (ql _) o
 have jL:Mem.le M (Zi M w.heap.size cs.toList):=fun b o u hu=>by
  unfold Zi;by_cases e:b=w.heap.size
  ·subst e;rw[Ys]at hu;cases hu
  ·rw[qT e];exact hu
 have Yg:=Zu hg hb;refine⟨⟨wB.keep jL (zb7.refl _) Yg.1,fun b o u hu =>?_⟩,⟨hb,fun b hlt =>?_⟩,jL⟩
 ·unfold Zi at hu;split at hu
  ·rename_i e;subst e;rw[GN (qz w (.cells cs T))];simpa using hu
  ·exact Yg.2 b o u hu
 ·funext o;unfold Zi;rw[qT (by omega)]
theorem yem{bR bO g3 g5 k:Nat}{M0:Mem}(ju:bR≠bO)(m3:M0 g3 0=some (.pointer (some ⟨bR,0,none⟩)))(m5:M0 g5 0=some (.pointer (some ⟨bO,QJ k,none⟩)))(mp:Option (Nat×Obj)):
  gk bR bO M0 mp (.func (.func 234) #[] #[.pointer (some ⟨g3,0,none⟩),.pointer (some ⟨g5,0,none⟩)]) (Ei k):=by
 refine⟨234,_,rfl,zV Tryz.func234 (by kernel_rfl) rfl,?_⟩;intro F hF hro n M w ws i o r jL Fa hg hR hO h0 jF;have wM:∀k:Nat,(F.depth.isSome=true→1≤k):=fun k h=>by rw[hF.depth]at h;cases h
 unfold Ei at jF;obtain⟨q,hq,Ds⟩:=qi.1 jF;simp only[qb]at Ds;subst Ds;have k3:w.cell? ⟨g3,0,none⟩=some (.pointer (some ⟨bR,0,none⟩)):=hg.2 _ _ _ (jL _ _ _ m3);have k5:w.cell? ⟨g5,0,none⟩=some (.pointer (some ⟨bO,QJ k,none⟩)):=hg.2 _ _ _ (jL _ _ _ m5);have cc:=Ri hF hro (n-1) k hg ju hR hO h0 hq;refine zy Tryz.func234 rfl (hF.fn 234) ?_ hro;simp only[Tryz.ntmps234,qJ,qk,qR,Nat.reduceAdd,Nat.reduceSub,zj,zk,zw,zo,qP,qS];gi_wp2_with ((try refine⟨hF.fn _,?_⟩);(try refine⟨wM _,?_⟩);gi_at_call 199;refine cc.mono ?_;clear cc;rintro e W2 ⟨M2,v,rfl,hv,wE,QT,QU,Ze⟩)
 refine zu (yi (t:=2) rfl _ _ _) rfl ?_;exact⟨M2,_,rfl,hv,wE,QT,QU,Ze⟩
theorem yel{bR bO g3 g4 g5 k gm cl:Nat}{es:Array MapEntry}{us:List (js×Int)}{M0:Mem}(ju:bR≠bO)(hrel:XB .str (.int .i64) us es)(m3:M0 g3 0=some (.pointer (some ⟨bR,0,none⟩)))(m4:M0 g4 0=some (.map (some gm)))(m5:M0 g5 0=some (.pointer (some ⟨bO,QJ k,none⟩))):
  gk bR bO M0 (some (gm,.map es cl)) (.func (.func 235) #[] #[.pointer (some ⟨g3,0,none⟩),.pointer (some ⟨g4,0,none⟩),.pointer (some ⟨g5,0,none⟩)]) (sP us k):=by
 refine⟨235,_,rfl,zV Tryz.func235 (by kernel_rfl) rfl,?_⟩;intro F hF hro n M w ws i o r jL Fa hg hR hO h0 jF;have wM:∀k:Nat,(F.depth.isSome=true→1≤k):=fun k h=>by rw[hF.depth]at h;cases h
 unfold sP at jF;simp only[qb]at jF;subst jF;have k3:w.cell? ⟨g3,0,none⟩=some (.pointer (some ⟨bR,0,none⟩)):=hg.2 _ _ _ (jL _ _ _ m3);have k4:w.cell? ⟨g4,0,none⟩=some (.map (some gm)):=hg.2 _ _ _ (jL _ _ _ m4);have k5:w.cell? ⟨g5,0,none⟩=some (.pointer (some ⟨bO,QJ k,none⟩)):=hg.2 _ _ _ (jL _ _ _ m5);have cc:=y5m hF hro (n-1) k (Fa gm _ rfl) hrel hg ju hR hO h0;refine zy Tryz.func235 rfl (hF.fn 235) ?_ hro;simp only[Tryz.ntmps235,qJ,qk,qR,Nat.reduceAdd,Nat.reduceSub,zj,zk,zw,zo,qP,qS];gi_wp2_with ((try refine⟨hF.fn _,?_⟩);(try refine⟨wM _,?_⟩);gi_at_call 236;refine cc.mono ?_;clear cc;rintro e W2 ⟨M2,v,rfl,hv,wE,QT,QU,Ze⟩)
 refine zu (yi (t:=3) rfl _ _ _) rfl ?_;exact⟨M2,_,rfl,hv,wE,QT,QU,Ze⟩
theorem nu{F:Fence}(hF:Open F)(hro:F.round=none)(n k:Nat){us:List (js×Int)}{gm cl:Nat}{es:Array MapEntry}{M:Mem}{w:World}{bR bO:Nat}{ws:List js}{i:Int}{o:vn}{r:Option Int×Int×vn}(Yf:w.heap[gm]?=some (.map es cl))(hrel:XB .str (.int .i64) us es)(hg:Good M w)(ju:bR≠bO)(hR:z4d Tryz.prog M w bR TR (ws,i))(hO:z4d Tryz.prog M w bO TO o)(h0:0≤i)(jF:J9 us k ws i o=some r):
  CallsIn F n Tryz.prog 201 #[.pointer (some ⟨bR,0,none⟩),.map (some gm),.pointer (some ⟨bO,QJ k,none⟩)] w (zr5 bR bO M w ws r.1 r.2.1 r.2.2):=by
 have wM:∀k:Nat,(F.depth.isSome=true→1≤k):=fun k h=>by rw[hF.depth]at h;cases h
 have SZ:gm≠bR:=fun e=>by
  obtain⟨⟨jT,E,h,_⟩,_⟩:=hR;rw[e,h]at Yf;cases Yf
 have S0:gm≠bO:=fun e=>by
  obtain⟨⟨jT,E,h,_⟩,_⟩:=hO;rw[e,h]at Yf;cases Yf
 obtain⟨w1,v6⟩:∃w1,w.alloc (.cells #[.pointer (some ⟨bR,0,none⟩)] 163)=w1:=⟨_,rfl⟩
 obtain⟨w2,Yc⟩:∃w2,w1.alloc (.cells #[.map (some gm)] 251)=w2:=⟨_,rfl⟩
 obtain⟨w3,YT⟩:∃w3,w2.alloc (.cells #[.pointer (some ⟨bO,QJ k,none⟩)] 178)=w3:=⟨_,rfl⟩
 obtain⟨g3,QS⟩:∃g3,w.heap.size=g3:=⟨_,rfl⟩
 obtain⟨g4,WP⟩:∃g4,g3+1=g4:=⟨_,rfl⟩
 obtain⟨g5,DF⟩:∃g5,g4+1=g5:=⟨_,rfl⟩
 obtain⟨gs,eA⟩:∃gs,g5+1=gs:=⟨_,rfl⟩
 obtain⟨v1,Q4⟩:∃v1,Value.func (.func 234) #[] #[.pointer (some ⟨g3,0,none⟩),.pointer (some ⟨g5,0,none⟩)]=v1:=⟨_,rfl⟩
 obtain⟨v2,Vc⟩:∃v2,Value.func (.func 235) #[] #[.pointer (some ⟨g3,0,none⟩),.pointer (some ⟨g4,0,none⟩),.pointer (some ⟨g5,0,none⟩)]=v2:=⟨_,rfl⟩
 obtain⟨w4,VK⟩:∃w4,w3.alloc (.cells #[v1,v2] 218)=w4:=⟨_,rfl⟩
 have z1:w1.heap.size=g4:=by rw[←v6,qQ,QS,WP]
 have z2:w2.heap.size=g5:=by rw[←Yc,qQ,z1,DF]
 have z3:w3.heap.size=gs:=by rw[←YT,qQ,z2,eA]
 obtain⟨a1,b1,c1⟩:=GO (cs := #[.pointer (some ⟨bR,0,none⟩)]) (T:=163) hg;rw[v6,QS]at a1 b1;rw[QS]at c1;obtain⟨a2,b2,c2⟩:=GO (cs := #[.map (some gm)]) (T:=251) a1;rw[Yc,z1]at a2 b2;rw[z1]at c2;obtain⟨a3,b3,c3⟩:=GO (cs := #[.pointer (some ⟨bO,QJ k,none⟩)]) (T:=178) a2;rw[YT,z2]at a3 b3;rw[z2]at c3;obtain⟨a4,b4,c4⟩:=GO (cs := #[v1,v2]) (T:=218) a3;rw[VK,z3]at a4 b4;rw[z3]at c4;generalize rY:Zi M g3 (#[Value.pointer (some ⟨bR,0,none⟩)]:Array Value).toList=M1 at a1 b1 c1 a2 b2 c2 a3 b3 c3 a4 b4 c4;generalize fe:Zi M1 g4 (#[Value.map (some gm)]:Array Value).toList=M2 at a2 b2 c2 a3 b3 c3 a4 b4 c4;generalize hM3:Zi M2 g5 (#[Value.pointer (some ⟨bO,QJ k,none⟩)]:Array Value).toList=M3 at a3 b3 c3 a4 b4 c4;generalize fa:Zi M3 gs (#[v1,v2]:Array Value).toList=M4 at a4 b4 c4;have m3:M4 g3 0=some (.pointer (some ⟨bR,0,none⟩)):=c4 _ _ _ (c3 _ _ _ (c2 _ _ _ (by rw[←rY,Fz];rfl)));have m4:M4 g4 0=some (.map (some gm)):=c4 _ _ _ (c3 _ _ _ (by rw[←fe,Fz];rfl));have m5:M4 g5 0=some (.pointer (some ⟨bO,QJ k,none⟩)):=c4 _ _ _ (by rw[←hM3,Fz];rfl);have f4:Fra [bR,bO] M w M4 w4:=(((QN hg b1).trans (QN a1 b2)).trans (QN a2 b3)).trans (QN a3 b4);have f0:Fra [] M w M4 w4:=(((QN hg b1).trans (QN a1 b2)).trans (QN a2 b3)).trans (QN a3 b4);have s1:=yem (k:=k) ju m3 m5 (some (gm,.map es cl));have s2:=yel (cl:=cl) ju hrel m3 m4 m5;rw[Q4]at s1;rw[Vc]at s2;have Of:∀g ob,some (gm,Obj.map es cl)=some (g,ob)→w4.heap[g]?=some ob:=fun g ob hm=>by
  simp only[qb,qX]at hm;obtain⟨rfl,rfl⟩:=hm;exact(f4.block gm (qd.1 Yf).1 (by simp[SZ,S0])).trans Yf
 have cc:=y14 (cap:=2) hF hro (n-1) s1 s2 (gs:=gs) (by rw[←fa,Fz];rfl) (by rw[←fa,Fz];rfl) (Mem.le_refl _) Of (fun g ob hm=>by
  simp only[qb,qX]at hm;obtain⟨rfl,rfl⟩:=hm;exact⟨SZ,S0⟩) a4 ju (hR.keep f0 (by simp)) (hO.keep f0 (by simp)) h0 jF
 subst Q4 Vc;refine zy Tryz.func201 rfl (hF.fn 201) ?_ hro;simp only[Tryz.ntmps201,qJ,qk,qR,Nat.reduceAdd,Nat.reduceSub,zj,zk,zw,zo,qP,qS];gi_wp2_with ((try refine⟨hF.fn _,?_⟩);(try refine⟨wM _,?_⟩);gi_at_call 205;refine cc.mono ?_;clear cc;rintro e W2 ⟨M2,v,rfl,hv,wE,QT,QU,Ze⟩)
 refine zu (yi (t:=6) rfl _ _ _) rfl ?_;exact⟨M2,_,rfl,hv,wE,f4.trans QT,QU,Ze⟩
end Go.Lift
namespace Go.Lift
open Go Go.Proofs Go.RowKit
theorem gO(T:TypeId)(w:World):(Instr.makeMap T none).run Tryz.prog w = .ok (.map (some w.heap.size)) (w.alloc (.map #[] 0)):=by
 simp only[Instr.makeMap,xU,qy,run_newObj_alloc,qt,qD]
theorem yfp:fits Tryz.prog (.mapT .str (.int .i64)) (.inl 251)=true:=by kernel_rfl
theorem Uo{w:World}{g cl:Nat}{es:Array MapEntry}{l:List (js×Int)}(hb:w.heap[g]?=some (.map es cl))(hl:XB .str (.int .i64) l es)(j:js)(z:Int)(hn:(l.any fun p=>jO j p.1)=false):
  ∃w1 Zx Kz,(Instr.mapUpdate 251 (.map (some g)) (.string j) (.int .i64 z)).run Tryz.prog w = .ok () w1∧w1.heap[g]?=some (.map Zx Kz)∧XB .str (.int .i64) (l++[(j,z)]) Zx∧w1.heap.size=w.heap.size∧Below g w w1:=by
 obtain⟨K,V,hu,_,_,YJ,pZ,_⟩:=bi yfp;obtain⟨ik,dk,Qa⟩:=Qx YJ;have Vi:=yS (w:=w) Qa.und (Ap (t :=.str) rfl YJ Qa.und j) false 9999;have aw:=(qd.1 hb).1;rcases bw (k :=.str) (v :=.int .i64) rfl YJ Qa.und j es.toList l 0 hl with⟨g1,g2,g3⟩|⟨n,pre,p,post,g1,g2,g3,g4,g6,g5⟩
 ·have vv:=zU (w:=w) Qa.und g1;refine⟨{w with heap:=w.heap.setIfInBounds g (.map (es.push {key:=encS .str j,val:=encS (.int .i64) z,born:=cl}) (cl+1))},es.push {key:=encS .str j,val:=encS (.int .i64) z,born:=cl},cl+1,?_,?_,?_,?_,?_⟩
  ·have OZ:(Instr.checkKey false 10000 K (.string j)).run Tryz.prog w = .ok () w:=Vi;have OJ:_:=vv;simp only[Instr.mapUpdate,qy,qG hu,qt,zH hb,OZ,show(Value.string j)=encS .str j from rfl,Vi,vv,yW _ hb,qD];rfl
  ·simp[aw]
  ·unfold XB at hl⊢;rw[k7,zv,zv,hl];rfl
  ·simp
  ·exact⟨rfl,rfl,rfl,by simp,fun k hk=>by simp[kp,Nat.ne_of_gt hk]⟩
 ·exfalso;have:(l.any fun p=>jO j p.1)=true:=by
   rw[g2,List.any_append,yH];have:jO j p.1=true:=g4;rw[this];simp
  rw[this]at hn;cases hn
theorem PV{M:Mem}{w:World}(hg:Good M w)(j:js)(z:Int):
  ∃w1 w2 es cl,w.alloc (.map #[] 0)=w1∧(Instr.mapUpdate 251 (.map (some w.heap.size)) (.string j) (.int .i64 z)).run Tryz.prog w1 = .ok () w2∧w2.heap[w.heap.size]?=some (.map es cl)∧XB .str (.int .i64) [(j,z)] es∧Good M w2∧vm M w M w2:=by
 have h1:(w.alloc (.map #[] 0)).heap[w.heap.size]?=some (.map #[] 0):=qz w _;obtain⟨w2,es,cl,a1,a2,a3,a4,a5⟩:=Uo (l:=[]) h1 rfl j z rfl;have Qu:Below w.heap.size w (w.alloc (.map #[] 0)):=(qN _ w).alloc (ql _) _;have hb:=Qu.trans a5;exact⟨_,w2,es,cl,rfl,a1,a2,a3,Zu hg hb,hb,fun _ _=>rfl⟩
attribute [local go_sem] Oper.semAt_some
def gW(M0:Mem)(mp:Option (Nat×Obj))(v:Value)(run:KB):Prop:=
 ∃ f caps,v = .func (.func f) #[] caps∧(∀args w,(callFunc f args).run Tryz.prog w = .ok (.enter f args) w)∧
  ∀{F:Fence} (_:Open F) (_:F.round=none) (n:Nat) {M:Mem} {w:World} {bR bO:Nat} {ws:List js} {i:Int} {o:vn} {r:Option Int×Int×vn},Mem.le M0 M→(∀g ob,mp=some (g,ob)→w.heap[g]?=some ob)→Good M w→bR≠bO→z4d Tryz.prog M w bR TR (ws,i)→z4d Tryz.prog M w bO TO o→0≤i→run ws i o=some r→
   CallsIn F n Tryz.prog f (#[.pointer (some ⟨bR,0,none⟩),.pointer (some ⟨bO,0,none⟩)]++caps) w (zr5 bR bO M w ws r.1 r.2.1 r.2.2)
theorem bz{G:List Nat}{M:Mem}{w:World}:Fra G M w M w.drew:=⟨Mem.le_refl _,rfl,rfl,rfl,ql _,fun _ _ _=>rfl,fun _ _ _=>rfl⟩
theorem bF{M:Mem}{w:World}(h:Good M w):Good M w.drew:=⟨wB.keep (Mem.le_refl _) (zb7.refl _) h.1,fun b o v hv=>h.2 b o v hv⟩
theorem sQ{M:Mem}{w:World}{g:Nat}{t:Ty}{x:t.den}(h:z4d Tryz.prog M w g t x):z4d Tryz.prog M w.drew g t x:=h
theorem y77{gu gm cl:Nat}{es:Array MapEntry}{us:List (js×Int)}{M0:Mem}(hrel:XB .str (.int .i64) us es)(m1:M0 gu 0=some (.map (some gm))):
  gW M0 (some (gm,.map es cl)) (.func (.func 200) #[] #[.pointer (some ⟨gu,0,none⟩)]) (J9 us 1):=by
 refine⟨200,_,rfl,zV Tryz.func200 (by kernel_rfl) rfl,?_⟩;intro F hF hro n M w bR bO ws i o r jL Fa hg ju hR hO h0 jF;have wM:∀k:Nat,(F.depth.isSome=true→1≤k):=fun k h=>by rw[hF.depth]at h;cases h
 have k1:w.cell? ⟨gu,0,none⟩=some (.map (some gm)):=hg.2 _ _ _ (jL _ _ _ m1);have cc:=nu (cl:=cl) (w:=w.drew) hF hro (n-1) 1 (Fa gm _ rfl) hrel (bF hg) ju (sQ hR) (sQ hO) h0 jF;refine zy Tryz.func200 rfl (hF.fn 200) ?_ hro;simp only[Tryz.ntmps200,qJ,qk,qR,Nat.reduceAdd,Nat.reduceSub,zj,zk,zw,zo,qP,qS];gi_wp2
 gi_region_with ((try refine⟨hF.fn _,?_⟩);(try refine⟨wM _,?_⟩);gi_at_call 201;refine cc.mono ?_;clear cc;rintro e W2 ⟨M2,v,rfl,hv,wE,QT,QU,Ze⟩)
 all_goals gi_wp2
 all_goals refine zu (yi (t:=5) rfl _ _ _) rfl ?_
 all_goals exact⟨M2,_,rfl,hv,wE,bz.trans QT,QU,Ze⟩
theorem y76{gu gm cl:Nat}{es:Array MapEntry}{us:List (js×Int)}{M0:Mem}(hrel:XB .str (.int .i64) us es)(m1:M0 gu 0=some (.map (some gm))):
  gW M0 (some (gm,.map es cl)) (.func (.func 202) #[] #[.pointer (some ⟨gu,0,none⟩)]) (J9 us 2):=by
 refine⟨202,_,rfl,zV Tryz.func202 (by kernel_rfl) rfl,?_⟩;intro F hF hro n M w bR bO ws i o r jL Fa hg ju hR hO h0 jF;have wM:∀k:Nat,(F.depth.isSome=true→1≤k):=fun k h=>by rw[hF.depth]at h;cases h
 have k1:w.cell? ⟨gu,0,none⟩=some (.map (some gm)):=hg.2 _ _ _ (jL _ _ _ m1);have cc:=nu (cl:=cl) (w:=w.drew) hF hro (n-1) 2 (Fa gm _ rfl) hrel (bF hg) ju (sQ hR) (sQ hO) h0 jF;refine zy Tryz.func202 rfl (hF.fn 202) ?_ hro;simp only[Tryz.ntmps202,qJ,qk,qR,Nat.reduceAdd,Nat.reduceSub,zj,zk,zw,zo,qP,qS];gi_wp2
 gi_region_with ((try refine⟨hF.fn _,?_⟩);(try refine⟨wM _,?_⟩);gi_at_call 201;refine cc.mono ?_;clear cc;rintro e W2 ⟨M2,v,rfl,hv,wE,QT,QU,Ze⟩)
 all_goals gi_wp2
 all_goals refine zu (yi (t:=5) rfl _ _ _) rfl ?_
 all_goals exact⟨M2,_,rfl,hv,wE,bz.trans QT,QU,Ze⟩
theorem y75(M0:Mem)(mp:Option (Nat×Obj)):gW M0 mp (.func (.func 203) #[] #[]) (J9 EZ 3):=by
 refine⟨203,_,rfl,zV Tryz.func203 (by kernel_rfl) rfl,?_⟩;intro F hF hro n M w bR bO ws i o r jL Fa hg ju hR hO h0 jF;have wM:∀k:Nat,(F.depth.isSome=true→1≤k):=fun k h=>by rw[hF.depth]at h;cases h
 obtain⟨w1,w2,es,cl,v6,A6,Gc,hrel,wE,j7⟩:=PV hg (bytes [109,109]) 1;have Ye:=gO 251 w;rw[v6]at Ye;replace A6:(Instr.mapUpdate 251 (.map (some w.heap.size)) (.string ⟨#[109,109]⟩) (.int .i64 1)).run Tryz.prog w1 = .ok () w2:=A6
 have f0:Fra [] M w M w2:=QN hg j7;have cc:=nu (cl:=cl) hF hro (n-1) 3 Gc hrel wE ju (hR.keep f0 (by simp)) (hO.keep f0 (by simp)) h0 jF;refine zy Tryz.func203 rfl (hF.fn 203) ?_ hro;simp only[Tryz.ntmps203,qJ,qk,qR,Nat.reduceAdd,Nat.reduceSub,zj,zk,zw,zo,qP,qS];gi_wp2_with ((try refine⟨hF.fn _,?_⟩);(try refine⟨wM _,?_⟩);gi_at_call 201;refine cc.mono ?_;clear cc;rintro e W2 ⟨M2,v,rfl,hv,QS,QT,QU,Ze⟩)
 refine zu (yi (t:=4) rfl _ _ _) rfl ?_;exact⟨M2,_,rfl,hv,QS,(QN hg j7).trans QT,QU,Ze⟩
end Go.Lift
