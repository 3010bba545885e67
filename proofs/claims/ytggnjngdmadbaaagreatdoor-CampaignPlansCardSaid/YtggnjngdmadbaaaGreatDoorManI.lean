/-
  The contract of ParseOrder.
-/
import Derived.Test.YtggnjngdmadbaaaGreatDoorManH
set_option maxRecDepth 100000
set_option linter.all false
namespace Go.Lift
open Go Go.Proofs Go.RowKit
def sF(x:Option (Option Int×Int×vn))(i:Int):Int⊕(vn×Int)→Prop
 |.inl j=>∃q,x=some (some j,q)
 |.inr q=>x=some (none,q.2,q.1)∧i<q.2
def BrM(x:Option (Option Int×Int×vn))(k:Nat)(o:vn)(i:Int):Int⊕Int→Prop
 |.inl j=>∃q,x=some (some j,q)
 |.inr v=>x=some (none,i+2,Zm k o v)
theorem y86(k:Nat)(o:vn)(n m:Int):Zm k (Zm k o n) m=Zm k o m:=by
 match k with
 |0=>rfl
 |1=>rfl
 |2=>rfl
 |3=>rfl
 |4=>rfl
 |5=>rfl
 |k+6=>rfl
theorem ya2(k:Nat)(o:vn)(n:Int):fx k (Zm k o n)=n:=by
 match k with
 |0=>rfl
 |1=>rfl
 |2=>rfl
 |3=>rfl
 |4=>rfl
 |5=>rfl
 |k+6=>rfl
variable {ws:List js} {o:vn} {i:Int}
theorem zo9(k:Nat)(h0:0≤i)(h1:i≤4611686018427387904):∀{r:Option Int},CV ws i=some r→Ei k ws i o=some (match r with|none=>(some i,i,o)|some n=>(none,i+1,Zm k o n)):=by
 intro r hr;unfold Ei;rw[hr];cases r with
 |none=>rfl
 |some n=>
  simp only[qh,Vq];rw[Qj (by omega) (by omega)]
theorem Rs(us:List (js×Int))(k:Nat)(h0:0≤i)(h1:i≤4611686018427387904){r:Int⊕Int}(h:El us ws i=some r):BrM (J9 us k ws i o) k o i r:=by
 unfold El at h;obtain⟨n,hn,h⟩:=qi.1 h;have hb:=zo9 (o:=o) k h0 h1 hn;unfold J9 gD;rw[hb,qh];cases n with
 |none=>
  simp only[qb]at h;subst h;exact⟨_,rfl⟩
 |some n=>
  simp only at h⊢;rw[yE (show(0:Int)≤i+1 by omega),qv];unfold sP;cases hu:WG us ws (i+1)with
  |none=>
   rw[hu]at h;simp only[qb]at h;subst h;exact⟨_,rfl⟩
  |some b=>
   rw[hu]at h;simp only[qb]at h;subst h;simp only[EO,BrM];rw[Qj (by omega) (by omega),ya2,y86,show i+1+1=i+2 by omega]
theorem zy7{k:Nat}(hk:k<6)(h0:0≤i)(h1:i≤4611686018427387000){r:Int⊕(vn×Int)}(h:TX k ws o i=some r):sF (PC k ws i o) i r:=by
 have E0:∀(kk:Nat) {r:Int⊕(vn×Int)},((CV ws i).bind fun n=>match n with
   |none=>some (.inl i)
   |some n=>some (.inr (Zm kk o n,i+1)))=some r→sF (Ei kk ws i o) i r:=by
  intro kk r h;obtain⟨n,hn,h⟩:=qi.1 h;have hb:=zo9 (o:=o) kk h0 (by omega) hn;cases n with
  |none=>
   simp only[qb]at h;subst h;exact⟨_,hb⟩
  |some n=>
   simp only[qb]at h;subst h;exact⟨hb,by show i<i+1;omega⟩
 have Gu:∀(us:List (js×Int)) (kk:Nat) {r:Int⊕(vn×Int)},((El us ws i).bind fun v=>match v with
   |.inl j=>some (.inl j)
   |.inr v=>some (.inr (Zm kk o v,i+2)))=some r→sF (J9 us kk ws i o) i r:=by
  intro us kk r h;obtain⟨v,hv,h⟩:=qi.1 h;have hb:=Rs (o:=o) us kk h0 (by omega) hv;cases v with
  |inl j=>
   simp only[qb]at h;subst h;exact hb
  |inr v=>
   simp only[qb]at h;subst h;exact⟨hb,by show i<i+2;omega⟩
 match k,hk with
 |0,_=>exact E0 0 h
 |1,_=>exact Gu D8 1 h
 |2,_=>exact Gu D8 2 h
 |3,_=>exact Gu EZ 3 h
 |4,_=>
  have h':((El HT ws i).bind fun v=>match v with
   |.inl j=>some (.inl j)
   |.inr v=>(El cJ ws (i+2)).bind fun u=>match u with
    |.inl j=>some (.inl j)
    |.inr u=>some (.inr (Zm 5 (Zm 4 o v) u,i+4)))=some r:=h
  obtain⟨v,hv,h⟩:=qi.1 h';have hb:=Rs (o:=o) HT 4 h0 (by omega) hv;show sF (tV ws i o) i r;unfold tV gD;cases v with
  |inl j=>
   obtain⟨q,hb⟩:=hb;simp only[qb]at h;subst h;rw[hb];exact⟨_,rfl⟩
  |inr v=>
   replace hb:J9 HT 4 ws i o=some (none,i+2,Zm 4 o v):=hb
   simp only at h;obtain⟨u,hu,h⟩:=qi.1 h;rw[hb,qh];simp only;rw[yE (show(0:Int)≤i+2 by omega),qv];have QU:=Rs (o:=Zm 4 o v) cJ 5 (by omega) (by omega) hu;cases u with
   |inl j=>
    simp only[qb]at h;subst h;exact QU
   |inr u=>
    simp only[qb]at h;subst h;replace QU:J9 cJ 5 ws (i+2) (Zm 4 o v)=some (none,i+2+2,Zm 5 (Zm 4 o v) u):=QU
    simp only[sF];rw[QU,show i+2+2=i+4 by omega];exact⟨rfl,by omega⟩
 |5,_=>exact E0 6 h
theorem IK(jH:ws.length≤4294967296):∀(n:Nat) (o:vn) (i:Int) (given:Nat→Bool),0≤i→∀{r},bG ws n o i given=some r→gC ws n o i given=some r
 |0,_,_,_,_,_,h=>by cases h
 | n + 1,o,i,given,h0,r,h=>by
  simp only[bG,gC]at h⊢;by_cases hi:i<(ws.length:Int)
  ·rw [qH hi]at h⊢;cases hk:Fw (wo ws i)with
   |none=>rw[hk]at h;exact h
   |some k=>
    rw[hk]at h;simp only at h⊢;cases hg:given k with
    |true=>rw[hg]at h;exact h
    |false=>
     rw[hg,qu]at h;rw[qu];obtain⟨q,hq,h⟩:=qi.1 h;have hb:=zy7 (IC hk) (by omega) (by omega) hq;cases q with
     |inl j=>
      obtain⟨q,hb⟩:=hb;rw[hb];exact h
     |inr q=>
      obtain⟨hb,hlt⟩:=hb;rw[hb,qh];simp only;rw[yE (show i<q.2 by omega),qv];exact IK jH n q.1 q.2 _ (by omega) h
  ·rw[qT hi]at h⊢;exact h
end Go.Lift
namespace Go.Lift
open Go Go.Proofs Go.RowKit
attribute [local go_sem] Oper.semAt_some
theorem y1h{F:Fence}(hF:Open F)(n:Nat){M:Mem}{w:World}(hg:Good M w){s Yr:js}{ws:List js}(h:strings_Split s Yr=some ws):
  CallsIn F n Tryz.prog 117 #[.string s,.string Yr] w fun e w'=>∃M' v,e = .returned v∧jz Tryz.prog (.slice .str) M' ws v∧Good M' w'∧vm M w M' w':=
 (hF.calls (zt0.2 (s,Yr) ws h M w [.string s,.string Yr] hg ⟨_,_,rfl,Xj.2 rfl,_,rfl,Xj.2 rfl⟩)).mono (by
  rintro e w' ⟨M',v,rfl,hv,YU,jZ⟩;exact⟨M',v,rfl,hv,YU,jZ⟩)
theorem y3f{F:Fence}(hF:Open F)(n:Nat){M:Mem}{w:World}(hg:Good M w){o:vn}{c:Int}(h:EY o=some c):
  CallsIn F n Tryz.prog 58 #[.agg (Qo o)] w fun e w'=>∃M',e = .returned (.int .i64 c)∧Good M' w'∧vm M w M' w':=
 (hF.calls (zcz.2 o c h M w [.agg (Qo o)] hg ⟨_,rfl,GQ (Eh o)⟩)).mono (by
  rintro e w' ⟨M',v,rfl,hv,YU,jZ⟩;have:v = .int .i64 c:=YX.1 hv;exact⟨M',by rw[this],YU,jZ⟩)
theorem Ls{tmps:Array Value}{W:World}{g:Nat}{o:vn}{E:TypeId}(h2:tmps.getD 2 undef = .pointer (some ⟨g,0,none⟩))(hb:W.heap[g]?=some (.cells (Qo o) E (0,0))):
  (Go.results Tryz.f56 tmps).run Tryz.prog W = .ok (.tuple #[.agg (Qo o),tmps.getD 3 undef,tmps.getD 4 undef]) W:=by
 obtain⟨i,d,hi⟩:=Qx ye6;have hl:(loadVar 27 ⟨g,0,none⟩).run Tryz.prog W = .ok (KY TO (Qo o).toList) W:=bL hi (Eh (M:=fun _ _=>none) o) (fun j u hj=>by
  rw[qY];exact va hb (by simpa using hj))
 have hr:Tryz.f56.results=#[.cell 2 27,.tmp 3,.tmp 4]:=by kernel_rfl
 have ho:KY TO (Qo o).toList = .agg (Qo o):=rfl;rw[ho]at hl;simp only[Go.results,hr,qy,xa,xm,xE,h2,asAddr,qD,qt,hl,xX];rfl
theorem y1i{e:Ty}{M:Mem}{x:List e.den}{v:Value}(h:jz Tryz.prog (.slice e) M x v):∃p n c,v = .slice p n c:=by
 obtain⟨v',h1,h2⟩:jB Tryz.prog (.slice e) M x [v]:=h;simp only[qM,zA]at h1;subst h1;rcases h2 with⟨h2,_⟩|⟨_,_,_,_,h2,_⟩|⟨_,_,h2,_⟩
 ·exact⟨_,_,_,h2⟩
 ·exact⟨_,_,_,h2⟩
 ·exact⟨_,_,_,h2⟩
def Pq(M:Mem)(w:World)(x:vn×Int×Int)(e:Ending)(w':World):Prop:=
 ∃M' v,e = .returned v∧VC Tryz.prog M' [GV,.int .i64,.int .i64] x v∧Good M' w'∧vm M w M' w'
theorem ydu{w:World}{M:Mem}{g2:Nat}{o0 o:vn}{E:TypeId}{M2:Mem}{W:World}{tmps:Array Value}{i e:Int}(hg:Good M2 W)(jZ:Fra [] M w M2 W)(Mu:∀o,M2 g2 o=none)(h2b:W.heap[g2]?=some (.cells (Qo o0) E (0,0)))(JD:w.heap.size≤g2)
  (h2:tmps.getD 2 undef = .pointer (some ⟨g2,0,none⟩)) (h3:tmps.getD 3 undef = .int .i64 i) (h4:tmps.getD 4 undef = .int .i64 e):
  bodyPost Tryz.prog Tryz.f56 (Pq M w (o,i,e)) .ret {tmps:=tmps,defers:=[]} (GF W g2 o):=by
 obtain⟨a,b,c⟩:=Rj (o:=o) hg Mu h2b;refine zu (Ls h2 c) rfl ⟨M2,_,rfl,?_,a,⟨⟨b.os.trans jZ.os,b.tape.trans jZ.tape,b.output.trans jZ.output,ze jZ.size b.size,fun j hj =>?_⟩,fun j hj =>?_⟩⟩
 ·rw[h3,h4];exact⟨_,rfl,_,_,rfl,GQ (Eh o),_,_,rfl,YX.2 rfl,_,rfl,YX.2 rfl⟩
 ·exact(b.block j (qV hj jZ.size) (by simp;omega)).trans (jZ.block j hj (by simp))
 ·exact jZ.mem j hj (by simp)
noncomputable def c56:Code:=Tryz.f56.body.getD .skip
noncomputable abbrev AU:Code:=cF (cF (cS (cF (cS (cS (cS c56))))))
abbrev Tq(g4 g2:Nat):zyi:=⟨27,TO,g4,27,TO,g2⟩
theorem WN(g4 g2:Nat)(o:vn)(f:Int×Int):vY (cx [] []) AU .nil (Qc [(2,.bptr 101 []),(7,.data (.ptr TF) f [])] ((Tq g4 g2).bs o Yv)) (Ea [2,3,4] [])=some (.normal,[(2,.bptr 101 []),(3,.data (.int .i64) f.1 []),(4,.data (.int .i64) f.2 [])],(Tq g4 g2).bs o Yv):=by kernel_rfl
set_option maxHeartbeats 8000000 in
theorem cj:Has Tryz.prog uN:=by
 refine⟨enters_of (by kernel_rfl),fun s res hr M w vs hg Q3 =>?_⟩;obtain⟨v,rfl,hv⟩:=Q3;have hv:v = .string s:=Xj.1 hv;subst hv;have hr:iK s=some res:=hr;unfold iK at hr;obtain⟨ws,Y8,hr⟩:=qi.1 hr;have jH:ws.length≤4294967296:=by
  have h:lR (bytes [32]) s=some ws:=Y8;unfold lR at h;cases hc:(bytes [32]).size==1&&decide (s.size≤4294967280)with
  |false=>rw[hc]at h;cases h
  |true=>
   rw[hc,qv,qb]at h;rw[qg,qI]at hc;have h1:=Lib.splitB_length_le (bytes [32]) 0 (Lib.countB s (bytes [32])) s;have h2:=Lib.countB_le (bytes [32]) (by decide) s.size s (ql _);rw[h]at h1;omega
 replace hr:((GU (wo ws 0)).bind fun is=>bif !is then some (Yv,0,7)else
  (bG ws (ws.length+1) (wo ws 0,(0,(0,(0,(0,((0,20000),0)))))) 1 (fun _=>false)).bind fun r=>match r with
   |.inl f=>some (Yv,f.1,f.2)
   |.inr r=>bif !(r.2 0&&r.2 1&&r.2 3)then some (Yv,0,14)else(EY r.1).bind fun e=>bif e !=0 then some (Yv,0,e)else some (r.1,0,0))=some res:=hr
 obtain⟨is,pS,hr⟩:=qi.1 hr;obtain⟨r,ht⟩:∃r:(Int×Int)⊕vn,(∀{F:Fence} (_:Open F) (_:F.round=none) (n:Nat) {M:Mem} {w:World} {bR:Nat},Good M w→z4d Tryz.prog M w bR TR (ws,0)→CallsIn F n Tryz.prog 118 #[.pointer (some ⟨bR,0,none⟩)] w (Sk bR M w r))∧
   (match r with
    |.inl f=>res=(Yv,f.1,f.2)
    |.inr o=>∃e,EY o=some e∧res=bif e !=0 then(Yv,0,e)else(o,0,0)):=by
  cases is with
  |false=>
   simp only[yn,qv,qb]at hr;exact⟨.inl (0,7),fun hF hro n _ _ _ hg hR=>IP (nf0:=0) (res :=.inl (0,0)) hF hro n hg hR pS (fun _=>rfl) (by omega) (fun h=>by cases h) (fun h=>by cases h),hr.symm⟩
  |true=>
   simp only[zi,qu]at hr;obtain⟨q,hq,hr⟩:=qi.1 hr;have KQ:=IK jH _ _ _ _ (by decide) hq;refine⟨lN q,fun hF hro n _ _ _ hg hR=>IP hF hro n hg hR pS (fun h=>by cases h) (by omega) (fun _=>KQ) (fun _=>rfl),?_⟩;cases q with
   |inl f=>
    simp only[qb]at hr;exact hr.symm
   |inr q=>
    simp only at hr;show(match(bif !(q.2 0&&q.2 1&&q.2 3)then Sum.inl ((0:Int),(14:Int))else Sum.inr q.1)with
     |.inl f=>res=(Yv,f.1,f.2)
     |.inr o=>∃e,EY o=some e∧res=bif e !=0 then(Yv,0,e)else(o,0,0))
    cases Wr:!(q.2 0&&q.2 1&&q.2 3)with
    |true=>
     rw[Wr,qv,qb]at hr;exact hr.symm
    |false=>
     rw[Wr,qu]at hr;obtain⟨e,he,hr⟩:=qi.1 hr;refine⟨e,he,?_⟩;cases hz:e !=0 with
     |true=>rw[hz,qv,qb]at hr;exact hr.symm
     |false=>rw[hz,qu,qb]at hr;exact hr.symm
 clear hr pS;refine(xZ (n:=3)).1 ?_;obtain⟨F,Ti⟩:∃F,F=Fence.wide:=⟨_,rfl⟩
 have hF:Open F:=Ti▸ET
 have hro:F.round=none:=by rw[Ti];rfl
 have wM:∀k:Nat,(F.depth.isSome=true→1≤k):=fun k h=>by rw[hF.depth]at h;cases h
 rw[←Ti];clear Ti;obtain⟨n,hn⟩:∃n:Nat,n=3:=⟨_,rfl⟩
 rw[←hn];clear hn;show CallsIn F n Tryz.prog 56 #[.string s] w (Pq M w res);obtain⟨w1,v6⟩:∃w1,w.alloc (.cells (Qo Yv) 27)=w1:=⟨_,rfl⟩
 have Qu:Below w.heap.size w w1:=by rw[←v6];exact(qN _ w).alloc (ql _) _
 have Yg:=Zu hg Qu;have z1:w1.heap.size=w.heap.size+1:=by rw[←v6,qQ]
 have eN:w1.heap[w.heap.size]?=some (.cells (Qo Yv) 27 (0,0)):=by rw[←v6];exact qz w _
 have f1:Fra [] M w M w1:=QN hg ⟨Qu,fun _ _=>rfl⟩;have Mu:∀o,M w.heap.size o=none:=fun o=>W9 hg (ql _) o
 have c1:=y1h hF (n-1) Yg Y8;replace v6:w.alloc (.cells #[.string ⟨#[]⟩,.int .i64 0,.int .i64 0,.int .i64 0,.int .i64 0,.int .i64 0,.int .i64 0,.int .i64 0] 27)=w1:=v6
 refine zy Tryz.func56 rfl (hF.fn 56) ?_ hro;simp only[Tryz.ntmps56,qJ,qk,qR,Nat.reduceAdd,Nat.reduceSub,zj,zk,zw,zo,qP,qS];gi_wp2_with ((try refine⟨hF.fn _,?_⟩);(try refine⟨wM _,?_⟩);gi_at_call 117;refine c1.mono ?_;clear c1;rintro e w2 ⟨M2,sv,rfl,dR,wE,j7⟩;obtain⟨sp,sn,sc,rfl⟩:=y1i dR)
 obtain⟨a3,b3,c3⟩:=GO (cs := #[]) (T:=166) wE;have S6:Below w2.heap.size w2 (w2.alloc (.cells #[.slice sp sn sc,.int .i64 0] 166)):=(qN _ w2).alloc (ql _) _;have QS:=Zu wE S6;have BQ:z4d Tryz.prog M2 (w2.alloc (.cells #[.slice sp sn sc,.int .i64 0] 166)) w2.heap.size TR (ws,0):=
  ⟨⟨_,166,qz w2 _,HP (t :=.slice .str) dR,rfl⟩,fun o=>W9 wE (ql _) o⟩
 have f3:Fra [] M w M2 (w2.alloc (.cells #[.slice sp sn sc,.int .i64 0] 166)):=(f1.trans (QN Yg j7)).trans (QN wE ⟨S6,fun _ _=>rfl⟩);have VO:=j7.below.size;have eM:w2.heap[w.heap.size]?=some (.cells (Qo Yv) 27 (0,0)):=(j7.below.block _ (by omega)).trans eN;have BN:(w2.alloc (.cells #[.slice sp sn sc,.int .i64 0] 166)).heap[w.heap.size]?=some (.cells (Qo Yv) 27 (0,0)):=(WL w2 _ _ (by omega)).trans eM;have Mt:∀o,M2 w.heap.size o=none:=fun o=>by rw[j7.mem w.heap.size (by omega)];exact Mu o
 have c4:=ht.1 hF hro (n-1) QS BQ;refine⟨hF.fn _,wM _,c4.mono ?_⟩;clear c4;rintro e w4 ⟨M4,vO,vF,rfl,WP,Gi,⟨o,hvo,dO⟩,NG⟩;have ju:w.heap.size≠w2.heap.size:=by omega
 have f4:Fra [] M w M4 w4:=⟨Mem.le_trans f3.le Gi.le,Gi.os.trans f3.os,Gi.tape.trans f3.tape,Gi.output.trans f3.output,ze f3.size Gi.size,fun j hj _=>(Gi.block j (qV hj f3.size) (by simp;omega)).trans (f3.block j hj (by simp)),fun j hj _=>(Gi.mem j (qV hj f3.size) (by simp;omega)).trans (f3.mem j hj (by simp))⟩
 have hl3:=(qd.1 BN).1;have BM:w4.heap[w.heap.size]?=some (.cells (Qo Yv) 27 (0,0)):=(Gi.block _ hl3 (by simp[ju])).trans BN;have sj:∀o,M4 w.heap.size o=none:=fun o=>by rw[Gi.mem _ hl3 (by simp[ju])];exact Mt o
 have hl4:=(qd.1 BM).1;have hvO:vO = .agg (Qo o):=by
  obtain⟨cs,rfl,hc⟩:∃cs:Array Value,vO = .agg cs∧jB Tryz.prog TO M4 o cs.toList:=hvo
  have:=y3y hc;rw[show cs=Qo o from yR this]
 subst hvO;clear hvo;clear hr Y8;obtain⟨OG,pW,_⟩:=GO (cs := #[]) (T:=27) WP;have S7:Below w4.heap.size w4 (w4.alloc (.cells (Qo o) 27)):=(qN _ w4).alloc (ql _) _;have DF:=Zu WP S7;have f5:Fra [] M w M4 (w4.alloc (.cells (Qo o) 27)):=f4.trans (QN WP ⟨S7,fun _ _=>rfl⟩);have BL:(w4.alloc (.cells (Qo o) 27)).heap[w.heap.size]?=some (.cells (Qo Yv) 27 (0,0)):=(WL w4 _ _ hl4).trans BM;have e5:(w4.alloc (.cells (Qo o) 27)).heap[w4.heap.size]?=some (.cells (Qo o) 27 (0,0)):=qz w4 _;clear OG pW;have Od:w.heap.size≠w4.heap.size:=by omega
 cases r with
 |inl f=>
  have ZD:=ht.2;simp only at ZD;subst ZD;have FL:=NG f rfl;have NF:=FL;obtain⟨b,off,cells,oT,_,_⟩:jB Tryz.prog (.ptr TF) M4 f [vF]:=FL;simp only[qM,zA]at oT;subst oT;have Wt:∀(a:Act),a.tmps.getD 2 undef = .pointer (some ⟨w.heap.size,0,none⟩)→a.tmps.getD 7 undef = .pointer (some ⟨b,off,none⟩)→Two Tryz.prog (Tq w4.heap.size w.heap.size) M4 [(2,.bptr 101 []),(7,.data (.ptr TF) f [])] o Yv a (w4.alloc (.cells (Qo o) 27)):=fun a h2 h7=>by
   refine⟨DF,yL Od,⟨⟨_,27,e5,Eh o⟩,fun o=>W9 WP (ql _) o⟩,⟨⟨_,27,BL,Eh Yv⟩,sj⟩,fun e he =>?_⟩;simp only[qF,yb,ka]at he;rcases he with rfl|rfl
   ·exact .inr ⟨rfl,0,rfl,h2⟩
   ·refine⟨?_,rfl⟩;show jz Tryz.prog (.ptr TF) M4 f (a.tmps.getD 7 undef);rw[h7];exact NF
  clear eN eM BN BM S7 WP QS BQ f1 f3 f4 S6 j7 Gi dR dO NG ht;unfold Qo;gi_wp2_with fail
  refine Cb (D:=Tq w4.heap.size w.heap.size) vi z26 hF AU (.inr (by kernel_rfl)) (WN w4.heap.size w.heap.size o f) (by kernel_rfl) (by kernel_rfl) (by kernel_rfl) rfl (Wt _ rfl rfl) fun M' a' w' hT hK =>?_
  rename_i K1 Z5 K0 Mm;refine Mm a' w' (jq ?_);show bodyPost Tryz.prog Tryz.f56 (Pq M w (Yv,f.1,f.2)) .ret a' w';obtain⟨E,e⟩:=XJ hT.b2;have x2:a'.tmps.getD 2 undef = .pointer (some ⟨w.heap.size,0,none⟩):=by
   rcases hT.env (2,.bptr 101 []) (by simp)with⟨h,_⟩|⟨_,off,h1,h2⟩
   ·cases h
   ·simp only[jN,qb]at h1;subst h1;exact h2
  have x3:a'.tmps.getD 3 undef = .int .i64 f.1:=YX.1 (hT.env (3,.data (.int .i64) f.1 []) (by simp)).1;have x4:a'.tmps.getD 4 undef = .int .i64 f.2:=YX.1 (hT.env (4,.data (.int .i64) f.2 []) (by simp)).1;have b:=hK.fra;have hd:a'.defers=[]:=hK.defers;refine zu (Ls x2 e) hd ⟨M',_,rfl,?_,hT.good,⟨⟨b.os.trans f5.os,b.tape.trans f5.tape,b.output.trans f5.output,ze f5.size b.size,fun j hj =>?_⟩,fun j hj =>?_⟩⟩
  ·rw[x3,x4];exact⟨_,rfl,_,_,rfl,GQ (Eh Yv),_,_,rfl,YX.2 rfl,_,rfl,YX.2 rfl⟩
  ·exact(b.block j (qV hj f5.size) (by simp;omega)).trans (f5.block j hj (by simp))
  ·exact(b.mem j (qV hj f5.size) (by simp;omega)).trans (f5.mem j hj (by simp))
 |inr o'=>
  obtain⟨rfl,rfl⟩:=dO o' rfl;obtain⟨c,hc,ZD⟩:∃e,EY o=some e∧res=bif e !=0 then(Yv,0,e)else(o,0,0):=ht.2
  clear eN eM BN BM S7 WP QS BQ f1 f3 f4 S6 j7 Gi dR dO NG ht;obtain⟨q0,q1,q2,q3,q4,q5,q6,q7,qf⟩:=V8 e5;obtain⟨w5,Cr⟩:∃w5,w4.alloc (.cells (Qo o) 27)=w5:=⟨_,rfl⟩
  rw[Cr]at q0 q1 q2 q3 q4 q5 q6 q7 qf BL e5 f5 DF;have c5:=y3f hF (n-1) DF hc;have hl5:=(qd.1 BL).1;have Ot:=(qd.1 e5).1;clear q0 q1 q2 q3 q4 q5 q6 q7 qf;have q:=V8 (qz w4 (.cells (Qo o) 27));obtain⟨q0,q1,q2,q3,q4,q5,q6,q7,qf⟩:=q;unfold Qo at q0 q1 q2 q3 q4 q5 q6 q7 qf;unfold Qo;have rp:∀{w6:World} {M6:Mem},Good M6 w6→vm M4 w5 M6 w6→Fra [] M w M6 w6∧(∀o,M6 w.heap.size o=none)∧w6.heap[w.heap.size]?=some (.cells (Qo Yv) 27 (0,0))∧w6.heap[w4.heap.size]?=some (.cells (Qo o) 27 (0,0)):=fun Fk JG=>
   ⟨f5.trans (QN DF JG),fun o=>by rw[JG.mem _ hl5];exact sj o,(JG.below.block _ hl5).trans BL,(JG.below.block _ Ot).trans e5⟩
  subst Cr;cases hz:c !=0 with
  |true=>
   have JL:c≠0:=by simpa using hz
   rw[hz,qv]at ZD;subst ZD;gi_wp2_with ((try refine⟨hF.fn _,?_⟩);(try refine⟨wM _,?_⟩);gi_at_call 58;refine c5.mono ?_;clear c5;rintro e w6 ⟨M6,rfl,Fk,JG⟩;obtain⟨f6,fo,DM,_⟩:=rp Fk JG;obtain⟨t0,t1,t2,t3,t4,t5,t6,t7,tf⟩:=V8 DM)
   exact ydu (o:=Yv) Fk f6 fo DM (ql _) rfl rfl rfl
  |false=>
   have JL:c=0:=by simpa using hz
   rw[hz,qu]at ZD;subst ZD JL;gi_wp2_with ((try refine⟨hF.fn _,?_⟩);(try refine⟨wM _,?_⟩);gi_at_call 58;refine c5.mono ?_;clear c5;rintro e w6 ⟨M6,rfl,Fk,JG⟩;obtain⟨f6,fo,DM,e6⟩:=rp Fk JG;obtain⟨t0,t1,t2,t3,t4,t5,t6,t7,tf⟩:=V8 DM;obtain⟨p0,p1,p2,p3,p4,p5,p6,p7,pf⟩:=V8 e6)
   exact ydu (o:=o) Fk f6 fo DM (ql _) rfl rfl rfl
end Go.Lift
