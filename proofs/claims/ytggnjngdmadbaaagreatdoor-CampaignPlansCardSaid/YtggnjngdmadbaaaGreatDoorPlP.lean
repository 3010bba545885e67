/-
  The search for a plan: its loops, and its contract.
-/
import Derived.Test.YtggnjngdmadbaaaGreatDoorPlO
set_option maxRecDepth 100000
set_option maxHeartbeats 4000000
set_option linter.all false
namespace Go.Lift
open Go Go.Proofs Go.RowKit
attribute [local go_sem] Oper.semAt_some j9
noncomputable abbrev Sg:Code:=cF (cS (cS t129))
noncomputable def uX:Code:=match Sg with
 |.rangeFunc _ _ asn _=>asn
 |_ =>.skip
noncomputable def uZ:Code:=match Sg with
 |.rangeFunc _ _ _ b=>b
 |_ =>.skip
theorem yei:t129 = .seq cK (.seq cI (.block 4 (.rangeFunc (.tmp 58) #[59] uX uZ))):=by kernel_rfl
abbrev B7(bq b8:Nat):Value :=.func (.func 172) #[] #[.pointer (some ⟨bq,0,none⟩),.pointer (some ⟨b8,0,none⟩)]
theorem yN{t:Array Value}{i j:Nat}{v:Value}(h:i≠j):(t.setIfInBounds i v).getD j undef=t.getD j undef:=by
 rw[qw,qw,yr h]
theorem fT{F:Fence}{lp:Nat}(hro:F.round=some lp){nn:Nat}{W:World}{m:Int×Int}{k:Int}{i bq b8 gd b9 bn:Nat}{a:Act}(ha:wH bq b8 gd b9 [] k a)(hi:a.tmps.getD 11 undef = .int .i64 (i:Int))(hn:a.tmps.getD 12 undef = .pointer (some ⟨bn,0,none⟩))(hm:a.tmps.getD 59 undef=Kk m){Q:Exit→Act→World→Prop}
  (h1:∀a',wH bq b8 gd b9 [] k a'→a'.tmps.getD 11 undef = .int .i64 (i:Int)→a'.tmps.getD 12 undef = .pointer (some ⟨bn,0,none⟩)→a'.tmps.getD 14 undef = .pointer (some ⟨W.heap.size,0,none⟩)→Q .normal a' (W.alloc (.cells #[.int .i64 m.1,.int .i64 m.2] 63))):
  uX.wpIn F nn Tryz.prog Q a W:=by
 obtain⟨⟨xs⟩,ds⟩:=a;obtain⟨hz,hd,t4,t5,t6,t7,t8,t9,t10⟩:=ha;simp only[qJ]at hz;obtain⟨x0,x1,x2,x3,x4,x5,x6,x7,x8,x9,QO,Q7,Zv,ZM,Yq,YC,Yp,Yo,Yn,Ym,YB,YA,Yz,Z2,YS,YR,YQ,XT,XS,XR,XQ,XP,XO,XN,XM,XL,KL,KK,KJ,KI,Hx,Hw,Hv,Hu,Ht,Hs,Hr,Hq,Hp,Ho,Hn,Hm,Hl,Hk,Hj,Hi,WN,Hh,Hg,Jd,Hf,He,Hd,Hc,Hb,rfl⟩:=GC xs hz;simp only at hd t4 t5 t6 t7 t8 t9 t10 hi hn hm;subst hd;obtain rfl:x4=_:=t4;obtain rfl:x5=_:=t5;obtain rfl:x6=_:=t6;obtain rfl:x7=_:=t7;obtain rfl:x8=_:=t8;obtain rfl:x9=_:=t9;obtain rfl:QO=_:=t10;obtain rfl:Q7=_:=hi;obtain rfl:Zv=_:=hn;obtain rfl:Jd=_:=hm;unfold Kk;simp only[uX,Sg,t129,HJ,JZ,KC,wA,Tryz.f129,qO,cF,cS];gi_wp2
 exact h1 _ ⟨rfl,rfl,rfl,rfl,rfl,rfl,rfl,rfl,rfl⟩ rfl rfl rfl
theorem da{F:Fence}(hF:Open F){lp:Nat}(hro:F.round=some lp){nn:Nat}{M:Mem}{w:World}{bq gm b8 gd b9 bn bm:Nat}{ps qs:jY}{done:List js}{l:List (Int×Value)}{M':Mem}{W:World}(h:PSt w M bq gm b8 gd ps done l M' W){n t:wC}{m:Int×Int}{k:Int}{i:Nat}
    {yv lv mv:Value} (r1:jz Tryz.prog YP M' n.1 yv) (r2:jz Tryz.prog Zc M' n.2.1 lv) (r3:jz Tryz.prog V4 M' n.2.2.1 mv)
    (c9:M' b9 0=some (B7 bq b8)) (n0:M' bn 0=some yv) (n1:M' bn 1=some lv) (n2:M' bn 2=some mv) (n3:M' bn 3=some (.int .i64 n.2.2.2)) (m0:M' bm 0=some (.int .i64 m.1)) (m1:M' bm 1=some (.int .i64 m.2))
    (Jy:Ha n m=some t) (QZ:XW ps t=some qs) {a:Act} (ha:wH bq b8 gd b9 [] k a) (hi:a.tmps.getD 11 undef = .int .i64 (i:Int)) (hn:a.tmps.getD 12 undef = .pointer (some ⟨bn,0,none⟩)) (hm:a.tmps.getD 14 undef = .pointer (some ⟨bm,0,none⟩)) {Q:Exit→Act→World→Prop}
    (hQ:∀a' l' M2 W',PSt w M bq gm b8 gd qs done l' M2 W'→Mem.le M' M2→z36 W W'→wH bq b8 gd b9 [] k a'→Q .normal a' W'):
    uZ.wpIn F nn Tryz.prog Q a W:=by
  obtain⟨ya,yc,rfl⟩:=Ka r1;obtain⟨la,lc,rfl⟩:=Ka r2;obtain⟨ma,mc,rfl⟩:=Ka r3;have hd:PSt w M bq gm b8 gd ps done l M' W.drew:=h.kept (Zu h.good ⟨rfl,rfl,rfl,ql _,fun _ _=>rfl⟩) ⟨⟨rfl,rfl,rfl,ql _,fun _ _=>rfl⟩,fun _ _=>rfl⟩ (Mem.le_refl _);have k9:W.drew.cell? ⟨b9,0,none⟩=some (B7 bq b8):=h.good.2 _ _ _ c9;have k0:W.drew.cell? ⟨bn,0,none⟩=some (.slice ya n.1.length yc):=h.good.2 _ _ _ n0;have k1:W.drew.cell? ⟨bn,1,none⟩=some (.slice la n.2.1.length lc):=h.good.2 _ _ _ n1;have k2:W.drew.cell? ⟨bn,2,none⟩=some (.slice ma n.2.2.1.length mc):=h.good.2 _ _ _ n2;have k3:W.drew.cell? ⟨bn,3,none⟩=some (.int .i64 n.2.2.2):=h.good.2 _ _ _ n3;have k4:W.drew.cell? ⟨bm,0,none⟩=some (.int .i64 m.1):=h.good.2 _ _ _ m0;have k5:W.drew.cell? ⟨bm,1,none⟩=some (.int .i64 m.2):=h.good.2 _ _ _ m1;have cn:CallsIn F (nn-1) Tryz.prog 131 #[.agg #[.slice ya n.1.length yc,.slice la n.2.1.length lc,.slice ma n.2.2.1.length mc,.int .i64 n.2.2.2],.agg #[.int .i64 m.1,.int .i64 m.2]] W.drew fun e W1=>∃M1 y1 l1 m1,e = .returned (.agg #[y1,l1,m1,.int .i64 t.2.2.2])∧PSt w M bq gm b8 gd ps done l M1 W1∧Mem.le M' M1∧z36 W W1∧W1.cell? ⟨b9,0,none⟩=some (B7 bq b8)∧
      CallsIn F (nn-1) Tryz.prog 172 #[.agg #[y1,l1,m1,.int .i64 t.2.2.2],.pointer (some ⟨bq,0,none⟩),.pointer (some ⟨b8,0,none⟩)] W1 fun e W'=>e = .returned (.tuple #[])∧∃l' M2,PSt w M bq gm b8 gd qs done l' M2 W'∧Mem.le M' M2∧z36 W W':=by
    refine hF.calls ((C9.2 (n,m) t Jy M' W.drew [_,_] hd.good ⟨_,[_],rfl,mF r1 r2 r3,_,rfl,⟨#[.int .i64 m.1,.int .i64 m.2],rfl,rfl,rfl⟩⟩).mono fun e W1 =>?_);rintro⟨M1,u,rfl,hu,Yg,Gg⟩;obtain⟨y1,l1,m1,rfl,u1,u2,u3⟩:=gP hu;have jL:=(QN (G:=[]) hd.good Gg).le;have h1:=hd.kept Yg Gg jL;have hk:z36 W W1:=z36.of_below ⟨Gg.below.os,Gg.below.tape,Gg.below.output,Gg.below.size,Gg.below.block⟩;refine⟨M1,y1,l1,m1,rfl,h1,jL,hk,h1.good.2 _ _ _ (jL _ _ _ c9),hF.calls ((ydt h1 u1 u2 u3 QZ).mono fun e W2 =>?_)⟩;rintro⟨rfl,l',M2,hP,fe,VR⟩;exact⟨rfl,l',M2,hP,Mem.le_trans jL fe,hk.trans VR⟩
  obtain⟨⟨xs⟩,ds⟩:=a;obtain⟨hz,VT,t4,t5,t6,t7,t8,t9,t10⟩:=ha;simp only[qJ]at hz;obtain⟨x0,x1,x2,x3,x4,x5,x6,x7,x8,x9,QO,Q7,Zv,ZM,Yq,YC,Yp,Yo,Yn,Ym,YB,YA,Yz,Z2,YS,YR,YQ,XT,XS,XR,XQ,XP,XO,XN,XM,XL,KL,KK,KJ,KI,Hx,Hw,Hv,Hu,Ht,Hs,Hr,Hq,Hp,Ho,Hn,Hm,Hl,Hk,Hj,Hi,WN,Hh,Hg,Jd,Hf,He,Hd,Hc,Hb,rfl⟩:=GC xs hz;simp only at VT t4 t5 t6 t7 t8 t9 t10 hi hn hm;subst VT;obtain rfl:x4=_:=t4;obtain rfl:x5=_:=t5;obtain rfl:x6=_:=t6;obtain rfl:x7=_:=t7;obtain rfl:x8=_:=t8;obtain rfl:x9=_:=t9;obtain rfl:QO=_:=t10;obtain rfl:Q7=_:=hi;obtain rfl:Zv=_:=hn;obtain rfl:Yq=_:=hm;have wM:∀k:Nat,(F.depth.isSome=true→1≤k):=fun k h=>by rw[hF.depth]at h;cases h
  clear hd h r1 r2 r3 c9 n0 n1 n2 n3 m0 m1 Jy QZ;unfold B7 at k9 cn;simp only[uZ,Sg,t129,HJ,JZ,KC,wA,Tryz.f129,qO,cF,cS];refine xx ?_;gi_region_with (first
    |((try refine⟨hF.fn _,?_⟩);(try refine⟨wM _,?_⟩);gi_at_call 131;refine cn.mono ?_;clear cn;rintro e W1 ⟨M1,y1,l1,m1,rfl,h1,Oo,XF,k9',cp⟩)
    |((try refine⟨hF.fn _,?_⟩);(try refine⟨wM _,?_⟩);gi_at_call 172;refine cp.mono ?_;clear cp;rintro e W2 ⟨rfl,l',M2,hP,fe,VR⟩))
  all_goals exact hQ _ _ _ _ hP fe VR ⟨rfl,rfl,rfl,rfl,rfl,rfl,rfl,rfl,rfl⟩
end Go.Lift
namespace Go.Lift
open Go Go.Proofs Go.RowKit
theorem PSt.own{w:World}{M:Mem}{bq gm b8 gd:Nat}{ps:jY}{done:List js}{l:List (Int×Value)}{M':Mem}{V V':World}{row:Option Nat}(h:PSt w M bq gm b8 gd ps done l M' V)(hg:V.grownBy V' row)
  (hr:∀r,row=some r→r≠gm∧r≠gd∧w.heap.size≤r∧∃o:Obj,V.heap[r]?=some o∧o.isCells=false):PSt w M bq gm b8 gd ps done l M' V':=by
 have WA:∀{j:Nat} {cs:Array Value} {E:TypeId} {fr:Nat×Nat},V.heap[j]?=some (.cells cs E fr)→some j≠row:=fun hj e=>by
  obtain⟨_,_,_,o,ho,hc⟩:=hr _ e.symm;rw[hj]at ho;cases ho;cases hc
 have keep:∀{j:Nat} {o:Obj},V.heap[j]?=some o→some j≠row→V'.heap[j]?=some o:=fun hj hn=>(hg.block _ (qd.1 hj).1 hn).trans hj
 have Yj:Below w.heap.size w V':=h.below.grown hg h.below.size fun k hk=>(hr k hk).2.2.1
 have Qr:∀b o v,M' b o=some v→V'.cell? ⟨b,o,none⟩=some v:=fun b o v hv=>by
  have hc:=h.good.2 b o v hv;refine(za (hg.block b (zc V ⟨b,o,none⟩ hc) fun e =>?_)).trans hc;obtain⟨_,_,_,ob,ho,hcf⟩:=hr b e.symm;simp only[World.cell?,ho]at hc;cases ob<;>first|(exfalso;exact Bool.noConfusion hcf;done)|(simp at hc;done)
 have vX:∀k,(vJ l k).ownBlock=none∨(vJ l k).ownBlock≠row:=fun k=>by
  obtain⟨cells,o1,_⟩:=h.qs.row k;rcases o1.2 with⟨e,_⟩|⟨g,cap,jT,e,_,wE,_⟩
  ·left;rw[e];rfl
  ·right;rw[e];exact WA wE
 obtain⟨es,cl,d1,d2⟩:=h.cd;obtain⟨MF,MN,m1,m2⟩:=h.qs.map;exact⟨h.g0,mN h.g0 h.le Yj Qr,h.le,h.mem,Yj,keep h.cq (WA h.cq),keep h.c8 (WA h.c8),
  ⟨es,cl,keep d1 fun e=>(hr _ e.symm).2.1 rfl,d2⟩,
  ⟨⟨MF,MN,keep m1 fun e=>(hr _ e.symm).1 rfl,m2⟩,fun k=>(h.qs.row k).imp fun cells hc=>⟨hc.1.kept hg (vX k),hc.2⟩,h.qs.apart,h.qs.mem⟩,h.m8,h.n8,h.nm,h.ne⟩
structure Mks (w W:World) (ms:List Nat):Prop where
 nodup:ms.Nodup
 mem:∀D,D∈ms→w.heap.size≤D∧W.heap[D]?=some (.deferred (some []))
theorem Mks.keeps{w W W':World}{ms:List Nat}(h:Mks w W ms)(hk:z36 W W'):Mks w W' ms:=⟨h.nodup,fun D hD=>⟨(h.mem D hD).1,hk.same _ _ (h.mem D hD).2 rfl⟩⟩
abbrev lI(ms:List Nat):List Deferred:=ms.map fun D=>{target :=.collected D,args := #[]}
theorem Ro{n:wC}:∀{l1 l2:List (Int×Int)} {ps:jY},HL n (l1++l2) ps=(HL n l1 ps).bind fun qs=>HL n l2 qs
 |[],l2,ps=>rfl
 | m::l1,l2,ps=>by
  simp only[qS,HL];cases Ha n m with
  |none=>rfl
  |some t=>
   simp only[qh];cases XW ps t with
   |none=>rfl
   |some qs=>exact Ro
theorem yef{M:Mem}{x:Int×Int}{v:Value}(h:jz Tryz.prog wP M x v):v=Kk x:=by
 obtain⟨cs,rfl,hc⟩:∃cs:Array Value,v = .agg cs∧jB Tryz.prog wP M x cs.toList:=h
 have hl:=Qp wP M x _ hc;obtain⟨cs⟩:=cs;match cs,hl,hc with
 |[a,b],_,hc=>
  obtain⟨h1,h2⟩:jB Tryz.prog (.int .i64) M x.1 [a]∧jB Tryz.prog (.int .i64) M x.2 [b]:=hc;have JU:[a]=[Value.int .i64 x.1]:=h1;have BU:[b]=[Value.int .i64 x.2]:=h2;simp only[qM,zA]at JU BU;rw[JU,BU];rfl
def RInv(w:World)(M:Mem)(bq gm b8 gd:Nat)(n:wC)(ps:jY)(done:List js)(M':Mem)(W0:World)(ms:List Nat)(pre:List (Int×Int))(N:Mem)(V:World):Prop:=
 ∃l qs,HL n pre ps=some qs∧PSt w M bq gm b8 gd qs done l N V∧Mem.le M' N∧z36 W0 V
theorem RInv.own{w:World}{M:Mem}{bq gm b8 gd:Nat}{n:wC}{ps:jY}{done:List js}{M':Mem}{W0:World}{ms:List Nat}{pre:List (Int×Int)}{N:Mem}{V V':World}{row:Option Nat}(hw:w.heap.size≤W0.heap.size)(h1:gm<W0.heap.size)(h2:gd<W0.heap.size)(h:RInv w M bq gm b8 gd n ps done M' W0 ms pre N V)(hg:V.grownBy V' row)
  (hr:∀r,row=some r→W0.heap.size≤r∧∃o:Obj,V.heap[r]?=some o∧o.isCells=false):RInv w M bq gm b8 gd n ps done M' W0 ms pre N V':=by
 obtain⟨l,qs,e1,e2,e3,e4⟩:=h;refine⟨l,qs,e1,e2.own hg fun r e =>?_,e3,⟨fun k o hk ho =>?_⟩⟩
 ·obtain⟨q1,q2⟩:=hr r e;exact⟨by omega,by omega,by omega,q2⟩
 ·have:=e4.same k o hk ho;refine(hg.block k (qd.1 this).1 fun e =>?_).trans this;have q1:=(hr k e.symm).1;have:=(qd.1 hk).1;omega
theorem RInv.grow{w:World}{M:Mem}{bq gm b8 gd:Nat}{n:wC}{ps:jY}{done:List js}{M':Mem}{W0:World}{ms:List Nat}{pre:List (Int×Int)}{N N':Mem}{V V':World}(h:RInv w M bq gm b8 gd n ps done M' W0 ms pre N V)(hg:Good N' V')(jZ:vm N V N' V'):RInv w M bq gm b8 gd n ps done M' W0 ms pre N' V':=by
 obtain⟨l,qs,e1,e2,e3,e4⟩:=h;have jL:=(QN (G:=[]) e2.good jZ).le;exact⟨l,qs,e1,e2.kept hg jZ jL,Mem.le_trans e3 jL,e4.trans (z36.of_below ⟨jZ.below.os,jZ.below.tape,jZ.below.output,jZ.below.size,jZ.below.block⟩)⟩
theorem ybr{w:World}{M:Mem}{bq gm b8 gd b9 bn:Nat}{ps qs:jY}{done:List js}{l:List (Int×Value)}{M':Mem}{W:World}(h:PSt w M bq gm b8 gd ps done l M' W){n:wC}{xs:List (Int×Int)}{k:Int}{i:Nat}{ms:List Nat}(Ye:Mks w W ms)
  {yv lv mv:Value} (r1:jz Tryz.prog YP M' n.1 yv) (r2:jz Tryz.prog Zc M' n.2.1 lv) (r3:jz Tryz.prog V4 M' n.2.2.1 mv)
  (c9:M' b9 0=some (B7 bq b8)) (n0:M' bn 0=some yv) (n1:M' bn 1=some lv) (n2:M' bn 2=some mv) (n3:M' bn 3=some (.int .i64 n.2.2.2))
  (hx:gy n.1=some xs) (ZU:HL n xs ps=some qs) {a:Act} (ha:wH bq b8 gd b9 (lI ms) k a) (hi:a.tmps.getD 11 undef = .int .i64 (i:Int)) (hn:a.tmps.getD 12 undef = .pointer (some ⟨bn,0,none⟩)) (h58:a.tmps.getD 58 undef = .func (.func 175) #[yv] #[]) {Q:Exit→Act→World→Prop}
  (hQ:∀a' l' M2 W' KN,PSt w M bq gm b8 gd qs done l' M2 W'→Mem.le M' M2→Mks w W' KN→wH bq b8 gd b9 (lI KN) k a'→a'.tmps.getD 11 undef = .int .i64 (i:Int)→Q .normal a' W'):
  (Code.block 4 (.rangeFunc (.tmp 58) #[59] uX uZ)).wpIn Fence.wide 4 Tryz.prog Q a W:=by
 have SY:gm<W.heap.size:=by
  obtain⟨es,cl,m1,_⟩:=h.qs.map;exact(qd.1 m1).1
 have X4:gd<W.heap.size:=by
  obtain⟨es,cl,m1,_⟩:=h.cd;exact(qd.1 m1).1
 have wx:∀{pre:List (Int×Int)} {N:Mem},OwnFrom W.heap.size fun(_:Unit) V=>RInv w M bq gm b8 gd n ps done M' W ms pre N V:=fun{pre N} _ V V' row hI hg hr=>hI.own h.below.size SY X4 hg hr
 refine xx (zyo rfl (by decide) rfl (fun _=>True.intro) rfl h58 (cU r1 hx) rfl
  (RInv w M bq gm b8 gd n ps done M' W ms) (fun _ _ _ _=>False) (fun pre N V ⟨_,_,_,e,_⟩=>e.good) (fun _ _ _ _ h=>h.elim) (fun pre N V N' V' hI hg jZ=>hI.grow hg jZ) (fun _ _ _ _ _ _ h=>h.elim)
  (fun pre N=>wx) (fun _ _ _ _ _ _ _ h=>h.elim) ⟨l,ps,rfl,h,Mem.le_refl _,z36.refl _⟩
  (fun pre x N a' V=>RInv w M bq gm b8 gd n ps done M' W ms pre N V∧wH bq b8 gd b9 [] k a'∧a'.tmps.getD 11 undef = .int .i64 (i:Int)∧a'.tmps.getD 12 undef = .pointer (some ⟨bn,0,none⟩)∧∃bm,a'.tmps.getD 14 undef = .pointer (some ⟨bm,0,none⟩)∧N bm 0=some (.int .i64 x.1)∧N bm 1=some (.int .i64 x.2))
  (fun pre x N a' _ V V' row hI hg hr=>⟨wx () V V' row hI.1 hg hr,hI.2⟩) ?assign ?body ?done (fun _ _ _ _ _ _ _ h=>h.elim))
 case assign=>
  rintro lp pre x N V v K ⟨l1,Ns,e1,e2,e3,e4⟩ vc hv hK;rw[yef hv];have JI:((#[59]:Array Nat).zip #[Kk x]).foldl (fun t (p,v)=>t.setIfInBounds p v) a.tmps=a.tmps.setIfInBounds 59 (Kk x):=by simp
  rw[show((#[59]:Array Tmp).zip #[Kk x]).foldl (fun t (p,v)=>t.setIfInBounds p v) a.tmps=a.tmps.setIfInBounds 59 (Kk x) from JI];have vQ:=ha.size;refine fT (lp:=lp) rfl (m:=x) ⟨by rw[kM];exact ha.size,rfl,(yN (by decide)).trans ha.t4,(yN (by decide)).trans ha.t5,(yN (by decide)).trans ha.t6,(yN (by decide)).trans ha.t7,(yN (by decide)).trans ha.t8,(yN (by decide)).trans ha.t9,(yN (by decide)).trans ha.t10⟩ ((yN (by decide)).trans hi) ((yN (by decide)).trans hn) (nj (by rw[vQ];decide)) fun a' f1 f2 f3 f4 =>?_
  obtain⟨g1,g2⟩:=e2.alloc #[.int .i64 x.1,.int .i64 x.2] 63;have lB:z36 V (V.alloc (.cells #[.int .i64 x.1,.int .i64 x.2] 63)):=z36.of_below ((qN _ V).alloc (ql _) _);refine hK _ a' _ g2 lB ⟨⟨l1,Ns,e1,g1,Mem.le_trans e3 g2,e4.trans lB⟩,f1,f2,f3,_,f4,?_,?_⟩
  ·simp[Zi]
  ·simp[Zi]
 case body=>
  rintro lp pre x N a' V ⟨⟨l1,Ns,e1,e2,e3,e4⟩,f1,f2,f3,bm,f4,m0,m1⟩ ⟨rest,Dw⟩;rw[←Dw,Ro]at ZU;obtain⟨qs2,SM,_⟩:=qi.1 ZU;have H9:=SM;rw[Ro,e1,qh]at H9;simp only[HL]at H9;obtain⟨t,ht,H9⟩:=qi.1 H9;obtain⟨qs3,hq3,H9⟩:=qi.1 H9;obtain rfl:qs3=qs2:=zQ H9;refine da (y69 lp) (lp:=lp) rfl e2 (ZZ e3 r1) (ZZ e3 r2) (ZZ e3 r3) (e3 _ _ _ c9) (e3 _ _ _ n0) (e3 _ _ _ n1) (e3 _ _ _ n2) (e3 _ _ _ n3) m0 m1 ht hq3 f1 f2 f3 f4 fun a2 l2 M2 W2 hP hM hk hf =>?_
  exact⟨hk,M2,hM,l2,qs3,SM,hP,Mem.le_trans e3 hM,e4.trans hk⟩
 case done=>
  rintro D N V hD ⟨l1,Ns,e1,e2,e3,e4⟩ hdv;rw[ZU]at e1;obtain rfl:=zQ e1;refine hQ _ l1 N V (D::ms) e2 e3 ⟨z6.2 ⟨fun hm =>?_,Ye.nodup⟩,fun D' Ke =>?_⟩ ⟨ha.size,?_,ha.t4,ha.t5,ha.t6,ha.t7,ha.t8,ha.t9,ha.t10⟩ hi
  ·have:=(qd.1 (Ye.mem D hm).2).1;omega
  ·rcases qF.1 Ke with rfl|hm
   ·exact⟨by have:=h.below.size;omega,hdv⟩
   ·exact⟨(Ye.mem D' hm).1,e4.same _ _ (Ye.mem D' hm).2 rfl⟩
  ·show _::a.defers=_;rw[ha.defers];rfl
theorem sV:JZ = .seq fp (.seq (.block 3 HJ) i129):=by kernel_rfl
theorem T6:HJ = .seq Nr (.seq fy (.seq cG (.seq dG (.cond (.tmp 53) t129 .skip)))):=by kernel_rfl
theorem y03{w:World}{M:Mem}{bq gm b8 gd:Nat}{ps:jY}{done:List js}{l:List (Int×Value)}{M':Mem}{W:World}(h:PSt w M bq gm b8 gd ps done l M' W){k:Int}:(QX ps k).length≤maxLen:=by
 obtain⟨cells,o1,_⟩:=h.qs.row k;rcases o1.2 with⟨_,e⟩|⟨g,cap,jT,_,_,_,h1,h2,_⟩
 ·omega
 ·exact ze h1 h2
theorem yax{s:js}{done:List js}:(done.any fun t=>jO s t)=true↔s∈done:=by
 simp only[zI];constructor
 ·rintro⟨t,ht,h⟩;rw[bD.1 h];exact ht
 ·exact fun h=>⟨s,h,bD.2 rfl⟩
structure sC (w:World) (M:Mem) (bq gm b8 gd b9:Nat) (ps:jY) (done:List js) (k:Int) (M':Mem) (W:World) (a:Act):Prop where
 st:∃l,PSt w M bq gm b8 gd ps done l M' W
 fr:∃ms,Mks w W ms∧wH bq b8 gd b9 (lI ms) k a
 clo:M' b9 0=some (B7 bq b8)
def Hit(w:World)(M:Mem)(l:List (Int×Int))(a:Act)(W:World):Prop:=∃bq gm b8 gd ps done l0 M' mv ms,PSt w M bq gm b8 gd ps done l0 M' W∧jz Tryz.prog V4 M' l mv∧Mks w W ms∧a.tmps.size=65∧a.defers=lI ms∧a.tmps.getD 4 undef=mv∧a.tmps.getD 5 undef = .bool true
theorem A1{w:World}{M:Mem}{bq gm b8 gd b9:Nat}(X4:w.heap.size≤gd){k:Int}{K:Nat}{ps:jY}{done:List js}{i:Nat}{r:(jY×List js)⊕List (Int×Int)}(wy:Fu k K ps done i r):
  ∀{M':Mem} {W:World} {a:Act} {Q:Exit→Act→World→Prop},sC w M bq gm b8 gd b9 ps done k M' W a→a.tmps.getD 11 undef = .int .i64 (i:Int)→
   (∀Bl done' a' M2 W',r = .inl (Bl,done')→sC w M bq gm b8 gd b9 Bl done' k M2 W' a'→Q (.exit 2) a' W')→
   (∀l a' W',r = .inr l→Hit w M l a' W'→Q .ret a' W')→Code.roundsIn Fence.wide 4 Tryz.prog JZ Q (K+1) a W:=by
 induction wy with
 |@stop K ps done i jH=>
  intro M' W a Q hs hi Qe QR;obtain⟨⟨l,hP⟩,⟨ms,hm,hf⟩,hc⟩:=hs;rw[xD,sV];refine zq (sL hP hf hi (fun hlt=>by omega) fun _ a1 f1 =>?_);exact Qe _ _ _ _ _ rfl ⟨⟨l,hP⟩,⟨ms,hm,f1⟩,hc⟩
 |@goal K ps done i n hn h0=>
  intro M' W a Q hs hi Qe QR;obtain⟨⟨l,hP⟩,⟨ms,hm,hf⟩,hc⟩:=hs;have X2:=(qp.1 hn).1;rw[xD,sV];refine zq (sL hP hf hi (fun _ a1 f1 f2 =>?_) fun hge=>by omega);refine zq (xx ?_);rw[T6];refine zq (PX hP hn f1 f2 fun yv lv mv a2 r1 r2 r3 g1 g2 g3 =>?_);obtain⟨p1,p2⟩:=hP.alloc #[yv,lv,mv,.int .i64 n.2.2.2] 184;refine zq (PR (qz W _) r1 r2 r3 g1 g2 g3 (fun _ a3 q1 q2 q3 q4 =>?_) fun ju=>absurd h0 ju);refine QR _ _ _ rfl ⟨bq,gm,b8,gd,ps,done,l,_,mv,ms,p1,ZZ p2 r3,hm.keeps (z36.of_below ((qN _ W).alloc (ql _) _)),q1,q2,q3,q4⟩
 |@skip K ps done i n s r hn h0 hk Xi wy ih=>
  intro M' W a Q hs hi Qe QR;obtain⟨⟨l,hP⟩,⟨ms,hm,hf⟩,hc⟩:=hs;have X2:=(qp.1 hn).1;have Dx:=y03 hP (k:=k);rw[xD,sV];refine zq (sL hP hf hi (fun _ a1 f1 f2 =>?_) fun hge=>by omega);refine zq (xx ?_);rw[T6];refine zq (PX hP hn f1 f2 fun yv lv mv a2 r1 r2 r3 g1 g2 g3 =>?_);obtain⟨p1,p2⟩:=hP.alloc #[yv,lv,mv,.int .i64 n.2.2.2] 184;have hb:=qz W (.cells #[yv,lv,mv,.int .i64 n.2.2.2] 184);have al:=hm.keeps (z36.of_below ((qN W.heap.size W).alloc (ql _) (.cells #[yv,lv,mv,.int .i64 n.2.2.2] 184)));obtain⟨W1,Ma⟩:∃W1,W.alloc (.cells #[yv,lv,mv,.int .i64 n.2.2.2] 184)=W1:=⟨_,rfl⟩
  rw[Ma]at p1 hb al⊢;refine zq (PR hb r1 r2 r3 g1 g2 g3 (fun he=>absurd he h0) fun _ a3 q1 q2 q3 =>?_);refine zq (ydz p1.good hk hb (ZZ p2 r1) (ZZ p2 r2) (ZZ p2 r3) q1 q2 q3 fun a4 W4 M4 u1 u2 u3 u4 u5 u6 u7 =>?_);have h4:=p1.kept u1 u2 u3;have pz:=al.keeps (z36.of_below ⟨u2.below.os,u2.below.tape,u2.below.output,u2.below.size,u2.below.block⟩);refine zq (y9k h4.cd u4 u5 u6 u7 fun a5 v1 v2 v3 v4 v5 =>?_);rw[yax.2 Xi]at v5;refine wpIn_cond_false v5 (jk ?_);refine y81 (by rw[jf]<;>(unfold maxLen at Dx;omega)) v1 v2 fun a6 x1 x2 =>?_
  exact ih ⟨⟨l,h4⟩,⟨ms,pz,x1⟩,u3 _ _ _ (p2 _ _ _ hc)⟩ x2 Qe QR
 |@turn K ps qs done i n s xs r hn h0 hk Xi S3 hx ZU wy ih=>
  intro M' W a Q hs hi Qe QR;obtain⟨⟨l,hP⟩,⟨ms,hm,hf⟩,hc⟩:=hs;have X2:=(qp.1 hn).1;have Dx:=y03 hP (k:=k);rw[xD,sV];refine zq (sL hP hf hi (fun _ a1 f1 f2 =>?_) fun hge=>by omega);refine zq (xx ?_);rw[T6];refine zq (PX hP hn f1 f2 fun yv lv mv a2 r1 r2 r3 g1 g2 g3 =>?_);obtain⟨p1,p2⟩:=hP.alloc #[yv,lv,mv,.int .i64 n.2.2.2] 184;have hb:=qz W (.cells #[yv,lv,mv,.int .i64 n.2.2.2] 184);have al:=hm.keeps (z36.of_below ((qN W.heap.size W).alloc (ql _) (.cells #[yv,lv,mv,.int .i64 n.2.2.2] 184)));have e0:Zi M' W.heap.size [yv,lv,mv,.int .i64 n.2.2.2] W.heap.size 0=some yv:=by simp[Zi]
  have e1:Zi M' W.heap.size [yv,lv,mv,.int .i64 n.2.2.2] W.heap.size 1=some lv:=by simp[Zi]
  have e2:Zi M' W.heap.size [yv,lv,mv,.int .i64 n.2.2.2] W.heap.size 2=some mv:=by simp[Zi]
  have e3:Zi M' W.heap.size [yv,lv,mv,.int .i64 n.2.2.2] W.heap.size 3=some (.int .i64 n.2.2.2):=by simp[Zi]
  obtain⟨W1,Ma⟩:∃W1,W.alloc (.cells #[yv,lv,mv,.int .i64 n.2.2.2] 184)=W1:=⟨_,rfl⟩
  rw[Ma]at p1 hb al⊢;refine zq (PR hb r1 r2 r3 g1 g2 g3 (fun he=>absurd he h0) fun _ a3 q1 q2 q3 =>?_);refine zq (ydz p1.good hk hb (ZZ p2 r1) (ZZ p2 r2) (ZZ p2 r3) q1 q2 q3 fun a4 W4 M4 u1 u2 u3 u4 u5 u6 u7 =>?_);have h4:=p1.kept u1 u2 u3;have pz:=al.keeps (z36.of_below ⟨u2.below.os,u2.below.tape,u2.below.output,u2.below.size,u2.below.block⟩);refine zq (y9k h4.cd u4 u5 u6 u7 fun a5 v1 v2 v3 v4 v5 =>?_);have FW:(done.any fun t=>jO s t)=false:=by
   cases e:done.any fun t=>jO s t with
   |false=>rfl
   |true=>exact absurd (yax.1 e) Xi
  rw[FW]at v5;refine wpIn_cond_true v5 ?_;rw[yei];obtain⟨W5,jF,h5⟩:=h4.did FW X4;have ap:z36 W4 W5:=⟨fun j o hj ho=>by
   obtain⟨es,cl,d1,d2⟩:=h4.cd;have hM:=jF;obtain⟨Zx,Kz,z1,_⟩:=IX (P:=Tryz.prog) (k :=.str) (v :=.bool) rfl (T:=146) (by kernel_rfl) d1 d2 s true (by rw[List.any_map,jn];exact FW);have z1':(Instr.mapUpdate 146 (.map (some gd)) (.string s) (.bool true)).run Tryz.prog W4 = .ok () {W4 with heap:=W4.heap.setIfInBounds gd (.map Zx Kz)}:=z1;rw[jF]at z1';cases z1';refine(yr fun e =>?_).trans hj;subst e;rw[d1]at hj;cases hj;cases ho⟩
  refine zq (fM jF v1 v2 v3 v4 fun a6 x1 x2 x3 =>?_);have ec:∀o v,Zi M' W.heap.size [yv,lv,mv,.int .i64 n.2.2.2] W.heap.size o=some v→M4 W.heap.size o=some v:=fun o v hv=>u3 _ _ _ hv
  refine zq (yfc (h5.good.2 _ _ _ (ec 0 _ e0)) x1 x2 x3 fun a7 y1 y2 y3 y4 =>?_);refine ybr h5 (pz.keeps ap) (ZZ (Mem.le_trans p2 u3) r1) (ZZ (Mem.le_trans p2 u3) r2) (ZZ (Mem.le_trans p2 u3) r3) (u3 _ _ _ (p2 _ _ _ hc)) (ec 0 _ e0) (ec 1 _ e1) (ec 2 _ e2) (ec 3 _ e3) hx ZU y1 y2 y3 y4 fun a8 l8 M8 W8 ms8 h8 hM8 Ol f8 t8 =>?_
  refine y81 (by rw[jf]<;>(unfold maxLen at Dx;omega)) f8 t8 fun a9 x1 x2 =>?_
  exact ih ⟨⟨l8,h8⟩,⟨ms8,Ol,x1⟩,hM8 _ _ _ (u3 _ _ _ (p2 _ _ _ hc))⟩ x2 Qe QR
attribute [local go_sem] Oper.semAt_some j9
theorem TV:KC = .seq du (.seq (.block 1 (.seq ct (.block 2 (.loop JZ)))) fW):=by kernel_rfl
abbrev Kl:Int:=4295967296
theorem Ln{ps qs:jY}{n:wC}(h:XW ps n=some qs)(hm:Xx ps≤Kl):Xx qs≤Kl:=by
 unfold XW at h;obtain⟨t,ht,h⟩:=qi.1 h;obtain⟨bl,Fm,h⟩:=qi.1 h;cases hc:(decide (0≤t.2.2.2)&&decide (t.2.2.2≤4294967296)&&decide (ps.length≤100000000)&&decide (bl.length≤1000000))with
 |false=>rw[hc]at h;cases h
 |true=>
  rw[hc,qv,qb]at h;subst h;simp only[qg,qI]at hc;rw[zqj];unfold Kl at hm⊢;omega
theorem IU{n:wC}:∀{xs:List (Int×Int)} {ps qs:jY},HL n xs ps=some qs→Xx ps≤Kl→Xx qs≤Kl
 |[],ps,qs,h,hm=>by
  have:ps=qs:=zQ h;rw[←this];exact hm
 |m::xs,ps,qs,h,hm=>by
  simp only[HL]at h;obtain⟨t,ht,h⟩:=qi.1 h;obtain⟨q,hq,h⟩:=qi.1 h;exact IU h (Ln hq hm)
theorem y1z{k:Int}{K:Nat}{ps:jY}{done:List js}{i:Nat}{r:(jY×List js)⊕List (Int×Int)}(h:Fu k K ps done i r):Xx ps≤Kl→∀qs d,r = .inl (qs,d)→Xx qs≤Kl:=by
 induction h with
 |stop _=>intro hm qs d e;cases e;exact hm
 |goal _ _=>intro hm qs d e;cases e
 |skip _ _ _ _ _ ih=>exact ih
 |turn _ _ _ _ _ _ ZU _ ih=>exact fun hm=>ih (IU ZU hm)
theorem dh{w:World}{M:Mem}{bq gm b8 gd b9:Nat}(X4:w.heap.size≤gd){N:Nat}{ps:jY}{done:List js}{k:Nat}{r:List (Int×Int)×Bool}(Qn:Ab N ps done k r):
    ∀ {M':Mem} {W:World} {a:Act} {Q:Exit→Act→World→Prop},sC w M bq gm b8 gd b9 ps done (k:Int) M' W a→Xx ps≤Kl→
      (∀Bl done' k' a' M2 W',r=([],false)→sC w M bq gm b8 gd b9 Bl done' k' M2 W' a'→Q (.exit 0) a' W')→
      (∀l a' W',r=(l,true)→Hit w M l a' W'→Q .ret a' W')→Code.roundsIn Fence.wide 4 Tryz.prog KC Q (N+1) a W:=by
  induction Qn with
  |@stop N ps done k hlt=>
    intro M' W a Q hs hm Qe QR;obtain⟨⟨l,hP⟩,⟨ms,Ye,hf⟩,hc⟩:=hs;rw[xD,TV];refine zq (TW hP.c8 hf (fun jL=>by omega) fun _ a1 f1 =>?_);exact Qe _ _ _ _ _ _ rfl ⟨⟨l,hP⟩,⟨ms,Ye,f1⟩,hc⟩
  |@goal N K ps done k l jL wy=>
    intro M' W a Q hs hm Qe QR;obtain⟨⟨l0,hP⟩,⟨ms,Ye,hf⟩,hc⟩:=hs;rw[xD,TV];refine zq (TW hP.c8 hf (fun _ a1 f1 =>?_) fun hlt=>by omega);refine zq (xx (zq (y7o f1 fun a2 f2 g2=>xx (xP (K+1) ?_))));refine A1 X4 wy ⟨⟨l0,hP⟩,⟨ms,Ye,f2⟩,hc⟩ g2 (fun _ _ _ _ _ e=>by cases e) fun l' a' W' e hh =>?_
    cases e;exact QR _ _ _ rfl hh
  |@next N K ps qs done done' k r jL wy Qn ih=>
    intro M' W a Q hs hm Qe QR;obtain⟨⟨l0,hP⟩,⟨ms,Ye,hf⟩,hc⟩:=hs;rw[xD,TV];refine zq (TW hP.c8 hf (fun _ a1 f1 =>?_) fun hlt=>by omega);refine zq (xx (zq (y7o f1 fun a2 f2 g2=>xx (xP (K+1) ?_))));refine A1 X4 wy ⟨⟨l0,hP⟩,⟨ms,Ye,f2⟩,hc⟩ g2 (fun Bl d' a' M2 W' e hh =>?_) fun l' a' W' e hh=>(by cases e)
    cases e;obtain⟨h1,⟨ms2,Oi,f3⟩,h3⟩:=hh;refine yf6 (by unfold Kl at hm;rw[jf] ;omega) f3 fun _ a4 f4 =>?_
    exact ih ⟨h1, ⟨ms2, Oi, by have e:(k:Int)+1=((k+1:Nat):Int):=(by omega);rw[←e];exact f4⟩,h3⟩ (y1z wy hm _ _ rfl) Qe QR
theorem LY{F:Fence}{n:Nat}{P:Program}{fn:Func}{tmps:Array Value}{R:Ending→World→Prop}{w0:World}(S:World→Prop)(hS:∀(D:Nat) (V:World),w0.heap.size≤D→S V→V.heap[D]?=some (.deferred (some []))→S (V.putObj D (.deferred none))):∀(ms:List Nat) (w:World),Mks w0 w ms→S w→
  (∀w',S w'→LeavesIn F n P fn tmps R [] .returning w')→LeavesInM F n P fn tmps R (lI ms) .returning w
 |[],w,_,hs,h=>h w hs
 |D::ms,w,hm,hs,h=>by
  have hD:=hm.mem D (by simp);have hn:=z6.1 hm.nodup;refine⟨by simp,.inl ⟨D,_,rfl,run_takeDeferred hD.2,?_⟩⟩;refine LY S hS ms _ ⟨hn.2,fun D' Ke=>⟨(hm.mem D' (qo _ Ke)).1,(zt (fun e=>hn.1 (by first|(rw[e];exact Ke)|(rw[←e];exact Ke)))).trans (hm.mem D' (qo _ Ke)).2⟩⟩ (hS D w hD.1 hs hD.2) h
theorem PSt.off{w:World}{M:Mem}{bq gm b8 gd:Nat}{ps:jY}{done:List js}{l:List (Int×Value)}{M':Mem}{V:World}(h:PSt w M bq gm b8 gd ps done l M' V){D:Nat}(hD:w.heap.size≤D)(hv:V.heap[D]?=some (.deferred (some []))):PSt w M bq gm b8 gd ps done l M' (V.putObj D (.deferred none)):=by
 refine h.own (grownBy_putObj' V D (.deferred none)) fun r e =>?_
 cases e;refine⟨fun e =>?_,fun e =>?_,hD,_,hv,rfl⟩
 ·obtain⟨es,cl,m1,_⟩:=h.qs.map;rw[←e,hv]at m1;cases m1
 ·obtain⟨es,cl,m1,_⟩:=h.cd;rw[←e,hv]at m1;cases m1
theorem y5y(tmps:Array Value)(w:World):(Go.results Tryz.f129 tmps).run Tryz.prog w = .ok (.tuple #[tmps.getD 4 undef,tmps.getD 5 undef]) w:=IW (by kernel_rfl) tmps w
theorem yew{M:Mem}{w w5:World}{v:Value}{T:TypeId}(h:PSt w M (w.heap.size+2) (w.heap.size+1) (w.heap.size+3) w.heap.size [] [] [] M w5)(hb:w5.heap[w.heap.size+4]?=some (.cells #[v] T (0,0))):
  PSt w M (w.heap.size+2) (w.heap.size+1) (w.heap.size+3) w.heap.size [] [] [] (Zi M (w.heap.size+4) [v]) w5:=by
 have hn:∀b o,w.heap.size≤b→M b o=none:=fun b o X5=>W9 h.g0 X5 o
 have jL:Mem.le M (Zi M (w.heap.size+4) [v]):=fun b o u hu=>by
  have:b≠w.heap.size+4:=fun e=>by rw[e,hn _ _ (by omega)]at hu;cases hu
  simp[Zi,this,hu]
 have vu:∀b,b≠w.heap.size+4→Zi M (w.heap.size+4) [v] b=M b:=fun b X5=>by funext o;simp[Zi,X5]
 refine⟨h.g0,mN h.g0 jL h.below fun b o u hu =>?_,jL,fun b X5=>vu b (by omega),h.below,h.cq,h.c8,h.cd,⟨h.qs.map,fun k=>⟨[],World.ownsRow_nil _ _ _ _,rfl,fun i hi=>absurd hi (zW _)⟩,fun _ _ _ =>.inl rfl,fun k b o hk=>by cases hk⟩,fun o=>by rw[vu _ (by omega)];exact h.m8 o,h.n8,h.nm,h.ne⟩;by_cases e:b=w.heap.size+4
 ·subst e;simp only[Zi,yp]at hu;exact va hb (by simpa using hu)
 ·rw[vu b e]at hu;exact h.good.2 _ _ _ hu
theorem yfy:wA = .seq (cF wA) (.seq (cF (cS wA)) (.seq (cF (cS (cS wA))) (.seq (cF (cS (cS (cS wA)))) (.seq (cF (cS (cS (cS (cS wA))))) (.seq (cF (cS (cS (cS (cS (cS wA))))))
 (.seq (.seq (cF (cF (cS (cS (cS (cS (cS (cS wA)))))))) (.block 0 (.loop KC))) (cS (cS (cS (cS (cS (cS (cS wA))))))))))))):=by kernel_rfl
theorem yf0{M:Mem}{w:World}(hg:Good M w){y:List (List js)}{request:List js}{yv lv:Value}{ps:jY}(hy:jz Tryz.prog YP M y yv)(hl:jz Tryz.prog Zc M request lv)(QZ:XW [] (y,request,[],0)=some ps){X Y:Code}{Q:Exit→Act→World→Prop}
  (hX:∀a' M' W' (K:Act→World→Prop),sC w M (w.heap.size+2) (w.heap.size+1) (w.heap.size+3) w.heap.size (w.heap.size+4) ps [] 0 M' W' a'→(∀a w,Y.wpIn Fence.wide 4 Tryz.prog Q a w→K a w)→X.wpIn Fence.wide 4 Tryz.prog (Exit.then K Q) a' W'):
  (Code.seq (cF wA) (.seq (cF (cS wA)) (.seq (cF (cS (cS wA))) (.seq (cF (cS (cS (cS wA)))) (.seq (cF (cS (cS (cS (cS wA))))) (.seq (cF (cS (cS (cS (cS (cS wA))))))
  (.seq (.seq (cF (cF (cS (cS (cS (cS (cS (cS wA)))))))) X) Y))))))).wpIn Fence.wide 4 Tryz.prog Q {tmps := #[yv,lv]++Array.replicate (Tryz.f129.ntmps-(#[yv,lv]:Array Value).size) undef,defers:=[]} w:=by
 obtain⟨ya,yc,rfl⟩:=Ka hy;obtain⟨la,lc,rfl⟩:=Ka hl;have mm1:=gO 146;have mm2:=gO 229;obtain⟨w1,v6⟩:∃w1,w.alloc (.map #[] 0)=w1:=⟨_,rfl⟩
 obtain⟨w2,Yc⟩:∃w2,w1.alloc (.map #[] 0)=w2:=⟨_,rfl⟩
 obtain⟨w3,YT⟩:∃w3,w2.alloc (.cells #[.map (some (w.heap.size+1))] 229)=w3:=⟨_,rfl⟩
 obtain⟨w4,VK⟩:∃w4,w3.alloc (.cells #[.int .i64 0] 3)=w4:=⟨_,rfl⟩
 obtain⟨w5,Cr⟩:∃w5,w4.alloc (.cells #[.func (.func 172) #[] #[.pointer (some ⟨w.heap.size+2,0,none⟩),.pointer (some ⟨w.heap.size+3,0,none⟩)]] 232)=w5:=⟨_,rfl⟩
 have z1:w1.heap.size=w.heap.size+1:=by rw[←v6,qQ]
 have z2:w2.heap.size=w.heap.size+2:=by rw[←Yc,qQ,z1]
 have z3:w3.heap.size=w.heap.size+3:=by rw[←YT,qQ,z2]
 have z4:w4.heap.size=w.heap.size+4:=by rw[←VK,qQ,z3]
 have d4:w4.heap[w.heap.size+3]?=some (.cells #[.int .i64 0] 3 (0,0)):=by rw[←VK,←z3];exact qz w3 _
 have s4:=y5t d4;have k4:w4.cell? ⟨w.heap.size+3,0,none⟩=some (.int .i64 0):=va d4 rfl;have f4:w4.frozen? ⟨w.heap.size+3,0,none⟩=false:=Vs d4;have z5:w5.heap.size=w.heap.size+5:=by rw[←Cr,qQ,z4]
 have d5:w5.heap[w.heap.size+4]?=some (.cells #[.func (.func 172) #[] #[.pointer (some ⟨w.heap.size+2,0,none⟩),.pointer (some ⟨w.heap.size+3,0,none⟩)]] 232 (0,0)):=by rw[←Cr,←z4];exact qz w4 _
 have k5:w5.cell? ⟨w.heap.size+4,0,none⟩=some (.func (.func 172) #[] #[.pointer (some ⟨w.heap.size+2,0,none⟩),.pointer (some ⟨w.heap.size+3,0,none⟩)]):=va d5 rfl;have f5:w5.frozen? ⟨w.heap.size+4,0,none⟩=false:=Vs d5;have ZR:(Go.store ⟨w.heap.size+4,0,none⟩ (.func (.func 172) #[] #[.pointer (some ⟨w.heap.size+2,0,none⟩),.pointer (some ⟨w.heap.size+3,0,none⟩)])).run Tryz.prog (w4.alloc (.cells #[.nilFunc] 232)) = .ok () w5:=by
  have h0:=qz w4 (.cells #[.nilFunc] 232);rw[z4]at h0;have k0:(w4.alloc (.cells #[.nilFunc] 232)).cell? ⟨w.heap.size+4,0,none⟩=some .nilFunc:=va h0 rfl;have f0:(w4.alloc (.cells #[.nilFunc] 232)).frozen? ⟨w.heap.size+4,0,none⟩=false:=Vs h0;go_simp
 have Zr:=yew (y8u hg v6 Yc YT VK Cr) d5;have Gk:=Open.calls ET (n:=3) (ydt (n:=(y,request,[],0)) Zr (ZZ Zr.le hy) (ZZ Zr.le hl) (⟨_,rfl,.inl ⟨rfl,rfl⟩⟩:jz Tryz.prog V4 _ [] (.slice none 0 0)) QZ);have hc9:∀M2,Mem.le (Zi M (w.heap.size+4) [B7 (w.heap.size+2) (w.heap.size+3)]) M2→M2 (w.heap.size+4) 0=some (B7 (w.heap.size+2) (w.heap.size+3)):=fun M2 h=>h _ _ _ (by simp[Zi])
 clear Zr;simp only[Tryz.ntmps129,qJ,qk,qR,Nat.reduceAdd,Nat.reduceSub,zj,zk,zw,zo,qP,qS];simp only[wA,Tryz.f129,qO,cF,cS];gi_wp2_with ((try refine⟨trivial,?_⟩);gi_at_call 172;refine Gk.mono ?_;clear Gk;rintro e W1 ⟨rfl,l1,M1,hP1,rY,_⟩)
 rename_i K hK;exact hX _ _ _ K ⟨⟨l1,hP1⟩,⟨[],⟨xn,fun D hD=>(by cases hD)⟩,⟨rfl,rfl,rfl,rfl,rfl,rfl,rfl,rfl,rfl⟩⟩,hc9 _ rY⟩ hK
theorem yf4{w:World}{M:Mem}{bq gm b8 gd b9:Nat}{df:List Deferred}{k:Int}{W:World}{a:Act}(ha:wH bq b8 gd b9 df k a){Q:Exit→Act→World→Prop}
  (hQ:∀a',a'.tmps.size=65→a'.defers=df→a'.tmps.getD 4 undef = .slice none 0 0→a'.tmps.getD 5 undef = .bool false→Q .ret a' W):
  (cS (cS (cS (cS (cS (cS (cS wA))))))).wpIn Fence.wide 4 Tryz.prog Q a W:=by
 obtain⟨⟨xs⟩,ds⟩:=a;obtain⟨hz,hd,t4,t5,t6,t7,t8,t9,t10⟩:=ha;simp only[qJ]at hz;obtain⟨x0,x1,x2,x3,x4,x5,x6,x7,x8,x9,QO,Q7,Zv,ZM,Yq,YC,Yp,Yo,Yn,Ym,YB,YA,Yz,Z2,YS,YR,YQ,XT,XS,XR,XQ,XP,XO,XN,XM,XL,KL,KK,KJ,KI,Hx,Hw,Hv,Hu,Ht,Hs,Hr,Hq,Hp,Ho,Hn,Hm,Hl,Hk,Hj,Hi,WN,Hh,Hg,Jd,Hf,He,Hd,Hc,Hb,rfl⟩:=GC xs hz;simp only at hd;subst hd;simp only[wA,Tryz.f129,qO,cF,cS];gi_wp2
 exact hQ _ rfl rfl rfl rfl
theorem yey{M:Mem}{w:World}(hg:Good M w){y:List (List js)}{request:List js}{yv lv:Value}{r:List (Int×Int)×Bool}(hy:jz Tryz.prog YP M y yv)(hl:jz Tryz.prog Zc M request lv)(hr:sH y request r):
  Calls Tryz.prog 129 #[yv,lv] w fun e w'=>∃M' u,e = .returned (.tuple #[u,.bool r.2])∧jz Tryz.prog V4 M' r.1 u∧Good M' w'∧vm M w M' w':=by
 obtain⟨ps,N,QZ,Qn⟩:=hr;have hm:Xx ps≤Kl:=Ln QZ (by decide);refine(xZ (n:=4)).1 (kJ (c:=wA) Tryz.func129 (by kernel_rfl) True.intro ?_ rfl);rw[yfy];refine yf0 hg hy hl QZ fun a1 M1 W1 K h1 hK=>xx (xP (N+1) ?_)
 have fin:∀(l:List (Int×Int)) (b:Bool) (a':Act) (W':World) (bq gm b8 gd:Nat) ps done l0 M' mv ms,PSt w M bq gm b8 gd ps done l0 M' W'→jz Tryz.prog V4 M' l mv→Mks w W' ms→a'.defers=lI ms→a'.tmps.getD 4 undef=mv→a'.tmps.getD 5 undef = .bool b→r=(l,b)→
   LeavesInM Fence.wide 4 Tryz.prog Tryz.f129 a'.tmps (fun e w'=>∃M' u,e = .returned (.tuple #[u,.bool r.2])∧jz Tryz.prog V4 M' r.1 u∧Good M' w'∧vm M w M' w') a'.defers .returning W':=by
  intro l b a' W' bq gm b8 gd ps done l0 M' mv ms hP hv Ye hd h4 h5 hr;rw[hd];refine LY (PSt w M bq gm b8 gd ps done l0 M') (fun D V hD hS hv=>hS.off hD hv) ms W' Ye hP fun V hV =>?_
  refine⟨_,y5y _ _,M',mv,?_,?_,hV.good,⟨hV.below,hV.mem⟩⟩
  ·rw[h4,h5,hr]
  ·rw[hr];exact hv
 refine dh (ql _) Qn h1 hm (fun Bl done' k' a' M2 W' e hs =>?_) fun l a' W' e hh =>?_
 ·obtain⟨⟨l,hP⟩,⟨ms,Ye,hf⟩,hc⟩:=hs;refine hK _ _ (yf4 (w:=w) (M:=M) (gm:=0) hf fun a2 q1 q2 q3 q4 =>?_);exact fin [] false a2 W' _ _ _ _ _ _ _ _ _ ms hP (⟨_,rfl,.inl ⟨rfl,rfl⟩⟩:jz Tryz.prog V4 M2 [] (.slice none 0 0)) Ye q2 q3 q4 e
 ·obtain⟨bq,gm,b8,gd,ps2,done2,l0,M2,mv,ms,hP,hv,Ye,q1,q2,q3,q4⟩:=hh;exact fin l true a' W' _ _ _ _ _ _ _ _ mv ms hP hv Ye q2 q3 q4 e
theorem bT:Has Tryz.prog ny:=by
 refine⟨enters_of (by kernel_rfl),fun x res hr M w vs hg Q3 =>?_⟩;obtain⟨y,request⟩:=x;have hr:iB y request=some res:=hr;obtain⟨yv,_,rfl,G5,lv,rfl,SR⟩:=Q3;have jF:sH y request res:=by
  unfold iB at hr;split at hr
  ·rename_i h;rw[←zQ hr];exact yu h
  ·cases hr
 refine(yey hg G5 SR jF).mono fun e w' =>?_
 rintro⟨M',u,rfl,hu,YU,jZ⟩;have SL:VC Tryz.prog M' ny.rts res (.tuple #[u,.bool res.2]):=by
  obtain⟨r1,r2⟩:=res;exact⟨_,rfl,u,[_],rfl,hu,_,rfl,X8.2 rfl⟩
 exact⟨M',_,rfl,SL,YU,jZ⟩
end Go.Lift
