/-
  The search for a plan: its loops, and its contract.
-/
import Derived.Test.YtggnjngdmadbaaaGreatDoorPlO
set_option maxRecDepth 100000
set_option maxHeartbeats 4000000
set_option linter.unusedSectionVars false
set_option linter.unusedVariables false
set_option linter.unusedSimpArgs false
namespace Go.Lift
open Go Go.Proofs Go.RowKit
attribute [local go_sem] Oper.semAt_some run_store_func
noncomputable abbrev yaj:Code:=cF (cS (cS t129))
noncomputable def yc6:Code:=match yaj with
 |.rangeFunc _ _ asn _=>asn
 |_ =>.skip
noncomputable def yc4:Code:=match yaj with
 |.rangeFunc _ _ _ b=>b
 |_ =>.skip
theorem yda:t129 = .seq u129 (.seq v129 (.block 4 (.rangeFunc (.tmp 58) #[59] yc6 yc4))):=by kernel_rfl
abbrev zq4(bq b8:Nat):Value :=.func (.func 172) #[] #[.pointer (some ⟨bq,0,none⟩),.pointer (some ⟨b8,0,none⟩)]
theorem getD_set_ne{t:Array Value}{i j:Nat}{v:Value}(h:i≠j):(t.setIfInBounds i v).getD j undef=t.getD j undef:=by
 rw[Array.getD_eq_getD_getElem?,Array.getD_eq_getD_getElem?,Array.getElem?_setIfInBounds_ne h]
theorem asg129{F:Fence}{lp:Nat}(hro:F.round=some lp){nn:Nat}{W:World}{m:Int×Int}{k:Int}{i bq b8 gd b9 bn:Nat}{a:Act}(ha:F129 bq b8 gd b9 [] k a)(hi:a.tmps.getD 11 undef = .int .i64 (i:Int))(hn:a.tmps.getD 12 undef = .pointer (some ⟨bn,0,none⟩))(hm:a.tmps.getD 59 undef=vioV m){Q:Exit→Act→World→Prop}
  (h1:∀a',F129 bq b8 gd b9 [] k a'→a'.tmps.getD 11 undef = .int .i64 (i:Int)→a'.tmps.getD 12 undef = .pointer (some ⟨bn,0,none⟩)→a'.tmps.getD 14 undef = .pointer (some ⟨W.heap.size,0,none⟩)→Q .normal a' (W.alloc (.cells #[.int .i64 m.1,.int .i64 m.2] 63))) :
  yc6.wpIn F nn Tryz.prog Q a W:=by
 obtain⟨⟨xs⟩,ds⟩:=a;obtain⟨hz,hd,t4,t5,t6,t7,t8,t9,t10⟩:=ha;simp only[List.size_toArray] at hz;obtain⟨x0,x1,x2,x3,x4,x5,x6,x7,x8,x9,x10,x11,x12,x13,x14,x15,x16,x17,x18,x19,x20,x21,x22,x23,x24,x25,x26,x27,x28,x29,x30,x31,x32,x33,x34,x35,x36,x37,x38,x39,x40,x41,x42,x43,x44,x45,x46,x47,x48,x49,x50,x51,x52,x53,x54,x55,x56,x57,x58,x59,x60,x61,x62,x63,x64,rfl⟩:=zfp xs hz;simp only at hd t4 t5 t6 t7 t8 t9 t10 hi hn hm;subst hd;obtain rfl:x4=_:=t4;obtain rfl:x5=_:=t5;obtain rfl:x6=_:=t6;obtain rfl:x7=_:=t7;obtain rfl:x8=_:=t8;obtain rfl:x9=_:=t9;obtain rfl:x10=_:=t10;obtain rfl:x11=_:=hi;obtain rfl:x12=_:=hn;obtain rfl:x59=_:=hm;unfold vioV;simp only[yc6,yaj,t129,zm1,zla,zgt,c129,Tryz.f129,Option.getD_some,cF,cS];gi_wp2
 exact h1 _ ⟨rfl,rfl,rfl,rfl,rfl,rfl,rfl,rfl,rfl⟩ rfl rfl rfl
theorem put129{F:Fence}(hF:Open F){lp:Nat}(hro:F.round=some lp){nn:Nat}{M:Mem}{w:World}{bq gm b8 gd b9 bn bm:Nat}{ps qs:PutL}{done:List ByteArray}{l:List (Int×Value)}{M':Mem}{W:World}(h:PSt w M bq gm b8 gd ps done l M' W){n t:z2w}{m:Int×Int}{k:Int}{i:Nat}
    {yv lv mv:Value} (r1:relV Tryz.prog TYd M' n.1 yv) (r2:relV Tryz.prog TWt M' n.2.1 lv) (r3:relV Tryz.prog TMv M' n.2.2.1 mv)
    (c9:M' b9 0=some (zq4 bq b8)) (n0:M' bn 0=some yv) (n1:M' bn 1=some lv) (n2:M' bn 2=some mv) (n3:M' bn 3=some (.int .i64 n.2.2.2)) (m0:M' bm 0=some (.int .i64 m.1)) (m1:M' bm 1=some (.int .i64 m.2))
    (hnx:z0w n m=some t) (hput:putN ps t=some qs) {a:Act} (ha:F129 bq b8 gd b9 [] k a) (hi:a.tmps.getD 11 undef = .int .i64 (i:Int)) (hn:a.tmps.getD 12 undef = .pointer (some ⟨bn,0,none⟩)) (hm:a.tmps.getD 14 undef = .pointer (some ⟨bm,0,none⟩)) {Q:Exit→Act→World→Prop}
    (hQ:∀a' l' M2 W',PSt w M bq gm b8 gd qs done l' M2 W'→Mem.le M' M2→z38 W W'→F129 bq b8 gd b9 [] k a'→Q .normal a' W') :
    yc4.wpIn F nn Tryz.prog Q a W:=by
  obtain⟨ya,yc,rfl⟩:=z3s r1;obtain⟨la,lc,rfl⟩:=z3s r2;obtain⟨ma,mc,rfl⟩:=z3s r3;have hd:PSt w M bq gm b8 gd ps done l M' W.drew:=h.kept (z0k h.good ⟨rfl,rfl,rfl,ql _,fun _ _=>rfl⟩) ⟨⟨rfl,rfl,rfl,ql _,fun _ _=>rfl⟩,fun _ _=>rfl⟩ (Mem.le_refl _);have k9:W.drew.cell? ⟨b9,0,none⟩=some (zq4 bq b8):=h.good.2 _ _ _ c9;have k0:W.drew.cell? ⟨bn,0,none⟩=some (.slice ya n.1.length yc):=h.good.2 _ _ _ n0;have k1:W.drew.cell? ⟨bn,1,none⟩=some (.slice la n.2.1.length lc):=h.good.2 _ _ _ n1;have k2:W.drew.cell? ⟨bn,2,none⟩=some (.slice ma n.2.2.1.length mc):=h.good.2 _ _ _ n2;have k3:W.drew.cell? ⟨bn,3,none⟩=some (.int .i64 n.2.2.2):=h.good.2 _ _ _ n3;have k4:W.drew.cell? ⟨bm,0,none⟩=some (.int .i64 m.1):=h.good.2 _ _ _ m0;have k5:W.drew.cell? ⟨bm,1,none⟩=some (.int .i64 m.2):=h.good.2 _ _ _ m1;have cn:CallsIn F (nn-1) Tryz.prog 131 #[.agg #[.slice ya n.1.length yc,.slice la n.2.1.length lc,.slice ma n.2.2.1.length mc,.int .i64 n.2.2.2],.agg #[.int .i64 m.1,.int .i64 m.2]] W.drew fun e W1=>∃M1 y1 l1 m1,e = .returned (.agg #[y1,l1,m1,.int .i64 t.2.2.2])∧PSt w M bq gm b8 gd ps done l M1 W1∧Mem.le M' M1∧z38 W W1∧W1.cell? ⟨b9,0,none⟩=some (zq4 bq b8)∧
      CallsIn F (nn-1) Tryz.prog 172 #[.agg #[y1,l1,m1,.int .i64 t.2.2.2],.pointer (some ⟨bq,0,none⟩),.pointer (some ⟨b8,0,none⟩)] W1 fun e W'=>e = .returned (.tuple #[])∧∃l' M2,PSt w M bq gm b8 gd qs done l' M2 W'∧Mem.le M' M2∧z38 W W':=by
    refine hF.calls ((z2c.2 (n,m) t hnx M' W.drew [_,_] hd.good ⟨_,[_],rfl,zno r1 r2 r3,_,rfl,⟨#[.int .i64 m.1,.int .i64 m.2],rfl,rfl,rfl⟩⟩).mono fun e W1 => ?_);rintro⟨M1,u,rfl,hu,hg1,hgr1⟩;obtain⟨y1,l1,m1,rfl,u1,u2,u3⟩:=zkm hu;have hle:=(z12 (G:=[]) hd.good hgr1).le;have h1:=hd.kept hg1 hgr1 hle;have hk:z38 W W1:=z38.of_below ⟨hgr1.below.os,hgr1.below.tape,hgr1.below.output,hgr1.below.size,hgr1.below.block⟩;refine⟨M1,y1,l1,m1,rfl,h1,hle,hk,h1.good.2 _ _ _ (hle _ _ _ c9),hF.calls ((ycm h1 u1 u2 u3 hput).mono fun e W2 => ?_)⟩;rintro⟨rfl,l',M2,hP,hM2,hk2⟩;exact⟨rfl,l',M2,hP,Mem.le_trans hle hM2,hk.trans hk2⟩
  obtain⟨⟨xs⟩,ds⟩:=a;obtain⟨hz,hd0,t4,t5,t6,t7,t8,t9,t10⟩:=ha;simp only[List.size_toArray] at hz;obtain⟨x0,x1,x2,x3,x4,x5,x6,x7,x8,x9,x10,x11,x12,x13,x14,x15,x16,x17,x18,x19,x20,x21,x22,x23,x24,x25,x26,x27,x28,x29,x30,x31,x32,x33,x34,x35,x36,x37,x38,x39,x40,x41,x42,x43,x44,x45,x46,x47,x48,x49,x50,x51,x52,x53,x54,x55,x56,x57,x58,x59,x60,x61,x62,x63,x64,rfl⟩:=zfp xs hz;simp only at hd0 t4 t5 t6 t7 t8 t9 t10 hi hn hm;subst hd0;obtain rfl:x4=_:=t4;obtain rfl:x5=_:=t5;obtain rfl:x6=_:=t6;obtain rfl:x7=_:=t7;obtain rfl:x8=_:=t8;obtain rfl:x9=_:=t9;obtain rfl:x10=_:=t10;obtain rfl:x11=_:=hi;obtain rfl:x12=_:=hn;obtain rfl:x14=_:=hm;have hdd:∀k:Nat,(F.depth.isSome=true→1≤k):=fun k h=>by rw[hF.depth] at h;cases h
  clear hd h r1 r2 r3 c9 n0 n1 n2 n3 m0 m1 hnx hput;unfold zq4 at k9 cn;simp only[yc4,yaj,t129,zm1,zla,zgt,c129,Tryz.f129,Option.getD_some,cF,cS];refine wpIn_block ?_;gi_region_with (first
    |((try refine⟨hF.fn _,?_⟩);(try refine⟨hdd _,?_⟩);gi_at_call 131;refine cn.mono ?_;clear cn;rintro e W1 ⟨M1,y1,l1,m1,rfl,h1,hle1,hk1,k9',cp⟩)
    |((try refine⟨hF.fn _,?_⟩);(try refine⟨hdd _,?_⟩);gi_at_call 172;refine cp.mono ?_;clear cp;rintro e W2 ⟨rfl,l',M2,hP,hM2,hk2⟩))
  all_goals exact hQ _ _ _ _ hP hM2 hk2 ⟨rfl,rfl,rfl,rfl,rfl,rfl,rfl,rfl,rfl⟩
end Go.Lift
namespace Go.Lift
open Go Go.Proofs Go.RowKit
theorem PSt.own{w:World}{M:Mem}{bq gm b8 gd:Nat}{ps:PutL}{done:List ByteArray}{l:List (Int×Value)}{M':Mem}{V V':World}{row:Option Nat}(h:PSt w M bq gm b8 gd ps done l M' V)(hg:V.grownBy V' row)
  (hr:∀r,row=some r→r≠gm∧r≠gd∧w.heap.size≤r∧∃o:Obj,V.heap[r]?=some o∧o.isCells=false):PSt w M bq gm b8 gd ps done l M' V':=by
 have cellsNe:∀ {j:Nat} {cs:Array Value} {E:TypeId} {fr:Nat×Nat},V.heap[j]?=some (.cells cs E fr)→some j≠row:=fun hj e=>by
  obtain⟨_,_,_,o,ho,hc⟩:=hr _ e.symm;rw[hj] at ho;cases ho;cases hc
 have keep:∀ {j:Nat} {o:Obj},V.heap[j]?=some o→some j≠row→V'.heap[j]?=some o:=fun hj hn=>(hg.block _ (qd.1 hj).1 hn).trans hj
 have hbel:Below w.heap.size w V':=h.below.grown hg h.below.size fun k hk=>(hr k hk).2.2.1
 have hcell:∀b o v,M' b o=some v→V'.cell? ⟨b,o,none⟩=some v:=fun b o v hv=>by
  have hc:=h.good.2 b o v hv;refine(World.cell?_of_block (hg.block b (World.block_lt_of_cell? V ⟨b,o,none⟩ hc) fun e => ?_)).trans hc;obtain⟨_,_,_,ob,ho,hcf⟩:=hr b e.symm;simp only[World.cell?,ho] at hc;cases ob<;>first|(exfalso;exact Bool.noConfusion hcf;done)|(simp at hc;done)
 have hrow:∀k,(iget l k).ownBlock=none∨(iget l k).ownBlock≠row:=fun k=>by
  obtain⟨cells,o1,_⟩:=h.qs.row k;rcases o1.2 with⟨e,_⟩|⟨g,cap,cur,e,_,hg2,_⟩
  ·left;rw[e];rfl
  ·right;rw[e];exact cellsNe hg2
 obtain⟨es,cl,d1,d2⟩:=h.cd;obtain⟨es2,cl2,m1,m2⟩:=h.qs.map;exact⟨h.g0,zjo h.g0 h.le hbel hcell,h.le,h.mem,hbel,keep h.cq (cellsNe h.cq),keep h.c8 (cellsNe h.c8),
  ⟨es,cl,keep d1 fun e=>(hr _ e.symm).2.1 rfl,d2⟩,
  ⟨⟨es2,cl2,keep m1 fun e=>(hr _ e.symm).1 rfl,m2⟩,fun k=>(h.qs.row k).imp fun cells hc=>⟨hc.1.kept hg (hrow k),hc.2⟩,h.qs.apart,h.qs.mem⟩,h.m8,h.n8,h.nm,h.ne⟩
structure Mks (w W:World) (ms:List Nat):Prop where
 nodup:ms.Nodup
 mem:∀D,D∈ms→w.heap.size≤D∧W.heap[D]?=some (.deferred (some []))
theorem Mks.keeps{w W W':World}{ms:List Nat}(h:Mks w W ms)(hk:z38 W W'):Mks w W' ms:=⟨h.nodup,fun D hD=>⟨(h.mem D hD).1,hk.same _ _ (h.mem D hD).2 rfl⟩⟩
abbrev cls(ms:List Nat):List Deferred:=ms.map fun D=>{target :=.collected D,args := #[]}
theorem zhf{n:z2w}:∀ {l1 l2:List (Int×Int)} {ps:PutL},zei n (l1++l2) ps=(zei n l1 ps).bind fun qs=>zei n l2 qs
 |[],l2,ps=>rfl
 | m::l1,l2,ps=>by
  simp only[List.cons_append,zei];cases z0w n m with
  |none=>rfl
  |some t=>
   simp only[qh];cases putN ps t with
   |none=>rfl
   |some qs=>exact zhf
theorem yd7{M:Mem}{x:Int×Int}{v:Value}(h:relV Tryz.prog z0d M x v):v=vioV x:=by
 obtain⟨cs,rfl,hc⟩:∃cs:Array Value,v = .agg cs∧relC Tryz.prog z0d M x cs.toList:=h
 have hl:=z0u z0d M x _ hc;obtain⟨cs⟩:=cs;match cs,hl,hc with
 |[a,b],_,hc=>
  obtain⟨h1,h2⟩:relC Tryz.prog (.int .i64) M x.1 [a]∧relC Tryz.prog (.int .i64) M x.2 [b]:=hc;have h1':[a]=[Value.int .i64 x.1]:=h1;have h2':[b]=[Value.int .i64 x.2]:=h2;simp only[List.cons.injEq,and_true] at h1' h2';rw[h1',h2'];rfl
def RInv(w:World)(M:Mem)(bq gm b8 gd:Nat)(n:z2w)(ps:PutL)(done:List ByteArray)(M':Mem)(W0:World)(ms:List Nat)(pre:List (Int×Int))(N:Mem)(V:World):Prop:=
 ∃l qs,zei n pre ps=some qs∧PSt w M bq gm b8 gd qs done l N V∧Mem.le M' N∧z38 W0 V
theorem RInv.own{w:World}{M:Mem}{bq gm b8 gd:Nat}{n:z2w}{ps:PutL}{done:List ByteArray}{M':Mem}{W0:World}{ms:List Nat}{pre:List (Int×Int)}{N:Mem}{V V':World}{row:Option Nat}(hw:w.heap.size≤W0.heap.size)(h1:gm < W0.heap.size)(h2:gd < W0.heap.size)(h:RInv w M bq gm b8 gd n ps done M' W0 ms pre N V)(hg:V.grownBy V' row)
  (hr:∀r,row=some r→W0.heap.size≤r∧∃o:Obj,V.heap[r]?=some o∧o.isCells=false):RInv w M bq gm b8 gd n ps done M' W0 ms pre N V':=by
 obtain⟨l,qs,e1,e2,e3,e4⟩:=h;refine⟨l,qs,e1,e2.own hg fun r e => ?_,e3,⟨fun k o hk ho => ?_⟩⟩
 ·obtain⟨q1,q2⟩:=hr r e;exact⟨by omega,by omega,by omega,q2⟩
 ·have:=e4.same k o hk ho;refine(hg.block k (qd.1 this).1 fun e => ?_).trans this;have q1:=(hr k e.symm).1;have:=(qd.1 hk).1;omega
theorem RInv.grow{w:World}{M:Mem}{bq gm b8 gd:Nat}{n:z2w}{ps:PutL}{done:List ByteArray}{M':Mem}{W0:World}{ms:List Nat}{pre:List (Int×Int)}{N N':Mem}{V V':World}(h:RInv w M bq gm b8 gd n ps done M' W0 ms pre N V)(hg:Good N' V')(hgr:Grow N V N' V'):RInv w M bq gm b8 gd n ps done M' W0 ms pre N' V':=by
 obtain⟨l,qs,e1,e2,e3,e4⟩:=h;have hle:=(z12 (G:=[]) e2.good hgr).le;exact⟨l,qs,e1,e2.kept hg hgr hle,Mem.le_trans e3 hle,e4.trans (z38.of_below ⟨hgr.below.os,hgr.below.tape,hgr.below.output,hgr.below.size,hgr.below.block⟩)⟩
theorem yao{w:World}{M:Mem}{bq gm b8 gd b9 bn:Nat}{ps qs:PutL}{done:List ByteArray}{l:List (Int×Value)}{M':Mem}{W:World}(h:PSt w M bq gm b8 gd ps done l M' W){n:z2w}{xs:List (Int×Int)}{k:Int}{i:Nat}{ms:List Nat}(hmk:Mks w W ms)
  {yv lv mv:Value} (r1:relV Tryz.prog TYd M' n.1 yv) (r2:relV Tryz.prog TWt M' n.2.1 lv) (r3:relV Tryz.prog TMv M' n.2.2.1 mv)
  (c9:M' b9 0=some (zq4 bq b8)) (n0:M' bn 0=some yv) (n1:M' bn 1=some lv) (n2:M' bn 2=some mv) (n3:M' bn 3=some (.int .i64 n.2.2.2))
  (hx:zv3 n.1=some xs) (hall:zei n xs ps=some qs) {a:Act} (ha:F129 bq b8 gd b9 (cls ms) k a) (hi:a.tmps.getD 11 undef = .int .i64 (i:Int)) (hn:a.tmps.getD 12 undef = .pointer (some ⟨bn,0,none⟩)) (h58:a.tmps.getD 58 undef = .func (.func 175) #[yv] #[]) {Q:Exit→Act→World→Prop}
  (hQ:∀a' l' M2 W' ms',PSt w M bq gm b8 gd qs done l' M2 W'→Mem.le M' M2→Mks w W' ms'→F129 bq b8 gd b9 (cls ms') k a'→a'.tmps.getD 11 undef = .int .i64 (i:Int)→Q .normal a' W') :
  (Code.block 4 (.rangeFunc (.tmp 58) #[59] yc6 yc4)).wpIn Fence.wide 4 Tryz.prog Q a W:=by
 have hgm:gm < W.heap.size:=by
  obtain⟨es,cl,m1,_⟩:=h.qs.map;exact(qd.1 m1).1
 have hgd:gd < W.heap.size:=by
  obtain⟨es,cl,m1,_⟩:=h.cd;exact(qd.1 m1).1
 have hown:∀ {pre:List (Int×Int)} {N:Mem},OwnFrom W.heap.size fun(_:Unit) V=>RInv w M bq gm b8 gd n ps done M' W ms pre N V:=fun{pre N} _ V V' row hI hg hr=>hI.own h.below.size hgm hgd hg hr
 refine wpIn_block (zy0 rfl (by decide) rfl (fun _=>True.intro) rfl h58 (seq175 r1 hx) rfl
  (RInv w M bq gm b8 gd n ps done M' W ms) (fun _ _ _ _=>False) (fun pre N V ⟨_,_,_,e,_⟩=>e.good) (fun _ _ _ _ h=>h.elim) (fun pre N V N' V' hI hg hgr=>hI.grow hg hgr) (fun _ _ _ _ _ _ h=>h.elim)
  (fun pre N=>hown) (fun _ _ _ _ _ _ _ h=>h.elim) ⟨l,ps,rfl,h,Mem.le_refl _,z38.refl _⟩
  (fun pre x N a' V=>RInv w M bq gm b8 gd n ps done M' W ms pre N V∧F129 bq b8 gd b9 [] k a'∧a'.tmps.getD 11 undef = .int .i64 (i:Int)∧a'.tmps.getD 12 undef = .pointer (some ⟨bn,0,none⟩)∧∃bm,a'.tmps.getD 14 undef = .pointer (some ⟨bm,0,none⟩)∧N bm 0=some (.int .i64 x.1)∧N bm 1=some (.int .i64 x.2))
  (fun pre x N a' _ V V' row hI hg hr=>⟨hown () V V' row hI.1 hg hr,hI.2⟩) ?assign ?body ?done (fun _ _ _ _ _ _ _ h=>h.elim))
 case assign=>
  rintro lp pre x N V v K ⟨l1,qs1,e1,e2,e3,e4⟩ hpre hv hK;rw[yd7 hv];have hfold:((#[59]:Array Nat).zip #[vioV x]).foldl (fun t (p,v)=>t.setIfInBounds p v) a.tmps=a.tmps.setIfInBounds 59 (vioV x):=by simp
  rw[show((#[59]:Array Tmp).zip #[vioV x]).foldl (fun t (p,v)=>t.setIfInBounds p v) a.tmps=a.tmps.setIfInBounds 59 (vioV x) from hfold];have hsz:=ha.size;refine asg129 (lp:=lp) rfl (m:=x) ⟨by rw[Array.size_setIfInBounds];exact ha.size,rfl,(getD_set_ne (by decide)).trans ha.t4,(getD_set_ne (by decide)).trans ha.t5,(getD_set_ne (by decide)).trans ha.t6,(getD_set_ne (by decide)).trans ha.t7,(getD_set_ne (by decide)).trans ha.t8,(getD_set_ne (by decide)).trans ha.t9,(getD_set_ne (by decide)).trans ha.t10⟩ ((getD_set_ne (by decide)).trans hi) ((getD_set_ne (by decide)).trans hn) (zav (by rw[hsz];decide)) fun a' f1 f2 f3 f4 => ?_
  obtain⟨g1,g2⟩:=e2.alloc #[.int .i64 x.1,.int .i64 x.2] 63;have hkm:z38 V (V.alloc (.cells #[.int .i64 x.1,.int .i64 x.2] 63)):=z38.of_below ((Below.refl _ V).alloc (ql _) _);refine hK _ a' _ g2 hkm ⟨⟨l1,qs1,e1,g1,Mem.le_trans e3 g2,e4.trans hkm⟩,f1,f2,f3,_,f4,?_,?_⟩
  ·simp[z3m]
  ·simp[z3m]
 case body=>
  rintro lp pre x N a' V ⟨⟨l1,qs1,e1,e2,e3,e4⟩,f1,f2,f3,bm,f4,m0,m1⟩ ⟨rest,hpx⟩;rw[←hpx,zhf] at hall;obtain⟨qs2,hq2,_⟩:=qi.1 hall;have hq2':=hq2;rw[zhf,e1,qh] at hq2';simp only[zei] at hq2';obtain⟨t,ht,hq2'⟩:=qi.1 hq2';obtain⟨qs3,hq3,hq2'⟩:=qi.1 hq2';obtain rfl:qs3=qs2:=Option.some.inj hq2';refine put129 (y5c lp) (lp:=lp) rfl e2 (z18 e3 r1) (z18 e3 r2) (z18 e3 r3) (e3 _ _ _ c9) (e3 _ _ _ n0) (e3 _ _ _ n1) (e3 _ _ _ n2) (e3 _ _ _ n3) m0 m1 ht hq3 f1 f2 f3 f4 fun a2 l2 M2 W2 hP hM hk hf => ?_
  exact⟨hk,M2,hM,l2,qs3,hq2,hP,Mem.le_trans e3 hM,e4.trans hk⟩
 case done=>
  rintro D N V hD ⟨l1,qs1,e1,e2,e3,e4⟩ hdv;rw[hall] at e1;obtain rfl:=Option.some.inj e1;refine hQ _ l1 N V (D::ms) e2 e3 ⟨List.nodup_cons.2 ⟨fun hm => ?_,hmk.nodup⟩,fun D' hD' => ?_⟩ ⟨ha.size,?_,ha.t4,ha.t5,ha.t6,ha.t7,ha.t8,ha.t9,ha.t10⟩ hi
  ·have:=(qd.1 (hmk.mem D hm).2).1;omega
  ·rcases List.mem_cons.1 hD' with rfl|hm
   ·exact⟨by have:=h.below.size;omega,hdv⟩
   ·exact⟨(hmk.mem D' hm).1,e4.same _ _ (hmk.mem D' hm).2 rfl⟩
  ·show _::a.defers=_;rw[ha.defers];rfl
theorem zqs:zla = .seq h129 (.seq (.block 3 zm1) i129):=by kernel_rfl
theorem zw5:zm1 = .seq r12 (.seq g129 (.seq y129 (.seq k129 (.cond (.tmp 53) t129 .skip)))):=by kernel_rfl
theorem zzc{w:World}{M:Mem}{bq gm b8 gd:Nat}{ps:PutL}{done:List ByteArray}{l:List (Int×Value)}{M':Mem}{W:World}(h:PSt w M bq gm b8 gd ps done l M' W){k:Int}:(z36 ps k).length≤maxLen:=by
 obtain⟨cells,o1,_⟩:=h.qs.row k;rcases o1.2 with⟨_,e⟩|⟨g,cap,cur,_,_,_,h1,h2,_⟩
 ·omega
 ·exact Nat.le_trans h1 h2
theorem y9s{s:ByteArray}{done:List ByteArray}:(done.any fun t=>seqb s t)=true↔s∈done:=by
 simp only[List.any_eq_true];constructor
 ·rintro⟨t,ht,h⟩;rw[zhc.1 h];exact ht
 ·exact fun h=>⟨s,h,zhc.2 rfl⟩
structure Sch (w:World) (M:Mem) (bq gm b8 gd b9:Nat) (ps:PutL) (done:List ByteArray) (k:Int) (M':Mem) (W:World) (a:Act):Prop where
 st:∃l,PSt w M bq gm b8 gd ps done l M' W
 fr:∃ms,Mks w W ms∧F129 bq b8 gd b9 (cls ms) k a
 clo:M' b9 0=some (zq4 bq b8)
def Hit(w:World)(M:Mem)(l:List (Int×Int))(a:Act)(W:World):Prop:=∃bq gm b8 gd ps done l0 M' mv ms,PSt w M bq gm b8 gd ps done l0 M' W∧relV Tryz.prog TMv M' l mv∧Mks w W ms∧a.tmps.size=65∧a.defers=cls ms∧a.tmps.getD 4 undef=mv∧a.tmps.getD 5 undef = .bool true
theorem in129{w:World}{M:Mem}{bq gm b8 gd b9:Nat}(hgd:w.heap.size≤gd){k:Int}{K:Nat}{ps:PutL}{done:List ByteArray}{i:Nat}{r:(PutL×List ByteArray)⊕List (Int×Int)}(hin:zh7 k K ps done i r) :
  ∀ {M':Mem} {W:World} {a:Act} {Q:Exit→Act→World→Prop},Sch w M bq gm b8 gd b9 ps done k M' W a→a.tmps.getD 11 undef = .int .i64 (i:Int)→
   (∀ps' done' a' M2 W',r = .inl (ps',done')→Sch w M bq gm b8 gd b9 ps' done' k M2 W' a'→Q (.exit 2) a' W')→
   (∀l a' W',r = .inr l→Hit w M l a' W'→Q .ret a' W')→Code.roundsIn Fence.wide 4 Tryz.prog zla Q (K+1) a W:=by
 induction hin with
 | @stop K ps done i hlen=>
  intro M' W a Q hs hi hstop hgoal;obtain⟨⟨l,hP⟩,⟨ms,hm,hf⟩,hc⟩:=hs;rw[roundsIn_succ,zqs];refine wpIn_seq (zx2 hP hf hi (fun hlt=>by omega) fun _ a1 f1 => ?_);exact hstop _ _ _ _ _ rfl ⟨⟨l,hP⟩,⟨ms,hm,f1⟩,hc⟩
 | @goal K ps done i n hn h0=>
  intro M' W a Q hs hi hstop hgoal;obtain⟨⟨l,hP⟩,⟨ms,hm,hf⟩,hc⟩:=hs;have hil:=(qp.1 hn).1;rw[roundsIn_succ,zqs];refine wpIn_seq (zx2 hP hf hi (fun _ a1 f1 f2 => ?_) fun hge=>by omega);refine wpIn_seq (wpIn_block ?_);rw[zw5];refine wpIn_seq (y1e hP hn f1 f2 fun yv lv mv a2 r1 r2 r3 g1 g2 g3 => ?_);obtain⟨p1,p2⟩:=hP.alloc #[yv,lv,mv,.int .i64 n.2.2.2] 184;refine wpIn_seq (y21 (World.alloc_heap_new W _) r1 r2 r3 g1 g2 g3 (fun _ a3 q1 q2 q3 q4 => ?_) fun hne=>absurd h0 hne);refine hgoal _ _ _ rfl ⟨bq,gm,b8,gd,ps,done,l,_,mv,ms,p1,z18 p2 r3,hm.keeps (z38.of_below ((Below.refl _ W).alloc (ql _) _)),q1,q2,q3,q4⟩
 | @skip K ps done i n s r hn h0 hk hsd hin ih=>
  intro M' W a Q hs hi hstop hgoal;obtain⟨⟨l,hP⟩,⟨ms,hm,hf⟩,hc⟩:=hs;have hil:=(qp.1 hn).1;have hlim:=zzc hP (k:=k);rw[roundsIn_succ,zqs];refine wpIn_seq (zx2 hP hf hi (fun _ a1 f1 f2 => ?_) fun hge=>by omega);refine wpIn_seq (wpIn_block ?_);rw[zw5];refine wpIn_seq (y1e hP hn f1 f2 fun yv lv mv a2 r1 r2 r3 g1 g2 g3 => ?_);obtain⟨p1,p2⟩:=hP.alloc #[yv,lv,mv,.int .i64 n.2.2.2] 184;have hb:=World.alloc_heap_new W (.cells #[yv,lv,mv,.int .i64 n.2.2.2] 184);have hm1:=hm.keeps (z38.of_below ((Below.refl W.heap.size W).alloc (ql _) (.cells #[yv,lv,mv,.int .i64 n.2.2.2] 184)));obtain⟨W1,hW1⟩:∃W1,W.alloc (.cells #[yv,lv,mv,.int .i64 n.2.2.2] 184)=W1:=⟨_,rfl⟩
  rw[hW1] at p1 hb hm1⊢;refine wpIn_seq (y21 hb r1 r2 r3 g1 g2 g3 (fun he=>absurd he h0) fun _ a3 q1 q2 q3 => ?_);refine wpIn_seq (ycr p1.good hk hb (z18 p2 r1) (z18 p2 r2) (z18 p2 r3) q1 q2 q3 fun a4 W4 M4 u1 u2 u3 u4 u5 u6 u7 => ?_);have h4:=p1.kept u1 u2 u3;have hm4:=hm1.keeps (z38.of_below ⟨u2.below.os,u2.below.tape,u2.below.output,u2.below.size,u2.below.block⟩);refine wpIn_seq (y8m h4.cd u4 u5 u6 u7 fun a5 v1 v2 v3 v4 v5 => ?_);rw[y9s.2 hsd] at v5;refine wpIn_cond_false v5 (wpIn_skip ?_);refine y72 (by rw[IntWalk.wrap64_in]<;>(unfold maxLen at hlim;omega)) v1 v2 fun a6 x1 x2 => ?_
  exact ih ⟨⟨l,h4⟩,⟨ms,hm4,x1⟩,u3 _ _ _ (p2 _ _ _ hc)⟩ x2 hstop hgoal
 | @turn K ps qs done i n s xs r hn h0 hk hsd hdl hx hall hin ih=>
  intro M' W a Q hs hi hstop hgoal;obtain⟨⟨l,hP⟩,⟨ms,hm,hf⟩,hc⟩:=hs;have hil:=(qp.1 hn).1;have hlim:=zzc hP (k:=k);rw[roundsIn_succ,zqs];refine wpIn_seq (zx2 hP hf hi (fun _ a1 f1 f2 => ?_) fun hge=>by omega);refine wpIn_seq (wpIn_block ?_);rw[zw5];refine wpIn_seq (y1e hP hn f1 f2 fun yv lv mv a2 r1 r2 r3 g1 g2 g3 => ?_);obtain⟨p1,p2⟩:=hP.alloc #[yv,lv,mv,.int .i64 n.2.2.2] 184;have hb:=World.alloc_heap_new W (.cells #[yv,lv,mv,.int .i64 n.2.2.2] 184);have hm1:=hm.keeps (z38.of_below ((Below.refl W.heap.size W).alloc (ql _) (.cells #[yv,lv,mv,.int .i64 n.2.2.2] 184)));have e0:z3m M' W.heap.size [yv,lv,mv,.int .i64 n.2.2.2] W.heap.size 0=some yv:=by simp[z3m]
  have e1:z3m M' W.heap.size [yv,lv,mv,.int .i64 n.2.2.2] W.heap.size 1=some lv:=by simp[z3m]
  have e2:z3m M' W.heap.size [yv,lv,mv,.int .i64 n.2.2.2] W.heap.size 2=some mv:=by simp[z3m]
  have e3:z3m M' W.heap.size [yv,lv,mv,.int .i64 n.2.2.2] W.heap.size 3=some (.int .i64 n.2.2.2):=by simp[z3m]
  obtain⟨W1,hW1⟩:∃W1,W.alloc (.cells #[yv,lv,mv,.int .i64 n.2.2.2] 184)=W1:=⟨_,rfl⟩
  rw[hW1] at p1 hb hm1⊢;refine wpIn_seq (y21 hb r1 r2 r3 g1 g2 g3 (fun he=>absurd he h0) fun _ a3 q1 q2 q3 => ?_);refine wpIn_seq (ycr p1.good hk hb (z18 p2 r1) (z18 p2 r2) (z18 p2 r3) q1 q2 q3 fun a4 W4 M4 u1 u2 u3 u4 u5 u6 u7 => ?_);have h4:=p1.kept u1 u2 u3;have hm4:=hm1.keeps (z38.of_below ⟨u2.below.os,u2.below.tape,u2.below.output,u2.below.size,u2.below.block⟩);refine wpIn_seq (y8m h4.cd u4 u5 u6 u7 fun a5 v1 v2 v3 v4 v5 => ?_);have hany:(done.any fun t=>seqb s t)=false:=by
   cases e:done.any fun t=>seqb s t with
   |false=>rfl
   |true=>exact absurd (y9s.1 e) hsd
  rw[hany] at v5;refine wpIn_cond_true v5 ?_;rw[yda];obtain⟨W5,hrun,h5⟩:=h4.did hany hgd;have hk5:z38 W4 W5:=⟨fun j o hj ho=>by
   obtain⟨es,cl,d1,d2⟩:=h4.cd;have hM:=hrun;obtain⟨es',cl',z1,_⟩:=zrj (P:=Tryz.prog) (k :=.str) (v :=.bool) rfl (T:=146) (by kernel_rfl) d1 d2 s true (by rw[List.any_map,List.any_reverse];exact hany);have z1':(Instr.mapUpdate 146 (.map (some gd)) (.string s) (.bool true)).run Tryz.prog W4 = .ok () {W4 with heap:=W4.heap.setIfInBounds gd (.map es' cl')}:=z1;rw[hrun] at z1';cases z1';refine(Array.getElem?_setIfInBounds_ne fun e => ?_).trans hj;subst e;rw[d1] at hj;cases hj;cases ho⟩
  refine wpIn_seq (did129 hrun v1 v2 v3 v4 fun a6 x1 x2 x3 => ?_);have ec:∀o v,z3m M' W.heap.size [yv,lv,mv,.int .i64 n.2.2.2] W.heap.size o=some v→M4 W.heap.size o=some v:=fun o v hv=>u3 _ _ _ hv
  refine wpIn_seq (ye7 (h5.good.2 _ _ _ (ec 0 _ e0)) x1 x2 x3 fun a7 y1 y2 y3 y4 => ?_);refine yao h5 (hm4.keeps hk5) (z18 (Mem.le_trans p2 u3) r1) (z18 (Mem.le_trans p2 u3) r2) (z18 (Mem.le_trans p2 u3) r3) (u3 _ _ _ (p2 _ _ _ hc)) (ec 0 _ e0) (ec 1 _ e1) (ec 2 _ e2) (ec 3 _ e3) hx hall y1 y2 y3 y4 fun a8 l8 M8 W8 ms8 h8 hM8 hm8 f8 t8 => ?_
  refine y72 (by rw[IntWalk.wrap64_in]<;>(unfold maxLen at hlim;omega)) f8 t8 fun a9 x1 x2 => ?_
  exact ih ⟨⟨l8,h8⟩,⟨ms8,hm8,x1⟩,hM8 _ _ _ (u3 _ _ _ (p2 _ _ _ hc))⟩ x2 hstop hgoal
attribute [local go_sem] Oper.semAt_some run_store_func
theorem zwp:zgt = .seq o129 (.seq (.block 1 (.seq z129 (.block 2 (.loop zla)))) a129):=by kernel_rfl
abbrev topL:Int:=4295967296
theorem zyj{ps qs:PutL}{n:z2w}(h:putN ps n=some qs)(hm:zcp ps≤topL):zcp qs≤topL:=by
 unfold putN at h;obtain⟨t,ht,h⟩:=qi.1 h;obtain⟨bl,hbl,h⟩:=qi.1 h;cases hc:(decide (0≤t.2.2.2)&&decide (t.2.2.2≤4294967296)&&decide (ps.length≤100000000)&&decide (bl.length≤1000000)) with
 |false=>rw[hc] at h;cases h
 |true=>
  rw[hc,cond_true,qb] at h;subst h;simp only[qg,decide_eq_true_eq] at hc;rw[zpz];unfold topL at hm⊢;omega
theorem zrx{n:z2w}:∀ {xs:List (Int×Int)} {ps qs:PutL},zei n xs ps=some qs→zcp ps≤topL→zcp qs≤topL
 |[],ps,qs,h,hm=>by
  have:ps=qs:=Option.some.inj h;rw[←this];exact hm
 |m::xs,ps,qs,h,hm=>by
  simp only[zei] at h;obtain⟨t,ht,h⟩:=qi.1 h;obtain⟨q,hq,h⟩:=qi.1 h;exact zrx h (zyj hq hm)
theorem y12{k:Int}{K:Nat}{ps:PutL}{done:List ByteArray}{i:Nat}{r:(PutL×List ByteArray)⊕List (Int×Int)}(h:zh7 k K ps done i r):zcp ps≤topL→∀qs d,r = .inl (qs,d)→zcp qs≤topL:=by
 induction h with
 |stop _=>intro hm qs d e;cases e;exact hm
 |goal _ _=>intro hm qs d e;cases e
 |skip _ _ _ _ _ ih=>exact ih
 |turn _ _ _ _ _ _ hall _ ih=>exact fun hm=>ih (zrx hall hm)
theorem out129{w:World}{M:Mem}{bq gm b8 gd b9:Nat}(hgd:w.heap.size≤gd){N:Nat}{ps:PutL}{done:List ByteArray}{k:Nat}{r:List (Int×Int)×Bool}(hout:zk3 N ps done k r) :
    ∀ {M':Mem} {W:World} {a:Act} {Q:Exit→Act→World→Prop},Sch w M bq gm b8 gd b9 ps done (k:Int) M' W a→zcp ps≤topL→
      (∀ps' done' k' a' M2 W',r=([],false)→Sch w M bq gm b8 gd b9 ps' done' k' M2 W' a'→Q (.exit 0) a' W')→
      (∀l a' W',r=(l,true)→Hit w M l a' W'→Q .ret a' W')→Code.roundsIn Fence.wide 4 Tryz.prog zgt Q (N+1) a W:=by
  induction hout with
  | @stop N ps done k hlt=>
    intro M' W a Q hs hm hstop hgoal;obtain⟨⟨l,hP⟩,⟨ms,hmk,hf⟩,hc⟩:=hs;rw[roundsIn_succ,zwp];refine wpIn_seq (zwm hP.c8 hf (fun hle=>by omega) fun _ a1 f1 => ?_);exact hstop _ _ _ _ _ _ rfl ⟨⟨l,hP⟩,⟨ms,hmk,f1⟩,hc⟩
  | @goal N K ps done k l hle hin=>
    intro M' W a Q hs hm hstop hgoal;obtain⟨⟨l0,hP⟩,⟨ms,hmk,hf⟩,hc⟩:=hs;rw[roundsIn_succ,zwp];refine wpIn_seq (zwm hP.c8 hf (fun _ a1 f1 => ?_) fun hlt=>by omega);refine wpIn_seq (wpIn_block (wpIn_seq (y6q f1 fun a2 f2 g2=>wpIn_block (wpIn_loop_rounds (K+1) ?_))));refine in129 hgd hin ⟨⟨l0,hP⟩,⟨ms,hmk,f2⟩,hc⟩ g2 (fun _ _ _ _ _ e=>by cases e) fun l' a' W' e hh => ?_
    cases e;exact hgoal _ _ _ rfl hh
  | @next N K ps qs done done' k r hle hin hout ih=>
    intro M' W a Q hs hm hstop hgoal;obtain⟨⟨l0,hP⟩,⟨ms,hmk,hf⟩,hc⟩:=hs;rw[roundsIn_succ,zwp];refine wpIn_seq (zwm hP.c8 hf (fun _ a1 f1 => ?_) fun hlt=>by omega);refine wpIn_seq (wpIn_block (wpIn_seq (y6q f1 fun a2 f2 g2=>wpIn_block (wpIn_loop_rounds (K+1) ?_))));refine in129 hgd hin ⟨⟨l0,hP⟩,⟨ms,hmk,f2⟩,hc⟩ g2 (fun ps' d' a' M2 W' e hh => ?_) fun l' a' W' e hh=>(by cases e)
    cases e;obtain⟨h1,⟨ms2,hmk2,f3⟩,h3⟩:=hh;refine ye0 (by unfold topL at hm;rw[IntWalk.wrap64_in] ;omega) f3 fun _ a4 f4 => ?_
    exact ih ⟨h1, ⟨ms2, hmk2, by have e:(k:Int)+1=((k+1:Nat):Int):=by omega
                                 rw[←e];exact f4⟩,h3⟩ (y12 hin hm _ _ rfl) hstop hgoal
theorem zvc{F:Fence}{n:Nat}{P:Program}{fn:Func}{tmps:Array Value}{R:Ending→World→Prop}{w0:World}(S:World→Prop)(hS:∀(D:Nat) (V:World),w0.heap.size≤D→S V→V.heap[D]?=some (.deferred (some []))→S (V.putObj D (.deferred none))):∀(ms:List Nat) (w:World),Mks w0 w ms→S w→
  (∀w',S w'→LeavesIn F n P fn tmps R [] .returning w')→LeavesInM F n P fn tmps R (cls ms) .returning w
 |[],w,_,hs,h=>h w hs
 |D::ms,w,hm,hs,h=>by
  have hD:=hm.mem D (by simp);have hn:=List.nodup_cons.1 hm.nodup;refine⟨by simp,.inl ⟨D,_,rfl,run_takeDeferred hD.2,?_⟩⟩;refine zvc S hS ms _ ⟨hn.2,fun D' hD'=>⟨(hm.mem D' (qo _ hD')).1,(World.putObj_heap_other (fun e=>hn.1 (by first|(rw[e];exact hD')|(rw[←e];exact hD')))).trans (hm.mem D' (qo _ hD')).2⟩⟩ (hS D w hD.1 hs hD.2) h
theorem PSt.off{w:World}{M:Mem}{bq gm b8 gd:Nat}{ps:PutL}{done:List ByteArray}{l:List (Int×Value)}{M':Mem}{V:World}(h:PSt w M bq gm b8 gd ps done l M' V){D:Nat}(hD:w.heap.size≤D)(hv:V.heap[D]?=some (.deferred (some []))):PSt w M bq gm b8 gd ps done l M' (V.putObj D (.deferred none)):=by
 refine h.own (grownBy_putObj' V D (.deferred none)) fun r e => ?_
 cases e;refine⟨fun e => ?_,fun e => ?_,hD,_,hv,rfl⟩
 ·obtain⟨es,cl,m1,_⟩:=h.qs.map;rw[←e,hv] at m1;cases m1
 ·obtain⟨es,cl,m1,_⟩:=h.cd;rw[←e,hv] at m1;cases m1
theorem y51(tmps:Array Value)(w:World):(Go.results Tryz.f129 tmps).run Tryz.prog w = .ok (.tuple #[tmps.getD 4 undef,tmps.getD 5 undef]) w:=zrk (by kernel_rfl) tmps w
theorem ydp{M:Mem}{w w5:World}{v:Value}{T:TypeId}(h:PSt w M (w.heap.size+2) (w.heap.size+1) (w.heap.size+3) w.heap.size [] [] [] M w5)(hb:w5.heap[w.heap.size+4]?=some (.cells #[v] T (0,0))) :
  PSt w M (w.heap.size+2) (w.heap.size+1) (w.heap.size+3) w.heap.size [] [] [] (z3m M (w.heap.size+4) [v]) w5:=by
 have hn:∀b o,w.heap.size≤b→M b o=none:=fun b o hb'=>z5p h.g0 hb' o
 have hle:Mem.le M (z3m M (w.heap.size+4) [v]):=fun b o u hu=>by
  have:b≠w.heap.size+4:=fun e=>by rw[e,hn _ _ (by omega)] at hu;cases hu
  simp[z3m,this,hu]
 have hmem:∀b,b≠w.heap.size+4→z3m M (w.heap.size+4) [v] b=M b:=fun b hb'=>by funext o;simp[z3m,hb']
 refine⟨h.g0,zjo h.g0 hle h.below fun b o u hu => ?_,hle,fun b hb'=>hmem b (by omega),h.below,h.cq,h.c8,h.cd,⟨h.qs.map,fun k=>⟨[],World.ownsRow_nil _ _ _ _,rfl,fun i hi=>absurd hi (Nat.not_lt_zero _)⟩,fun _ _ _ =>.inl rfl,fun k b o hk=>by cases hk⟩,fun o=>by rw[hmem _ (by omega)];exact h.m8 o,h.n8,h.nm,h.ne⟩;by_cases e:b=w.heap.size+4
 ·subst e;simp only[z3m,if_true] at hu;exact z06 hb (by simpa using hu)
 ·rw[hmem b e] at hu;exact h.good.2 _ _ _ hu
theorem yet:c129 = .seq (cF c129) (.seq (cF (cS c129)) (.seq (cF (cS (cS c129))) (.seq (cF (cS (cS (cS c129)))) (.seq (cF (cS (cS (cS (cS c129))))) (.seq (cF (cS (cS (cS (cS (cS c129))))))
 (.seq (.seq (cF (cF (cS (cS (cS (cS (cS (cS c129)))))))) (.block 0 (.loop zgt))) (cS (cS (cS (cS (cS (cS (cS c129))))))))))))):=by kernel_rfl
theorem ydt{M:Mem}{w:World}(hg:Good M w){y:List (List ByteArray)}{request:List ByteArray}{yv lv:Value}{ps:PutL}(hy:relV Tryz.prog TYd M y yv)(hl:relV Tryz.prog TWt M request lv)(hput:putN [] (y,request,[],0)=some ps){X Y:Code}{Q:Exit→Act→World→Prop}
  (hX:∀a' M' W' (K:Act→World→Prop),Sch w M (w.heap.size+2) (w.heap.size+1) (w.heap.size+3) w.heap.size (w.heap.size+4) ps [] 0 M' W' a'→(∀a w,Y.wpIn Fence.wide 4 Tryz.prog Q a w→K a w)→X.wpIn Fence.wide 4 Tryz.prog (Exit.then K Q) a' W') :
  (Code.seq (cF c129) (.seq (cF (cS c129)) (.seq (cF (cS (cS c129))) (.seq (cF (cS (cS (cS c129)))) (.seq (cF (cS (cS (cS (cS c129))))) (.seq (cF (cS (cS (cS (cS (cS c129))))))
  (.seq (.seq (cF (cF (cS (cS (cS (cS (cS (cS c129)))))))) X) Y))))))).wpIn Fence.wide 4 Tryz.prog Q {tmps := #[yv,lv]++Array.replicate (Tryz.f129.ntmps-(#[yv,lv]:Array Value).size) undef,defers:=[]} w:=by
 obtain⟨ya,yc,rfl⟩:=z3s hy;obtain⟨la,lc,rfl⟩:=z3s hl;have mm1:=zkn 146;have mm2:=zkn 229;obtain⟨w1,hw1⟩:∃w1,w.alloc (.map #[] 0)=w1:=⟨_,rfl⟩
 obtain⟨w2,hw2⟩:∃w2,w1.alloc (.map #[] 0)=w2:=⟨_,rfl⟩
 obtain⟨w3,hw3⟩:∃w3,w2.alloc (.cells #[.map (some (w.heap.size+1))] 229)=w3:=⟨_,rfl⟩
 obtain⟨w4,hw4⟩:∃w4,w3.alloc (.cells #[.int .i64 0] 3)=w4:=⟨_,rfl⟩
 obtain⟨w5,hw5⟩:∃w5,w4.alloc (.cells #[.func (.func 172) #[] #[.pointer (some ⟨w.heap.size+2,0,none⟩),.pointer (some ⟨w.heap.size+3,0,none⟩)]] 232)=w5:=⟨_,rfl⟩
 have z1:w1.heap.size=w.heap.size+1:=by rw[←hw1,World.size_alloc]
 have z2:w2.heap.size=w.heap.size+2:=by rw[←hw2,World.size_alloc,z1]
 have z3:w3.heap.size=w.heap.size+3:=by rw[←hw3,World.size_alloc,z2]
 have z4:w4.heap.size=w.heap.size+4:=by rw[←hw4,World.size_alloc,z3]
 have d4:w4.heap[w.heap.size+3]?=some (.cells #[.int .i64 0] 3 (0,0)):=by rw[←hw4,←z3];exact World.alloc_heap_new w3 _
 have s4:=y4w d4;have k4:w4.cell? ⟨w.heap.size+3,0,none⟩=some (.int .i64 0):=z06 d4 rfl;have f4:w4.frozen? ⟨w.heap.size+3,0,none⟩=false:=z2m d4;have z5:w5.heap.size=w.heap.size+5:=by rw[←hw5,World.size_alloc,z4]
 have d5:w5.heap[w.heap.size+4]?=some (.cells #[.func (.func 172) #[] #[.pointer (some ⟨w.heap.size+2,0,none⟩),.pointer (some ⟨w.heap.size+3,0,none⟩)]] 232 (0,0)):=by rw[←hw5,←z4];exact World.alloc_heap_new w4 _
 have k5:w5.cell? ⟨w.heap.size+4,0,none⟩=some (.func (.func 172) #[] #[.pointer (some ⟨w.heap.size+2,0,none⟩),.pointer (some ⟨w.heap.size+3,0,none⟩)]):=z06 d5 rfl;have f5:w5.frozen? ⟨w.heap.size+4,0,none⟩=false:=z2m d5;have hcl:(Go.store ⟨w.heap.size+4,0,none⟩ (.func (.func 172) #[] #[.pointer (some ⟨w.heap.size+2,0,none⟩),.pointer (some ⟨w.heap.size+3,0,none⟩)])).run Tryz.prog (w4.alloc (.cells #[.nilFunc] 232)) = .ok () w5:=by
  have h0:=World.alloc_heap_new w4 (.cells #[.nilFunc] 232);rw[z4] at h0;have k0:(w4.alloc (.cells #[.nilFunc] 232)).cell? ⟨w.heap.size+4,0,none⟩=some .nilFunc:=z06 h0 rfl;have f0:(w4.alloc (.cells #[.nilFunc] 232)).frozen? ⟨w.heap.size+4,0,none⟩=false:=z2m h0;go_simp
 have hps:=ydp (y7v hg hw1 hw2 hw3 hw4 hw5) d5;have hcp:=Open.calls z7w (n:=3) (ycm (n:=(y,request,[],0)) hps (z18 hps.le hy) (z18 hps.le hl) (⟨_,rfl,.inl ⟨rfl,rfl⟩⟩:relV Tryz.prog TMv _ [] (.slice none 0 0)) hput);have hc9:∀M2,Mem.le (z3m M (w.heap.size+4) [zq4 (w.heap.size+2) (w.heap.size+3)]) M2→M2 (w.heap.size+4) 0=some (zq4 (w.heap.size+2) (w.heap.size+3)):=fun M2 h=>h _ _ _ (by simp[z3m])
 clear hps;simp only[Tryz.ntmps129,List.size_toArray,qk,List.length_nil,Nat.reduceAdd,Nat.reduceSub,Array.replicate_succ,Array.replicate_zero,List.push_toArray,List.append_toArray,List.nil_append,List.cons_append];simp only[c129,Tryz.f129,Option.getD_some,cF,cS];gi_wp2_with ((try refine⟨trivial,?_⟩);gi_at_call 172;refine hcp.mono ?_;clear hcp;rintro e W1 ⟨rfl,l1,M1,hP1,hM1,_⟩)
 rename_i K hK;exact hX _ _ _ K ⟨⟨l1,hP1⟩,⟨[],⟨List.nodup_nil,fun D hD=>(by cases hD)⟩,⟨rfl,rfl,rfl,rfl,rfl,rfl,rfl,rfl,rfl⟩⟩,hc9 _ hM1⟩ hK
theorem ydy{w:World}{M:Mem}{bq gm b8 gd b9:Nat}{df:List Deferred}{k:Int}{W:World}{a:Act}(ha:F129 bq b8 gd b9 df k a){Q:Exit→Act→World→Prop}
  (hQ:∀a',a'.tmps.size=65→a'.defers=df→a'.tmps.getD 4 undef = .slice none 0 0→a'.tmps.getD 5 undef = .bool false→Q .ret a' W) :
  (cS (cS (cS (cS (cS (cS (cS c129))))))).wpIn Fence.wide 4 Tryz.prog Q a W:=by
 obtain⟨⟨xs⟩,ds⟩:=a;obtain⟨hz,hd,t4,t5,t6,t7,t8,t9,t10⟩:=ha;simp only[List.size_toArray] at hz;obtain⟨x0,x1,x2,x3,x4,x5,x6,x7,x8,x9,x10,x11,x12,x13,x14,x15,x16,x17,x18,x19,x20,x21,x22,x23,x24,x25,x26,x27,x28,x29,x30,x31,x32,x33,x34,x35,x36,x37,x38,x39,x40,x41,x42,x43,x44,x45,x46,x47,x48,x49,x50,x51,x52,x53,x54,x55,x56,x57,x58,x59,x60,x61,x62,x63,x64,rfl⟩:=zfp xs hz;simp only at hd;subst hd;simp only[c129,Tryz.f129,Option.getD_some,cF,cS];gi_wp2
 exact hQ _ rfl rfl rfl rfl
theorem ydr{M:Mem}{w:World}(hg:Good M w){y:List (List ByteArray)}{request:List ByteArray}{yv lv:Value}{r:List (Int×Int)×Bool}(hy:relV Tryz.prog TYd M y yv)(hl:relV Tryz.prog TWt M request lv)(hr:zxt y request r) :
  Calls Tryz.prog 129 #[yv,lv] w fun e w'=>∃M' u,e = .returned (.tuple #[u,.bool r.2])∧relV Tryz.prog TMv M' r.1 u∧Good M' w'∧Grow M w M' w':=by
 obtain⟨ps,N,hput,hout⟩:=hr;have hm:zcp ps≤topL:=zyj hput (by decide);refine(callsIn_wide (n:=4)).1 (callsIn_of_wp_marks (c:=c129) Tryz.func129 (by kernel_rfl) True.intro ?_ rfl);rw[yet];refine ydt hg hy hl hput fun a1 M1 W1 K h1 hK=>wpIn_block (wpIn_loop_rounds (N+1) ?_)
 have fin:∀(l:List (Int×Int)) (b:Bool) (a':Act) (W':World) (bq gm b8 gd:Nat) ps done l0 M' mv ms,PSt w M bq gm b8 gd ps done l0 M' W'→relV Tryz.prog TMv M' l mv→Mks w W' ms→a'.defers=cls ms→a'.tmps.getD 4 undef=mv→a'.tmps.getD 5 undef = .bool b→r=(l,b)→
   LeavesInM Fence.wide 4 Tryz.prog Tryz.f129 a'.tmps (fun e w'=>∃M' u,e = .returned (.tuple #[u,.bool r.2])∧relV Tryz.prog TMv M' r.1 u∧Good M' w'∧Grow M w M' w') a'.defers .returning W':=by
  intro l b a' W' bq gm b8 gd ps done l0 M' mv ms hP hv hmk hd h4 h5 hr;rw[hd];refine zvc (PSt w M bq gm b8 gd ps done l0 M') (fun D V hD hS hv=>hS.off hD hv) ms W' hmk hP fun V hV => ?_
  refine⟨_,y51 _ _,M',mv,?_,?_,hV.good,⟨hV.below,hV.mem⟩⟩
  ·rw[h4,h5,hr]
  ·rw[hr];exact hv
 refine out129 (ql _) hout h1 hm (fun ps' done' k' a' M2 W' e hs => ?_) fun l a' W' e hh => ?_
 ·obtain⟨⟨l,hP⟩,⟨ms,hmk,hf⟩,hc⟩:=hs;refine hK _ _ (ydy (w:=w) (M:=M) (gm:=0) hf fun a2 q1 q2 q3 q4 => ?_);exact fin [] false a2 W' _ _ _ _ _ _ _ _ _ ms hP (⟨_,rfl,.inl ⟨rfl,rfl⟩⟩:relV Tryz.prog TMv M2 [] (.slice none 0 0)) hmk q2 q3 q4 e
 ·obtain⟨bq,gm,b8,gd,ps2,done2,l0,M2,mv,ms,hP,hv,hmk,q1,q2,q3,q4⟩:=hh;exact fin l true a' W' _ _ _ _ _ _ _ _ mv ms hP hv hmk q2 q3 q4 e
theorem z67:Has Tryz.prog z9i:=by
 refine⟨enters_of (by kernel_rfl),fun x res hr M w vs hg hvs => ?_⟩;obtain⟨y,request⟩:=x;have hr:z8l y request=some res:=hr;obtain⟨yv,_,rfl,hyv,lv,rfl,hlv⟩:=hvs;have hrun:zxt y request res:=by
  unfold z8l at hr;split at hr
  ·rename_i h;rw[←Option.some.inj hr];exact Classical.choose_spec h
  ·cases hr
 refine(ydr hg hyv hlv hrun).mono fun e w' => ?_
 rintro⟨M',u,rfl,hu,hg',hgr⟩;have hrr:relR Tryz.prog M' z9i.rts res (.tuple #[u,.bool res.2]):=by
  obtain⟨r1,r2⟩:=res;exact⟨_,rfl,u,[_],rfl,hu,_,rfl,z2f.2 rfl⟩
 exact⟨M',_,rfl,hrr,hg',hgr⟩
end Go.Lift
