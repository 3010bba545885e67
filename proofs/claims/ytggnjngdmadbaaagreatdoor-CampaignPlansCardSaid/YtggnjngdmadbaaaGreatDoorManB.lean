/-
  The contracts of Values and Sorted.
-/
import Derived.Test.YtggnjngdmadbaaaGreatDoorManA
import Derived.RangeFuncBox
import Derived.RangeFuncCalls
import Derived.Lib.SlKeysI
set_option maxRecDepth 100000
set_option linter.all false
namespace Go.Lift
open Go Go.Proofs Go.RowKit
attribute [local go_sem] Oper.semAt_some
theorem zyz{F:Fence}(hd:F.depth=none)(k:Nat):F.room k:=fun d h=>by rw[hd]at h;cases h
theorem zut{F:Fence}(hd:F.depth=none){m m':Nat}{P:Program}{l:Nat}{f:FuncId}{tmps:Array Value}{assign body:Code}{w:World}{R:Ending→World→Prop}
 (h:RoundIn F m P l f tmps assign body w R):RoundIn F m' P l f tmps assign body w R:=⟨h.1,fun c cs _=>h.2 c cs (zyz hd _)⟩
theorem zum{F:Fence}(hd:F.depth=none){m:Nat}(m':Nat){P:Program}{l:Nat}{args:Array Value}{W:World}{R:Ending→World→Prop}(h:YieldAt F m P l args W R):YieldAt F m' P l args W R:=by
 obtain⟨fn,tmps,assign,body,hy,hR⟩:=h;exact⟨fn,tmps,assign,body,hy,zut hd hR⟩
theorem tK{M:Mem}{x:List Int}{v:Value}(h:jz Tryz.prog (.slice (.int .i64)) M x v):
  (∃p cap,v = .slice p 0 cap∧x=[])∨∃b off cap,v = .slice (some ⟨b,off,none⟩) x.length cap∧∀k (hk:k<x.length),M b (off+k)=some (.int .i64 x[k]):=by
 unfold jz Qd at h;simp only[Ty.agg,qA,zp,jB]at h;obtain⟨v',hv,h⟩:=h;simp only[qM,zA]at hv;subst hv;rcases h with⟨rfl,h0⟩|⟨b,off,cap,cells,rfl,h2,h3,h4,h5⟩|⟨a,cap,rfl,h0⟩
 ·exact .inl ⟨none,0,rfl,h0⟩
 ·refine .inr ⟨b,off,cap,rfl,fun k hk=>h4 k _ ?_⟩;have h6:(cells.drop (k*1)).take 1=[Value.int .i64 x[k]]:=h5 k hk;rw[xe]at h6;have h7:=congrArg (·[0]?) h6;simpa [zb,zd]using h7
 ·exact .inl ⟨some a,cap,rfl,h0⟩
set_option maxHeartbeats 2000000 in
theorem FB(F:Fence)(hd:F.depth=none)(hF:∀f,F.fn f)(hro:F.round=none)(nn l B:Nat)(M:Mem)(xs:List Int)(v:Value)(hv:jz Tryz.prog (.slice (.int .i64)) M xs v)(jH:xs.length≤1000000)(mB:M B 0=some v)
  (J Jx:List Int→Mem→World→Prop) (M0:Mem) (hM:Mem.le M M0) (Kx:∀pre N W,J pre N W→Good N W)
  (hY:∀pre x N W1,J pre N W1→pre++[x] <+: xs→YieldAt F (nn-1) Tryz.prog l #[.int .i64 x] W1 fun e W'=>
   ∃N',Mem.le N N'∧((e = .returned (.bool true)∧J (pre++[x]) N' W')∨(e = .returned (.bool false)∧Jx (pre++[x]) N' W')))
  (W:World) (h0:J [] M0 W):
  CallsIn F nn Tryz.prog 147 #[.func (.yield l) #[] #[],.pointer (some ⟨B,0,none⟩)] W fun e W'=>(∃v,e = .returned v)∧∃N',Mem.le M0 N'∧(J xs N' W'∨∃pre,pre <+: xs∧Jx pre N' W'):=by
 have wM:∀k:Nat,(F.depth.isSome=true→1≤k):=fun k h=>by rw[hd]at h;cases h
 have hcB:∀{N:Mem} {A:World},Mem.le M0 N→Good N A→A.cell? ⟨B,0,none⟩=some v:=fun jL hg=>hg.2 _ _ _ (jL _ _ _ (hM _ _ _ mB))
 have c0:=hcB (Mem.le_refl M0) (Kx _ _ _ h0);rcases tK hv with⟨p,cap,rfl,rfl⟩|⟨b,off,cap,rfl,Xb⟩
 ·refine zy Tryz.func147 rfl (hF 147) ?_ hro;simp only[Tryz.ntmps147,qJ,qk,qR,Nat.reduceAdd,Nat.reduceSub,zj,zk,zw,zo,qP,qS];gi_wp2
  gi_loopw [7] (fun p wr=>p = .int .i64 0∧wr=W) (fun p wr=>0)
  case atStart=>exact⟨rfl,rfl⟩
  case round=>
   obtain⟨rfl,rfl⟩:=hrel;gi_wp2
   go_end0
   exact⟨⟨_,rfl⟩,M0,Mem.le_refl M0,.inl h0⟩
 ·refine zy Tryz.func147 rfl (hF 147) ?_ hro;simp only[Tryz.ntmps147,qJ,qk,qR,Nat.reduceAdd,Nat.reduceSub,zj,zk,zw,zo,qP,qS];gi_wp2
  gi_loopw [7] (fun p wr=>∃k N,p = .int .i64 (k:Nat)∧k≤xs.length∧Mem.le M0 N∧J (xs.take k) N wr) (fun p wr=>(xs.length-(RowKit.intOf p).toNat))
  case atStart=>exact⟨0,M0,rfl,zz _,Mem.le_refl M0,by rw[List.take_zero];exact h0⟩
  case round=>
   obtain⟨k,N,rfl,hk,jL,hJ⟩:=hrel;by_cases hlt:k<xs.length
   ·have Qr:wr.cell? ⟨b,off+k,none⟩=some (.int .i64 xs[k]):=(Kx _ _ _ hJ).2 _ _ _ (jL _ _ _ (hM _ _ _ (Xb k hlt)));have pA:(k:Int)<(xs.length:Int):=by omega
    obtain⟨fn,tmps,assign,body,hy,hR⟩:=hY (xs.take k) xs[k] N wr hJ ⟨xs.drop (k+1),by simp⟩;gi_wp2_with ((try refine⟨wM _,?_⟩);refine hR.mono ?_;clear hR;rintro e W2 ⟨N',JR,⟨rfl,fi⟩|⟨rfl,hx2⟩⟩)
    ·go_roundw
     case rel=>
      exact⟨k+1,N',by simp,by omega,Mem.le_trans jL JR,by rw[←List.take_append_getElem hlt];exact fi⟩
     case measure=>simp only[RowKit.intOf];omega
    ·refine zu (results_none rfl _ _ _) rfl ?_;exact⟨⟨_,rfl⟩,N',Mem.le_trans jL JR,.inr ⟨xs.take k++[xs[k]],⟨xs.drop (k+1),by simp⟩,hx2⟩⟩
   ·gi_wp2
    go_end0
    have:k=xs.length:=by omega
    subst this;rw[jl]at hJ;exact⟨⟨_,rfl⟩,N,jL,.inl hJ⟩
end Go.Lift
namespace Go.Lift
open Go Go.Proofs Go.RowKit Go.Sort
attribute [local go_sem] Oper.semAt_some
def EL(M:Mem)(B:Nat)(v:Value):Mem:=fun b o=>if b=B then(if o=0 then some v else none)else M b o
theorem y6m{M:Mem}{B:Nat}{v:Value}(h:∀o,M B o=none):Mem.le M (EL M B v):=by
 intro b o u hu;unfold EL;by_cases e:b=B
 ·subst e;rw[h]at hu;cases hu
 ·rw[qT e];exact hu
theorem zzv{M:Mem}{w:World}{v:Value}{T:TypeId}(hg:Good M w):Good (EL M w.heap.size v) (w.alloc (.cells #[v] T))∧vm M w (EL M w.heap.size v) (w.alloc (.cells #[v] T))∧Mem.le M (EL M w.heap.size v)∧EL M w.heap.size v w.heap.size 0=some v:=by
 have hb:Below w.heap.size w (w.alloc (.cells #[v] T)):=(qN _ w).alloc (ql _) _;have Ys:∀o,M w.heap.size o=none:=fun o=>W9 hg (ql _) o
 have jL:=y6m (v:=v) Ys;have Yg:=Zu hg hb;refine⟨⟨wB.keep jL (zb7.refl _) Yg.1,fun b o u hu =>?_⟩,⟨hb,fun b hlt =>?_⟩,jL,by simp[EL]⟩
 ·unfold EL at hu;split at hu
  ·rename_i e;subst e;split at hu
   ·rename_i e0;subst e0;cases hu;rw[GN (qz w (.cells #[v] T))];rfl
   ·cases hu
  ·exact Yg.2 b o u hu
 ·funext o;unfold EL;rw[qT (by omega)]
theorem C6:Has Tryz.prog uE:=by
 refine⟨enters_of (by kernel_rfl),fun x r hr M w vs hg Q3 =>?_⟩;obtain⟨v,rfl,hv⟩:=Q3;have hr:iJ x=some r:=hr;unfold iJ at hr;cases hc:decide (x.length≤1000000)with
 |false=>rw[hc]at hr;cases hr
 |true=>
 rw[hc,qv,qb]at hr;rw[qI]at hc;subst hr;refine(xZ (n:=3)).1 ?_;refine zy Tryz.func91 rfl True.intro ?_ rfl;simp only[Tryz.ntmps91,qJ,qk,qR,Nat.reduceAdd,Nat.reduceSub,zj,zk,zw,zo,qP,qS];obtain⟨p,ln,cap,rfl⟩:∃p n cap,v = .slice p n cap:=by
  rcases tK hv with⟨p,cap,rfl,_⟩|⟨b,off,cap,rfl,_⟩<;>exact⟨_,_,_,rfl⟩
 gi_wp2
 go_ret
 obtain⟨h1,h2,h3,h4⟩:=zzv (v :=.slice p ln cap) (T:=41) hg;refine⟨EL M w.heap.size (.slice p ln cap),_,rfl,?_,h1,h2⟩;refine⟨147,#[.pointer (some ⟨w.heap.size,0,none⟩)],rfl,zV Tryz.func147 (by kernel_rfl) rfl,?_⟩;intro F n l J Jx M0 W hM hd hF Yu hro Kx _ YL JT hY h0;exact FB F hd hF hro n l w.heap.size (EL M w.heap.size (.slice p ln cap)) x (.slice p ln cap) (ZZ h3 hv) hc h4 J Jx M0 hM Kx (fun pre y N W1 hj hp=>hY pre y N W1 _ hj hp (YX.2 rfl)) W h0
noncomputable def PD(xs:List Int):Option (List Int):=
 (B6 (X:=Int) (S:=(List Int)) (R:=(List Int)) (fun t Qq=>
  (app Qq [t]).bind fun(jQ:List Int)=>
  some (.inl jQ)) xs []).bind fun j=>match j with
 |.inl Xg=>(
  some Xg)
 |.inr r=>some r
def yay:Ann:=(.seq .nil (.seq (.seq .nil (.blk (.loopD ⟨[⟨true,2,41,(.slice (.int .i64)),[([],some 150000200)],false⟩],[]⟩ .nil))) .nil))
theorem yao(xs:List Int):Pv (cx [] []) Tryz.f184 yay [.seq (.int .i64)] (.int .i64) (.int .i64) ([],xs)=PD xs:=by kernel_rfl
theorem Ul:∀(l acc:List Int),acc.length+l.length≤4294967296→Vm (X:=Int) (S:=List Int) (R:=List Int) (fun t Qq=>(app Qq [t]).bind fun(jQ:List Int)=>some (.inl jQ)) l acc=some (.inl (acc++l))
 |[],acc,_=>by simp[Vm]
 |x::l,acc,h=>by
  simp only[qk]at h;unfold Vm;have:app acc [x]=some (acc++[x]):=by unfold app;rw[qH (by simp;omega)]
  simp only[this,qh];rw[Ul l (acc++[x]) (by simp;omega),zM];rfl
theorem yau{xs:List Int}(h:xs.length≤1000000):PD xs=some xs:=by
 unfold PD B6;rw[qH ?_,Ul xs [] (by simp;omega)]
 ·rfl
 ·intro pre x s jH _ _ h1;rw[Ul pre [] (by simp;omega)]at h1;simp only[qP,qb,Sum.inl.injEq]at h1;subst h1;exact⟨.inl (pre++[x]),by show(app pre [x]).bind _=_;unfold app;rw[qH (by simp;omega)];rfl⟩
theorem z26:Qw Tryz.prog (cx [] []):=gr vU vT vS all_nil
theorem y37{M:Mem}{w:World}{v:Value}{xs:List Int}(hg:Good M w)(jH:xs.length≤1000000)(hv:jz Tryz.prog (.seq (.int .i64)) M xs v):z9n Tryz.prog 145 #[v] M w (.int .i64) xs:=by
 have JB:jz Tryz.prog (.slice (.int .i64)) M [] (.slice none 0 0):=by
  unfold jz Qd;simp only[Ty.agg,qA,zp];exact⟨_,rfl,.inl ⟨rfl,rfl⟩⟩
 have hc:=y71 (f:=184) (ats:=[.seq (.int .i64)]) (e0 :=.int .i64) (e :=.int .i64) vi z26 Tryz.func184 (x:=(([]:List Int),xs)) ((yao xs).trans (yau jH)) (vs:=[v]) hg ⟨_,_,rfl,JB,_,rfl,hv⟩;unfold z9n at hc⊢;refine(xZ (n:=3)).1 ?_;obtain⟨gf,lb,Di,_⟩:jB Tryz.prog (.seq (.int .i64)) M xs [v]:=hv;simp only[qM,zA]at Di;subst Di;have Vj:=ET.calls (n:=3-1) hc;refine zy Tryz.func145 rfl True.intro ?_ rfl;simp only[Tryz.ntmps145,qJ,qk,qR,Nat.reduceAdd,Nat.reduceSub,zj,zk,zw,zo,qP,qS];gi_wp2_with ((try refine⟨True.intro,?_⟩);gi_at_call 184;refine Vj.mono ?_;rintro e w' ⟨M',v',rfl,YU,jZ,ZC,Za⟩)
 go_ret
 exact⟨M',v',rfl,YU,jZ,ZC,Za⟩
theorem C5:Has Tryz.prog uC:=by
 refine⟨enters_of (by kernel_rfl),fun x r hr M w vs hg Q3 =>?_⟩;obtain⟨v,rfl,hv⟩:=Q3;have hr:bZ x=some r:=hr;unfold bZ at hr;cases hc:decide (x.length≤1000000)with
 |false=>rw[hc]at hr;cases hr
 |true=>
 rw[hc,qv,qb]at hr;rw[qI]at hc;subst hr;have ZR:=y37 hg hc hv;unfold z9n at ZR;have Vj:=ET.calls (n:=3-1) ZR;obtain⟨gf,lb,Di,_⟩:jB Tryz.prog (.seq (.int .i64)) M x [v]:=hv;simp only[qM,zA]at Di;subst Di;refine(xZ (n:=3)).1 ?_;refine zy Tryz.func90 rfl True.intro ?_ rfl;simp only[Tryz.ntmps90,qJ,qk,qR,Nat.reduceAdd,Nat.reduceSub,zj,zk,zw,zo,qP,qS];gi_wp2_with ((try refine⟨True.intro,?_⟩);gi_at_call 145;refine Vj.mono ?_;rintro e W ⟨M',v',rfl,YU,jZ,ZC,Za⟩)
 have hgW:Good M W:=Zu hg jZ.below;rcases Za with rfl|⟨b,n,cap,rfl,hb,Yi⟩
 ·have hx:x=[]:=by
   rcases tK ZC with⟨p,c,_,h⟩|⟨b,off,c,h,_⟩
   ·exact h
   ·cases h
  subst hx;have hs:=ET.calls (n:=3-1) (Tryz.slices_Sort_int_none none 0 W);gi_wp2_with ((try refine⟨True.intro,?_⟩);gi_at_call 146;refine hs.mono ?_;rintro e W2 ⟨rfl,rfl⟩)
  go_ret
  exact⟨M',_,rfl,by rw[List.mergeSort_nil];exact ZC,YU,jZ⟩
 ·obtain⟨jT,E,HE,vQ,ak,OY,_⟩:=Yi;have hn:n=x.length∧jT.toList.take x.length=x.map encZ:=by
   rcases tK ZC with⟨p,c,h,h0⟩|⟨b',off,c,h,Xb⟩
   ·cases h;subst h0;exact⟨rfl,rfl⟩
   ·cases h;refine⟨rfl,?_⟩;apply yZ;intro j;by_cases hj:j<x.length
    ·have Qr:=YU.2 _ _ _ (Xb j hj);rw[qY,GN HE]at Qr;rw[List.getElem?_take_of_lt hj,zh,Qr];simp[hj]
    ·rw[List.getElem?_take_eq_none (by omega),zD (by simp;omega)]
  obtain⟨rfl,Ve⟩:=hn;have hH:=holds_of_block_i HE Ve;have hs:=ET.calls (n:=3-1) (Tryz.slices_Sort_int b 0 cap x W hH (qd.1 HE).1 (by omega));gi_wp2_with ((try refine⟨True.intro,?_⟩);gi_at_call 146;refine hs.mono ?_;rintro e W2 ⟨rfl,k,os,rfl⟩)
  go_ret
  have jH:(x.mergeSort fun a b=>decide (a≤b)).length=x.length:=List.length_mergeSort x;have wx:=ownsRow_sorted_i (n:=k) (os:=os) (e:=E) jH hb HE ak OY vQ;have Yj:Go.RowKit.Below w.heap.size w (Go.Sort.grow (putRow (Value.int .i64) (Sort.ahead W k) b 0 (x.mergeSort fun a b=>decide (a≤b)).toArray) os):=
   jZ.below.grown (grownBy_sorted_i _) jZ.below.size (fun j hj=>by cases hj;exact hb)
  obtain⟨M2,g1,g2,g3⟩:=P0 (P:=Tryz.prog) (e :=.int .i64) (x:=x.mergeSort fun a b=>decide (a≤b)) hg Yj (by rw[jH];exact wx) (fun i hi=>by
   show(List.take 1 (List.drop (i*1) ((x.mergeSort fun a b=>decide (a≤b)).map encZ)))=[Value.int .i64 (x.mergeSort fun a b=>decide (a≤b))[i]]
   rw[xe,xr (by rw[zg];exact hi),kA];rfl)
  exact⟨M2,_,rfl,g3,g1,g2⟩
end Go.Lift
