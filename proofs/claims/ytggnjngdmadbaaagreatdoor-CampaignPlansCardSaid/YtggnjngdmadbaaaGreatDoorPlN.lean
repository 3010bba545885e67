/-
  The iterator over a yard's moves; the queues of the search in memory.
-/
import Derived.Test.YtggnjngdmadbaaaGreatDoorPlM
import Derived.Test.YtggnjngdmadbaaaGreatDoorVioM
set_option maxRecDepth 100000
set_option maxHeartbeats 2000000
set_option linter.all false
namespace Go.Lift
open Go Go.Proofs Go.RowKit Go.Sort
theorem un:Has Tryz.prog ur:=by
 refine⟨enters_of (by kernel_rfl),fun x r hr M w vs hg Q3 =>?_⟩;obtain⟨v,rest,rfl,hv,u,rfl,hu⟩:=Q3;have hu:u = .string x.2:=Xj.1 hu;subst hu;have hr:strings_Join x.1 x.2=some r:=hr;unfold strings_Join at hr;cases hc:decide (x.1.length≤4294967296)&&decide ((Lib.join (x.1.map (·.data.toList)) x.2.data.toList).length≤4294967296)with
 |false=>rw[hc]at hr;cases hr
 |true=>
  rw[hc,qv,qb]at hr;rw[qg,qI,qI]at hc;obtain⟨v',Q4,Vc⟩:=HP hv;have Di:v=v':=by
   have h:=Rn hv;rw[Q4]at h;exact h.symm
  subst Di;have Df:∀(a:Option Addr) (c:Nat),v = .slice a 0 c→x.1=[]→CK Tryz.prog ur.f #[v,.string x.2] M w fun M' v=>VC Tryz.prog M' [.str] r v:=by
   rintro a c rfl h0;refine yT (Any.strings_Join_none Tryz.lays156 Tryz.Builder_Extra_156 a c x.2 w) fun e w' he =>?_
   obtain⟨rfl,rfl⟩:=he;refine⟨M,_,rfl,?_,hg,qN _ _,fun _ _=>rfl⟩;rw[←hr,h0];exact Xj.2 rfl
  rcases Vc with⟨rfl,h0⟩|⟨b,off,cap,cells,rfl,h2,h3,h4,h5⟩|⟨a,cap,rfl,h0⟩
  ·exact Df none 0 rfl h0
  ·by_cases ju:0<x.1.length
   ·have Qr:∀(j:Nat) s,x.1[j]?=some s→w.cell? ⟨b,off+j,none⟩=some (.string s):=by
     intro j s hs;obtain⟨hj,hjs⟩:=qp.1 hs;have h6:(cells.drop (j*Ty.str.size)).take Ty.str.size=[Value.string x.1[j]]:=h5 j hj;have h7:cells[j]?=some (.string s):=by
      have h8:=congrArg (·[0]?) h6;simp only[Ty.size,xe,zb,zd]at h8;rw[hjs]at h8;simpa using h8
     exact hg.2 _ _ _ (h4 j _ h7)
    have lE:b<w.heap.size:=zc w _ (Qr 0 x.1[0] (qr ju));refine yT (Tryz.strings_Join b off cap x.1 x.2 w Qr lE (ze hc.1 (by decide)) h2 (ze hc.2 (by decide))) fun e w' he =>?_
    obtain⟨rfl,hb⟩:=he;exact⟨M,_,rfl,by rw[←hr];exact Xj.2 rfl,Zu hg hb,hb,fun _ _=>rfl⟩
   ·have h0:x.1=[]:=xf.1 (by omega);exact Df (some ⟨b,off,none⟩) cap (by rw[h0];rfl) h0
  ·exact Df (some a) cap rfl h0
end Go.Lift
namespace Go.Lift
open Go Go.Proofs Go.RowKit
attribute [local go_sem] Oper.semAt_some
def B9(k f:Nat):List (Int×Int):=(List.range' f (k-f)).flatMap fun(a:Nat)=>(List.range k).map fun(b:Nat)=>((a:Int),(b:Int))
def B8(k f t:Nat):List (Int×Int):=(List.range' t (k-t)).map fun(b:Nat)=>((f:Int),(b:Int))
theorem y20(k:Nat):B9 k 0=D7 k:=by unfold B9 D7;rw[zY,yO]
theorem y21{k f:Nat}(h:f<k):B9 k f=B8 k f 0++B9 k (f+1):=by
 unfold B9 B8;rw[show k-f=(k-(f+1))+1 by omega,kh,xL,yO,zY]
theorem y66{k:Nat}:B9 k k=[]:=by unfold B9;rw[yV];rfl
theorem y22{k f t:Nat}(h:t<k):B8 k f t=((f:Int),(t:Int))::B8 k f (t+1):=by
 unfold B8;rw[show k-t=(k-(t+1))+1 by omega,kh,zl]
theorem y68{k f:Nat}:B8 k f k=[]:=by unfold B8;rw[yV];rfl
theorem zm6{y:List (List js)}:∀{l1 l2 r:List (Int×Int)},HM y (l1++l2)=some r→∃r1 r2,HM y l1=some r1∧HM y l2=some r2∧r=r1++r2
 |[],l2,r,h=>⟨[],r,rfl,h,rfl⟩
 |m::l1,l2,r,h=>by
  simp only[qS,HM]at h;obtain⟨e,he,h⟩:=qi.1 h;obtain⟨q,hq,h⟩:=qi.1 h;obtain⟨r1,r2,a,b,c⟩:=zm6 hq;simp only[qb]at h;refine⟨bif e==0 then m::r1 else r1,r2,by simp only[HM,he,qh,a],b,?_⟩;rw[←h,c];cases e==0<;>rfl
theorem zxc{F:Fence}(hF:Open F)(n:Nat){M:Mem}{w:World}(hg:Good M w){y:List (List js)}{m:Int×Int}{e:Int}{yv:Value}(hy:jz Tryz.prog YP M y yv)(h:Bb y m=some e):
  CallsIn F n Tryz.prog 101 #[yv,.agg #[.int .i64 m.1,.int .i64 m.2]] w fun r w'=>∃M',r = .returned (.int .i64 e)∧Good M' w'∧vm M w M' w':=
 (hF.calls (zau.2 (y,m) e h M w [yv,.agg #[.int .i64 m.1,.int .i64 m.2]] hg ⟨_,_,rfl,hy,_,rfl,⟨#[.int .i64 m.1,.int .i64 m.2],rfl,rfl,rfl⟩⟩)).mono (by
  rintro r w' ⟨M',v,rfl,hv,YU,jZ⟩;have:v = .int .i64 e:=YX.1 hv;exact⟨M',by rw[this],YU,jZ⟩)
theorem ycc(F:Fence)(hF:Open F)(hro:F.round=none)(nn l:Nat)(M:Mem)(y:List (List js))(xs:List (Int×Int))(jH:y.length≤1000)(H4:HM y (D7 y.length)=some xs)(yv:Value)(G5:jz Tryz.prog YP M y yv)
    (J Jx:List (Int×Int)→Mem→World→Prop) (M0:Mem) (hM:Mem.le M M0) (Kx:∀pre N W,J pre N W→Good N W) (YL:EU J)
    (hY:∀pre x N W1,J pre N W1→pre++[x] <+: xs→YieldAt F (nn-1) Tryz.prog l #[Kk x] W1 fun e W'=>
      ∃N',Mem.le N N'∧((e = .returned (.bool true)∧J (pre++[x]) N' W')∨(e = .returned (.bool false)∧Jx (pre++[x]) N' W')))
    (W:World) (h0:J [] M0 W):
    CallsIn F nn Tryz.prog 175 #[yv,.func (.yield l) #[] #[]] W fun e W'=>(∃v,e = .returned v)∧∃N',Mem.le M0 N'∧(J xs N' W'∨∃pre,pre <+: xs∧Jx pre N' W'):=by
  have wM:∀k:Nat,(F.depth.isSome=true→1≤k):=fun k h=>by rw[hF.depth]at h;cases h
  obtain⟨ya,yc,rfl⟩:=Ka G5;rw[←y20]at H4;refine zy Tryz.func175 rfl (hF.fn 175) ?_ hro;simp only[Tryz.ntmps175,qJ,qk,qR,Nat.reduceAdd,Nat.reduceSub,zj,zk,zw,zo,qP,qS];gi_wp2
  gi_loopw [9] (fun q wr=>∃(f:Nat) (N:Mem) (pre rest:List (Int×Int)),q = .int .i64 (f:Int)∧f≤y.length∧Mem.le M0 N∧J pre N wr∧pre++rest=xs∧HM y (B9 y.length f)=some rest) (fun q wr=>(y.length-(RowKit.intOf q).toNat))
  case atStart=>exact⟨0,M0,[],xs,rfl,zz _,Mem.le_refl M0,h0,rfl,H4⟩
  case round=>
    obtain⟨f,N,pre,rest,rfl,hf,jL,hJ,Dw,hv⟩:=hrel;by_cases hlt:f<y.length
    · rw [y21 hlt]at hv
      obtain⟨r1,r2,Q4,Vc,rfl⟩:=zm6 hv;gi_wp2
      gi_loopw [14] (fun q wr=>∃(t:Nat) (N:Mem) (pre rest:List (Int×Int)),q = .int .i64 (t:Int)∧t≤y.length∧Mem.le M0 N∧J pre N wr∧pre++(rest++r2)=xs∧HM y (B8 y.length f t)=some rest) (fun q wr=>(y.length-(RowKit.intOf q).toNat))
      case atStart=>exact⟨0,N,pre,r1,rfl,zz _,jL,hJ,Dw,Q4⟩
      case round=>
        clear hJ Dw jL hv Q4;obtain⟨t,N,pre,rest,rfl,ht,jL,hJ,Dw,hv⟩:=hrel;have hg:=Kx _ _ _ hJ;by_cases NI:t<y.length
        · rw [y22 NI]at hv
          simp only[HM]at hv;obtain⟨e,he,hv⟩:=qi.1 hv;obtain⟨Q8,Dt,hv⟩:=qi.1 hv;simp only[qb]at hv;obtain⟨wa,Nz⟩:∃wa,wr.alloc (.cells #[.int .i64 (f:Int),.int .i64 (t:Int)] 63)=wa:=⟨_,rfl⟩
          have hBa:Below wr.heap.size wr wa:=by rw[←Nz];exact(qN _ wr).alloc (ql _) _
          have hga:Good N wa:=Zu hg hBa;have lD:=qz wr (.cells #[.int .i64 (f:Int),.int .i64 (t:Int)] 63);rw[Nz]at lD;have ka0:wa.cell? ⟨wr.heap.size,0,none⟩=some (.int .i64 (f:Int)):=va lD rfl;have ka1:wa.cell? ⟨wr.heap.size,1,none⟩=some (.int .i64 (t:Int)):=va lD rfl;have hza:wa.heap.size=wr.heap.size+1:=by rw[←Nz,qQ]
          have cc:=zxc hF (nn-1) hga (m:=((f:Int),(t:Int))) (ZZ (Mem.le_trans hM jL) G5) he;have cells:∀(M2:Mem) (w2:World),Good M2 w2→vm N wa M2 w2→w2.cell? ⟨wr.heap.size,0,none⟩=some (.int .i64 (f:Int))∧w2.cell? ⟨wr.heap.size,1,none⟩=some (.int .i64 (t:Int))∧J pre M2 w2∧Mem.le M0 M2:=fun M2 w2 wE j7=>by
            have h1:=(j7.below.block _ (by omega)).trans lD;have sh:Below wr.heap.size wr w2:=hBa.trans ⟨j7.below.os,j7.below.tape,j7.below.output,j7.below.size,fun j hj=>j7.below.block j (by omega)⟩;exact⟨va h1 rfl,va h1 rfl,YL _ _ _ _ _ hJ wE ⟨sh,fun b hb=>j7.mem b (by omega)⟩,Mem.le_trans jL (QN (G:=[]) hga j7).le⟩
          by_cases h00:e=0
          · subst h00
            rw[show((0:Int)==0)=true from rfl,qv]at hv;subst hv;have hpr:pre++[((f:Int),(t:Int))] <+: xs:=⟨Q8++r2,by rw[←Dw];simp⟩
            have O9:=fun M2 w2 hj=>hY pre ((f:Int),(t:Int)) M2 w2 hj hpr
            unfold Kk at O9;gi_wp2_with (first
              |((try refine⟨hF.fn _,?_⟩);(try refine⟨wM _,?_⟩);gi_at_call 101;refine cc.mono ?_;clear cc;rintro e w2 ⟨M2,rfl,wE,j7⟩;obtain⟨k0,k1,fi,YI⟩:=cells M2 w2 wE j7;clear cells;obtain⟨fn,tmps,assign,body,hy,hR⟩:=O9 M2 w2 fi;clear O9)
              |((try refine⟨wM _,?_⟩);refine hR.mono ?_;clear hR;rintro e W2 ⟨N',JR,⟨rfl,Tf⟩|⟨rfl,hx3⟩⟩))
            · exact⟨⟨t+1,N',pre++[((f:Int),(t:Int))],Q8,by simp,by omega,Mem.le_trans YI JR,Tf,by rw[←Dw];simp,Dt⟩,by simp only[RowKit.intOf];omega⟩
            · refine zu (results_none rfl _ _ _) rfl ?_
              exact⟨⟨_,rfl⟩,N',Mem.le_trans YI JR,.inr ⟨_,hpr,hx3⟩⟩
          · have ju:(e==0)=false:=by rw[qU];exact h00
            rw[ju,qu]at hv;subst hv;have hng:∀(f:FuncId),none=some f→F.fn f:=fun _ h=>by cases h
            gi_wp2_with (first
              |((try refine⟨hF.fn _,?_⟩);(try refine⟨wM _,?_⟩);gi_at_call 101;refine cc.mono ?_;clear cc;rintro e w2 ⟨M2,rfl,wE,j7⟩;obtain⟨k0,k1,fi,YI⟩:=cells M2 w2 wE j7;clear cells)
              |(with_reducible refine⟨hng,?_⟩))
            exact⟨⟨t+1,M2,pre,Q8,by simp,by omega,YI,fi,Dw,Dt⟩,by simp only[RowKit.intOf];omega⟩
        · obtain rfl:t=y.length:=by omega
          rw[y68]at hv;simp only[HM,qb]at hv;subst hv;gi_wp2
          refine⟨⟨f+1,N,pre,r2,by simp,by omega,jL,hJ,by simpa using Dw,Vc⟩,by simp only[RowKit.intOf];omega⟩
    · obtain rfl:f=y.length:=by omega
      rw[y66]at hv;simp only[HM,qb]at hv;subst hv;gi_wp2
      go_end0
      rw[qL]at Dw;subst Dw;exact⟨⟨_,rfl⟩,N,jL,.inl hJ⟩
end Go.Lift
namespace Go.Lift
open Go Go.Proofs Go.RowKit
def WD(l:List (Int×Value))(es:Array MapEntry):Prop:=es.toList.map (fun e=>(e.key,e.val))=l.map fun p=>(Value.int .i64 p.1,p.2)
def vJ(l:List (Int×Value))(j:Int):Value:=match l.find? fun p=>p.1==j with
 |some p=>p.2
 |none =>.slice none 0 0
def YF:List (Int×Value)→Int→Value→List (Int×Value)
 |[],j,v=>[(j,v)]
 |p::l,j,v=>bif p.1==j then(j,v)::l else p::YF l j v
theorem TA{d:TypeDesc}(hd:d = .int .i64)(j:Int):∀(es:List MapEntry) (l:List (Int×Value)) (i:Nat),es.map (fun e=>(e.key,e.val))=l.map (fun p=>(Value.int .i64 p.1,p.2))→
  (Instr.findNow d (.int .i64 j) es i=some none∧(l.find? fun p=>p.1==j)=none∧∀v,YF l j v=l++[(j,v)])∨
  ∃n pre p post,Instr.findNow d (.int .i64 j) es i=some (some (i+n,p.2))∧l=pre++p::post∧pre.length=n∧p.1=j∧(l.find? fun p=>p.1==j)=some p∧∀v,YF l j v=pre++(j,v)::post
 |[],[],_,_ =>.inl ⟨rfl,rfl,fun _=>rfl⟩
 |[],_::_,_,h=>by cases h
 |_::_,[],_,h=>by cases h
 | e::es,p::l,i,h=>by
  simp only[zl,qM,qX]at h;obtain⟨⟨h1,h2⟩,h3⟩:=h;subst hd;have hk:∀x:Int,MapKept.IsKey (.int .i64) (.int .i64 x):=fun x=>rfl
  have hke:MapKept.IsKey (.int .i64) e.key:=by rw[h1];exact hk p.1
  obtain⟨r,hr,Ge⟩:=MapKept.sameNow_of_keys (hk j) hke;rw[h1]at Ge;cases r with
  |true=>
   have hq:p.1=j:=by have:=Ge.1 rfl;injection this with _ e;exact e.symm
   have hb:(p.1==j)=true:=by rw[yo];exact hq
   refine .inr ⟨0,[],p,l,?_,rfl,rfl,hq,by simp only[yU,hb],fun v=>by simp only[YF,hb,qv,qP]⟩;simp[Instr.findNow,hr,h2]
  |false=>
   have hb:(p.1==j)=false:=by
    rw[qU];intro e;exact absurd (Ge.2 (by rw[e])) (by decide)
   rcases TA rfl j es l (i+1) h3 with⟨g1,g2,g3⟩|⟨n,pre,p',post,g1,g2,g3,g4,g5,g6⟩
   ·refine .inl ⟨by simp[Instr.findNow,hr,g1],by simp only[yU,hb,g2],fun v=>by simp only[YF,hb,qu,g3,qS]⟩
   ·refine .inr ⟨n+1,p::pre,p',post,?_,by rw[g2];rfl,by simp[g3],g4,by simp only[yU,hb,g5],fun v=>by simp only[YF,hb,qu,g6,qS]⟩;simp[Instr.findNow,hr,g1];omega
theorem SA:Tryz.prog.underlying 229=some (.map 3 231):=by kernel_rfl
theorem FD:Tryz.prog.underlying 3=some (.int .i64):=by kernel_rfl
theorem yed(w:World):(zeroValue 231).run Tryz.prog w = .ok (.slice none 0 0) w:=by
 obtain⟨i,d,hi⟩:=Qx (show fits Tryz.prog (.slice Zk) (.inl 231)=true by kernel_rfl);obtain⟨z,hz,Z4,_⟩:=hi.zero (by rfl);have G3:=Z4 (fun _ _=>none);obtain⟨v,hv,h2⟩:jB Tryz.prog (.slice Zk) (fun _ _=>none) [] z.cells.toList:=G3;have SG:z = .slice none 0 0:=by
  have hzz:(Tryz.prog.info? 231).bind (·.zero)=some (.slice none 0 0):=by kernel_rfl
  rw[hi.info,qh,hz]at hzz;exact zQ hzz
 subst SG;simp only[zeroValue,typeInfo,program,qy,Sem.run,qt,hi.info,hz,qD]
theorem U7{w:World}{g:Nat}{es:Array MapEntry}{cl:Nat}{l:List (Int×Value)}(hb:w.heap[g]?=some (.map es cl))(hl:WD l es)(j:Int):(Instr.lookup 229 (.map (some g)) (.int .i64 j) false).run Tryz.prog w = .ok (vJ l j) w:=by
 have Vi:=yS (P:=Tryz.prog) (w:=w) FD (k :=.int .i64 j) rfl es.isEmpty 9999;rcases TA (d :=.int .i64) rfl j es.toList l 0 hl with⟨g1,g2,_⟩|⟨n,pre,p,post,g1,g2,g3,g4,g5,_⟩
 ·have vv:=zU (P:=Tryz.prog) (w:=w) FD g1;have hm:vJ l j = .slice none 0 0:=by unfold vJ;rw[g2]
  rw[hm];simp only[Instr.lookup,qy,qG SA,qt,zH hb,qD,Vi,vv,yed];rfl
 ·have vv:=zU (P:=Tryz.prog) (w:=w) FD g1;have hm:vJ l j=p.2:=by unfold vJ;rw[g5]
  rw[hm];simp only[Instr.lookup,qy,qG SA,qt,zH hb,qD,Vi,vv];rfl
theorem ybk{w:World}{g:Nat}{es:Array MapEntry}{cl:Nat}{l:List (Int×Value)}(hb:w.heap[g]?=some (.map es cl))(hl:WD l es)(j:Int)(v:Value):∃Zx Kz,(Instr.mapUpdate 229 (.map (some g)) (.int .i64 j) v).run Tryz.prog w = .ok () {w with heap:=w.heap.setIfInBounds g (.map Zx Kz)}∧WD (YF l j v) Zx:=by
 have Vi:=yS (P:=Tryz.prog) (w:=w) FD (k :=.int .i64 j) rfl false 9999;rcases TA (d :=.int .i64) rfl j es.toList l 0 hl with⟨g1,g2,gp⟩|⟨n,pre,p,post,g1,g2,g3,g4,g5,gp⟩
 ·have vv:=zU (P:=Tryz.prog) (w:=w) FD g1;refine⟨es.push {key :=.int .i64 j,val:=v,born:=cl},cl+1,?_,?_⟩
  ·simp only[Instr.mapUpdate,qy,qG SA,qt,zH hb,Vi,vv,yW _ hb,qD]
  ·rw[gp];unfold WD at hl⊢;rw[k7,zv,zv,hl];rfl
 ·have vv:=zU (P:=Tryz.prog) (w:=w) FD g1;unfold WD at hl;rw[g2,zv,zl]at hl;obtain⟨A,B,si,hA,hB⟩:=List.map_eq_append_iff.1 hl;obtain⟨e,B',rfl,he,vB⟩:=List.map_eq_cons_iff.1 hB;have jH:A.length=n:=by
   have:=congrArg List.length hA;simp only[zg]at this;omega
  have Xa:es[n]?=some e:=by
   rw[←zh,si,zm (by omega),jH,yV];rfl
  simp only[qX]at he;refine⟨es.modify n fun e=>{e with key :=.int .i64 j,val:=v},cl,?_,?_⟩
  ·rw[qY]at vv;have Dq:Instr.sameBits 10000 (.int .i64 j) (.int .i64 j)=true:=Uw (k :=.int .i64) rfl j 10000;simp only[Instr.mapUpdate,qy,qG SA,qt,zH hb,Vi,vv,Xa,zK,qO,he.1,g4,Instr.keyThatStays,Uw (k :=.int .i64) rfl,yW _ hb,qD];rw[qH Dq,qD,qt,yW _ hb]
  ·rw[gp];unfold WD;rw[Array.toList_modify,si,←jH,UO,zv,zl,hA,vB,zv,zl]
theorem mO{j:Int}{v:Value}:∀{l:List (Int×Value)} (k:Int),vJ (YF l k v) j=if j=k then v else vJ l j
 |[],k=>by
  unfold vJ YF;by_cases h:j=k
  ·subst h;simp
  ·simp[h,yL h]
 | p::l,k=>by
  have ih:=mO (j:=j) (v:=v) (l:=l) k;unfold YF;by_cases hp:p.1=k
  ·have hb:(p.1==k)=true:=by rw[yo];exact hp
   rw[hb,qv];unfold vJ;by_cases h:j=k
   ·subst h;simp
   ·have h1:(k==j)=false:=by rw[qU];exact yL h
    have h2:(p.1==j)=false:=by rw[hp];exact h1
    simp only[yU,h1,h2,qT h]
  ·have hb:(p.1==k)=false:=by rw[qU];exact hp
   rw[hb,qu];unfold vJ at ih⊢;by_cases h:p.1=j
   ·have h1:(p.1==j)=true:=by rw[yo];exact h
    have h2:j≠k:=fun e=>hp (by rw[h,e])
    simp only[yU,h1,qT h2]
   ·have h1:(p.1==j)=false:=by rw[qU];exact h
    simp only[yU,h1];exact ih
theorem zxi{ps:jY}{k j:Int}{t:wC}:QX (ps++[(k,t)]) j=QX ps j++(if k=j then[t]else[]):=by
 unfold QX;rw[List.filter_append,zv];by_cases h:k=j
 ·subst h;simp
 ·simp[h]
theorem zqj{ps:jY}{k:Int}{t:wC}:Xx (ps++[(k,t)])=max (Xx ps) k:=by
 unfold Xx;rw[List.foldl_append];rfl
def zb8(M:Mem)(ns:List wC)(cells:List Value):Prop:=cells.length=ns.length*4∧∀i (hi:i<ns.length),jB Tryz.prog Zk M ns[i] ((cells.drop (i*4)).take 4)
theorem zb8.mono{M M':Mem}(hM:Mem.le M M'){ns:List wC}{cells:List Value}(h:zb8 M ns cells):zb8 M' ns cells:=⟨h.1,fun i hi=>J8 Zk hM _ _ (h.2 i hi)⟩
theorem zb8.snoc{M:Mem}{ns:List wC}{cells cs:List Value}{n:wC}(h:zb8 M ns cells)(hn:jB Tryz.prog Zk M n cs):zb8 M (ns++[n]) (cells++cs):=by
 have hl:=h.1;have hc:cs.length=4:=Qp Zk M n cs hn;refine⟨by rw[qe,qe,qj];omega,fun i hi =>?_⟩;rw[qe,qj]at hi;by_cases hlt:i<ns.length
 ·rw[kd hlt,xF (by omega),y9 (by rw[zT];omega)];exact h.2 i hlt
 ·have:i=ns.length:=by omega
  subst this;rw[xR (ql _),jg,xl (by omega),show ns.length*4-cells.length=0 by omega];simp only[yV,kj,yz,qP];rw[zF (by omega)];exact hn
structure QAt (B gm:Nat) (ps:jY) (M:Mem) (W:World) (l:List (Int×Value)):Prop where
 map:∃es cl,W.heap[gm]?=some (.map es cl)∧WD l es
 row:∀k,∃cells,W.ownsRow B 184 4 (vJ l k) (QX ps k).length cells∧zb8 M (QX ps k) cells
 apart:∀k k',k≠k'→(vJ l k).ownBlock=none∨(vJ l k).ownBlock≠(vJ l k').ownBlock
 mem:∀k b o,(vJ l k).ownBlock=some b→M b o=none
theorem QAt.kept{B gm:Nat}{ps:jY}{M M':Mem}{W W':World}{l:List (Int×Value)}(h:QAt B gm ps M W l)(hb:Below W.heap.size W W')(jL:Mem.le M M')(hm:∀b,b<W.heap.size→M' b=M b):QAt B gm ps M' W' l:=by
 have ju:∀x:Value,x.ownBlock=none∨x.ownBlock≠none:=fun x=>by cases x.ownBlock<;>simp
 obtain⟨es,cl,h1,h2⟩:=h.map;refine⟨⟨es,cl,(hb.block gm (qd.1 h1).1).trans h1,h2⟩,fun k =>?_,h.apart,fun k b o hk =>?_⟩
 ·obtain⟨cells,a1,a2⟩:=h.row k;exact⟨cells,a1.kept (vA hb) (ju _),a2.mono jL⟩
 ·obtain⟨cells,a1,a2⟩:=h.row k;rw[hm b (a1.lt b hk).2];exact h.mem k b o hk
theorem QAt.other{B gm g:Nat}{ps:jY}{M:Mem}{W W':World}{l:List (Int×Value)}{jT:Array Value}{E:TypeId}(h:QAt B gm ps M W l)(hg:W.heap[g]?=some (.cells jT E (0,0)))(hE:E≠184∨∀k,(vJ l k).ownBlock≠some g)(hw:W.grownBy W' (some g)):QAt B gm ps M W' l:=by
 obtain⟨es,cl,h1,h2⟩:=h.map;have SY:gm≠g:=fun e=>by rw[e,hg]at h1;cases h1
 refine⟨⟨es,cl,(hw.block gm (qd.1 h1).1 (by simpa using SY)).trans h1,h2⟩,fun k =>?_,h.apart,h.mem⟩;obtain⟨cells,a1,a2⟩:=h.row k;refine⟨cells,a1.kept hw ?_,a2⟩;rcases hE with hE|hE
 ·exact bJ hg (yL hE) a1
 ·exact .inr (hE k)
theorem QAt.push{B gm:Nat}{ps:jY}{M:Mem}{W Wa W':World}{l:List (Int×Value)}{k:Int}{t:wC}{v':Value}{cells cs:List Value}{Zx:Array MapEntry}{Kz:Nat}(h:QAt B gm ps M W l)(hc:zb8 M (QX ps k) cells)(hg:W.grownBy Wa (vJ l k).ownBlock)(ho:Wa.ownsRow B 184 4 v' ((QX ps k).length+1) (cells++cs))(ZT:v'.ownBlock=(vJ l k).ownBlock∨∃b,v'.ownBlock=some b∧W.heap.size≤b)(hM:∀b o,W.heap.size≤b→M b o=none)(ht:jB Tryz.prog Zk M t cs)
  (v6:W'.heap[gm]?=some (.map Zx Kz)) (Yc:∀j,j≠gm→W'.heap[j]?=Wa.heap[j]?) (hi:WD (YF l k v') Zx):QAt B gm (ps++[(k,t)]) M W' (YF l k v'):=by
 obtain⟨es,cl,h1,_⟩:=h.map;have KP:∀(r:Value) (n:Nat) (xs:List Value),Wa.ownsRow B 184 4 r n xs→(∀b,r.ownBlock=some b→b≠gm)→W'.ownsRow B 184 4 r n xs:=fun r n xs hr hb=>by
  refine⟨hr.1,?_⟩;rcases hr.2 with h0|⟨g,cap,jT,rfl,a1,a2,a3⟩
  ·exact .inl h0
  ·exact .inr ⟨g,cap,jT,rfl,a1,(Yc g (hb g rfl)).trans a2,a3⟩
 have hgmW:gm<W.heap.size:=(qd.1 h1).1;have vX:∀j,∀b,(vJ l j).ownBlock=some b→b≠gm∧b<W.heap.size:=fun j b hb=>by
  obtain⟨c2,a1,_⟩:=h.row j;refine⟨fun e =>?_,(a1.lt b hb).2⟩;rcases a1.2 with⟨e0,_⟩|⟨g,cap,jT,e0,_,a2,_⟩
  ·rw[e0]at hb;cases hb
  ·rw[e0]at hb;simp only[Value.ownBlock,qb]at hb;subst hb;rw[e,h1]at a2;cases a2
 refine⟨⟨Zx,Kz,v6,hi⟩,fun j =>?_,fun j j' ju =>?_,fun j b o hb =>?_⟩
 ·rw[mO,zxi];by_cases hj:j=k
  ·subst hj;rw[qH rfl,qH rfl,qe,qj];refine⟨cells++cs,KP _ _ _ ho fun b hb =>?_,hc.snoc ht⟩;rcases ZT with e|⟨b',e,X5⟩
   ·exact(vX j b (by rw[←e];exact hb)).1
   ·rw[e]at hb;cases hb;omega
  ·rw[qT hj,qT (yL hj),qL];obtain⟨c2,a1,a2⟩:=h.row j;exact⟨c2,KP _ _ _ (a1.kept hg (h.apart j k hj)) fun b hb=>(vX j b hb).1,a2⟩
 ·rw [mO,mO];have key:∀i,i≠k→(vJ l i).ownBlock=none∨(vJ l i).ownBlock≠v'.ownBlock:=fun i hi=>by
   rcases ZT with e|⟨b',e,X5⟩
   ·rw[e];exact h.apart i k hi
   ·cases hb:(vJ l i).ownBlock with
    |none=>exact .inl rfl
    |some b=>
     refine .inr fun e2 =>?_
     rw[e]at e2;injection e2 with e2
     have:=(vX i b hb).2;omega
  by_cases hj:j=k
  ·rw[qH hj];have Y9:j'≠k:=fun e=>ju (by rw[hj,e])
   rw[qT Y9];rcases key j' Y9 with e|e
   ·rw[e];cases v'.ownBlock<;>simp
   ·exact .inr (yL e)
  ·rw[qT hj];by_cases Y9:j'=k
   ·rw[qH Y9];exact key j hj
   ·rw[qT Y9];exact h.apart j j' ju
 ·rw[mO]at hb;by_cases hj:j=k
  ·rw[qH hj]at hb;rcases ZT with e|⟨b',e,X5⟩
   ·rw[e]at hb;exact h.mem k b o hb
   ·rw[e]at hb;cases hb;exact hM b o X5
  ·rw[qT hj]at hb;exact h.mem j b o hb
structure PSt (w:World) (M:Mem) (bq gm b8 gd:Nat) (ps:jY) (done:List js) (l:List (Int×Value)) (M':Mem) (W:World):Prop where
 g0:Good M w
 good:Good M' W
 le:Mem.le M M'
 mem:∀b,b<w.heap.size→M' b=M b
 below:Below w.heap.size w W
 cq:W.heap[bq]?=some (.cells #[.map (some gm)] 229 (0,0))
 c8:W.heap[b8]?=some (.cells #[.int .i64 (Xx ps)] 3 (0,0))
 cd:∃es cl,W.heap[gd]?=some (.map es cl)∧XB .str .bool (done.reverse.map fun s=>(s,true)) es
 qs:QAt w.heap.size gm ps M' W l
 m8:∀o,M' b8 o=none
 n8:w.heap.size≤b8
 nm:w.heap.size≤gm
 ne:gm≠gd
theorem PSt.kept{w:World}{M:Mem}{bq gm b8 gd:Nat}{ps:jY}{done:List js}{l:List (Int×Value)}{M' M2:Mem}{W W2:World}(h:PSt w M bq gm b8 gd ps done l M' W)(hg:Good M2 W2)(jZ:vm M' W M2 W2)(jL:Mem.le M' M2):PSt w M bq gm b8 gd ps done l M2 W2:=by
 obtain⟨es,cl,d1,d2⟩:=h.cd;have hq:=h.qs;have l8:=(qd.1 h.c8).1;exact⟨h.g0,hg,Mem.le_trans h.le jL,fun b hb=>by rw[jZ.mem b (by have:=h.below.size;omega)];exact h.mem b hb,h.below.trans ⟨jZ.below.os,jZ.below.tape,jZ.below.output,jZ.below.size,fun j hj=>jZ.below.block j (qV hj h.below.size)⟩,
  (jZ.below.block _ (qd.1 h.cq).1).trans h.cq,(jZ.below.block _ l8).trans h.c8,⟨es,cl,(jZ.below.block _ (qd.1 d1).1).trans d1,d2⟩,hq.kept jZ.below jL jZ.mem,fun o=>by rw[jZ.mem _ l8];exact h.m8 o,h.n8,h.nm,h.ne⟩
theorem mN{w W:World}{M M':Mem}(g0:Good M w)(jL:Mem.le M M')(hb:Below w.heap.size w W)(hc:∀b o v,M' b o=some v→W.cell? ⟨b,o,none⟩=some v):Good M' W:=
 ⟨wB.keep (w:=w) jL (fun j c t fr h=>⟨c,fr,by rw[hb.block j (qd.1 h).1];exact h,rfl⟩) g0.1,hc⟩
theorem PSt.push{w:World}{M:Mem}{bq gm b8 gd:Nat}{ps:jY}{done:List js}{l:List (Int×Value)}{M4:Mem}{W4 Wx Wz:World}{wY:Int}{t:wC}{v':Value}{cells cs:List Value}{Zx:Array MapEntry}{Kz:Nat}(h:PSt w M bq gm b8 gd ps done l M4 W4)(r2:zb8 M4 (QX ps wY) cells)(hJ:W4.drew.grownBy Wx (vJ l wY).ownBlock)
  (hv:Wx.ownsRow w.heap.size 184 4 v' ((QX ps wY).length+1) (cells++cs)) (ZT:v'.ownBlock=(vJ l wY).ownBlock∨∃b,v'.ownBlock=some b∧W4.heap.size≤b) (ht:jB Tryz.prog Zk M4 t cs) (hi:WD (YF l wY v') Zx) (DO:Wz={Wx with heap:=Wx.heap.setIfInBounds gm (.map Zx Kz)}):
  Wz.heap[b8]?=some (.cells #[.int .i64 (Xx ps)] 3 (0,0))∧PSt w M bq gm b8 gd (ps++[(wY,t)]) done (YF l wY v') M4 (Wz.setCell ⟨b8,0,none⟩ (.int .i64 (Xx (ps++[(wY,t)])))):=by
 have hq:=h.qs;obtain⟨es,cl,q1,q2⟩:=hq.map;obtain⟨MO,r1,_⟩:=hq.row wY;have lgm:gm<W4.heap.size:=(qd.1 q1).1;have qm:some gm≠(vJ l wY).ownBlock:=fun e=>by
  rcases r1.2 with⟨e0,_⟩|⟨g,cap,jT,e0,_,e1,_⟩
  ·rw[e0]at e;cases e
  ·rw[e0]at e;simp only[Value.ownBlock,qb]at e;rw[←e,q1]at e1;cases e1
 have qn:∀(k:Nat) (jT:Array Value) (E:TypeId),W4.heap[k]?=some (.cells jT E (0,0))→E≠184→some k≠(vJ l wY).ownBlock:=fun k jT E hk hE e=>by
  rcases bJ hk (yL hE) r1 with e2|e2
  ·rw[e2]at e;cases e
  ·exact e2 e.symm
 have qx:Wx.heap[gm]?=some (.map es cl):=(hJ.block _ lgm qm).trans q1;have z1:Wz.heap[gm]?=some (.map Zx Kz):=by rw[DO];exact(MapKept.heap_set (w:=Wx) qx).1
 have z2:∀k,k≠gm→Wz.heap[k]?=Wx.heap[k]?:=fun k hk=>by rw[DO];exact(MapKept.heap_set (w:=Wx) qx).2 k hk
 have zs:Wz.heap.size=Wx.heap.size:=by rw[DO];simp
 have other:∀k,k<W4.heap.size→k≠gm→some k≠(vJ l wY).ownBlock→Wz.heap[k]?=W4.heap[k]?:=fun k hk h1 h2=>(z2 k h1).trans (hJ.block k hk h2)
 have n8:b8≠gm:=fun e=>by rw[←e,h.c8]at q1;cases q1
 have nq:bq≠gm:=fun e=>by rw[←e,h.cq]at q1;cases q1
 have l8:=(qd.1 h.c8).1;have lq:=(qd.1 h.cq).1;have c8:Wz.heap[b8]?=some (.cells #[.int .i64 (Xx ps)] 3 (0,0)):=(other b8 l8 n8 (qn _ _ _ h.c8 (by decide))).trans h.c8;have cq:Wz.heap[bq]?=some (.cells #[.map (some gm)] 229 (0,0)):=(other bq lq nq (qn _ _ _ h.cq (by decide))).trans h.cq;obtain⟨W5,rP⟩:∃W5,Wz.setCell ⟨b8,0,none⟩ (.int .i64 (Xx (ps++[(wY,t)])))=W5:=⟨_,rfl⟩
 have g5:Wz.grownBy W5 (some b8):=by rw[←rP];exact bQ
 have c85:W5.heap[b8]?=some (.cells #[.int .i64 (Xx (ps++[(wY,t)]))] 3 (0,0)):=by rw[←rP];exact iA c8
 have HX:∀k,k<W4.heap.size→k≠gm→k≠b8→some k≠(vJ l wY).ownBlock→W5.heap[k]?=W4.heap[k]?:=fun k hk h1 h2 h3=>(g5.block k (by have a1:W4.heap.size≤Wx.heap.size:=hJ.size;omega) (by simpa using h2)).trans (other k hk h1 h3)
 have Y8:=h.below.size;have FY:Below w.heap.size w W5:=by
  refine⟨?_,?_,?_,?_,fun k hk =>?_⟩
  ·rw[g5.os,DO];exact hJ.os.trans h.below.os
  ·rw[g5.tape,DO];exact hJ.tape.trans h.below.tape
  ·rw[g5.output,DO];exact hJ.output.trans h.below.output
  ·have a1:W4.heap.size≤Wx.heap.size:=hJ.size;have:=g5.size;omega
  ·have a2:=h.nm;have a3:=h.n8;refine(HX k (by omega) (by omega) (by omega) fun e =>?_).trans (h.below.block k hk);have:=(r1.lt k e.symm).1;omega
 have hq5:QAt w.heap.size gm (ps++[(wY,t)]) M4 Wz (YF l wY v'):=QAt.push (W:=W4.drew) (Wa:=Wx) (W':=Wz) ⟨⟨es,cl,q1,q2⟩,hq.row,hq.apart,hq.mem⟩ r2 hJ hv ZT (fun b o hb=>W9 h.good hb o) ht z1 z2 hi;rw[rP];refine⟨c8,⟨h.g0,mN h.g0 h.le FY fun b o v hb =>?_,h.le,h.mem,FY,(g5.block _ (qd.1 cq).1 (by
  have:bq≠b8:=fun e=>by have:=h.cq;rw[e,h.c8]at this;cases this
  simpa using this)).trans cq,c85,?_,hq5.other c8 (.inl (by decide)) g5,h.m8,h.n8,h.nm,h.ne⟩⟩
 ·have hc:=h.good.2 b o v hb;have hlt:=zc W4 ⟨b,o,none⟩ hc;refine(za (HX b hlt (fun e =>?_) (fun e =>?_) fun e =>?_)).trans hc
  ·rw[e]at hc;simp only[World.cell?,q1]at hc;cases hc
  ·rw[e,h.m8]at hb;cases hb
  ·rw[hq.mem wY b o e.symm]at hb;cases hb
 ·obtain⟨es0,cl0,d1,d2⟩:=h.cd;have ld:=(qd.1 d1).1;refine⟨es0,cl0,(HX gd ld (yL h.ne) (fun e =>?_) fun e =>?_).trans d1,d2⟩
  ·rw[e,h.c8]at d1;cases d1
  ·rcases r1.2 with⟨e0,_⟩|⟨g,cap,jT,e0,_,e1,_⟩
   ·rw[e0]at e;cases e
   ·rw[e0]at e;simp only[Value.ownBlock,qb]at e;rw[←e,d1]at e1;cases e1
attribute [local go_sem] Oper.semAt_some
theorem ydy{α:Type}:∀l:List α,l.length=27→∃x0 x1 x2 x3 x4 x5 x6 x7 x8 x9 QO Q7 Zv ZM Yq YC Yp Yo Yn Ym YB YA Yz Z2 YS YR YQ,l=x0::x1::x2::x3::x4::x5::x6::x7::x8::x9::QO::Q7::Zv::ZM::Yq::YC::Yp::Yo::Yn::Ym::YB::YA::Yz::Z2::YS::YR::YQ::[]
 |x0::x1::x2::x3::x4::x5::x6::x7::x8::x9::QO::Q7::Zv::ZM::Yq::YC::Yp::Yo::Yn::Ym::YB::YA::Yz::Z2::YS::YR::YQ::[],_=>⟨_,_,_,_,_,_,_,_,_,_,_,_,_,_,_,_,_,_,_,_,_,_,_,_,_,_,_,rfl⟩
theorem y7z{P:Program}{jA:Array Oper}{o:Oper}{a:Act}{w w':World}{K:Act→World→Prop}{Q:Exit→Act→World→Prop}{E:Prop}{v:Value}(hg:o.guard=none)(hx:(execOp a.eval o).run P w = .ok (.value v) w')(hK:K (a.put o.dst v) w'):
  if Region.wanted o (yielded jA a.tmps)=true then Oper.wp P o a w K Q else E:=by
 have hw:Region.wanted o (yielded jA a.tmps)=true:=by simp[Region.wanted,hg]
 rw[qH hw];unfold Oper.wp;rw[hx];exact hK
theorem y2l{P:Program}{a:Act}{w w':World}{o:Oper}{T:TypeId}{m i:Operand}{mv iv v:Value}(jx:o.op = .lookup T m i false)(hm:a.eval m=mv)(hi:a.eval i=iv)(hr:(Instr.lookup T mv iv false).run P w = .ok v w'):(execOp a.eval o).run P w = .ok (.value v) w':=by
 simp only[execOp,jx,hm,hi,qy,hr,qt,qD]
theorem step_skip{P:Program}{jA:Array Oper}{o:Oper}{a:Act}{w w':World}{K:Act→World→Prop}{Q:Exit→Act→World→Prop}{E:Prop}(hg:o.guard=none)(hx:(execOp a.eval o).run P w = .ok .skip w')(hK:K a w')(hd:o.dst=none):
  if Region.wanted o (yielded jA a.tmps)=true then Oper.wp P o a w K Q else E:=by
 have hw:Region.wanted o (yielded jA a.tmps)=true:=by simp[Region.wanted,hg]
 rw[qH hw];unfold Oper.wp;rw[hx];unfold Oper.upon;first|exact hK|(rw[hd];exact hK)
theorem y1c{P:Program}{a:Act}{w w':World}{o:Oper}{T:TypeId}{m i x:Operand}{mv iv v:Value}(jx:o.op = .mapUpdate T m i x)(hm:a.eval m=mv)(hi:a.eval i=iv)(hx:a.eval x=v)(hr:(Instr.mapUpdate T mv iv v).run P w = .ok () w'):(execOp a.eval o).run P w = .ok .skip w':=by
 simp only[execOp,jx,hm,hi,hx,qy,hr,qt,qD]
theorem y5w(tmps:Array Value)(w:World):(Go.results Tryz.f172 tmps).run Tryz.prog w = .ok (.tuple #[]) w:=by
 have Vf:Tryz.f172.results=#[]:=by kernel_rfl
 simp only[Go.results,Vf,qy,xa,xE,qD,qt,xX];rfl
theorem Nb:Tryz.prog.underlying 231=some (.slice 184):=by kernel_rfl
def fZ(B k0 gm:Nat)(wY:Int)(rv:Value)(n:Nat)(cells:List Value)(yv lv mv:Value)(wk:Int):Nat→Value→World→Prop
 |0,v,_=>v = .map (some gm)
 |1,v,_=>v = .int .i64 wY
 |2,v,_=>v = .map (some gm)
 |3,v,_=>v = .int .i64 wY
 |4,v,_=>v=rv
 |5,v,_=>v = .agg #[yv,lv,mv,.int .i64 wk]
 |6,v,W=>∃g,v = .slice (some ⟨g,0,none⟩) 1 1∧W.heap[g]?=some (.cells #[yv,lv,mv,.int .i64 wk] 184 (0,0))
 |7,v,W=>W.ownsRow B 184 4 v (n+1) (cells++[yv,lv,mv,.int .i64 wk])∧(v.ownBlock=rv.ownBlock∨∃b,v.ownBlock=some b∧k0≤b)
 |_,_,_=>True
theorem yg9{B k0 gm:Nat}{wY:Int}{rv:Value}{n:Nat}{cells:List Value}{yv lv mv:Value}{wk:Int}(j:Nat)(u:Value)(w w':World)(hb:Below w.heap.size w w')(h:fZ B k0 gm wY rv n cells yv lv mv wk j u w):fZ B k0 gm wY rv n cells yv lv mv wk j u w':=by
 have ju:∀x:Value,x.ownBlock=none∨x.ownBlock≠none:=fun x=>by cases x.ownBlock<;>simp
 match j,h with
 |0,h=>exact h
 |1,h=>exact h
 |2,h=>exact h
 |3,h=>exact h
 |4,h=>exact h
 |5,h=>exact h
 |6,⟨g,h1,h2⟩=>exact⟨g,h1,(hb.block g (qd.1 h2).1).trans h2⟩
 |7,⟨h1,h2⟩=>exact⟨h1.kept (vA hb) (ju u),h2⟩
 |_+8,_=>trivial
def La:Nat→Option Nat
 |4=>some 7
 |6=>some 7
 |_=>none
theorem ydt{w:World}{M:Mem}{bq gm b8 gd:Nat}{ps Bl:jY}{done:List js}{l:List (Int×Value)}{M':Mem}{W:World}(h:PSt w M bq gm b8 gd ps done l M' W){n:wC}{yv lv mv:Value}(hy:jz Tryz.prog YP M' n.1 yv)(hl:jz Tryz.prog Zc M' n.2.1 lv)(KP:jz Tryz.prog V4 M' n.2.2.1 mv)(QZ:XW ps n=some Bl):
  Calls Tryz.prog 172 #[.agg #[yv,lv,mv,.int .i64 n.2.2.2],.pointer (some ⟨bq,0,none⟩),.pointer (some ⟨b8,0,none⟩)] W fun e W'=>e = .returned (.tuple #[])∧∃l' M2,PSt w M bq gm b8 gd Bl done l' M2 W'∧Mem.le M' M2∧z36 W W':=by
 unfold XW at QZ;obtain⟨t,ht,QZ⟩:=qi.1 QZ;obtain⟨bl,Fm,QZ⟩:=qi.1 QZ;cases hc:(decide (0≤t.2.2.2)&&decide (t.2.2.2≤4294967296)&&decide (ps.length≤100000000)&&decide (bl.length≤1000000))with
 |false=>rw[hc]at QZ;cases QZ
 |true=>
 rw[hc,qv,qb]at QZ;subst QZ;simp only[qg,qI]at hc;obtain⟨⟨⟨b1,b2⟩,b3⟩,b4⟩:=hc;obtain⟨w1,v6⟩:∃w1,W.alloc (.cells #[yv,lv,mv,.int .i64 n.2.2.2] 184)=w1:=⟨_,rfl⟩
 have aK:Below W.heap.size W w1:=by rw[←v6];exact(qN _ W).alloc (ql _) _
 have z1:w1.heap.size=W.heap.size+1:=by rw[←v6,qQ]
 have h1:=h.kept (Zu h.good aK) ⟨aK,fun _ _=>rfl⟩ (Mem.le_refl _);have CA:=qz W (.cells #[yv,lv,mv,.int .i64 n.2.2.2] 184);rw[v6]at CA;have j0:w1.cell? ⟨W.heap.size,0,none⟩=some yv:=va CA rfl;have j1:w1.cell? ⟨W.heap.size,1,none⟩=some lv:=va CA rfl;have j2:w1.cell? ⟨W.heap.size,2,none⟩=some mv:=va CA rfl;have j3:w1.cell? ⟨W.heap.size,3,none⟩=some (.int .i64 n.2.2.2):=va CA rfl;have Ve:=zjl.2 n t ht M' w1 [.agg #[yv,lv,mv,.int .i64 n.2.2.2]] h1.good ⟨_,rfl,mF hy hl KP⟩;have AN:∀(M2:Mem) (u:Value) (W2:World),jz Tryz.prog Zk M2 t u→Good M2 W2→vm M' w1 M2 W2→∃ya yc la lc ma mc W3,u = .agg #[.slice ya t.1.length yc,.slice la t.2.1.length lc,.slice ma t.2.2.1.length mc,.int .i64 t.2.2.2]∧
   W2.cell? ⟨W.heap.size,0,none⟩=some yv∧W2.cell? ⟨W.heap.size,1,none⟩=some lv∧W2.cell? ⟨W.heap.size,2,none⟩=some mv∧W2.cell? ⟨W.heap.size,3,none⟩=some (.int .i64 n.2.2.2)∧(∀o,W2.frozen? ⟨W.heap.size,o,none⟩=false)∧
   ((((W2.setCell ⟨W.heap.size,0,none⟩ (.slice ya t.1.length yc)).setCell ⟨W.heap.size,1,none⟩ (.slice la t.2.1.length lc)).setCell ⟨W.heap.size,2,none⟩ (.slice ma t.2.2.1.length mc)).setCell ⟨W.heap.size,3,none⟩ (.int .i64 t.2.2.2))=W3∧
   PSt w M bq gm b8 gd ps done l M2 W3∧W3.heap[W.heap.size]?=some (.cells #[.slice ya t.1.length yc,.slice la t.2.1.length lc,.slice ma t.2.2.1.length mc,.int .i64 t.2.2.2] 184 (0,0))∧
   jz Tryz.prog YP M2 t.1 (.slice ya t.1.length yc)∧jz Tryz.prog Zc M2 t.2.1 (.slice la t.2.1.length lc)∧jz Tryz.prog V4 M2 t.2.2.1 (.slice ma t.2.2.1.length mc)∧Mem.le M' M2∧Below W.heap.size W W3:=fun M2 u W2 hu wE j7=>by
  obtain⟨y2,l2,m2,rfl,u1,u2,u3⟩:=gP hu;obtain⟨ya,yc,rfl⟩:=Ka u1;obtain⟨la,lc,rfl⟩:=Ka u2;obtain⟨ma,mc,rfl⟩:=Ka u3;have hlt:W.heap.size<w1.heap.size:=by omega
  have c3:=(j7.below.block _ hlt).trans CA;have YI:Mem.le M' M2:=(QN (G:=[]) h1.good j7).le;have h2:=h1.kept wE j7 YI;have n3:∀o,M2 W.heap.size o=none:=fun o=>by rw[j7.mem _ hlt];exact W9 h.good (ql _) o
  obtain⟨s1,s2⟩:=E3 (v0 :=.slice ya t.1.length yc) (v1 :=.slice la t.2.1.length lc) (v2 :=.slice ma t.2.2.1.length mc) (v3 :=.int .i64 t.2.2.2) c3;obtain⟨a1,_,e1⟩:=X9 (off:=0) (v :=.slice ya t.1.length yc) wE n3 c3;obtain⟨a2,_,e2⟩:=X9 (off:=1) (v :=.slice la t.2.1.length lc) a1 n3 e1;obtain⟨a3,_,e3⟩:=X9 (off:=2) (v :=.slice ma t.2.2.1.length mc) a2 n3 e2;obtain⟨a4,_,e4⟩:=X9 (off:=3) (v :=.int .i64 t.2.2.2) a3 n3 e3;refine⟨ya,yc,la,lc,ma,mc,_,rfl,va c3 rfl,va c3 rfl,va c3 rfl,va c3 rfl,fun _=>Vs c3,rfl,?_,s1,u1,u2,u3,YI,(aK.trans ⟨j7.below.os,j7.below.tape,j7.below.output,by have:=j7.below.size;omega,fun j hj=>j7.below.block j (by omega)⟩).grown s2 (by have:=j7.below.size;omega) (fun k hk=>by cases hk;exact ql _)⟩;obtain⟨es,cl,d1,d2⟩:=h2.cd;have aa:=h.qs;have Y8:=h.below.size;have nq:bq≠W.heap.size:=by have:=(qd.1 h.cq).1;omega
  have n8:b8≠W.heap.size:=by have:=(qd.1 h.c8).1;omega
  have nd:gd≠W.heap.size:=by obtain⟨_,_,q,_⟩:=h.cd;have:=(qd.1 q).1;omega
  have blk:∀b o,b≠W.heap.size→W2.heap[b]?=some o→_:=fun b (o:Obj) hb ho=>(s2.block b (qd.1 ho).1 (by simpa using hb)).trans ho
  have Dv:QAt w.heap.size gm ps M2 W2 l:=aa.kept (aK.trans ⟨j7.below.os,j7.below.tape,j7.below.output,j7.below.size,fun j hj=>j7.below.block j (by omega)⟩) YI fun b hb=>j7.mem b (by omega)
  exact⟨h2.g0,a4,h2.le,h2.mem,h2.below.grown s2 h2.below.size fun k hk=>by cases hk;exact Y8,blk _ _ nq h2.cq,blk _ _ n8 h2.c8,⟨es,cl,blk _ _ nd d1,d2⟩,Dv.other c3 (.inr fun k e=>by
   obtain⟨cells,r1,_⟩:=aa.row k;have:=(r1.lt _ e).2;omega) s2,h2.m8,h2.n8,h2.nm,h2.ne⟩
 clear hy hl KP QZ;go_enter Tryz.func172,Tryz.ntmps172
 go_wp2_with (go_at_call 173;refine Ve.mono ?_;clear Ve;rintro e W2 ⟨M2,u,rfl,hu,wE,j7⟩;obtain⟨ya,yc,la,lc,ma,mc,W3,rfl,k0,k1,k2,k3,kf,hW3,h3,c3,u1,u2,u3,YI,Mq⟩:=AN M2 u W2 hu wE j7;clear AN hu wE)
 clear k0 k1 k2 k3 kf j0 j1 j2 j3 j7;have Yi:=za7.2 (t.1,t.2.1) bl Fm;have aN:∀W4:World,Below W3.heap.size W3 W4→W4.cell? ⟨W.heap.size,0,none⟩=some (.slice ya t.1.length yc)∧W4.cell? ⟨W.heap.size,1,none⟩=some (.slice la t.2.1.length lc)∧W4.cell? ⟨W.heap.size,3,none⟩=some (.int .i64 t.2.2.2):=fun W4 hB=>by
  have:=(hB.block _ (qd.1 c3).1).trans c3;exact⟨va this rfl,va this rfl,va this rfl⟩
 obtain⟨f0,f1,f3⟩:=aN W3 (qN _ _);have Ms:PSt w M bq gm b8 gd ps done l M2 W3.drew:=h3.kept (Zu h3.good ⟨rfl,rfl,rfl,ql _,fun _ _=>rfl⟩) ⟨⟨rfl,rfl,rfl,ql _,fun _ _=>rfl⟩,fun _ _=>rfl⟩ (Mem.le_refl _);have QA:Calls Tryz.prog 104 #[.slice ya t.1.length yc,.slice la t.2.1.length lc] W3.drew fun e W4=>∃ba bc M4,e = .returned (.slice ba bl.length bc)∧PSt w M bq gm b8 gd ps done l M4 W4∧Mem.le M2 M4∧Below W3.heap.size W3 W4∧W4.cell? ⟨W.heap.size,0,none⟩=some (.slice ya t.1.length yc)∧W4.cell? ⟨W.heap.size,1,none⟩=some (.slice la t.2.1.length lc)∧W4.cell? ⟨W.heap.size,3,none⟩=some (.int .i64 t.2.2.2):=by
  refine(Yi M2 W3.drew [_,_] Ms.good ⟨_,[_],rfl,u1,_,rfl,u2⟩).mono fun e W4 =>?_
  rintro⟨M4,v,rfl,hv,WP,Xr⟩;obtain⟨ba,bc,rfl⟩:=Ka (e :=.str) hv;have DT:Below W3.heap.size W3 W4:=⟨Xr.below.os,Xr.below.tape,Xr.below.output,Xr.below.size,fun j hj=>Xr.below.block j hj⟩
  have jL:=(QN (G:=[]) Ms.good Xr).le;exact⟨ba,bc,M4,rfl,Ms.kept WP Xr jL,jL,DT,aN W4 DT⟩
 clear Yi;have hwr:(0:Int)≤t.2.2.2+(bl.length:Int)∧t.2.2.2+(bl.length:Int)≤4295967296:=by omega
 generalize SR:t.2.2.2+(bl.length:Int)=wY at hwr;go_region_with (go_at_call 104;refine QA.mono ?_;clear QA;rintro e W4 ⟨ba,bc,M4,rfl,h4,Ks,DT,g0,g1,g3⟩)
 all_goals
  go_wp2
  have A4:IntKind.i64.wrap wY=wY:=by rw[IntWalk.i64_left];exact jf _ (by omega)
  have hq:=h4.qs;obtain⟨es,cl,q1,q2⟩:=hq.map;obtain⟨cells,r1,r2⟩:=hq.row wY;have hrb:∀b,(vJ l wY).ownBlock=some b→b<W.heap.size:=fun b hb=>by
   obtain⟨_,o1,_⟩:=h.qs.row wY;exact(o1.lt b hb).2
  have lW:W.heap.size<W3.heap.size:=(qd.1 c3).1;have lW4:=DT.size;have qn:∀(k:Nat) (jT:Array Value) (E:TypeId),W4.heap[k]?=some (.cells jT E (0,0))→E≠184→some k≠(vJ l wY).ownBlock:=fun k jT E hk hE e=>by
   rcases bJ hk (yL hE) r1 with e2|e2
   ·rw[e2]at e;cases e
   ·exact e2 e.symm
  have qm:some gm≠(vJ l wY).ownBlock:=fun e=>by
   rcases r1.2 with⟨e0,_⟩|⟨g,cap,jT,e0,_,e1,_⟩
   ·rw[e0]at e;cases e
   ·rw[e0]at e;simp only[Value.ownBlock,qb]at e;rw[←e,q1]at e1;cases e1
  have q3:some W.heap.size≠(vJ l wY).ownBlock:=fun e=>by have:=hrb _ e.symm;omega
  have c34:W4.heap[W.heap.size]?=some (.cells #[.slice ya t.1.length yc,.slice la t.2.1.length lc,.slice ma t.2.2.1.length mc,.int .i64 t.2.2.2] 184 (0,0)):=(DT.block _ lW).trans c3;have Jf:∀Wx:World,W4.drew.grownBy Wx (vJ l wY).ownBlock→Wx.heap[bq]?=some (.cells #[.map (some gm)] 229 (0,0))∧Wx.heap[gm]?=some (.map es cl)∧Wx.heap[W.heap.size]?=some (.cells #[.slice ya t.1.length yc,.slice la t.2.1.length lc,.slice ma t.2.2.1.length mc,.int .i64 t.2.2.2] 184 (0,0)):=fun Wx hx=>
   ⟨(hx.block _ (qd.1 h4.cq).1 (qn _ _ _ h4.cq (by decide))).trans h4.cq,(hx.block _ (qd.1 q1).1 qm).trans q1,(hx.block _ (qd.1 c34).1 q3).trans c34⟩
  obtain⟨i0,d0,Qh⟩:=Qx PP;obtain⟨z,hz,Z4,_⟩:=Qh.zero (by rfl);have HD:=Qh.bytes;have Ko:z.cells.size=4:=by have:=Qp Zk M4 _ _ (Z4 M4);simpa [Ty.size]using this
  have jH:(QX ps wY).length≤100000000:=by
   unfold QX;rw[zg];exact ze (kx _ _) b3
  refine y5f (by kernel_rfl) (c:=8) (by kernel_rfl) (by kernel_rfl) rfl rfl (by kernel_rfl) (fZ w.heap.size W4.heap.size gm wY (vJ l wY) (QX ps wY).length cells (.slice ya t.1.length yc) (.slice la t.2.1.length lc) (.slice ma t.2.2.1.length mc) t.2.2.2) La (fun Wx=>W4.drew.grownBy Wx (vJ l wY).ownBlock) (fun Wx=>Wx.ownsRow w.heap.size 184 4 (vJ l wY) (QX ps wY).length cells) 7 ⟨rfl,rfl,rfl,ql _,fun _ _ _=>rfl⟩ r1 (fun W1 W2 hb h=>World.ownsRow.kept h (vA hb) (by cases(vJ l wY).ownBlock<;>simp)) (bh (by kernel_rfl)) (fun W1 W2 hb h=>h.trans ⟨hb.os,hb.tape,hb.output,hb.size,fun k hk _=>hb.block k hk⟩) (fun j u W1 W2=>yg9 j u W1 W2) ?step ?fin;case step=>
   intro k o hk ho a Wx hJ hs hd WQ hS rQ;obtain⟨⟨ll⟩,df⟩:=a;simp only at hd;subst hd;obtain⟨x0,x1,x2,x3,x4,x5,x6,x7,x8,x9,QO,Q7,Zv,ZM,Yq,YC,Yp,Yo,Yn,Ym,YB,YA,Yz,Z2,YS,YR,YQ,rfl⟩:=ydy ll hs;have e1:x1 = .pointer (some ⟨bq,0,none⟩):=WQ 1 (by decide);have e3:x3 = .pointer (some ⟨W.heap.size,0,none⟩):=WQ 3 (by decide);have e4:x4 = .int .i64 (IntKind.i64.wrap wY):=WQ 4 (by decide);rw[A4]at e4;subst e1 e3 e4;obtain⟨d1,d2,d3⟩:=Jf Wx hJ;have p0:Wx.cell? ⟨bq,0,none⟩=some (.map (some gm)):=va d1 rfl;have p1:Wx.cell? ⟨W.heap.size,0,none⟩=some (.slice ya t.1.length yc):=va d3 rfl;have p2:Wx.cell? ⟨W.heap.size,1,none⟩=some (.slice la t.2.1.length lc):=va d3 rfl;have p3:Wx.cell? ⟨W.heap.size,2,none⟩=some (.slice ma t.2.2.1.length mc):=va d3 rfl;have p4:Wx.cell? ⟨W.heap.size,3,none⟩=some (.int .i64 t.2.2.2):=va d3 rfl;match k,hk,ho with
   |0,_,ho=>cases ho;refine yq rfl fun K' hK =>?_;go_simp;exact hK _ _ ⟨_,rfl,fun _=>rfl,.inl (qN _ _)⟩
   |1,_,ho=>cases ho;refine yq rfl fun K' hK =>?_;go_simp;exact hK _ _ ⟨_,rfl,fun _=>rfl,.inl (qN _ _)⟩
   |2,_,ho=>cases ho;refine yq rfl fun K' hK =>?_;go_simp;exact hK _ _ ⟨_,rfl,fun _=>rfl,.inl (qN _ _)⟩
   |3,_,ho=>cases ho;refine yq rfl fun K' hK =>?_;go_simp;exact hK _ _ ⟨_,rfl,fun _=>rfl,.inl (qN _ _)⟩
   |4,_,ho=>
    cases ho;have e:Yn=_:=hS 2 _ 18 rfl rfl rfl (.inl rfl);subst e;have e:Ym=_:=hS 3 _ 19 rfl rfl rfl (.inl rfl);subst e;exact yq rfl fun K' hK=>y7z rfl (v:=vJ l wY) (w':=Wx) (y2l rfl rfl rfl (U7 d2 q2 wY)) (hK _ _ ⟨_,rfl,fun _=>rfl,.inl (qN _ _)⟩)
   |5,_,ho=>cases ho;refine yq rfl fun K' hK =>?_;go_simp;exact hK _ _ ⟨_,rfl,fun _=>rfl,.inl (qN _ _)⟩
   |6,_,ho=>
    cases ho;have e:YA=_:=hS 5 _ 21 rfl rfl rfl (.inl rfl);subst e;refine yq rfl fun K' hK =>?_
    go_simp;exact hK _ _ ⟨_,rfl,fun _=>⟨Wx.heap.size,rfl,qz Wx _⟩,.inl ((qN _ _).alloc (ql _) _)⟩
   |7,_,ho=>
    cases ho;have e:YB=_:=hS 4 _ 20 rfl rfl rfl (.inr rfl);subst e;have hT:=rQ (.inl rfl);obtain⟨g,e,Fj⟩:∃g,Yz = .slice (some ⟨g,0,none⟩) 1 1∧Wx.heap[g]?=some (.cells #[.slice ya t.1.length yc,.slice la t.2.1.length lc,.slice ma t.2.2.1.length mc,.int .i64 t.2.2.2] 184 (0,0)):=hS 6 _ 22 rfl rfl rfl (.inr rfl)
    subst e;obtain⟨v',Wy,jF,o1,o2,o3,o4⟩:=je (P:=Tryz.prog) Wx w.heap.size 231 231 184 i0 z 4 i0.bytes Nb Qh.info hz Qh.size rfl Ko (by decide) (vJ l wY) (QX ps wY).length cells hT ⟨g,0,none⟩ 1 1 [.slice ya t.1.length yc,.slice la t.2.1.length lc,.slice ma t.2.2.1.length mc,.int .i64 t.2.2.2] rfl (fun j u hj=>by
     rw[Addr.add_mk,qY];match j,hj with
     |0,hj=>exact(va Fj rfl).trans hj
     |1,hj=>exact(va Fj rfl).trans hj
     |2,hj=>exact(va Fj rfl).trans hj
     |3,hj=>exact(va Fj rfl).trans hj
     |_+4,hj=>simp at hj) (by intro u hu;simp only[qF,yb,ka]at hu;rcases hu with rfl|rfl|rfl|rfl<;>rfl) (by unfold maxLen;omega) (by
     have:=xG (show(QX ps wY).length+1≤100000001 by omega) HD;omega) (by have a1:=h4.below.size;have a2:W4.heap.size≤Wx.heap.size:=hJ.size;omega)
    refine yq rfl fun K' hK=>ut rfl (.tmp 20) (.tmp 22) 231 rfl (vJ l wY) (.slice (some ⟨g,0,none⟩) 1 1) v' rfl rfl jF (hK _ _ ⟨v',rfl,fun _=>⟨o1,?_⟩,.inr ⟨hJ.trans o2,fun h=>absurd rfl h,fun j oj u hj Ox et hj3 hs =>?_⟩⟩)
    ·exact o4.imp id fun e=>⟨_,e,hJ.size⟩
    ·match j,Ox,et,hs with
     |0,_,_,hs=>exact hs
     |1,_,_,hs=>exact hs
     |2,_,_,hs=>exact hs
     |3,_,_,hs=>exact hs
     |4,_,h2,_=>exact absurd rfl h2
     |5,_,_,hs=>exact hs
     |6,_,h2,_=>exact absurd rfl h2
     |7,h1,_,_=>exact absurd rfl h1
     |_+8,_,_,_=>trivial
   |_+8,hk,_=>omega
  case fin=>
   intro a Wx hJ hs hd WQ hS;obtain⟨⟨ll⟩,df⟩:=a;simp only at hd;subst hd;obtain⟨x0,x1,x2,x3,x4,x5,x6,x7,x8,x9,QO,Q7,Zv,ZM,Yq,YC,Yp,Yo,Yn,Ym,YB,YA,Yz,Z2,YS,YR,YQ,rfl⟩:=ydy ll hs;have e2:x2 = .pointer (some ⟨b8,0,none⟩):=WQ 2 (by decide);have e4:x4 = .int .i64 (IntKind.i64.wrap wY):=WQ 4 (by decide);rw[A4]at e4;have MK:Yp = .map (some gm):=hS 0 _ 16 (by decide) rfl rfl rfl;have Tl:Yo = .int .i64 wY:=hS 1 _ 17 (by decide) rfl rfl rfl;subst e2 e4 MK Tl;obtain⟨hv,ZT⟩:Wx.ownsRow w.heap.size 184 4 Z2 ((QX ps wY).length+1) (cells++[Value.slice ya t.1.length yc,Value.slice la t.2.1.length lc,Value.slice ma t.2.2.1.length mc,Value.int .i64 t.2.2.2])∧(Z2.ownBlock=(vJ l wY).ownBlock∨∃b,Z2.ownBlock=some b∧W4.heap.size≤b):=hS 7 _ 23 (by decide) rfl rfl rfl;obtain⟨d1,d2,d3⟩:=Jf Wx hJ;obtain⟨Zx,Kz,jF,Xq⟩:=ybk d2 q2 wY Z2;obtain⟨Wz,DO⟩:∃Wz,({Wx with heap:=Wx.heap.setIfInBounds gm (.map Zx Kz)}:World)=Wz:=⟨_,rfl⟩
   rw[DO]at jF;have Q2:=h4.push r2 hJ hv ZT ⟨ZZ Ks u1,ZZ Ks u2,ZZ Ks u3,rfl⟩ Xq DO.symm;obtain⟨Tm,hP⟩:=Q2;rw[zqj]at hP;have y0:Wz.cell? ⟨b8,0,none⟩=some (.int .i64 (Xx ps)):=va Tm rfl;have yf:Wz.frozen? ⟨b8,0,none⟩=false:=Vs Tm;refine yq rfl fun K' hK=>step_skip rfl (y1c rfl rfl rfl rfl jF) (hK _ _ ?_) rfl
   clear hK K';have lB:z36 W (Wz.setCell ⟨b8,0,none⟩ (.int .i64 (max (Xx ps) wY))):=⟨fun k o hk ho=>by
    have Eu:=(qd.1 hk).1;have Dz:W4.heap[k]?=some o:=(DT.block k (by omega)).trans ((Mq.block k Eu).trans hk);have hkx:Wx.heap[k]?=some o:=by
     refine(hJ.block k (qd.1 Dz).1 fun e =>?_).trans Dz;rcases r1.2 with⟨e0,_⟩|⟨g,cap,jT,e0,_,e1,_⟩
     ·rw[e0]at e;cases e
     ·rw[e0]at e;simp only[Value.ownBlock,qb]at e;subst e;rw[Dz]at e1;cases e1;cases ho
    have Ou:Wz.heap[k]?=some o:=by
     rw[←DO];refine((MapKept.heap_set (w:=Wx) d2).2 k fun e =>?_).trans hkx;subst e;rw[hkx]at d2;cases d2;cases ho
    refine(bQ.block k (qd.1 Ou).1 fun e =>?_).trans Ou;have e:=zQ e;subst e;rw[Ou]at Tm;cases Tm;cases ho⟩
   clear DO;go_wp2
   exact bodyPost_end (y5w _ _) rfl ⟨rfl,_,M4,hP,Mem.le_trans YI Ks,lB⟩
end Go.Lift
