/-
  Single operations, second part.
-/
import Derived.Test.YtggnjngdmadbaaaGreatDoorLiftC
import Derived.Laws.Slices
import Derived.Laws.BytesString
import Derived.Lib.ConvBytes
set_option linter.all false
namespace Go.Lift
open Go Go.RowKit
variable [wB] [Mf]
variable {P:Program} {Γ:QW} {base:Nat} {κ:Nat→Option Nat} {M:Mem} {σ:St} {a:Act} {w:World}
theorem KT(off:Nat):∀(ds:List Value) (k:Nat) (cells:Array Value),off+k+ds.length≤cells.size→
  ((ds.zipIdx k).foldl (fun cs (x:Value×Nat)=>cs.setIfInBounds (off+x.2) x.1) cells).toList=vg cells.toList (off+k) ds
 |[],k,cells,_=>by simp[vg]
 | d::ds,k,cells,h=>by
  simp only[qk]at h;rw[List.zipIdx_cons,List.foldl_cons,KT off ds (k+1) _ (by simp only[kM];omega)];apply yZ;intro i;rw[getElem?_splice _ _ _ _ (by simp;omega),getElem?_splice _ _ _ _ (by simp;omega)];simp only[Array.toList_setIfInBounds,qk,kZ];by_cases h1:off+(k+1)≤i∧i<off+(k+1)+ds.length
  ·rw[qH h1,qH (by omega),show i-(off+k)=(i-(off+(k+1)))+1 by omega,z8]
  ·rw[qT h1];by_cases h2:off+k=i
   ·subst h2;rw[qH rfl,qH (show off+k<cells.toList.length by simp only[zN];omega),qH (by omega),yV,zr]
   ·rw[qT h2,qT (by omega)]
theorem Uh{Db:Nat→Option (Nat×Nat)}{cells:Array Value}{i off size:Nat}{v:Value}{rest:List (Nat×Value)}(hp:Db i=some (off,size))(hv:v.cells.size=size)(hl:off+size≤cells.size):
  Instr.fill Db cells ((i,v)::rest)=Instr.fill Db (vg cells.toList off v.cells.toList).toArray rest:=by
 rw[Instr.fill,hp];simp only[hv];rw[qT (by simp;omega)];congr 1
 have:=KT off v.cells.toList 0 cells (by simp;omega);simp only[yK]at this;apply yR;rw[←this,←Array.foldl_toList,Array.toList_zipIdx]
theorem ybj{α β:Type}(f:α→Sem β)(g:α→β)(w:World):∀(l:List α),(∀x∈l,(f x).run P w = .ok (g x) w)→(l.toArray.mapM f).run P w = .ok (l.map g).toArray w:=by
 intro l h;have hl:∀(l:List α),(∀x∈l,(f x).run P w = .ok (g x) w)→(l.mapM f).run P w = .ok (l.map g) w:=by
  intro l;induction l with
  |nil=>intro _;rfl
  |cons x l ih=>
   intro h;simp only[xm,qy,h x (by simp),qt,ih (fun y hy=>h y (qo _ hy)),qD,zl]
 simp only[xa,xX,hl l h,qt]
theorem T0{t:Ty}{T:TypeId}{i:TypeInfo}{d:TypeDesc}(hi:F8 P t T i d){z:Value}(hz:i.zero=some z)(w:World):(zeroValue T).run P w = .ok z w:=by
 simp only[zeroValue,typeInfo,program,qy,Sem.run,qt,hi.info,hz,qD]
section jA
variable (hR:jW P base κ M σ a w) (hC:Qw P Γ)
include hR
theorem y54{n:Nat}{fs:Array Field}{t:Ty}{T:TypeId}(wF:fits P t (.inl T)=true)(hu:P.underlying T=some (.struct fs))(hn:n=fs.size)(size:Field→Nat)
  (vQ:∀i f u,fs[i]?=some f→t.atP (z12 n i)=some u→size f=u.size):
  ∀(ps:List (Nat×Operand)) (x x':t.den) (o o':Own) (cells:Array Value),(∀p∈ps,p.1<n)→D9 n σ ps t x o=some (x',o')→jB P t M x cells.toList→z93 κ M w σ.tok t cells.toList o→
   ∃ve,Instr.fill ((fs.map fun f=>(f.offset,size f))[·]?) cells (ps.map fun p=>(p.1,a.eval p.2))=some ve∧jB P t M x' ve.toList∧z93 κ M w σ.tok t ve.toList o'
 |[],x,x',o,o',cells,_,h,hr,ho=>by
  simp only[D9,qb,qX]at h;obtain⟨rfl,rfl⟩:=h;exact⟨cells,rfl,hr,ho⟩
 | (i,y)::rest,x,x',o,o',cells,hlt,h,hr,ho=>by
  simp only[D9]at h;split at h
  ·rename_i u u' v ow Cs hy;split at h
   ·rename_i v' ZC;split at h
    ·rename_i x1 hx1;obtain⟨rfl,rfl⟩:=HQ ZC;have Hz:=XK hR hy;have wy:i<fs.size:=by have:=hlt (i,y) (by simp);omega
     subst hn;obtain⟨u2,g1,g2,g3⟩:=tI wF hu (qZ wy);rw[Cs]at g1;simp only[qb]at g1;subst g1;have hs:=vQ i _ _ (qZ wy) Cs;have WR:=Qp _ M _ _ (HP Hz.1);have Q3:(a.eval y).cells.size=u'.size:=by simpa using WR
     have ZT:=Fv _ t _ Cs g2;have ZR:=Qp t M x _ hr;simp only[zN]at ZR;have FP:=Aq _ t x x1 _ _ _ _ hx1 g2 hr (HP Hz.1);have Wm:=ho.put Hz.2 g2 Cs WR (by simp only[zN];omega);obtain⟨ve,e1,e2,e3⟩:=y54 wF hu rfl size vQ rest x1 x' _ o' (vg cells.toList fs[i].offset (a.eval y).cells.toList).toArray (fun p hp=>hlt p (qo _ hp)) h (by simpa using FP) (by simpa using Wm);refine⟨ve,?_,e2,e3⟩;rw[zl,Uh (off:=fs[i].offset) (size:=u'.size) (by simp[wy,hs]) Q3 (by omega)];exact e1
    ·cases h
   ·cases h
  ·cases h
theorem IG{n:Nat}{e:Ty}:∀(ps:List (Nat×Operand)) (x x':Nat→e.den) (cells:Array Value),(∀p∈ps,p.1<n)→Cg e σ ps x=some x'→jB P (.arr n e) M x cells.toList→
   ∃ve,Instr.fill (fun i=>some (i*e.size,e.size)) cells (ps.map fun p=>(p.1,a.eval p.2))=some ve∧jB P (.arr n e) M x' ve.toList
 |[],x,x',cells,_,h,hr=>by
  simp only[Cg,qb]at h;subst h;exact⟨cells,rfl,hr⟩
 | (i,y)::rest,x,x',cells,hlt,h,hr=>by
  simp only[Cg]at h;split at h
  ·rename_i v hv;have Hz:=GH hR hv;have wy:i<n:=hlt (i,y) (by simp);have WR:=Qp _ M _ _ (HP Hz);have Q3:(a.eval y).cells.size=e.size:=by simpa using WR
   have ZR:=Qp (.arr n e) M x _ hr;simp only[zN,Ty.size]at ZR;have jL:(i+1)*e.size≤n*e.size:=q9 _ wy;simp only[zC,zZ]at jL;have FP:=Aq (M:=M) (u:=e) [.idx (i:Int)] (.arr n e) x (ZY x (i:Int) v) v (i*e.size) _ _ (by simp[QH,Z8]) (by simp[jN];omega) hr (HP Hz);obtain⟨ve,e1,e2⟩:=IG rest _ x' (vg cells.toList (i*e.size) (a.eval y).cells.toList).toArray (fun p hp=>hlt p (qo _ hp)) h (by simpa using FP);refine⟨ve,?_,e2⟩;rw[zl,Uh (off:=i*e.size) (size:=e.size) rfl Q3 (by omega)];exact e1
  ·cases h
include hC
theorem yc6{o:Oper}{T:TypeId}{ps:Array (Nat×Operand)}(jx:o.op = .build T ps):ZL P κ M w σ a o (jK Γ o σ):=by
 simp only[jK,jx];split
 ·rename_i n e ht;split
  ·rename_i hc;simp only[qg,qW,qI]at hc;split
   ·rename_i x hx;have wF:=hC.ty T _ ht;obtain⟨i,d,hi⟩:=Qx wF;obtain⟨E,hE,ZG⟩:=Aj wF;obtain⟨iE,dE,Q5⟩:=Qx ZG;obtain⟨z,hz,Z4,_⟩:=hi.zero hc.1;obtain⟨ve,e1,e2⟩:=IG hR ps.toList (fun _=>e.dflt) x z.cells (fun p hp=>hc.2 p hp) hx (Z4 M);refine⟨.agg ve,?_,HN ?_⟩
    ·simp only[execOp,jx,Instr.build,qy,T0 hi hz,qt,qG hE,Kj Q5,xv,e1,qD]
    ·unfold jz Qd;simp only[Ty.agg,yp];exact⟨ve,rfl,e2⟩
   ·exact vh
  ·exact vh
 ·rename_i u ju ht;split
  ·rename_i hc;simp only[qg,qW,qI]at hc;obtain⟨⟨Yt,Vj⟩,CA⟩:=hc;split
   ·rename_i x o' hx;have wF:=hC.ty T _ ht;obtain⟨i,d,hi⟩:=Qx wF;have Zd:u = .unit∨(∃v,u = .one v)∨∃p q,u = .pair p q:=by
     cases u<;>first|(exact .inl rfl)|(exact .inr (.inl ⟨_,rfl⟩))|(exact .inr (.inr ⟨_,_,rfl⟩))|(exact absurd rfl (ju _ _))|(cases Vj)
    obtain⟨fs,Yh⟩:=AC wF Zd;have hn:=hC.nf T _ fs ht Yh;obtain⟨z,hz,Z4,G3⟩:=hi.zero Yt;have VN:∀f∈fs.toList,∃k,(sizeOf f.type).run P w = .ok k w∧∀j v,fs[j]?=some f→u.atP (z12 (Γ.nf T) j)=some v→k=v.size:=by
     intro f hf;obtain⟨j,hj,he⟩:=kH hf;simp only[zN]at hj;simp only[Array.getElem_toList]at he;obtain⟨v,_,_,g3⟩:=tI wF Yh (show fs[j]?=some f by rw[qZ hj,he]);obtain⟨iv,dv,DC⟩:=Qx g3;refine⟨v.size,Kj DC w,fun j' v' Y9 ZC =>?_⟩;obtain⟨v2,k1,_,k3⟩:=tI wF Yh Y9;rw[hn,k1]at ZC;simp only[qb]at ZC;subst ZC;obtain⟨iv',dv',pR⟩:=Qx k3;have h1:=DC.size;have h2:=pR.size;have h3:=DC.info;rw[pR.info]at h3;simp only[qb]at h3;subst h3;omega
    let size:Field→Nat:=fun f=>match(sizeOf f.type).run P w with
     |.ok k _=>k
     |_=>0
    have vQ:∀f∈fs.toList,(sizeOf f.type).run P w = .ok (size f) w∧∀j v,fs[j]?=some f→u.atP (z12 (Γ.nf T) j)=some v→size f=v.size:=by
     intro f hf;obtain⟨k,h1,h2⟩:=VN f hf;have:size f=k:=by simp only[size,h1]
     rw[this];exact⟨h1,h2⟩
    have Yf:=ybj (P:=P) (fun f:Field=>(do pure (f.offset,←sizeOf f.type):Sem (Nat×Nat))) (fun f=>(f.offset,size f)) w fs.toList (fun f hf=>by
     simp only[qy,(vQ f hf).1,qt,qD])
    simp only[yl]at Yf;obtain⟨ve,e1,e2,e3⟩:=y54 hR wF Yh hn size (fun j f v hj hv=>(vQ f (by
      have:=(qd.1 hj);obtain⟨h1,h2⟩:=this;rw[←h2];simp)).2 j v hj hv) ps.toList u.dflt x (Ec u) o' z.cells (fun p hp=>CA p hp) hx (Z4 M) (G3 κ M w σ.tok)
    refine⟨.agg ve,?_,?_⟩
    ·simp only[execOp,jx,Instr.build,qy,T0 hi hz,qt,qG Yh,Yf,xv];rw[show(fun x=>(List.map (fun f=>(f.offset,size f)) fs.toList).toArray[x]?)=((fs.map fun f=>(f.offset,size f))[·]?) from ?_,e1]
     ·rfl
     ·funext j;simp
    ·refine⟨?_,e3⟩;unfold jz Qd;rw[qH Vj];exact⟨ve,rfl,e2⟩
   ·exact vh
  ·exact vh
 ·exact vh
end jA
end Go.Lift
namespace Go.Lift
open Go Go.RowKit
variable [wB] [Mf]
variable {P:Program} {Γ:QW} {base:Nat} {κ:Nat→Option Nat} {M:Mem} {σ:St} {a:Act} {w:World}
theorem zzx(z:Array Value)(n j:Nat)(hj:j<n):(madeCells z n).toList[j]?=some z[j%z.size]! := by
 simp[madeCells,hj]
theorem zz3{e:Ty}{x:e.den}{z:Array Value}(h:jB P e M x z.toList)(n:Nat):KG P e M (List.replicate n x) (madeCells z (n*e.size)).toList:=by
 have hz:z.size=e.size:=by have:=Qp e M x _ h;simpa using this
 refine⟨by simp[size_madeCells],fun i hi =>?_⟩;have Xq:i<n:=by simpa using hi
 have jL:(i+1)*e.size≤n*e.size:=q9 _ Xq;simp only[zC,zZ]at jL;have:((madeCells z (n*e.size)).toList.drop (i*e.size)).take e.size=z.toList:=by
  apply yZ;intro j;rw[zb];by_cases hj:j<e.size
  ·rw[qH hj,zd,zzx _ _ _ (by omega),hz,Nat.mul_comm i,Nat.mul_add_mod,Nat.mod_eq_of_lt hj];rw[getElem!_pos z j (by omega)];simp[hz,hj]
  ·rw[qT hj,zD (by simp[hz];omega)]
 rw[this];simpa using h
section jA
variable (hR:jW P base κ M σ a w) (hC:Qw P Γ)
include hR
theorem zow{e:Ty}:∀(ps:List (Nat×Operand)) (i:Nat) (l:List e.den) (cells:Array Value),GP e σ i ps=some l→cells.size=(i+l.length)*e.size→
   ∃ve,Instr.fill (fun i=>some (i*e.size,e.size)) cells (ps.map fun p=>(p.1,a.eval p.2))=some ve∧ve.size=cells.size∧ve.toList.take (i*e.size)=cells.toList.take (i*e.size)∧KG P e M l (ve.toList.drop (i*e.size))
 |[],i,l,cells,h,hs=>by
  simp only[GP,qb]at h;subst h;refine⟨cells,rfl,rfl,rfl,?_,fun j hj=>absurd hj (zW _)⟩;simp only[qR,yK]at hs;simp[hs]
 | (j, y)::rest,i,l,cells,h,hs=>by
  simp only[GP]at h;split at h
  ·rename_i X3;subst X3;split at h
   ·rename_i v l' hv Ff;simp only[qb]at h;subst h;have Hz:=ycs hR hv;have WR:=Qp _ M _ _ (HP Hz);have Q3:(a.eval y).cells.size=e.size:=by simpa using WR
    simp only[qk]at hs;have jL:(i+1)*e.size≤(i+(l'.length+1))*e.size:=q9 _ (by omega);simp only[zC,zZ]at jL hs;have ls:(vg cells.toList (i*e.size) (a.eval y).cells.toList).length=cells.toList.length:=vP (by simp only[zN];omega);obtain⟨ve,e1,e2,e3,e4⟩:=zow rest (i+1) l' (vg cells.toList (i*e.size) (a.eval y).cells.toList).toArray Ff (by
     simp only[qJ,ls,zN,zC,zZ];omega)
    have e2':ve.size=cells.size:=by rw[e2];simpa using ls
    have eE:ve.toList.take ((i+1)*e.size)=(vg cells.toList (i*e.size) (a.eval y).cells.toList).take ((i+1)*e.size):=e3;have ZT:∀q,q<(i+1)*e.size→ve.toList[q]?=(vg cells.toList (i*e.size) (a.eval y).cells.toList)[q]?:=by
     intro q hq;have:=congrArg (·[q]?) eE;simp only[zb,qH hq]at this;exact this
    have pt:(i+1)*e.size=i*e.size+e.size:=by rw[zC,zZ]
    refine⟨ve,?_,e2',?_,?_,?_⟩
    ·rw[zl,Uh (off:=i*e.size) (size:=e.size) rfl Q3 (by omega)];exact e1
    ·apply yZ;intro q;rw[zb,zb];split
     ·rename_i hq;rw[ZT q (by omega),getElem?_splice _ _ _ _ (by simp only[zN];omega),qT (by omega)]
     ·rfl
    ·have:=e4.1;simp only[zT,zN,qk,pt,zC,zZ]at this⊢;omega
    ·intro q hq;cases q with
     |zero=>
      simp only[kj,Nat.zero_mul,yz];have:(ve.toList.drop (i*e.size)).take e.size=(a.eval y).cells.toList:=by
       apply yZ;intro q;rw[zb];by_cases hq:q<e.size
       ·rw[qH hq,zd,ZT _ (by omega),getElem?_splice _ _ _ _ (by simp only[zN];omega),qH (by simp only[zN];omega)];congr 1;omega
       ·rw[qT hq,zD (by simp only[zN];omega)]
      rw[this];exact HP Hz
     |succ q=>
      have:=e4.2 q (by simpa using hq);simp only[List.getElem_cons_succ];rw[xk]at this⊢;rwa [show i*e.size+(q+1)*e.size=(i+1)*e.size+q*e.size by rw[pt,zC,zZ];omega]
   ·cases h
  ·cases h
include hC
theorem zx8{o:Oper}{T:TypeId}{n:Nat}{ps:Array (Nat×Operand)}(jx:o.op = .buildSlice T n ps):ZL P κ M w σ a o (jK Γ o σ):=by
 simp only[jK,jx];split
 ·rename_i e ht;split
  ·rename_i hc;simp only[qg,qI]at hc;split
   ·rename_i l hl;split
    ·rename_i hn;subst hn;suffices key:∃cells E,(execOp a.eval o).run P w = .ok (.value (.slice (some ⟨w.heap.size,0,none⟩) l.length l.length)) (w.alloc (.cells cells E))∧KG P e M l cells.toList∧l.length≤maxLen by
      cases o.guard.isNone&&o.dst.any Γ.own with
      |true=>exact fun _=>key
      |false=>exact fun _=>key
     have wF:=hC.ty T _ ht;obtain⟨E,hE,ZG⟩:=Fy wF;obtain⟨iE,dE,Q5⟩:=Qx ZG;obtain⟨z,hz,Z4,_⟩:=Q5.zero hc.1.1;let z0:Array Value:=if l.length*e.size=0 then #[]else z.cells
     obtain⟨ve,e1,e2,e3,e4⟩:=zow hR ps.toList 0 l (madeCells z0 (l.length*e.size)) hl (by rw[size_madeCells];simp);refine⟨ve,E,?_,by simpa using e4,?_⟩
     ·by_cases h0:l.length*e.size=0
      ·simp only[z0,h0,yp]at e1;simp only[execOp,jx,Instr.buildSlice,qy,qG hE,qt,Kj Q5,h0,xv];rw[qT (by omega)];simp only[qD,qt,yp,qy];have:(Array.map (fun x=>(#[]:Array Value)[x%(#[]:Array Value).size]!) (Array.range 0))=madeCells #[] 0:=rfl;rw[this,e1];rfl
      ·simp only[z0,h0,zp]at e1;simp only[execOp,jx,Instr.buildSlice,qy,qG hE,qt,Kj Q5,xv];rw[qT (by omega)];simp only[h0,zp,qD,qt,qy,T0 Q5 hz];have:(Array.map (fun x=>z.cells[x%z.cells.size]!) (Array.range (l.length*e.size)))=madeCells z.cells (l.length*e.size):=rfl;rw[this,e1];rfl
     ·have hs:=hc.2;have XD:=hc.1.2;unfold maxLen;omega
    ·exact vh
   ·exact vh
  ·exact vh
 ·exact vh
omit hR in
theorem ydo{T:TypeId}{e:Ty}(ht:Γ.ty T=some (.slice e))(hp:e.plain=true){j j':Int}(hc:(decide (0≤j)&&decide (j≤4294967296)&&(j==j'))=true)(w:World):
  ∃cells E,(Instr.makeSlice T (.int .i64 j) (.int .i64 j')).run P w = .ok (.slice (some ⟨w.heap.size,0,none⟩) j.toNat j.toNat) (w.alloc (.cells cells E))∧KG P e M (List.replicate j.toNat e.dflt) cells.toList∧j.toNat≤maxLen:=by
 simp only[qg,qI,yo]at hc;obtain⟨⟨Yt,Vj⟩,CA⟩:=hc;subst CA;have wF:=hC.ty T _ ht;obtain⟨E,hE,ZG⟩:=Fy wF;obtain⟨iE,dE,Q5⟩:=Qx ZG;obtain⟨z,hz,Z4,_⟩:=Q5.zero hp;have hb:=Q5.bytes;have hr:=run_make (P:=P) w T E iE z hE Q5.info hz .i64 .i64 j j Yt (jp _) (by
  have:(iE.bytes:Int)*j≤32768*4294967296:=Int.mul_le_mul (by omega) Vj Yt (by omega);omega) (by omega)
 refine⟨madeCells z.cells (j.toNat*iE.size),E,hr,?_,?_⟩
 ·rw[Q5.size];exact zz3 (Z4 M) _
 ·unfold maxLen;omega
theorem zzk{o:Oper}{T:TypeId}{n c:Operand}(jx:o.op = .makeSlice T n c):ZL P κ M w σ a o (jK Γ o σ):=by
 simp only[jK,jx];split
 ·rename_i e j j' d ht hj Y9 hd;have h1:=YX.1 (GH hR hj);have h2:=YX.1 (GH hR Y9);split
  ·exact vh
  ·rename_i hp;have hp:e.plain=true:=by simpa using hp
   split;all_goals
    intro hc;obtain⟨cells,E,g1,g2,g3⟩:=ydo (M:=M) hC ht hp hc w;refine⟨cells,E,?_,g2,by simpa using g3⟩;simp only[execOp,jx,h1,h2,qy,g1,qt,qD,List.length_replicate]
 ·exact vh
omit hC in
theorem y29{o:Oper}{g:FuncId}{fs caps:Array Operand}(jx:o.op = .makeFunc (.func g) fs caps):ZL P κ M w σ a o (jK Γ o σ):=by
 simp only[jK,jx];split
 ·rename_i Yh;have Yh:=xt Yh;subst Yh;split
  ·rename_i l hl;refine⟨.func (.func g) #[] (caps.map a.eval),by simp[execOp,jx,Instr.makeFunc],_,rfl,?_⟩;rw[xv];generalize caps.toList=cs at hl;induction cs generalizing l with
   |nil=>simp only[D5,qb]at hl;subst hl;rfl
   |cons x r ih=>
    simp only[D5]at hl;split at hl
    ·rename_i b l' hx hr;simp only[qb]at hl;subst hl;refine⟨_,_,rfl,?_,ih l' hr⟩;obtain⟨B,g,off,h1,h2,h3,h4⟩:=XK hR hx;have FO:B.rows=false:=by
      cases hb:B.rows with
      |false=>rfl
      |true=>rw[hb]at h3;cases WT:B.t<;>simp[vo,WT]at h3
     refine⟨B,g,h1,FO,h2,?_⟩;rw[FO]at h3;have:jN B.t []=some off:=by cases WT:B.t<;>simp_all [vo]
     simp only[jN,qb]at this;subst this;exact h4
    ·rename_i t y ow l' hx hr;simp only[qb]at hl;subst hl;exact⟨_,_,rfl,(XK hR hx).1,ih l' hr⟩
    ·cases hl
  ·exact vh
 ·exact vh
omit hR hC in
theorem ybo{e:Ty}{l:List e.den}{b off:Nat}{cells:List Value}(jH:cells.length=l.length*e.size)(hm:M.has b off cells)(Xb:∀i (h:i<l.length),jB P e M l[i] ((cells.drop (i*e.size)).take e.size))
  {p q:Nat} (hpq:p≤q) (hq:q≤l.length):
  ((cells.drop (p*e.size)).take ((q-p)*e.size)).length=((l.take q).drop p).length*e.size∧M.has b (off+p*e.size) ((cells.drop (p*e.size)).take ((q-p)*e.size))∧
   ∀i (h:i<((l.take q).drop p).length),jB P e M ((l.take q).drop p)[i] ((((cells.drop (p*e.size)).take ((q-p)*e.size)).drop (i*e.size)).take e.size):=by
 have hl:((l.take q).drop p).length=q-p:=by simp;omega
 have hqs:q*e.size≤l.length*e.size:=q9 _ hq;have Zr:p*e.size≤q*e.size:=q9 _ hpq;have Ju:(q-p)*e.size=q*e.size-p*e.size:=Nat.sub_mul q p e.size;refine⟨?_,fun j u hj =>?_,fun i hi =>?_⟩
 ·rw[hl,zE,zT];omega
 ·rw[zb]at hj;split at hj
  ·rw[zd]at hj;have:=hm _ _ hj;rwa [←xA]at this
  ·cases hj
 ·rw[hl]at hi;have jL:(i+1)*e.size≤(q-p)*e.size:=q9 _ hi;simp only[zC,zZ]at jL;have:=Xb (p+i) (by omega);have e1:((l.take q).drop p)[i]'(by rw[hl];exact hi)=l[p+i]'(by omega):=by
   rw[List.getElem_drop,List.getElem_take]
  rw[e1];rw[ke,xQ,xk,show min e.size ((q-p)*e.size-i*e.size)=e.size by omega,←zC];exact this
omit hR hC in
theorem yfr{T E:TypeId}(h:P.underlying T=some (.slice E)):P.elem T=E:=by simp[Program.elem,h]
omit hR hC in
theorem tW(Bu:Bool)(len cap:Nat)(low ez:Option Value)(p q:Int)(hl:(low=none∧p=0)∨low=some (.int .i64 p))(hh:(ez=none∧q=(len:Int))∨ez=some (.int .i64 q))(h0:0≤p)(h1:p≤q)(h2:q≤(len:Int))(h3:len≤cap)(w:World):
  (Instr.sliceBounds Bu len cap low ez none).run P w = .ok (p.toNat,q.toNat,cap) w:=by
 have eq:(q.toNat:Int)=q:=Int.toNat_of_nonneg (by omega);rcases hl with⟨rfl,rfl⟩|rfl<;>rcases hh with⟨rfl,rfl⟩|rfl
 ·simp[Instr.sliceBounds]
 ·simp only[Instr.sliceBounds,qy,qD,qt];rw[run_sliceBound w .i64 q cap _ (by omega) (by omega)];rfl
 ·simp only[Instr.sliceBounds,qy,qD,qt];rw[run_sliceBound w .i64 p len _ h0 (by omega)];rfl
 ·simp only[Instr.sliceBounds,qy,qD,qt];rw[run_sliceBound w .i64 q cap _ (by omega) (by omega)];simp only[qt];rw[run_sliceBound w .i64 p q.toNat _ h0 (by omega)];rfl
omit hC in
theorem yd2{lo:Option Operand}{p:Int}(h:(match(generalizing:=false) lo with|none=>some (0:Int)|some a=>AVal.get (σ.opd a) (.int .i64))=some p):(lo.map a.eval=none∧p=0)∨lo.map a.eval=some (.int .i64 p):=by
 cases lo with
 |none=>simp only[qb]at h;exact .inl ⟨rfl,h.symm⟩
 |some x=>right;rw[zK,YX.1 (GH hR h)]
omit hC in
theorem y5a{hi:Option Operand}{n:Nat}{q:Int}(h:(match(generalizing:=false) hi with|none=>some (n:Int)|some a=>AVal.get (σ.opd a) (.int .i64))=some q):(hi.map a.eval=none∧q=(n:Int))∨hi.map a.eval=some (.int .i64 q):=by
 cases hi with
 |none=>simp only[qb]at h;exact .inl ⟨rfl,h.symm⟩
 |some x=>right;rw[zK,YX.1 (GH hR h)]
omit hR hC in
theorem yds{p q:Int}{n:Nat}(h:(decide (0≤p)&&decide (p≤q)&&decide (q≤(n:Int)))=true):0≤p∧p≤q∧q≤(n:Int)∧p.toNat≤q.toNat∧q.toNat≤n:=by
 simp only[qg,qI]at h;omega
theorem ok_slice{o:Oper}{T:TypeId}{x:Operand}{lo hi:Option Operand}(jx:o.op = .slice T x lo hi none):ZL P κ M w σ a o (jK Γ o σ):=by
 simp only[jK,jx];split
 ·exact vh
 ·rename_i p hp;have lz:=yd2 hR hp;split
  ·rename_i e' e l own ht hx;split
   ·exact vh
   ·rename_i q hq;have au:=y5a hR hq;split
    ·rename_i he;subst he;intro hc;obtain⟨c1,c2,c3,c4,c5⟩:=yds hc;obtain⟨E,hE,ZG⟩:=Fy (hC.ty T _ ht);obtain⟨iE,dE,Q5⟩:=Qx ZG;have wn:=Z9 hR hx;unfold jz Qd at wn;simp only[Ty.agg,qA,zp,jB]at wn;obtain⟨v,hv,wn⟩:=wn;simp only[qM,zA]at hv;have Xb:=yfr hE;have aJ:P.underlying T=some (.slice (P.elem T)):=by rw[Xb];exact hE
     rcases wn with⟨hb,hl⟩|⟨b,off,cap,cells,hb,ZS,jH,hm,vq⟩|⟨ad,cap,hb,hl⟩
     ·subst hl;have Zs:=tW (P:=P) true 0 0 (lo.map a.eval) (hi.map a.eval) p q lz au c1 c2 c3 (ql _) w;have pd:p.toNat=0:=by simp only[qR]at c5;omega
      have aa:q.toNat=0:=by simp only[qR]at c5;omega
      refine⟨.slice none 0 0,?_,HN ?_⟩
      ·simp only[execOp,jx,qy,run_sliceAt_slice w T _ _ _ _ aJ,hv,hb,xU,run_slice_any w T none 0 0 aJ,Zs,qt,Xb,Kj Q5,qD,sliced,pd,aa,yp,yV]
      ·unfold jz Qd;simp only[Ty.agg,qA,zp,jB];exact⟨_,rfl,.inl ⟨rfl,by simp⟩⟩
     ·have Zs:=tW (P:=P) true l.length cap (lo.map a.eval) (hi.map a.eval) p q lz au c1 c2 c3 ZS w;obtain⟨r1,r2,r3⟩:=ybo jH hm vq c4 c5;have pB:((l.take q.toNat).drop p.toNat).length=q.toNat-p.toNat:=by simp;omega
      refine⟨sliced (some ⟨b,off,none⟩) p.toNat q.toNat cap e'.size,?_,HN ?_⟩
      ·simp only[execOp,jx,qy,run_sliceAt_slice w T _ _ _ _ aJ,hv,hb,xU,run_slice_any w T _ _ _ aJ,Zs,qt,Xb,Kj Q5,qD]
      ·unfold jz Qd;simp only[Ty.agg,qA,zp,jB];refine⟨_,rfl,.inr (.inl ?_)⟩;unfold sliced;by_cases Gk:cap=p.toNat
       ·have hz:q.toNat-p.toNat=0:=by omega
        have JB:(l.take q.toNat).drop p.toNat=[]:=zn (by omega);rw[qH Gk];refine⟨b,off,cap-p.toNat,[],by rw[pB],by rw[pB];omega,by rw[JB];simp,fun j u hj=>by simp at hj,fun i hi=>by rw[JB]at hi;exact absurd hi (zW _)⟩
       ·rw[qT Gk,zK,Addr.add_mk];exact⟨b,_,cap-p.toNat,_,by rw[pB],by rw[pB];omega,r1,r2,r3⟩
     ·subst hl;have Zs:=tW (P:=P) true 0 cap (lo.map a.eval) (hi.map a.eval) p q lz au c1 c2 c3 (zz _) w;have pd:p.toNat=0:=by simp only[qR]at c5;omega
      have aa:q.toNat=0:=by simp only[qR]at c5;omega
      refine⟨sliced (some ad) p.toNat q.toNat cap e'.size,?_,HN ?_⟩
      ·simp only[execOp,jx,qy,run_sliceAt_slice w T _ _ _ _ aJ,hv,hb,xU,run_slice_any w T _ _ _ aJ,Zs,qt,Xb,Kj Q5,qD]
      ·unfold jz Qd;simp only[Ty.agg,qA,zp,jB];refine⟨_,rfl,.inr (.inr ?_)⟩;unfold sliced;rw[pd,aa];split
       ·exact⟨_,_,rfl,by simp⟩
       ·rw[zK];exact⟨_,_,rfl,by simp⟩
    ·exact vh
  ·rename_i s own ht hx;split
   ·exact vh
   ·rename_i q hq;have au:=y5a hR hq;intro hc;obtain⟨c1,c2,c3,c4,c5⟩:=yds hc;have hu:=Ak (hC.ty T _ ht);have hs:=Xj.1 (Z9 hR hx);have Zs:=tW (P:=P) false s.size s.size (lo.map a.eval) (hi.map a.eval) p q lz au c1 c2 c3 (ql _) w;refine⟨.string (s.extract p.toNat q.toNat),?_,mr⟩;simp only[execOp,jx,qy,run_sliceAt_string w T _ _ _ _ hu,hs,xU,Instr.slice,qG hu,qt,Zs,qD,xu,qA,zp]
  ·rename_i n' e' n e v own ht hx;split
   ·split
    ·rename_i he;obtain⟨rfl,rfl⟩:=he;obtain⟨E,hE,ZG⟩:=Aj (hC.ty T _ ht);obtain⟨iE,dE,Q5⟩:=Qx ZG;have wn:=Z9 hR hx;unfold jz Qd at wn;simp only[Ty.agg,qA,zp,jB]at wn;obtain⟨b,off,cells,hu,vq,hm⟩:=wn;simp only[qM,zA]at hu;have Xb:P.elem T=E:=by simp[Program.elem,hE]
     have Yu:P.arrayLen T=n':=by simp[Program.arrayLen,hE]
     have aJ:P.underlying T=some (.array (P.arrayLen T) (P.elem T)):=by rw[Xb,Yu];exact hE
     refine⟨.slice (some ⟨b,off,none⟩) n' n',?_,HN ?_⟩
     ·simp only[execOp,jx,qy,hu,xU,run_sliceAt_array_all w T _ aJ,Xb,Yu,Kj Q5,qt,qD,slicedAt,yO,Nat.zero_mul,Addr.add_mk,yK,ite_self]
     ·unfold jz Qd;simp only[Ty.agg,qA,zp,jB];refine⟨_,rfl,.inr (.inl ⟨b,off,n',cells,by simp,by simp,by simpa using vq.1,hm,fun i hi =>?_⟩)⟩;simp only[kA,List.getElem_range];exact vq.2 i (by simpa using hi)
    ·exact vh
   ·exact vh
  ·exact vh
omit hR hC in
theorem UZ:∀(l:List Int) (r:js),l.foldl (fun r n=>r.push (UInt8.ofNat n.toNat)) r=⟨r.data++(l.map fun n=>UInt8.ofNat n.toNat).toArray⟩
 |[],r=>by simp
 |n::l,r=>by
  simp only[List.foldl_cons,zl];rw[UZ l];simp[ByteArray.push]
omit hR hC in
theorem y3g{l:List Int}{cells:List Value}(jH:cells.length=l.length)(Xb:∀i (h:i<l.length),jB P (.int .u8) M l[i] ((cells.drop i).take 1)):cells=l.map (Value.int .u8):=by
 apply yZ;intro i;by_cases hi:i<l.length
 ·have:=Xb i hi;rw[jB]at this;have hg:=congrArg (·[0]?) this;simp only[zb,zd,yK]at hg;rw[yG,qr hi];simpa using hg
 ·rw[zD (by omega),zD (by simp;omega)]
theorem y6c{o:Oper}{S T:TypeId}{x:Operand}(jx:o.op = .convert S T x):ZL P κ M w σ a o (jK Γ o σ):=by
 simp only[jK,jx];have Kr:∀{t},(if(Γ.ty S).isSome=true then Γ.ty T else none)=some t→(∃s,Γ.ty S=some s∧∃u,P.underlying S=some u)∧Γ.ty T=some t:=by
  intro t h;split at h
  ·rename_i hs;obtain⟨s,hs⟩:=Option.isSome_iff_exists.1 hs;obtain⟨i,d,hi⟩:=Qx (hC.ty S s hs);exact⟨⟨s,hs,d,hi.und⟩,h⟩
  ·cases h
 split
 ·rename_i k j n own ht hx;obtain⟨⟨s,hs,u,hu⟩,ht⟩:=Kr ht;have hT:=fits_int (hC.ty T _ ht);have hv:=YX.1 (Z9 hR hx);refine⟨.int k (k.wrap n),?_,Fx⟩;simp only[execOp,jx,qy,convert,qG hu,qG hT,hv,qt,Conv.intToInt,qD]
 ·rename_i s own ht hx;obtain⟨⟨_,hs,u,hu⟩,ht⟩:=Kr ht;obtain⟨E,hE,ZG⟩:=Fy (hC.ty T _ ht);have se:=fits_int ZG;have hv:=Xj.1 (Z9 hR hx);have jF:=Lib.run_convert_string_bytes (P:=P) w S T E s hu hE se;have hge:=grownCap_ge w s.size 0 E;refine⟨.slice (some ⟨w.heap.size,0,none⟩) s.size (grownCap w s.size 0 E),Lib.bytesWorld w E s,by simp only[execOp,jx,qy,hv,jF,qt,qD],?_,?_⟩
  ·exact⟨rfl,rfl,rfl,by
    show w.heap.size≤((w.heap.push _).modify _ _).size;rw[Array.size_modify,Array.size_push];omega,fun k hk=>Lib.bytesWorld_at_old w E s k hk⟩
  ·have jH:(Zj s).length=s.size:=by simp only[Zj,zg,zN];rfl
   refine⟨fun b o=>if b=w.heap.size then((Zj s).map (Value.int .u8))[o]? else M b o,⟨wB.keep (fun b o v hv=>by
    by_cases hb:b=w.heap.size
    ·subst hb;exact absurd (zc w _ (hR.good.2 _ _ _ hv)) (xi _)
    ·simp only[qT hb];exact hv) (fun j c t fr h=>⟨c,fr,by rw[Lib.bytesWorld_at_old w E s j (qd.1 h).1];exact h,rfl⟩) hR.good.1,fun b o v hv =>?_⟩,fun b hb =>?_,?_⟩
   ·by_cases hb:b=w.heap.size
    ·subst hb;simp only[yp]at hv;have hlt:=(qp.1 hv).1;simp only[zg,jH]at hlt;simp only[World.cell?,Lib.bytesWorld_at_new,xu,qA,zp];rw[←hv];unfold Lib.bytesCells;have pA:o<s.data.size:=hlt;rw[Array.getElem?_append_left (by simpa using pA)];simp[Zj];rfl
    ·simp only[qT hb]at hv;have hc:=hR.good.2 b o v hv;have hlt:=zc w _ hc;rw[za (w:=w) (Lib.bytesWorld_at_old w E s b hlt)];exact hc
   ·funext o;exact qT (by omega)
   ·unfold jz Qd;simp only[Ty.agg,qA,zp,jB];refine⟨_,rfl,.inr (.inl ⟨w.heap.size,0,_,(Zj s).map (Value.int .u8),by rw[jH],by rw[jH];exact hge,by simp[Ty.size],fun j u hj =>?_,fun i hi =>?_⟩)⟩
    ·simp only[yp,qY];exact hj
    ·simp only[Ty.size,xe];rw[xr (by simpa using hi)];simp
 ·rename_i l own ht hx;obtain⟨⟨_,hs,u,hu⟩,ht⟩:=Kr ht;split
  ·rename_i hS;obtain⟨E,hE,ZG⟩:=Fy (hC.ty S _ hS);have se:=fits_int ZG;have hT:=Ak (hC.ty T _ ht);have wn:=Z9 hR hx;unfold jz Qd at wn;simp only[Ty.agg,qA,zp,jB]at wn;obtain⟨v,hv,wn⟩:=wn;simp only[qM,zA]at hv;refine⟨.string (oz l),?_,mr⟩;rcases wn with⟨hb,hl⟩|⟨b,off,cap,cells,hb,ZS,jH,hm,vq⟩|⟨ad,cap,hb,hl⟩
   ·subst hl;simp only[execOp,jx,qy,convert,qG hE,qG hT,qG se,hv,hb,qt,Conv.bytesToString,qD];rfl
   ·have Kt:=y3g (P:=P) (M:=M) (by simpa [Ty.size]using jH) (fun i hi=>by rw[jB];simpa [Ty.size]using vq i hi);subst Kt;have an:=run_loadCells_list (P:=P) w ⟨b,off,none⟩ _ (fun j v hj=>by rw[Addr.add_mk];exact uh hR.good hm j v hj);simp only[zg]at an;have jF:=run_bytesToString (P:=P) w ⟨b,off,none⟩ l.length cap l an;simp only[execOp,jx,qy,convert,qG hE,qG hT,qG se,hv,hb,qt,jF,qD,UZ];have he0:ByteArray.empty.data=#[]:=rfl;rw[he0,Array.empty_append];rfl
   ·subst hl;have an:(loadCells ad 0).run P w = .ok #[] w:=rfl;have jF:=run_bytesToString (P:=P) w ad 0 cap [] an;simp only[execOp,jx,qy,convert,qG hE,qG hT,qG se,hv,hb,qt,jF,qD,UZ];rfl
  ·exact vh
 ·rename_i s own ht hx;obtain⟨⟨_,hs,u,hu⟩,ht⟩:=Kr ht;have hT:=Ak (hC.ty T _ ht);have hv:=Xj.1 (Z9 hR hx);refine⟨.string s,?_,mr⟩;simp only[execOp,jx,qy,convert,qG hu,qG hT,hv,qt,qD]
 ·exact vh
end jA
end Go.Lift
