/-
  Single operations, fourth part.
-/
import Derived.Test.YtggnjngdmadbaaaGreatDoorLiftE
set_option linter.all false
namespace Go.Lift
open Go Go.RowKit
variable [wB] [Mf]
variable {P:Program} {Γ:QW} {base:Nat} {κ:Nat→Option Nat} {M:Mem} {σ:St} {a:Act} {w:World}
theorem bD{x y:js}:jO x y=true↔x=y:=by
 unfold jO;rw[yo];constructor
 ·intro h;rw[kI,kI]at h;exact ByteArray.ext (Array.toList_inj.mp h)
 ·intro h;rw[h]
theorem T1{t:Ty}(h:t.scal=true){x:t.den}{u:Value}(hr:jz P t M x u):u=encS t x:=by
 cases t<;>first|(cases h)|skip
 ·exact YX.1 hr
 ·exact X8.1 hr
 ·exact Xj.1 hr
theorem ybi{t:Ty}(h:t.scal=true)(x:t.den):jz P t M x (encS t x):=by
 cases t<;>first|(cases h)|skip
 ·exact YX.2 rfl
 ·exact X8.2 rfl
 ·exact Xj.2 rfl
theorem y3v{t:Ty}(h:t.scal=true)(x y:t.den):t.eqb x y=true↔encS t x=encS t y:=by
 cases t<;>first|(cases h)|skip
 ·exact⟨fun e=>by have e:(x==y)=true:=e;rw[yo]at e;show Value.int _ x=Value.int _ y;rw[e],fun e=>by have e:Value.int _ x=Value.int _ y:=e;injection e with _ e;show(x==y)=true;rw[yo];exact e⟩
 ·exact⟨fun e=>by have e:(x==y)=true:=e;rw[yo]at e;show Value.bool x=Value.bool y;rw[e],fun e=>by have e:Value.bool x=Value.bool y:=e;injection e with e;show(x==y)=true;rw[yo];exact e⟩
 ·exact⟨fun e=>by have e:=bD.1 e;show Value.string x=Value.string y;rw[e],fun e=>by have e:Value.string x=Value.string y:=e;injection e with e;exact bD.2 e⟩
theorem Ap{t:Ty}(h:t.scal=true){T:TypeId}(hf:fits P t (.inl T)=true){d:TypeDesc}(hd:P.underlying T=some d)(x:t.den):MapKept.IsKey d (encS t x):=by
 unfold fits at hf;cases hi:P.info? T with
 |none=>rw[hi]at hf;cases hf
 |some i=>
  rw[hi,hd]at hf;simp only[qg]at hf;have h2:=hf.2;cases t<;>first|(cases h)|skip
  ·cases d<;>first|(cases h2)|skip
   have e:=xI h2;exact e
  ·cases d<;>first|(cases h2)|skip
   trivial
  ·cases d<;>first|(cases h2)|skip
   trivial
theorem bw{k v:Ty}(hk:k.scal=true){K:TypeId}(hf:fits P k (.inl K)=true){d:TypeDesc}(hd:P.underlying K=some d)(j:k.den):∀(es:List MapEntry) (l:List (k.den×v.den)) (i:Nat),es.map (fun e=>(e.key,e.val))=l.map (fun p=>(encS k p.1,encS v p.2))→
  (Instr.findNow d (encS k j) es i=some none∧(l.any fun p=>k.eqb j p.1)=false∧(l.find? fun p=>k.eqb j p.1)=none)∨
  ∃n pre p post,Instr.findNow d (encS k j) es i=some (some (i+n,encS v p.2))∧l=pre++p::post∧pre.length=n∧k.eqb j p.1=true∧(pre.any fun p=>k.eqb j p.1)=false∧(l.find? fun p=>k.eqb j p.1)=some p
 |[],[],_,_ =>.inl ⟨rfl,rfl,rfl⟩
 |[],_::_,_,h=>by cases h
 |_::_,[],_,h=>by cases h
 | e::es,p::l,i,h=>by
  simp only[zl,qM,qX]at h;obtain⟨⟨h1,h2⟩,h3⟩:=h;have hke:MapKept.IsKey d e.key:=by rw[h1];exact Ap hk hf hd p.1
  obtain⟨r,hr,Ge⟩:=MapKept.sameNow_of_keys (Ap hk hf hd j) hke;rw[h1,←y3v hk]at Ge;cases r with
  |true=>
   have hq:=Ge.1 rfl;refine .inr ⟨0,[],p,l,?_,rfl,rfl,hq,rfl,?_⟩
   ·simp[Instr.findNow,hr,h2]
   ·simp only[yU,hq]
  |false=>
   have hq:k.eqb j p.1=false:=by
    cases hb:k.eqb j p.1 with
    |false=>rfl
    |true=>exact absurd (Ge.2 hb) (by decide)
   rcases bw hk hf hd j es l (i+1) h3 with⟨g1,g2,g3⟩|⟨n,pre,p',post,g1,g2,g3,g4,g6,g5⟩
   ·refine .inl ⟨by simp[Instr.findNow,hr,g1],?_,?_⟩
    ·rw[yH,hq,g2];rfl
    ·simp only[yU,hq,g3]
   ·refine .inr ⟨n+1,p::pre,p',post,?_,by rw[g2];rfl,by simp[g3],g4,by rw[yH,hq,g6];rfl,?_⟩
    ·simp[Instr.findNow,hr,g1];omega
    ·simp only[yU,hq,g5]
theorem y7m{t:Ty}{z:Option Value}(h:nX t z=true):z=some (encS t t.dflt):=by
 unfold nX at h;split at h
 ·simp only[qg,qI,yo]at h;rw[h.1,h.2];rfl
 ·rename_i b;cases b with
  |true=>cases h
  |false=>rfl
 ·rename_i s;have:s=ByteArray.empty:=by
   obtain⟨d⟩:=s;have hd:d.size=0:=yo.1 h;have:=xt hd;subst this;rfl
  rw[this];rfl
 ·cases h
theorem Ux{t:Ty}{T:TypeId}{i:TypeInfo}(hi:P.info? T=some i)(hz:nX t i.zero=true):(zeroValue T).run P w = .ok (encS t t.dflt) w:=by
 simp only[zeroValue,typeInfo,program,qy,Sem.run,qt,hi,y7m hz,qD]
section
variable (hR:jW P base κ M σ a w) (hC:Qw P Γ)
include hR hC
theorem y6a{o:Oper}{T:TypeId}{r:Option Operand}(jx:o.op = .makeMap T r):ZL P κ M w σ a o (jK Γ o σ):=by
 cases r with
 |some r=>simp only[jK,jx];exact vh
 |none=>
  simp only[jK,jx];split
  ·rename_i k v ht;split
   ·rename_i hc;simp only[qg]at hc;refine .inr ⟨T,k,v,rfl,hC.mf.symm.trans hc.2,?_⟩;simp only[execOp,jx,Instr.makeMap,xU,qy,run_newObj_alloc,qt,qD]
   ·exact vh
  ·exact vh
theorem y97{o:Oper}{T:TypeId}{x i:Operand}{c:Bool}(jx:o.op = .lookup T x i c):ZL P κ M w σ a o (jK Γ o σ):=by
 cases c with
 |true=>simp only[jK,jx];exact vh
 |false=>
  simp only[jK,jx];split
  ·rename_i b hx;split
   ·rename_i t' k v l own hb;split
    ·rename_i KR;obtain⟨rfl,ht,hk,hv⟩:=KR;split
     ·rename_i j hj;obtain⟨wu,Y9⟩:=mz hj;have pP:=T1 hk (Z9 hR Y9);obtain⟨FF,k',v',l',oE,g,h1,h2,h3⟩:=XK hR hx;rw[hb]at h1;cases h1;obtain⟨g',es,cl,h4,h5,h6⟩:=PU (hR.bx b _ hb);rw[h2]at h4;simp only[qb]at h4;subst h4;obtain⟨K,V,hu,_,_,YJ,pZ,iv,DC,hz⟩:=bi (hC.ty T _ ht);obtain⟨ik,dk,Qa⟩:=Qx YJ;have Vi:=yS (w:=w) Qa.und (Ap hk YJ Qa.und j) es.isEmpty 9999;refine⟨encS v (wK k v l j),?_,ybi hv _,WJ⟩;rcases bw hk YJ Qa.und j es.toList l 0 h6 with⟨g1,_,g3⟩|⟨n,pre,p,post,g1,g2,g3,g4,_,g5⟩
      ·have vv:=zU (w:=w) Qa.und g1;have hm:wK k v l j=v.dflt:=by unfold wK;rw[g3]
       rw[hm];simp only[execOp,jx,h3,pP,Instr.lookup,qy,qG hu,qt,zH h5,qD,Vi,vv,Ux DC hz];rfl
      ·have vv:=zU (w:=w) Qa.und g1;have hm:wK k v l j=p.2:=by unfold wK;rw[g5]
       rw[hm];simp only[execOp,jx,h3,pP,Instr.lookup,qy,qG hu,qt,zH h5,qD,Vi,vv];rfl
     ·exact vh
    ·exact vh
   ·exact vh
  ·exact vh
omit hR hC in
theorem Uw{k:Ty}(h:k.scal=true)(x:k.den)(n:Nat):Instr.sameBits n (encS k x) (encS k x)=true:=by
 cases k<;>first|(cases h;done)|skip
 all_goals cases n<;>simp[encS,Instr.sameBits,MapKept.bytes_beq]
omit hR hC in
theorem UO{α:Type}{f:α→α}{e:α}:∀{A B:List α},(A++e::B).modify A.length f=A++f e::B
 |[],_=>rfl
 |a::A,B=>congrArg (a :: ·) UO
omit hR hC in
theorem tm{k v:Ty}{j:k.den}{y:v.den}:∀{l:List (k.den×v.den)},(l.any fun p=>k.eqb j p.1)=false→ZP k v l j y=l++[(j,y)]
 |[],_=>rfl
 |p::l,h=>by
  rw[yH,zX]at h;unfold ZP;rw[h.1,qu,tm h.2];rfl
omit hR hC in
theorem Li{k v:Ty}{j:k.den}{y:v.den}{p:k.den×v.den}{post:List (k.den×v.den)}(hp:k.eqb j p.1=true):∀{pre:List (k.den×v.den)},(pre.any fun p=>k.eqb j p.1)=false→ZP k v (pre++p::post) j y=pre++(p.1,y)::post
 |[],_=>by show ZP k v (p::post) j y=_;unfold ZP;rw[hp];rfl
 |q::pre,h=>by
  rw[yH,zX]at h;show ZP k v (q::(pre++p::post)) j y=_;unfold ZP;rw[h.1,qu,Li hp h.2];rfl
theorem zzj{o:Oper}{T:TypeId}{x i y:Operand}(jx:o.op = .mapUpdate T x i y):ZL P κ M w σ a o (jK Γ o σ):=by
 simp only[jK,jx];split
 ·rename_i b hx;split
  ·rename_i t' k v l own hb;split
   ·rename_i KR;obtain⟨rfl,ht,hk,hv,hm⟩:=KR;have Et:Mf.on=true:=hC.mf.symm.trans hm;split
    ·rename_i j z hj hz;obtain⟨wu,Y9⟩:=mz hj;obtain⟨ownz,Bw⟩:=mz hz;have pP:=T1 hk (Z9 hR Y9);have SG:=T1 hv (Z9 hR Bw);obtain⟨FF,k',v',l',oE,g,h1,h2,h3⟩:=XK hR hx;rw[hb]at h1;cases h1;obtain⟨g',es,cl,h4,h5,h6⟩:=PU (hR.bx b _ hb);rw[h2]at h4;simp only[qb]at h4;subst h4;obtain⟨K,V,hu,_,_,YJ,pZ,_⟩:=bi (hC.ty T _ ht);obtain⟨ik,dk,Qa⟩:=Qx YJ;have Vi:=yS (w:=w) Qa.und (Ap hk YJ Qa.und j) false 9999;rcases bw hk YJ Qa.und j es.toList l 0 h6 with⟨g1,g2,g3⟩|⟨n,pre,p,post,g1,g2,g3,g4,g6,g5⟩
     ·have vv:=zU (w:=w) Qa.und g1;refine .inr ⟨T,k,v,l,_,own,g,es,es.push {key:=encS k j,val:=encS v z,born:=cl},cl,cl+1,Et,hb,rfl,h2,h5,?_,?_⟩
      ·simp only[execOp,jx,h3,pP,SG,Instr.mapUpdate,qy,qG hu,qt,zH h5,Vi,vv,yW _ h5,qD];rfl
      ·rw[tm g2];unfold XB at h6⊢;rw[k7,zv,zv,h6];rfl
     ·have vv:=zU (w:=w) Qa.und g1;have BF:encS k p.1=encS k j:=((y3v hk j p.1).1 g4).symm;unfold XB at h6;rw[g2,zv,zl]at h6;obtain⟨A,B,si,hA,hB⟩:=List.map_eq_append_iff.1 h6;obtain⟨e,B',rfl,he,vB⟩:=List.map_eq_cons_iff.1 hB;have jH:A.length=n:=by
       have:=congrArg List.length hA;simp only[zg]at this;omega
      have Xa:es[n]?=some e:=by
       rw[←zh,si,zm (by omega),jH,yV];rfl
      simp only[qX]at he;refine .inr ⟨T,k,v,l,_,own,g,es,es.modify n fun e=>{e with key:=encS k j,val:=encS v z},cl,cl,Et,hb,rfl,h2,h5,?_,?_⟩
      ·rw[qY]at vv;simp only[execOp,jx,h3,pP,SG,Instr.mapUpdate,qy,qG hu,qt,zH h5,Vi,vv,Xa,zK,qO,he.1,BF,Instr.keyThatStays,Uw hk,yp,yW _ h5,qD];rfl
      ·rw[g2,Li g4 g6];unfold XB;rw[Array.toList_modify,si,←jH,UO,zv,zl,hA,vB,zv,zl,BF]
    ·exact vh
   ·exact vh
  ·exact vh
 ·exact vh
end
end Go.Lift
namespace Go.Lift
open Go Go.RowKit
variable [wB] [Mf]
variable {P:Program} {Γ:QW} {base:Nat} {κ:Nat→Option Nat} {M:Mem} {σ:St} {a:Act} {w:World}
theorem zm4{e:Ty}{l m:List e.den}{cs ds:List Value}(h:KG P e M l cs)(k:KG P e M m ds):KG P e M (l++m) (cs++ds):=by
 have hl:=h.1;have hk:=k.1;refine⟨by simp only[qe,hl,hk,zC],fun i hi =>?_⟩;simp only[qe]at hi;by_cases X2:i<l.length
 ·have jL:(i+1)*e.size≤l.length*e.size:=q9 _ X2;simp only[zC,zZ]at jL;rw[kd X2,xF (by omega),y9 (by rw[zT];omega)];exact h.2 i X2
 ·have hge:l.length*e.size≤i*e.size:=q9 _ (by omega);rw[xR (by omega),jg,xl (by omega),qP,hl,←Nat.sub_mul];exact k.2 (i-l.length) (by omega)
theorem Rk{e:Ty}{l:List e.den}{cs:List Value}{M':Mem}(hM:Mem.le M M')(h:KG P e M l cs):KG P e M' l cs:=
 ⟨h.1,fun i hi=>J8 e hM _ _ (h.2 i hi)⟩
theorem y1s{e:Ty}{l:List e.den}{cs:List Value}(h:KG P e M l cs):∀u∈cs,u.oneCell'=true:=
 Ao (.arr l.length e) (fun i=>l.getD i e.dflt) cs ⟨h.1,fun i hi=>by
  have:=h.2 i hi;simpa [qC,qr hi]using this⟩ (P:=P) (M:=M)
theorem US{e:Ty}{l:List e.den}{v:Value}(h:jz P (.slice e) M l v):
  (v = .slice none 0 0∧l=[])∨(∃b off cap cells,v = .slice (some ⟨b,off,none⟩) l.length cap∧l.length≤cap∧M.has b off cells∧KG P e M l cells)∨∃a cap,v = .slice (some a) 0 cap∧l=[]:=by
 unfold jz Qd at h;simp only[Ty.agg,qA,zp,jB]at h;obtain⟨u,hu,h⟩:=h;simp only[qM,zA]at hu;subst hu;rcases h with h|⟨b,off,cap,cells,h1,h2,h3,h4,h5⟩|h
 ·exact .inl h
 ·exact .inr (.inl ⟨b,off,cap,cells,h1,h2,h4,h3,h5⟩)
 ·exact .inr (.inr h)
theorem y1r{e:Ty}{l:List e.den}{v:Value}(h:jz P (.slice e) M l v):
  ((v = .slice none 0 0∨∃a cap,v = .slice (some a) 0 cap)∧l=[])∨∃b off cap cells,v = .slice (some ⟨b,off,none⟩) l.length cap∧l.length≤cap∧M.has b off cells∧KG P e M l cells:=by
 rcases US h with⟨h,hl⟩|h|⟨a,cap,h,hl⟩
 ·exact .inl ⟨.inl h,hl⟩
 ·exact .inr h
 ·exact .inl ⟨.inr ⟨a,cap,h⟩,hl⟩
theorem zuv{tk:Nat→Bool}{size:Nat}{s:Option Nat}{e:Ty}{l:List e.den}{v:Value}(h:jz P (.slice e) M l v)(ho:OwnV κ M w tk size s v):
  (v = .slice none 0 0∧l=[])∨∃b off cap cells,v = .slice (some ⟨b,off,none⟩) l.length cap∧l.length≤cap∧M.has b off cells∧KG P e M l cells:=by
 rcases US h with h|h|⟨ad,cap,hv,hl⟩
 ·exact .inl h
 ·exact .inr h
 ·subst hl;have key:∀g n V0,v = .slice (some ⟨g,0,none⟩) n V0→∃b off cap cells,v = .slice (some ⟨b,off,none⟩) ([]:List e.den).length cap∧([]:List e.den).length≤cap∧M.has b off cells∧KG P e M ([]:List e.den) cells:=fun g n V0 e2=>by
   rw[hv]at e2;injection e2 with e3 e4 e5
   injection e3 with e3
   subst e3;exact⟨g,0,cap,[],hv,zz _,fun j u hj=>by simp at hj,by simp,fun i hi=>absurd hi (zW _)⟩
  cases s with
  |none=>
   have:v = .slice none 0 0:=ho;rw[hv]at this;cases this
  |some k=>
   rcases ho.2 with e1|⟨g,n,V0,_,e1,_⟩
   ·rw[hv]at e1;cases e1
   ·exact .inr (key g n V0 e1)
theorem ui{e:Ty}{l:List e.den}{b off cap:Nat}{cells:List Value}(hc:l.length≤cap)(hm:M.has b off cells)(hr:KG P e M l cells):jz P (.slice e) M l (.slice (some ⟨b,off,none⟩) l.length cap):=by
 unfold jz Qd;simp only[Ty.agg,qA,zp,jB];exact⟨_,rfl,.inr (.inl ⟨b,off,cap,cells,rfl,hc,hr.1,hm,hr.2⟩)⟩
theorem zm3{e:Ty}:jz P (.slice e) M [] (.slice none 0 0):=by
 unfold jz Qd;simp only[Ty.agg,qA,zp,jB];exact⟨_,rfl,.inl ⟨rfl,trivial⟩⟩
theorem UP:∀{o:Own} {s:Option Nat},GG o=some s→([],s)∈o
 |([],s')::r,s,h=>by simp only[GG,qb]at h;subst h;simp
 |(_::_,_)::r,s,h=>by
  simp only[GG]at h;exact qo _ (UP h)
theorem Av{w':World}{M':Mem}{g:Nat}(hg:Good M w)(hb:∀j,j≠g→j<w.heap.size→w'.heap[j]?=w.heap[j]?)(hm:∀j,j≠g→M' j=M j)(hn:∀o v,M' g o=some v→w'.cell? ⟨g,o,none⟩=some v)(jL:Mem.le M M')(vQ:∀(c:Array Value) (t:TypeId) (fr:Nat×Nat),w.heap[g]?=some (.cells c t fr)→∃c' fA,w'.heap[g]?=some (.cells c' t fA)∧c'.size=c.size):Good M' w':=by
 refine⟨wB.keep jL (fun j c t fr h =>?_) hg.1,?_⟩
 ·by_cases hj:j=g
  ·subst hj;exact vQ c t fr h
  ·exact⟨c,fr,by rw[hb j hj (qd.1 h).1];exact h,rfl⟩
 intro b o v h;by_cases Gm:b=g
 ·subst Gm;exact hn o v h
 ·rw[hm b Gm]at h;have hc:=hg.2 b o v h;have hlt:=zc w _ hc;rw[za (w:=w) (hb b Gm hlt)];exact hc
theorem mw{w w':World}(c:Array Value)(t:TypeId)(fr:Nat×Nat)(h:w.heap[w.heap.size]?=some (.cells c t fr)):∃c' fA,w'.heap[w.heap.size]?=some (.cells c' t fA)∧c'.size=c.size:=by
 simp at h
theorem Af(hg:Good M w)(o:Nat):M w.heap.size o=none:=by
 cases h:M w.heap.size o with
 |none=>rfl
 |some v=>
  have:=zc w _ (hg.2 _ _ _ h);exact absurd this (xi _)
theorem GN{g o:Nat}{jT:Array Value}{E:TypeId}{fr:Nat×Nat}(h:w.heap[g]?=some (.cells jT E fr)):w.cell? ⟨g,o,none⟩=jT[o]?:=by
 simp only[World.cell?,h,xu,qA,zp]
theorem zus(w:World)(t ty e E:TypeId)(i:TypeInfo)(ht:P.underlying t=some (.slice e))(hi:P.info? e=some i)
  (g HW cW:Nat) (jT:Array Value) (hg:w.heap[g]?=some (.cells jT E (0,0)))
  (a:Addr) (m c:Nat) (news:List Value) (hl:news.length=m*i.size) (JC:∀j u,news[j]?=some u→w.cell? (a.add j)=some u) (h1:∀u∈news,u.oneCell'=true)
  (KO:HW+m≤cW) (wF:HW*i.size+news.length≤jT.size):
  (Builtin.append_ #[t,t] ty #[.slice (some ⟨g,0,none⟩) HW cW,.slice (some a) m c]).run P w=
   .ok (.slice (some ⟨g,0,none⟩) (HW+m) cW) (w.setRow g (jT.toList.take (HW*i.size)++news++jT.toList.drop (HW*i.size+news.length)).toArray):=by
 have hf:=run_firstCells_some (P:=P) w i.size m a m c news hl JC;have Zd:=run_storeCells_at P g (HW*i.size) E news 0 jT w hg (by simpa using wF) h1;simp only[yK]at Zd;simp[Builtin.append_,qG ht,sizeOf,typeInfo,hi,Builtin.lenOf,KO,hf,Addr.add_lit,Zd]
section jA
variable (hR:jW P base κ M σ a w) (hC:Qw P Γ)
include hR hC
theorem y9a{o:Oper}{c:Call}(jx:o.op = .call c)(jI:c.callee = .builtin .append):ZL P κ M w σ a o (jK Γ o σ):=by
 simp only[jK,jx,jI];split
 ·rename_i x y T U hx hT;have vk:c.args=#[x,y]:=by apply yR;rw[hx]
  have Js:c.argTypes=#[T,U]:=by apply yR;rw[hT]
  split
  ·rename_i e l ow e' m0 ow' oP G5;split
   ·rename_i hc;obtain⟨ht,rfl,hp,vQ⟩:=hc;split
    ·rename_i m src hm' Kr;obtain⟨he,Gc⟩:=HQ hm';cases he;subst Gc;intro jH;obtain⟨E,hE,ZG⟩:=Fy (hC.ty T _ ht);obtain⟨iE,dE,Q5⟩:=Qx ZG;obtain⟨z,hz,Z4,_⟩:=Q5.zero hp;have HD:=Q5.bytes;have Ko:z.cells.size=e.size:=by have:=Qp e M _ _ (Z4 M);simpa using this
     have Cp:=XK hR oP;have Hz:=Z9 hR G5;have wx:=Cp.2 [] src (UP Kr);have wx:OwnV κ M w σ.tok e.size src (a.eval x):=by
      obtain⟨off,e2,v,h1,h2,h3,h4⟩:=wx;simp only[jN,qb]at h1;subst h1;simp only[Ty.atP,qb,Ty.slice.injEq]at h2;subst h2;have:(a.eval x).cells.toList=[a.eval x]:=by
       rcases US Cp.1 with⟨hv,_⟩|⟨_,_,_,_,hv,_⟩|⟨_,_,hv,_⟩<;>rw[hv]<;>rfl
      rw[this]at h3;simp only[zr,qb]at h3;subst h3;exact h4
     have jF:(execOp a.eval o).run P w=((Builtin.append_ #[T,T] o.type #[a.eval x,a.eval y]).run P w).andThen (fun v w' =>.ok (.value v) w'):=by
      simp[execOp,jx,resolve,jI,vk,Js,invoke,builtin]
     have H4:=zuv Cp.1 wx;rcases y1r Hz with⟨Co,rfl⟩|⟨b,off,cp,news,lk,Gk,SP,Vh⟩
     ·
      rw[qL];rcases H4 with⟨oQ,rfl⟩|⟨b,off,cap,Yb,G6,ZS,N4,ef⟩
      ·refine⟨.slice none 0 0,w,M,?_,hR.good,Mem.le_refl M,zm3,qN 0 w,.inl ⟨rfl,rfl,rfl⟩⟩;rcases Co with Co|⟨ad,cp,Co⟩
       ·rw[jF,oQ,Co];simp[Builtin.append_,qG hE,sizeOf,typeInfo,Q5.info,Builtin.lenOf,Builtin.firstCells]
       ·rw[jF,oQ,Co];simp[Builtin.append_,qG hE,sizeOf,typeInfo,Q5.info,Builtin.lenOf,Builtin.firstCells,loadCells,loadCellsFrom]
      ·refine⟨a.eval x,w,M,?_,hR.good,Mem.le_refl M,Cp.1,qN 0 w,.inr ?_⟩
       ·rcases Co with Co|⟨ad,cp,Co⟩
        ·rw[jF,G6,Co];simp[Builtin.append_,qG hE,sizeOf,typeInfo,Q5.info,Builtin.lenOf,Builtin.firstCells,ZS,storeCells]
        ·rw[jF,G6,Co];simp[Builtin.append_,qG hE,sizeOf,typeInfo,Q5.info,Builtin.lenOf,Builtin.firstCells,ZS,storeCells,loadCells,loadCellsFrom]
       ·cases src with
        |none=>simp only[OwnV]at wx;rw[wx]at G6;cases G6
        |some k=>
         obtain⟨Ve,wx⟩:=wx;rcases wx with wx|⟨g,n,V0,hk,hv,Yi⟩
         ·rw[wx]at G6;cases G6
         ·exact⟨g,n,V0,hv,Yi,.inr ⟨k,rfl,hk,Ve,fun o ho=>(by obtain⟨_,_,Qu,_⟩:=Yi;rw[Qu]at ho;cases ho;rfl)⟩,fun _ _ _=>rfl,fun _ _=>rfl⟩
     ·
      have ah:news.length=m.length*iE.size:=by rw[Q5.size];exact Vh.1
      have JC:∀j u,news[j]?=some u→w.cell? ((⟨b,off,none⟩:Addr).add j)=some u:=fun j u hj=>by rw[Addr.add_mk];exact uh hR.good SP j u hj
      have Gb:=y1s Vh;have fresh:∀(Yb:List Value) (GZ:Nat),KG P e M l Yb→∀v w',(execOp a.eval o).run P w = .ok (.value v) w'→
        w'=w.drew.alloc (.cells (Yb.toArray++news.toArray++Builtin.zeroCells z.cells (grownCap w (l.length+m.length) GZ E-(l.length+m.length))) E)→
        v = .slice (some ⟨w.heap.size,0,none⟩) (l.length+m.length) (grownCap w (l.length+m.length) GZ E)→
        ∃ v w' M',(execOp a.eval o).run P w = .ok (.value v) w'∧Good M' w'∧Mem.le M M'∧jz P (.slice e) M' (l++m) v∧Below 0 w w'∧
         ((v = .slice none 0 0∧w'=w∧M'=M)∨∃g n cap,v = .slice (some ⟨g,0,none⟩) n cap∧zpd M' w' e.size g n cap∧(g=w.heap.size∨∃k,src=some k∧κ k=some g∧σ.tok k=true∧∀o:Obj,w.heap[g]?=some o→oN o=true)∧
          (∀j,j≠g→j<w.heap.size→w'.heap[j]?=w.heap[j]?)∧∀j,j≠g→M' j=M j):=by
       intro Yb GZ ef v w' hr hw' ZC;subst hw' ZC;have wJ:=zm4 ef Vh;have Xp:(w.drew.alloc (.cells (Yb.toArray++news.toArray++Builtin.zeroCells z.cells (grownCap w (l.length+m.length) GZ E-(l.length+m.length))) E)).heap[w.heap.size]?=some (.cells (Yb.toArray++news.toArray++Builtin.zeroCells z.cells (grownCap w (l.length+m.length) GZ E-(l.length+m.length))) E (0,0)):=ja w.drew _;have wZ:∀j,j≠w.heap.size→j<w.heap.size→(w.drew.alloc (.cells (Yb.toArray++news.toArray++Builtin.zeroCells z.cells (grownCap w (l.length+m.length) GZ E-(l.length+m.length))) E)).heap[j]?=w.heap[j]?:=fun j _ hj=>WL w.drew _ j hj
       have jL:Mem.le M (fun b o=>if b=w.heap.size then(Yb++news)[o]? else M b o):=by
        intro b o v h;by_cases hb:b=w.heap.size
        ·subst hb;rw[Af hR.good]at h;cases h
        ·simp only[qT hb];exact h
       have hge:=grownCap_ge w (l.length+m.length) GZ E;refine⟨_,_,fun b o=>if b=w.heap.size then(Yb++news)[o]? else M b o,hr,Av hR.good wZ (fun j hj=>by funext o;simp only[qT hj]) (fun o v h =>?_) jL mw,jL,?_,?_,.inr ⟨w.heap.size,_,_,rfl,⟨_,E,Xp,?_,hge,grownCap_le_maxLen w _ GZ E (by unfold maxLen;omega),fun o ho =>?_⟩,.inl rfl,wZ,fun j hj=>by funext o;simp only[qT hj]⟩⟩
       ·rw[GN Xp];simp only[yp]at h;have hlt:=(qp.1 h).1;rw[Array.getElem?_append_left (by simpa using hlt)];simpa using h
       ·have:=ui (P:=P) (M:=fun b o=>if b=w.heap.size then(Yb++news)[o]? else M b o) (l:=l++m) (b:=w.heap.size) (off:=0) (cap:=grownCap w (l.length+m.length) GZ E) (by simpa using hge) (fun j u hj=>by simp only[yp,qY];exact hj) (Rk jL wJ);simpa using this
       ·exact⟨rfl,rfl,rfl,by simp,fun k hk=>absurd hk (zW _)⟩
       ·have h1:=ef.1;have h2:=Vh.1;simp only[Array.size_append,qJ,size_zeroCells,Ko,h1,h2,←zC];congr 1;omega
       ·simp only[yp];have:=wJ.1;rw[zD (by rw[this];simpa using ho)]
      have rI:(l.length+m.length)*iE.bytes≤140737488355328:=by
       have:=xG jH HD;omega
      rcases H4 with⟨oQ,rfl⟩|⟨b',off',cap,Yb,G6,ZS,N4,ef⟩
      ·by_cases hm0:m.length=0
       ·have Og:=zn hm0;subst Og;have Cv:news=[]:=zn (by simpa using ah);subst Cv;refine⟨.slice none 0 0,w,M,?_,hR.good,Mem.le_refl M,zm3,qN 0 w,.inl ⟨rfl,rfl,rfl⟩⟩;rw[jF,oQ,lk];simp[Builtin.append_,qG hE,sizeOf,typeInfo,Q5.info,Builtin.lenOf,Builtin.firstCells,loadCells,loadCellsFrom]
       ·have hr:=run_append_nil (P:=P) w T o.type E iE z hE Q5.info hz ⟨b,off,none⟩ m.length cp news ah JC (by omega) (by simp only[qR]at jH;omega) (by simp only[qR,qY]at rI;omega);refine fresh [] 0 ⟨by simp,fun i hi=>absurd hi (zW _)⟩ _ _ ?_ rfl rfl;rw[jF,oQ,lk,hr];simp
      ·cases src with
       |none=>simp only[OwnV]at wx;rw[wx]at G6;cases G6
       |some k=>
        obtain⟨Ve,wx⟩:=wx;rcases wx with wx|⟨g,n,V0,hk,hv,jT,E',JN,aF,hblk3,rE,rD⟩
        ·rw[wx]at G6;cases G6
        ·have heq:=G6.symm.trans hv;simp only[xb,qb,kN,zA]at heq;obtain⟨⟨rfl,rfl⟩,rfl,rfl⟩:=heq;have lu:=ef.1;by_cases KO:l.length+m.length≤cap
         ·have wF:l.length*iE.size+news.length≤jT.size:=by rw[ah,aF,Q5.size,←zC];exact q9 _ KO
          have hr:=zus (P:=P) w T o.type E E' iE hE Q5.info b' l.length cap jT JN ⟨b,off,none⟩ m.length cp news ah JC Gb KO wF;have wj:(jT.toList.take (l.length*iE.size)++news++jT.toList.drop (l.length*iE.size+news.length))=vg jT.toList (l.length*iE.size) news:=rfl;rw[wj]at hr;have ls:(vg jT.toList (l.length*iE.size) news).length=jT.size:=by rw[vP (by simpa using wF)];simp
          rw[Q5.size]at hr ls wF;have Qf:=setRow_heap w b' jT (vg jT.toList (l.length*e.size) news).toArray E' (0,0) JN;have hns':news.length=m.length*e.size:=Vh.1;let M':Mem:=fun b o=>if b=b' then(if o<l.length*e.size then M b' o else news[o-l.length*e.size]?)else M b o
          have jL:Mem.le M M':=by
           intro b o v h;show(if b=b' then _ else _)=_;by_cases hb:b=b'
           ·subst hb;rw[qH rfl];by_cases ho:o<l.length*e.size
            ·rw[qH ho];exact h
            ·rw[rD o (by omega)]at h;cases h
           ·rw[qT hb];exact h
          have ju:∀j,j≠b'→M' j=M j:=fun j hj=>by funext o;exact qT hj
          have X6:∀o,M' b' o=if o<l.length*e.size then M b' o else news[o-l.length*e.size]?:=fun o=>qH rfl
          refine⟨_,_,M',by rw[jF,G6,lk,hr];rfl,Av hR.good (g:=b') (fun j hj hlt=>setRow_other w b' j _ hj) ju (fun o v h =>?_) jL (fun c t fr h=>by
           rw[JN]at h;obtain⟨rfl,rfl,rfl⟩:jT=c∧E'=t∧_=fr:=by simpa using h
           exact⟨_,_,Qf,by simpa using ls⟩),jL,?_,?_,.inr ⟨b',_,cap,rfl,⟨_,E',Qf,?_,KO,rE,fun o ho =>?_⟩,.inr ⟨k,rfl,hk,Ve,fun o ho=>(by rw[JN]at ho;cases ho;rfl)⟩,fun j hj hlt=>setRow_other w b' j _ hj,ju⟩⟩
          ·rw[GN Qf];rw[X6]at h;rw[←zh,getElem?_splice _ _ _ _ (by simpa using wF)];split at h
           ·rename_i ho;rw[qT (by omega)];have:=hR.good.2 b' o v h;rw[GN JN]at this;simpa using this
           ·rename_i ho;have:=(qp.1 h).1;rw[qH (by omega)];exact h
          ·have:=ui (P:=P) (M:=M') (l:=l++m) (b:=b') (off:=0) (cap:=cap) (cells:=Yb++news) (by simpa using KO) (fun j u hj=>by
            rw[qY,X6];by_cases Y9:j<Yb.length
            ·rw[zf Y9]at hj;rw[qH (by omega)];have:=N4 j u hj;rwa [qY]at this
            ·rw[zm (by omega)]at hj;rw[qT (by omega),←lu];exact hj) (Rk jL (zm4 ef Vh))
           simpa using this
          ·exact⟨rfl,rfl,rfl,by simp[World.setRow],fun k hk=>absurd hk (zW _)⟩
          ·simpa [ls]using aF
          ·rw[X6];simp only[zC]at ho;rw[qT (by omega),zD (by omega)]
         ·have holds:∀j v,Yb[j]?=some v→w.cell? ((⟨b',0,none⟩:Addr).add j)=some v:=fun j u hj=>by rw[Addr.add_mk];exact uh hR.good N4 j u hj
          have hr:=run_append_grow (P:=P) w T o.type E iE z hE Q5.info hz ⟨b',0,none⟩ l.length cap Yb (by rw[Q5.size];exact lu) holds ⟨b,off,none⟩ m.length cp news ah JC (by omega) (by omega) (growslice_fits (by omega) rI);refine fresh Yb cap ef _ _ ?_ rfl rfl;rw[jF,G6,lk,hr];rfl
    ·exact vh
   ·exact vh
  ·exact vh
 ·exact vh
theorem dm(o:Oper):ZL P κ M w σ a o (jK Γ o σ):=by
 have hf:∀{e:Eff},e = .fail→ZL P κ M w σ a o e:=fun h=>by rw[h];exact vh
 cases jx:o.op;case move x=>exact y96 hR (.inl jx)
 case assign x=>exact y96 hR (.inr jx)
 case pick c x y=>exact yf2 hR jx
 case alloc T=>exact yc8 hC jx
 case box T x=>exact dp hR jx
 case build T ps=>exact yc6 hR hC jx
 case buildSlice T n ps=>exact zx8 hR hC jx
 case load T x=>exact yf3 hR hC jx
 case store T x y=>exact yc2 hR hC jx
 case binOp op T x y U=>exact yc7 hR hC jx
 case unOp op T x=>exact yf1 hR jx
 case convert S T x=>exact y6c hR hC jx
 case makeSlice T n c=>exact zzk hR hC jx
 case slice T x lo hi mx=>
  cases mx with
  |none=>exact ok_slice hR hC jx
  |some m=>exact hf (by simp only[jK,jx])
 case fieldAddr s x f=>exact zzm hR hC jx
 case field s x f=>exact yc5 hR hC jx
 case indexAddr T x i=>exact zzl hR hC jx
 case index T x i=>exact yc4 hR hC jx
 case extract x i=>exact y6b hR jx
 case nilCheck x=>exact y28 hR jx
 case makeMap T r=>exact y6a hR hC jx
 case lookup T x i c=>exact y97 hR hC jx
 case mapUpdate T x i y=>exact zzj hR hC jx
 case makeFunc fn fs caps=>
  cases fn with
  |func g=>exact y29 hR jx
  |_=>exact hf (by simp only[jK,jx])
 case call c=>
  cases jI:c.callee with
  |value x=>
   by_cases hx:∃f,x = .func f
   ·obtain⟨f,rfl⟩:=hx;exact y99 hR hC jx jI
   ·exact y6d hR hC jx jI (fun f h=>hx ⟨f,h⟩)
  |builtin b=>
   cases b;case len=>exact dl hR hC jx jI
   case max=>exact dj hR jx jI
   case min=>exact di hR jx jI
   case append=>exact y9a hR hC jx jI
   all_goals exact hf (by simp only[jK,jx,jI])
  |invoke r n=>exact hf (by simp only[jK,jx,jI])
 all_goals exact hf (by simp only[jK,jx])
end jA
end Go.Lift
